import Derived.Test.YtdfdmjnhekdpjaaB7
namespace Go.Proofs.Ytdfdmjnhekdpjaa
set_option linter.unusedSimpArgs false
set_option linter.unusedVariables false
open Go.RowKit PNetPlays

theorem step_any {w : World} {lo hi bn bw : Nat} {last : Int} (K a b y : Int) {A : Option Addr} {n c : Nat} (h : Pair w lo hi bn bw last) (hhi : lo ≤ hi ∧ hi ≤ w.heap.size)
    (hl : 0 ≤ last ∧ last < 1000000) {ok : Nat → Prop} {xs : List Value} (hA : A = none → c = 0) (hr : Rd w ok 1 A n xs) (hok : ∀ b, ok b → ¬ In lo hi b) (hx : ∀ u ∈ xs, ∃ k : Int, u = .int .u8 k) (hn : n ≤ 20000) :
    Calls Try.prog 8 #[.pointer (some ⟨bn, 0, none⟩), .pointer (some ⟨bw, 0, none⟩), .agg #[.int .i64 K, .int .i64 a, .int .i64 b, .int .u8 y, .slice A n c]] w fun e w' => e = .returned (.bool true) ∧ Fr (In lo hi) w w' ∧ ∃ last', last ≤ last' ∧ last' ≤ last + 1 ∧ Pair w' lo w'.heap.size bn bw last' := by
  by_cases h1 : K = 1
  · subst h1; exact step_1 a b y h hhi hl hA hr hok hx hn
  by_cases h2 : K = 2
  · subst h2; exact step_2 a b y h hhi
  by_cases h3 : K = 3
  · subst h3; exact step_3 a b y h hhi hl
  by_cases h4 : K = 4
  · subst h4; exact step_4 a b y h hhi
  by_cases h5 : K = 5
  · subst h5; exact step_5 a b y h hhi
  by_cases h6 : K = 6
  · subst h6; exact step_6 a b y h hhi
  exact step_else K a b y h hhi h1 h2 h3 h4 h5 h6

/-- One operation of the script, as it lies. -/
def OpAt (w : World) (p : Addr) (x : S37) (B : Option Addr) (cB : Nat) : Prop :=
  w.cell? p = some (.int .i64 x.f0) ∧ w.cell? ⟨p.block, p.off + 1, none⟩ = some (.int .i64 x.f1) ∧ w.cell? ⟨p.block, p.off + 2, none⟩ = some (.int .i64 x.f2) ∧ w.cell? ⟨p.block, p.off + 3, none⟩ = some (.int .u8 x.f3) ∧
    w.cell? ⟨p.block, p.off + 4, none⟩ = some (.slice B x.f4.length cB)
theorem OpAt.fr {w w' : World} {p : Addr} {x : S37} {B : Option Addr} {cB : Nat} {T : Nat → Prop} (h : OpAt w p x B cB) (hf : Fr T w w') (hn : ¬ T p.block) : OpAt w' p x B cB :=
  ⟨hf.cell_some h.1 hn, hf.cell_some h.2.1 hn, hf.cell_some h.2.2.1 hn, hf.cell_some h.2.2.2.1 hn, hf.cell_some h.2.2.2.2 hn⟩
theorem OpAt.lt {w : World} {p : Addr} {x : S37} {B : Option Addr} {cB : Nat} (h : OpAt w p x B cB) : p.block < w.heap.size := World.block_lt_of_cell? w _ h.1

theorem copies_s63 {ps qs : List Pk} (hl : qs.length = ps.length) (h : ∀ (j : Nat) (q : Pk), qs[j]? = some q → ∃ p : Pk, ps[j]? = some p ∧ q.n = p.n ∧ q.f = p.f ∧ q.t = p.t ∧ q.bs = p.bs) : qs.map Pk.s63 = ps.map Pk.s63 := by
  apply List.ext_getElem?
  intro j
  rw [List.getElem?_map, List.getElem?_map]
  cases hq : qs[j]? with
  | none =>
    have : ps[j]? = none := by
      rw [List.getElem?_eq_none_iff] at hq ⊢
      omega
    rw [this]
  | some q =>
    obtain ⟨p, hp, e1, e2, e3, e4⟩ := h j q hq
    rw [hp]
    simp [s63_of_key e1 e2 e3 e4]
theorem key_s63 {ps qs : List Pk} (h : ps.map Pk.key = qs.map Pk.key) : ps.map Pk.s63 = qs.map Pk.s63 := by
  have : Pk.s63 = (fun k : Int × Int × Int × List Value => (⟨k.1, k.2.1, k.2.2.1, k.2.2.2.map num8⟩ : S63)) ∘ Pk.key := rfl
  rw [this, ← List.map_map, ← List.map_map, h]
theorem copies_rd {ps qs : List Pk} {base : Nat} {w : World} {v : Value} (h : Copies ps base w v qs) (hp : ∀ p ∈ ps, (∀ u ∈ p.bs, ∃ k : Int, u = .int .u8 k) ∧ p.bs.length ≤ 20000) : ∀ q ∈ qs, PkRd w q := by
  intro q hq
  obtain ⟨j, hj⟩ := List.mem_iff_getElem?.1 hq
  obtain ⟨p, hpj, e1, e2, e3, e4⟩ := h.1 j q hj
  have := hp p (List.mem_of_getElem? hpj)
  rw [← e4] at this
  exact PkRd.of_own (h.2.2 q hq) this.1 this.2
end Go.Proofs.Ytdfdmjnhekdpjaa
