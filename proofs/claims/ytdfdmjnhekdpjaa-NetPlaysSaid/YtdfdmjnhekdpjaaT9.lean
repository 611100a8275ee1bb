import Derived.Test.YtdfdmjnhekdpjaaT8
namespace Go.Proofs.Ytdfdmjnhekdpjaa
set_option linter.unusedVariables false
set_option linter.unusedSimpArgs false
open Go.RowKit

/-- A list of packets with the same words and bytes, in memory of its own. -/
def Copies (ps : List Pk) (base : Nat) (w : World) (v : Value) (qs : List Pk) : Prop :=
  (∀ (j : Nat) (q : Pk), qs[j]? = some q → ∃ p : Pk, ps[j]? = some p ∧ q.n = p.n ∧ q.f = p.f ∧ q.t = p.t ∧ q.bs = p.bs) ∧ w.ownsRow base 60 4 v qs.length (flat qs) ∧ (∀ q ∈ qs, w.ownsRow base 5 1 q.v q.bs.length q.bs)
theorem Copies.nil (ps : List Pk) (base : Nat) (w : World) : Copies ps base w (.slice none 0 0) [] := ⟨fun j q h => by simp at h, World.ownsRow_nil _ _ _ _, fun q h => by cases h⟩
theorem Copies.snoc {ps : List Pk} {base : Nat} {w w1 w2 : World} {v v2 : Value} {qs : List Pk} (h : Copies ps base w v qs) {p : Pk} {x : Value} (hp : ps[qs.length]? = some p) (hf : Fr NoB w w1) (hown : w1.ownsRow w.heap.size 5 1 x p.bs.length p.bs) (hb : base ≤ w.heap.size)
    (hg : (w1.alloc (.cells #[.int .i64 p.n, .int .i64 p.f, .int .i64 p.t, x] 60)).grownBy w2 v.ownBlock) (hown2 : w2.ownsRow base 60 4 v2 (qs.length + 1) (flat qs ++ [.int .i64 p.n, .int .i64 p.f, .int .i64 p.t, x])) :
    Copies ps base w2 v2 (qs ++ [⟨p.n, p.f, p.t, p.bs, x⟩]) ∧ Fr (fun k => v.ownBlock = some k) w w2 := by
  obtain ⟨h1, h2, h3⟩ := h
  have hf2 : Fr (fun k => v.ownBlock = some k) w w2 := ((hf.mono (fun b e _ => e.elim)).alloc _).grown hg (fun k hk _ => hk)
  refine ⟨⟨?_, by rw [flat_append, List.length_append]; exact hown2, ?_⟩, hf2⟩
  · intro j q hj
    rcases Nat.lt_or_ge j qs.length with hlt | hge
    · rw [List.getElem?_append_left hlt] at hj
      exact h1 j q hj
    · have hjl : j = qs.length := by
        have := (List.getElem?_eq_some_iff.1 hj).1
        simp at this
        omega
      subst hjl
      have : q = ⟨p.n, p.f, p.t, p.bs, x⟩ := by simpa using hj.symm
      subst this
      exact ⟨p, hp, rfl, rfl, rfl, rfl⟩
  · intro q hq
    rcases List.mem_append.1 hq with hq | hq
    · exact own_fr (h3 q hq) hf2 (fun k hk e => own_own_ne h2 (h3 q hq) (by decide) k e hk)
    · obtain rfl := List.mem_singleton.1 hq
      have hf3 : Fr (fun k => v.ownBlock = some k) w1 w2 := ((Fr.refl _ w1).alloc _).grown hg (fun k hk _ => hk)
      exact own_low (own_fr hown hf3 (fun k hk e => by have := (hown.lt k hk).1; have := (h2.lt k e).2; omega)) hb

set_option maxRecDepth 100000 in
set_option maxHeartbeats 1000000 in
theorem all_any (S : Nat → Prop) (bn : Nat) (line : Value) (ps : List Pk) (last : Int) (w : World) (h : RNet w S bn line ps last) :
    Calls Try.prog 12 #[.pointer (some ⟨bn, 0, none⟩)] w fun e w' => ∃ v qs, e = .returned v ∧ qs.length = ps.length ∧ Copies ps w.heap.size w' v qs ∧ Fr NoB w w' := by
  obtain ⟨A, cap, rfl, _⟩ := own_slice h.own
  have d0 := h.blk.cell 0
  simp at d0
  have hfew := h.few
  have hbl := h.blk.lt
  have H := Lib.hid h
  clear h
  obtain ⟨i0, hi0, hz0, hz1, hz2⟩ := info_parts Try.info60
  go_enter Try.func12, Try.ntmps12
  go_wp2_with (go_at_call 9; refine (len_any _ _ _ _ _ d0).mono ?_; rintro e w' ⟨rfl, rfl⟩)
  go_loopw [3, 7] (fun out c wr => ∃ (k : Nat) (qs : List Pk), c = .int .i64 k ∧ k ≤ ps.length ∧ qs.length = k ∧ Copies ps w.heap.size wr out qs ∧ Fr NoB w wr) (fun _ c _ => ps.length - (intOf c).toNat)
  case atStart => exact ⟨0, [], rfl, Nat.zero_le _, rfl, Copies.nil _ _ _, Fr.refl _ _⟩
  case round =>
    obtain ⟨k, qs, rfl, hk, hq, hcp, hfr⟩ := hrel
    by_cases hlt : k < ps.length
    · obtain ⟨p, hp⟩ : ∃ p, ps[k]? = some p := ⟨_, List.getElem?_eq_getElem hlt⟩
      have hR := H.out.far hfr (fun _ _ _ => id)
      obtain ⟨g, cap', L, hln, hb, hL, hc, hm, ht, hgb, c0, c1, c2, c3⟩ := hR.at_ hp
      injection hln with hA _ hcc
      subst hA
      subst hcc
      obtain ⟨B, c, hv, hB, hrd⟩ := hR.rd (List.mem_of_getElem? hp)
      have hx := (hR.pk p (List.mem_of_getElem? hp)).2
      have h1 : ∀ u ∈ p.bs, u.oneCell' = true := fun u hu => by obtain ⟨k, rfl⟩ := hx.1 u hu; rfl
      have hn : p.bs.length ≤ 140737488355328 := Nat.le_trans hx.2 (by omega)
      rw [hv] at c3
      have e0 := hR.blk.cell 0
      simp at e0
      have hii : (k : Int) < (ps.length : Int) := by omega
      have hi0' : (0 : Int) ≤ (k : Int) := by omega
      have HB := Lib.hid hB
      have HCP := Lib.hid hcp
      have HQ := Lib.hid hq
      have HP := Lib.hid hp
      have hwz := hfr.size
      clear hR hB hcp hv hx hL ht hq hp
      go_wp2_with fail
      refine (copied_any (fun k => p.v.ownBlock = some k) p.n p.f p.t B p.bs.length c p.bs _ HB.out hrd h1 hn).mono ?_
      rintro e w1 ⟨x, rfl, hown1, hf1⟩
      have hone := pk_one hown1 p.n p.f p.t
      go_wp2_with (at_builtin; refine wpList_app _ rfl (.tmp 10) (.tmp 19) 31 rfl w.heap.size 60 i0 _ 4 48 Try.underlying31 hi0 hz0 hz1 hz2 rfl (by omega) _ qs.length (flat qs) rfl ((own_fr HCP.out.2.1 hf1 (fun _ _ => id)).alloc _) (fun _ => True) (some ⟨w1.heap.size, 0, none⟩) 1 1 (fun h => by cases h) [.int .i64 p.n, .int .i64 p.f, .int .i64 p.t, x] rfl (Rd.lit w1 _ 60 4 1 _ rfl trivial) hone (by simp only [maxLen]; have := HQ.out; omega) (by have := HQ.out; omega) (by have := hf1.size; simp; omega) ?_; intro v2 w2 hown2 hg2 hat2)
      go_roundw
      case rel =>
        have hS := HCP.out.snoc (p := p) (by rw [HQ.out]; exact HP.out) hf1 hown1 hwz hg2 hown2
        exact ⟨k + 1, _, by go_num, by omega, by rw [List.length_append, HQ.out]; rfl, hS.1, hfr.trans hS.2 (fun b hb hlt => by have := (HCP.out.2.1.lt b hb).1; omega)⟩
      case measure => simp [intOf]; omega
    · have hge : k = ps.length := by omega
      go_wp2
      go_ret
      exact ⟨_, qs, rfl, by omega, hcp, hfr⟩
end Go.Proofs.Ytdfdmjnhekdpjaa
