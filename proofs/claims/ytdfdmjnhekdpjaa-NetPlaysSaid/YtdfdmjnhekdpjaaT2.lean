import Derived.Test.YtdfdmjnhekdpjaaT1
import Derived.Deep.RegionHeld3
import Derived.Deep.RegionLaw
namespace Go.Proofs.Ytdfdmjnhekdpjaa
set_option linter.unusedVariables false
set_option linter.unusedSimpArgs false
open Go.RowKit

/-- A packet and the slice that holds its bytes. -/
structure Pk where
  n : Int
  f : Int
  t : Int
  bs : List Value
  v : Value
def Pk.cells (p : Pk) : List Value := [.int .i64 p.n, .int .i64 p.f, .int .i64 p.t, p.v]
def flat (ps : List Pk) : List Value := ps.flatMap Pk.cells
/-- The packet's bytes are a row of its own. -/
def PkOk (w : World) (p : Pk) : Prop := w.ownsRow 0 5 1 p.v p.bs.length p.bs ∧ (∀ u ∈ p.bs, ∃ k : Int, u = .int .u8 k) ∧ p.bs.length ≤ 20000

theorem flat_nil : flat [] = [] := rfl
theorem flat_append (a b : List Pk) : flat (a ++ b) = flat a ++ flat b := by simp [flat]
theorem flat_length (ps : List Pk) : (flat ps).length = ps.length * 4 := by
  induction ps with
  | nil => rfl
  | cons p ps ih => simp only [flat, List.flatMap_cons, List.length_append, List.length_cons] at *; rw [ih]; simp [Pk.cells]; omega

/-- The net of the program: its struct in block bn, its line a row of its own, each packet's bytes a row of their own, no two in one block; all of it in blocks of S. -/
structure RNet (w : World) (S : Nat → Prop) (bn : Nat) (line : Value) (ps : List Pk) (last : Int) : Prop where
  blk : Blk w bn 33 #[line, .int .i64 last]
  own : w.ownsRow 0 60 4 line ps.length (flat ps)
  pk : ∀ p ∈ ps, PkOk w p
  sb : S bn
  sl : ∀ k, line.ownBlock = some k → S k
  sp : ∀ p ∈ ps, ∀ k, p.v.ownBlock = some k → S k
  ap : (ps.filterMap (fun p => p.v.ownBlock)).Nodup
  few : ps.length ≤ 200

/-- The two blocks of the net itself: its struct, its line. -/
def NetB (bn : Nat) (line : Value) : Nat → Prop := fun k => k = bn ∨ line.ownBlock = some k
theorem RNet.netB {w : World} {S : Nat → Prop} {bn : Nat} {line : Value} {ps : List Pk} {last : Int} (h : RNet w S bn line ps last) : ∀ k, NetB bn line k → S k := by
  rintro k (rfl | hk)
  · exact h.sb
  · exact h.sl k hk
theorem RNet.pk_far {w : World} {S : Nat → Prop} {bn : Nat} {line : Value} {ps : List Pk} {last : Int} (h : RNet w S bn line ps last) {p : Pk} (hp : p ∈ ps) (k : Nat) (hk : p.v.ownBlock = some k) : ¬ NetB bn line k := by
  have ho := (h.pk p hp).1
  rintro (rfl | hl)
  · exact own_blk_ne ho h.blk (by decide) hk
  · exact own_own_ne h.own ho (by decide) k hl hk
theorem RNet.pk_keep {w w' : World} {S : Nat → Prop} {bn : Nat} {line : Value} {ps : List Pk} {last : Int} (h : RNet w S bn line ps last) (hf : Fr (NetB bn line) w w') : ∀ p ∈ ps, PkOk w' p :=
  fun p hp => ⟨own_fr (h.pk p hp).1 hf (fun k hk => h.pk_far hp k hk), (h.pk p hp).2⟩
theorem RNet.pk_lt {w : World} {S : Nat → Prop} {bn : Nat} {line : Value} {ps : List Pk} {last : Int} (h : RNet w S bn line ps last) {p : Pk} (hp : p ∈ ps) (k : Nat) (hk : p.v.ownBlock = some k) : k < w.heap.size := ((h.pk p hp).1.lt k hk).2

theorem pk_one {w : World} {base : Nat} {e : TypeId} {size n : Nat} {v : Value} {xs : List Value} (h : w.ownsRow base e size v n xs) (a b c : Int) : ∀ u ∈ [Value.int .i64 a, .int .i64 b, .int .i64 c, v], u.oneCell' = true := by
  obtain ⟨_, _, rfl, _⟩ := own_slice h
  simp [Value.oneCell']

theorem send_end {S : Nat → Prop} {bn : Nat} {line : Value} {ps : List Pk} {last x y : Int} {w w1 w2 w3 : World} {n : Nat} {v v3 : Value} {xs cs : List Value} (h : RNet w S bn line ps last) (hlen : ps.length < 200) (hn : n ≤ 20000)
    (hx : ∀ u ∈ xs, ∃ k : Int, u = .int .u8 k)
    (hf1 : Fr (OneB bn) w w1) (hb1 : Blk w1 bn 33 #[line, .int .i64 (last + 1)]) (hown2 : w2.ownsRow w1.heap.size 5 1 v n xs) (hf2 : Fr NoB w1 w2)
    (hown3 : w3.ownsRow 0 60 4 v3 (ps.length + 1) (flat ps ++ [.int .i64 (last + 1), .int .i64 x, .int .i64 y, v]))
    (hg3 : (w2.alloc (.cells cs.toArray 60)).grownBy w3 line.ownBlock) (hat : v3.ownBlock = line.ownBlock ∨ v3.ownBlock = some (w2.heap.size + 1)) :
    RNet (w3.setCell ⟨bn, 0, none⟩ v3) (fun k => S k ∨ w.heap.size ≤ k) bn v3 (ps ++ [⟨last + 1, x, y, xs, v⟩]) (last + 1) ∧ Fr S w (w3.setCell ⟨bn, 0, none⟩ v3) := by
  have hl : w.heap.size ≤ w1.heap.size := hf1.size
  have hl2 : w1.heap.size ≤ w2.heap.size := hf2.size
  have hbn := h.blk.lt
  have hfa : Fr (NetB bn line) w w2 := (hf1.mono (fun b e _ => .inl e)).trans hf2 (fun b e _ => e.elim)
  have hfb : Fr (NetB bn line) w w3 := (hfa.alloc _).grown hg3 (fun k hk _ => .inr hk)
  have hfc : Fr (NetB bn line) w (w3.setCell ⟨bn, 0, none⟩ v3) := hfb.setCell (p := ⟨bn, 0, none⟩) (fun _ => .inl rfl) _
  have hb3 : Blk w3 bn 33 #[line, .int .i64 (last + 1)] := ((hb1.fr hf2 id).alloc _).grown hg3 (Ne.symm (own_blk_ne h.own h.blk (by decide)))
  have hnl : n = xs.length := by simpa using hown2.1.symm
  have hv : (w3.setCell ⟨bn, 0, none⟩ v3).ownsRow 0 5 1 v n xs := by
    have hfd : Fr (NetB bn line) w2 (w3.setCell ⟨bn, 0, none⟩ v3) := (((Fr.refl _ w2).alloc _).grown hg3 (fun k hk _ => .inr hk)).setCell (p := ⟨bn, 0, none⟩) (fun _ => .inl rfl) _
    refine own_fr (own_low hown2 (Nat.zero_le _)) hfd (fun k hk => ?_)
    have hk1 := (hown2.lt k hk).1
    rintro (rfl | e)
    · omega
    · have := (h.own.lt k e).2
      omega
  refine ⟨⟨hb3.set_ 0 v3, ?_, ?_, .inl h.sb, ?_, ?_, ?_, by simp; omega⟩, hfc.mono (fun b hb _ => h.netB b hb)⟩
  · rw [flat_append, List.length_append]
    refine own_fr (S := OneB bn) hown3 ((Fr.refl (OneB bn) w3).setCell (p := ⟨bn, 0, none⟩) (fun _ => rfl) _) (fun k hk e => ?_)
    exact own_blk_ne hown3 hb3 (by decide) (e ▸ hk)
  · intro p hp
    rcases List.mem_append.1 hp with hp | hp
    · exact h.pk_keep hfc p hp
    · obtain rfl := List.mem_singleton.1 hp
      exact ⟨by rw [← hnl]; exact hv, hx, by show xs.length ≤ 20000; omega⟩
  · intro k hk
    rcases hat with e | e
    · exact .inl (h.sl k (e ▸ hk))
    · rw [e] at hk
      injection hk with hk
      exact .inr (by omega)
  · intro p hp k hk
    rcases List.mem_append.1 hp with hp | hp
    · exact .inl (h.sp p hp k hk)
    · obtain rfl := List.mem_singleton.1 hp
      have := (hown2.lt k hk).1
      exact .inr (by omega)
  · rw [List.filterMap_append, List.nodup_append]
    refine ⟨h.ap, ?_, ?_⟩
    · simp only [List.filterMap_cons, List.filterMap_nil]
      cases v.ownBlock <;> simp
    · intro a ha b hb
      rw [List.mem_filterMap] at ha hb
      obtain ⟨p, hp, hpa⟩ := ha
      obtain ⟨q, hq, hqb⟩ := hb
      obtain rfl := List.mem_singleton.1 hq
      have h1 := h.pk_lt hp a hpa
      have h2 := (hown2.lt b hqb).1
      omega

set_option maxRecDepth 100000 in
set_option maxHeartbeats 1000000 in
theorem send_any (S : Nat → Prop) (bn : Nat) (line : Value) (ps : List Pk) (last x y : Int) (ok : Nat → Prop) (A : Option Addr) (n c : Nat) (xs : List Value) (w : World) (h : RNet w S bn line ps last)
    (hl : 0 ≤ last ∧ last < 1000000) (hA : A = none → c = 0) (hr : Rd w ok 1 A n xs) (hok : ¬ ok bn) (hx : ∀ u ∈ xs, ∃ k : Int, u = .int .u8 k) (hn : n ≤ 20000) (hlen : ps.length < 200) :
    Calls Try.prog 19 #[.pointer (some ⟨bn, 0, none⟩), .int .i64 x, .int .i64 y, .slice A n c] w fun e w' => e = .returned (.tuple #[.int .i64 (last + 1), .int .i64 0]) ∧
      ∃ line' v, RNet w' (fun k => S k ∨ w.heap.size ≤ k) bn line' (ps ++ [⟨last + 1, x, y, xs, v⟩]) (last + 1) ∧ Fr S w w' := by
  have h1 : ∀ u ∈ xs, u.oneCell' = true := fun u hu => by obtain ⟨k, rfl⟩ := hx u hu; rfl
  obtain ⟨L, lc, rfl, hlc, hlm, hL0, hLa⟩ := own_slice h.own
  have H := Lib.hid h
  have hb := h.blk
  have hown := h.own
  clear h
  have f1 := hb.frozen 1
  have f0 := hb.frozen 0
  have c0 := hb.cell 0
  have c1 := hb.cell 1
  simp at c0 c1
  have hlenI : (ps.length : Int) < 200 := by omega
  have hbs := hb.lt
  have HA := Lib.hid hA
  have HL0 := Lib.hid hL0
  have HLa := Lib.hid hLa
  clear hA hL0 hLa
  go_enter Try.func19, Try.ntmps19
  go_wp2_with fail
  have hf1 : Fr (OneB bn) w (w.setCell ⟨bn, 1, none⟩ (.int .i64 (last + 1))) := (Fr.refl (OneB bn) w).setCell (p := ⟨bn, 1, none⟩) (fun _ => rfl) _
  have hb1 := hb.set_ 1 (.int .i64 (last + 1))
  have hz1 : (w.setCell ⟨bn, 1, none⟩ (.int .i64 (last + 1))).heap.size = w.heap.size := by simp [World.setCell]
  generalize w.setCell ⟨bn, 1, none⟩ (.int .i64 (last + 1)) = w1 at *
  have hb1' : Blk w1 bn 33 #[.slice L ps.length lc, .int .i64 (last + 1)] := hb1
  clear hb1
  have HZ1 := Lib.hid hz1
  have HF1 := Lib.hid hf1
  have hown1 := own_fr hown hf1 (fun k hk e => own_blk_ne hown hb (by decide) (e ▸ hk))
  have hr1 := hr.fr hf1 (fun b hb _ e => hok (e ▸ hb))
  have d0 := hb1'.cell 0
  have d1 := hb1'.cell 1
  have g0 := hb1'.frozen 0
  simp at d0 d1
  clear c0 c1 f0 f1 hz1
  obtain ⟨i0, hi0, hz0, hz1, hz2⟩ := info_parts Try.info60
  go_region_law (first
      | (refine step_app _ (by rfl) _ _ 31 (by rfl) 0 60 i0 _ 4 48 Try.underlying31 hi0 hz0 hz1 hz2 rfl (by omega) (.slice L ps.length lc) ps.length (flat ps) (by rfl) ((own_fr (w := w1.drew) hown1 hf2 (fun _ _ => id)).alloc _) (fun _ => True) (some ⟨w2.heap.size, 0, none⟩) 1 1 (fun h => by cases h) [.int .i64 (last + 1), .int .i64 x, .int .i64 y, v] (by rfl) (Rd.lit w2 _ 60 4 1 _ rfl trivial) hone (by simp only [maxLen]; omega) (by omega) (Nat.zero_le _) ?_; intro v3 w3 hown3 hg3 hat3; have hb3 := ((Blk.fr (w := w1.drew) hb1' hf2 id).alloc _).grown hg3 (Ne.symm (own_blk_ne hown hb (by decide))); obtain ⟨L3, lc3, rfl, hs3⟩ := own_slice hown3; have q0 := hb3.cell 0; have q1 := hb3.cell 1; have q2 := hb3.frozen 0; simp at q0 q1)
      | (go_simp; go_at_call 31; refine (copied_any ok (last + 1) x y A n c xs _ HA.out (by exact hr1) h1 (by omega)).mono ?_; rintro e w2 ⟨v, rfl, hown2, hf2⟩; have hone := pk_one hown2 (last + 1) x y; have l2 : bn < w2.heap.size := Nat.lt_of_lt_of_le hb1'.lt hf2.size; have e0 := hf2.cell_some (p := ⟨bn, 0, none⟩) d0 id; have e1 := hf2.cell_some (p := ⟨bn, 1, none⟩) d1 id))
  all_goals
    go_wp2
    go_ret2
    exact ⟨rfl, .slice L3 (ps.length + 1) lc3, v, send_end (w2 := w2) (cs := [.int .i64 (last + 1), .int .i64 x, .int .i64 y, v]) H.out hlen hn hx HF1.out hb1' hown2 (Fr.of_drew hf2) hown3 hg3 (by simpa using hat3)⟩
end Go.Proofs.Ytdfdmjnhekdpjaa
