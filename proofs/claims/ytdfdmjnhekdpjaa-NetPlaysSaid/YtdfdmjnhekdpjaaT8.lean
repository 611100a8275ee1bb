import Derived.Test.YtdfdmjnhekdpjaaT7
namespace Go.Proofs.Ytdfdmjnhekdpjaa
set_option linter.unusedVariables false
set_option linter.unusedSimpArgs false
open Go.RowKit

theorem set_ap (ps : List Pk) (i : Nat) (p q : Pk) (hi : ps[i]? = some p) (hv : q.v.ownBlock = p.v.ownBlock) : (ps.set i q).filterMap (fun p => p.v.ownBlock) = ps.filterMap (fun p => p.v.ownBlock) := by
  induction ps generalizing i with
  | nil => rfl
  | cons a ps ih =>
    cases i with
    | zero =>
      have : a = p := by simpa using hi
      subst this
      simp [List.filterMap_cons, hv]
    | succ i => simp only [List.set_cons_succ, List.filterMap_cons, ih i (by simpa using hi)]

/-- No two packets' bytes lie in one block. -/
theorem apart_at {ps : List Pk} (h : (ps.filterMap (fun p => p.v.ownBlock)).Nodup) {i j : Nat} {p q : Pk} (hi : ps[i]? = some p) (hj : ps[j]? = some q) (hij : i ≠ j) (k : Nat) (hk : p.v.ownBlock = some k) : q.v.ownBlock ≠ some k := by
  induction ps generalizing i j with
  | nil => simp at hi
  | cons a ps ih =>
    intro hq
    rcases i with _ | i <;> rcases j with _ | j
    · exact hij rfl
    · have ha : a = p := by simpa using hi
      subst ha
      simp only [List.filterMap_cons, hk, List.nodup_cons] at h
      exact h.1 (List.mem_filterMap.2 ⟨q, List.mem_of_getElem? (by simpa using hj), hq⟩)
    · have ha : a = q := by simpa using hj
      subst ha
      simp only [List.filterMap_cons, hq, List.nodup_cons] at h
      exact h.1 (List.mem_filterMap.2 ⟨p, List.mem_of_getElem? (by simpa using hi), hk⟩)
    · have h' : (ps.filterMap (fun p => p.v.ownBlock)).Nodup := by
        simp only [List.filterMap_cons] at h
        cases hao : a.v.ownBlock with
        | none => rw [hao] at h; exact h
        | some k => rw [hao] at h; exact (List.nodup_cons.1 h).2
      exact ih h' (i := i) (j := j) (by simpa using hi) (by simpa using hj) (by omega) hq

theorem flat_set {ps : List Pk} {i : Nat} {p : Pk} (q : Pk) (hi : ps[i]? = some p) (hq : q.cells = p.cells) : flat (ps.set i q) = flat ps := by
  induction ps generalizing i with
  | nil => rfl
  | cons a ps ih =>
    rcases i with _ | i
    · have ha : a = p := by simpa using hi
      subst ha
      simp [flat, hq]
    · have := ih (i := i) (by simpa using hi)
      simp only [flat, List.set_cons_succ, List.flatMap_cons] at *
      rw [this]

theorem damage_end {S : Nat → Prop} {bn : Nat} {line : Value} {ps : List Pk} {last : Int} {i j gb c : Nat} {p : Pk} {w : World} (h : RNet w S bn line ps last) (hi : ps[i]? = some p) (hv : p.v = .slice (some ⟨gb, 0, none⟩) p.bs.length c) (hj : j < p.bs.length) (x : Int) :
    RNet (w.setCell ⟨gb, j, none⟩ (.int .u8 x)) S bn line (ps.set i { p with bs := p.bs.set j (.int .u8 x) }) last ∧ Fr S w (w.setCell ⟨gb, j, none⟩ (.int .u8 x)) := by
  have hpm := List.mem_of_getElem? hi
  have hob : p.v.ownBlock = some gb := by rw [hv]; rfl
  have hf : Fr (OneB gb) w (w.setCell ⟨gb, j, none⟩ (.int .u8 x)) := (Fr.refl (OneB gb) w).setCell (p := ⟨gb, j, none⟩) (fun _ => rfl) _
  have hfar := h.pk_far hpm gb hob
  have hpo := (h.pk p hpm).1
  refine ⟨⟨h.blk.fr hf (fun e => hfar (.inl (by rw [show bn = gb from e]))), ?_, ?_, h.sb, h.sl, ?_, ?_, by simpa using h.few⟩, hf.mono (fun b e _ => by rw [show b = gb from e]; exact h.sp p hpm gb hob)⟩
  · rw [List.length_set, flat_set { p with bs := p.bs.set j (.int .u8 x) } hi rfl]
    exact own_fr h.own hf (fun k hk e => hfar (.inr (by rw [hk, show k = gb from e])))
  · intro q hq
    obtain ⟨m, hm⟩ := List.getElem?_of_mem hq
    rw [List.getElem?_set] at hm
    split at hm
    · rename_i him
      split at hm
      · injection hm with hm
        subst hm
        refine ⟨?_, ?_, by simpa using (h.pk p hpm).2.2⟩
        · show World.ownsRow _ 0 5 1 p.v (p.bs.set j (.int .u8 x)).length (p.bs.set j (.int .u8 x))
          rw [hv] at hpo ⊢
          rw [List.length_set]
          exact (hpo.stored j (.int .u8 x)).1
        · intro u hu
          rcases List.mem_or_eq_of_mem_set hu with hu | rfl
          · exact (h.pk p hpm).2.1 u hu
          · exact ⟨x, rfl⟩
      · cases hm
    · rename_i him
      have hqm := List.mem_of_getElem? hm
      exact ⟨own_fr (h.pk q hqm).1 hf (fun k hk e => apart_at h.ap hi hm him gb hob (by rw [hk, show k = gb from e])), (h.pk q hqm).2⟩
  · intro q hq k hk
    rcases List.mem_or_eq_of_mem_set hq with hq | rfl
    · exact h.sp q hq k hk
    · exact h.sp p hpm k hk
  · rw [set_ap ps i p { p with bs := p.bs.set j (.int .u8 x) } hi rfl]
    exact h.ap

set_option maxRecDepth 100000 in
set_option maxHeartbeats 1000000 in
theorem damage_in (S : Nat → Prop) (bn : Nat) (line : Value) (ps : List Pk) (last : Int) (i j : Nat) (b by_ : Int) (p : Pk) (w : World) (h : RNet w S bn line ps last) (hi : ps[i]? = some p) (hj : p.bs[j]? = some (.int .u8 b)) :
    Calls Try.prog 27 #[.pointer (some ⟨bn, 0, none⟩), .int .i64 i, .int .i64 j, .int .u8 by_] w fun e w' => e = .returned (.bool true) ∧
      RNet w' S bn line (ps.set i { p with bs := p.bs.set j (.int .u8 (bits .xor .u8 b by_)) }) last ∧ Fr S w w' := by
  have hin := (List.getElem?_eq_some_iff.1 hi).1
  have hjn := (List.getElem?_eq_some_iff.1 hj).1
  have hpm := List.mem_of_getElem? hi
  obtain ⟨g, cap, L, rfl, hb, hL, hc, hm, ht, hgb, c0, c1, c2, c3⟩ := h.at_ hi
  obtain ⟨gb, c, M, hv, _, hbb, hM, _, _, hMt⟩ := own_open (h.pk p hpm).1 (by omega)
  rw [hv] at c3
  have d0 := h.blk.cell 0
  simp at d0
  have e0 : w.cell? ⟨gb, j, none⟩ = some (.int .u8 b) := by
    refine hbb.cells j _ ?_
    rw [← hMt, List.getElem?_take] at hj
    split at hj
    · exact hj
    · cases hj
  have e1 := hbb.frozen j
  have hii : (i : Int) < (ps.length : Int) := by omega
  have hi0 : (0 : Int) ≤ (i : Int) := by omega
  have hjj : (j : Int) < (p.bs.length : Int) := by omega
  have hj0 : ¬ (j : Int) < 0 := by omega
  have hj1 : (0 : Int) ≤ (j : Int) := by omega
  have hE := Lib.hid (damage_end h hi hv hjn (bits .xor .u8 b by_))
  clear h hL ht hv hi hj hM hMt
  go_enter Try.func27, Try.ntmps27
  go_wp2_with fail
  refine (there_in bn _ _ _ i w d0 hin).mono ?_
  rintro e w' ⟨rfl, rfl⟩
  go_wp2_with fail
  go_ret
  exact ⟨rfl, hE.out.1, hE.out.2⟩

set_option maxRecDepth 100000 in
set_option maxHeartbeats 1000000 in
theorem damage_out (bn : Nat) (A : Option Addr) (n c : Nat) (a : Int) (y z : Value) (w : World) (h0 : w.cell? ⟨bn, 0, none⟩ = some (.slice A n c)) (ha : a < 0 ∨ (n : Int) ≤ a) :
    Calls Try.prog 27 #[.pointer (some ⟨bn, 0, none⟩), .int .i64 a, y, z] w fun e w' => e = .returned (.bool false) ∧ w = w' := by
  go_enter Try.func27, Try.ntmps27
  go_wp2_with (go_at_call 38; refine (there_out _ _ _ _ _ _ h0 ha).mono ?_; rintro e w' ⟨rfl, rfl⟩)
  go_ret
  exact ⟨rfl, rfl⟩

set_option maxRecDepth 100000 in
set_option maxHeartbeats 1000000 in
theorem damage_place (S : Nat → Prop) (bn : Nat) (line : Value) (ps : List Pk) (last : Int) (i : Nat) (j : Int) (z : Value) (p : Pk) (w : World) (h : RNet w S bn line ps last) (hi : ps[i]? = some p) (hj : j < 0 ∨ (p.bs.length : Int) ≤ j) :
    Calls Try.prog 27 #[.pointer (some ⟨bn, 0, none⟩), .int .i64 i, .int .i64 j, z] w fun e w' => e = .returned (.bool false) ∧ w = w' := by
  have hin := (List.getElem?_eq_some_iff.1 hi).1
  have hpm := List.mem_of_getElem? hi
  obtain ⟨g, cap, L, rfl, hb, hL, hc, hm, ht, hgb, c0, c1, c2, c3⟩ := h.at_ hi
  obtain ⟨A, c, hv, _, _⟩ := h.rd hpm
  rw [hv] at c3
  have d0 := h.blk.cell 0
  simp at d0
  have hii : (i : Int) < (ps.length : Int) := by omega
  have hi0 : (0 : Int) ≤ (i : Int) := by omega
  clear h hL ht hv hi
  by_cases hj0 : j < 0
  · go_enter Try.func27, Try.ntmps27
    go_wp2_with fail
    refine (there_in bn _ _ _ i w d0 hin).mono ?_
    rintro e w' ⟨rfl, rfl⟩
    go_wp2_with fail
    go_ret
    exact ⟨rfl, rfl⟩
  · have hj1 : (p.bs.length : Int) ≤ j := by omega
    go_enter Try.func27, Try.ntmps27
    go_wp2_with fail
    refine (there_in bn _ _ _ i w d0 hin).mono ?_
    rintro e w' ⟨rfl, rfl⟩
    go_wp2_with fail
    go_ret
    exact ⟨rfl, rfl⟩
end Go.Proofs.Ytdfdmjnhekdpjaa
