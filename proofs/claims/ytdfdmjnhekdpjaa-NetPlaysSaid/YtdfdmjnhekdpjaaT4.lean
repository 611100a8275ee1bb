import Derived.Test.YtdfdmjnhekdpjaaT2
import Derived.Test.YtdfdmjnhekdpjaaT3
namespace Go.Proofs.Ytdfdmjnhekdpjaa
set_option linter.unusedVariables false
set_option linter.unusedSimpArgs false
open Go.RowKit

theorem flat_take (ps : List Pk) : ∀ i, (flat ps).take (i * 4) = flat (ps.take i) := by
  induction ps with
  | nil => intro i; simp [flat]
  | cons p ps ih =>
    intro i
    cases i with
    | zero => simp [flat]
    | succ i =>
      have e : flat (p :: ps) = p.cells ++ flat ps := by simp [flat]
      have e' : flat ((p :: ps).take (i + 1)) = p.cells ++ flat (ps.take i) := by simp [flat]
      rw [e, e', ← ih i, List.take_append]
      have hl : p.cells.length = 4 := rfl
      rw [List.take_of_length_le (by omega), hl]
      congr 2
      omega
theorem flat_drop (ps : List Pk) : ∀ i, (flat ps).drop (i * 4) = flat (ps.drop i) := by
  induction ps with
  | nil => intro i; simp [flat]
  | cons p ps ih =>
    intro i
    cases i with
    | zero => simp
    | succ i =>
      have e : flat (p :: ps) = p.cells ++ flat ps := by simp [flat]
      rw [e, List.drop_succ_cons, ← ih i, List.drop_append]
      have hl : p.cells.length = 4 := rfl
      rw [List.drop_eq_nil_of_le (by omega), hl, List.nil_append]
      congr 1
      omega
theorem flat_get {ps : List Pk} {i : Nat} {p : Pk} (h : ps[i]? = some p) : (flat ps)[i * 4]? = some (.int .i64 p.n) ∧ (flat ps)[i * 4 + 1]? = some (.int .i64 p.f) ∧ (flat ps)[i * 4 + 2]? = some (.int .i64 p.t) ∧ (flat ps)[i * 4 + 3]? = some p.v := by
  have hi := (List.getElem?_eq_some_iff.1 h).1
  have e : (flat ps).drop (i * 4) = p.cells ++ flat (ps.drop (i + 1)) := by
    rw [flat_drop, List.drop_eq_getElem_cons hi, show ps[i] = p from (List.getElem?_eq_some_iff.1 h).2]
    simp [flat]
  have g : ∀ k, (flat ps)[i * 4 + k]? = (p.cells ++ flat (ps.drop (i + 1)))[k]? := fun k => by rw [← e, List.getElem?_drop]
  exact ⟨(g 0).trans rfl, (g 1).trans rfl, (g 2).trans rfl, (g 3).trans rfl⟩

theorem del_take (L : List Value) (ps : List Pk) (i p cap : Nat) (hL : L.length = cap * 4) (hp : ps.length = p + 1) (hn : p + 1 ≤ cap) (hi : i ≤ p) (ht : L.take ((p + 1) * 4) = flat ps) :
    (L.drop ((i + 1) * 4)).take ((p - i) * 4) = flat (ps.drop (i + 1)) ∧ (delCells L i p).take (p * 4) = flat (ps.eraseIdx i) ∧ (delCells L i p).length = cap * 4 := by
  have h1 : (L.drop ((i + 1) * 4)).take ((p - i) * 4) = flat (ps.drop (i + 1)) := by
    rw [← flat_drop, ← ht, List.drop_take]
    congr 1
    omega
  have hnl : (flat (ps.drop (i + 1))).length = (p - i) * 4 := by rw [flat_length, List.length_drop]; omega
  have hz : zero60.length = 4 := rfl
  have l1 : (over L (i * 4) (flat (ps.drop (i + 1)))).length = cap * 4 := by rw [over_length _ _ _ (by rw [hnl]; omega), hL]
  refine ⟨h1, ?_, ?_⟩
  · unfold delCells
    rw [h1]
    have h2 : (over (over L (i * 4) (flat (ps.drop (i + 1)))) (p * 4) zero60).take (p * 4) = (over L (i * 4) (flat (ps.drop (i + 1)))).take (p * 4) := by
      rw [show over (over L (i * 4) (flat (ps.drop (i + 1)))) (p * 4) zero60 = (over L (i * 4) (flat (ps.drop (i + 1)))).take (p * 4) ++ (zero60 ++ (over L (i * 4) (flat (ps.drop (i + 1)))).drop (p * 4 + 4)) by simp [over, hz],
        List.take_append_of_le_length (by simp [l1]; omega), List.take_take, Nat.min_self]
    rw [h2]
    unfold over
    have l2 : (L.take (i * 4) ++ flat (ps.drop (i + 1))).length = p * 4 := by rw [List.length_append, hnl, List.length_take, hL]; omega
    rw [List.take_append_of_le_length (by omega), List.take_of_length_le (by omega), List.eraseIdx_eq_take_drop_succ, flat_append]
    congr 1
    rw [← flat_take, ← ht, List.take_take]
    congr 1
    omega
  · unfold delCells
    rw [h1, over_length _ _ _ (by rw [hz, l1]; omega), l1]

set_option maxHeartbeats 400000 in
theorem len_any (bn : Nat) (A : Option Addr) (n c : Nat) (w : World) (h0 : w.cell? ⟨bn, 0, none⟩ = some (.slice A n c)) :
    Calls Try.prog 9 #[.pointer (some ⟨bn, 0, none⟩)] w fun e w' => e = .returned (.int .i64 n) ∧ w = w' := by
  go_enter Try.func9, Try.ntmps9
  go_wp2
  go_ret
  exact ⟨rfl, rfl⟩

set_option maxHeartbeats 400000 in
theorem there_in (bn : Nat) (A : Option Addr) (n c i : Nat) (w : World) (h0 : w.cell? ⟨bn, 0, none⟩ = some (.slice A n c)) (hi : i < n) :
    Calls Try.prog 38 #[.pointer (some ⟨bn, 0, none⟩), .int .i64 i] w fun e w' => e = .returned (.bool true) ∧ w = w' := by
  have h1 : (0 : Int) ≤ (i : Int) := by omega
  have h2 : (i : Int) < (n : Int) := by omega
  go_enter Try.func38, Try.ntmps38
  go_wp2_with (go_at_call 9; refine (len_any _ _ _ _ _ h0).mono ?_; rintro e w' ⟨rfl, rfl⟩)
  go_ret
  simp [hi]

set_option maxHeartbeats 400000 in
theorem there_out (bn : Nat) (A : Option Addr) (n c : Nat) (a : Int) (w : World) (h0 : w.cell? ⟨bn, 0, none⟩ = some (.slice A n c)) (ha : a < 0 ∨ (n : Int) ≤ a) :
    Calls Try.prog 38 #[.pointer (some ⟨bn, 0, none⟩), .int .i64 a] w fun e w' => e = .returned (.bool false) ∧ w = w' := by
  by_cases h : 0 ≤ a
  · have h1 : decide (0 ≤ a) = true := by simpa using h
    have h2 : ¬ a < (n : Int) := by omega
    go_enter Try.func38, Try.ntmps38
    go_wp2_with (go_at_call 9; refine (len_any _ _ _ _ _ h0).mono ?_; rintro e w' ⟨rfl, rfl⟩)
    go_ret
    simp [h2]
  · have h1 : decide (0 ≤ a) = false := by simpa using h
    go_enter Try.func38, Try.ntmps38
    go_wp2
    go_ret
    simp

end Go.Proofs.Ytdfdmjnhekdpjaa
