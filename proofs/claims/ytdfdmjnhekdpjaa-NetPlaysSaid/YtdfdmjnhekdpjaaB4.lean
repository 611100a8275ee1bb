import Derived.Test.YtdfdmjnhekdpjaaB3
namespace Go.Proofs.Ytdfdmjnhekdpjaa
set_option linter.unusedVariables false
set_option linter.unusedSimpArgs false
open Go.RowKit Go.Proofs.YtdfdmjnhekdpjaaW.PrintWords PNetPlays

theorem few_l0 (l : List S37) (hb : ∀ x ∈ l, x.f4.length ≤ 140737488355328) : ∀ (k : Nat) (i : Nat) (s : Int), i + k = 502 → i ≤ l.length → i ≤ 500 → 0 ≤ s → s ≤ 20000 →
    ∃ r, courierlaw18_Few.l0 k l s l.length i = some r ∧ (r = true → l.length ≤ 500 ∧ ∀ x ∈ l.drop i, x.f4.length ≤ 20000)
  | 0, i, s, h, _, h5, _, _ => by omega
  | k + 1, i, s, h, hi, h5, h0, h1 => by
    unfold courierlaw18_Few.l0
    by_cases hlt : i < l.length
    · have hr : rd_T37 l i = l[i] := by simp [rd_T37, List.getD, List.getElem?_eq_getElem hlt]
      have hx := hb l[i] (List.getElem_mem hlt)
      have hd : l.drop i = l[i] :: l.drop (i + 1) := List.drop_eq_getElem_cons hlt
      rw [if_pos (by omega), if_pos (by omega), if_pos (by omega), hr]
      by_cases h500 : (i : Int) ≥ 500
      · rw [if_pos h500]
        exact ⟨false, rfl, fun h => by cases h⟩
      · rw [if_neg h500]
        have e1 : wrap64 (s + (l[i].f4.length : Int)) = s + (l[i].f4.length : Int) := by unfold wrap64; omega
        have e2 : wrap64 ((i : Int) + 1) = ((i + 1 : Nat) : Int) := by unfold wrap64; omega
        rw [e1, e2]
        by_cases h20 : s + (l[i].f4.length : Int) > 20000
        · rw [if_pos h20]
          exact ⟨false, rfl, fun h => by cases h⟩
        · rw [if_neg h20]
          obtain ⟨r, hr, hq⟩ := few_l0 l hb k (i + 1) (s + (l[i].f4.length : Int)) (by omega) (by omega) (by omega) (by omega) (by omega)
          refine ⟨r, hr, fun ht => ⟨(hq ht).1, fun x hx => ?_⟩⟩
          rw [hd] at hx
          rcases List.mem_cons.1 hx with rfl | hx
          · omega
          · exact (hq ht).2 x hx
    · have : i = l.length := by omega
      subst this
      rw [if_neg (by omega)]
      exact ⟨true, rfl, fun _ => ⟨h5, fun x hx => by simp at hx⟩⟩
theorem few_any (w : World) (A : Option Addr) (c : Nat) (l : List S37) (hC : Kd.C k37 w A l.length l) (hc : l.length ≤ c) (hb : ∀ x ∈ l, x.f4.length ≤ 140737488355328) :
    Calls Try.prog 6 #[.slice A l.length c] w fun e w' => ∃ r, e = .returned (.bool r) ∧ (r = true → l.length ≤ 500 ∧ ∀ x ∈ l, x.f4.length ≤ 20000) ∧ Fr NoB w w' := by
  obtain ⟨r, hr, hq⟩ := few_l0 l hb 502 0 0 (by omega) (by omega) (by omega) (by decide) (by decide)
  refine (courierlaw18_Few.calls 502 A c l r w hC hc hr).mono ?_
  rintro e w' ⟨rfl, hD⟩
  obtain ⟨n, rfl⟩ := hD.out
  exact ⟨r, rfl, fun h => by simpa using hq h, (Fr.refl _ _).drewN n⟩
end Go.Proofs.Ytdfdmjnhekdpjaa
