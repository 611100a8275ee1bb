import Derived.Test.YtdfdmjnhekdpjaaB1
namespace Go.Proofs.Ytdfdmjnhekdpjaa
set_option linter.unusedVariables false
set_option linter.unusedSimpArgs false
open Go.RowKit Go.Proofs.YtdfdmjnhekdpjaaW.PrintWords Go.Proofs.YtdfdmjnhekdpjaaW.PrintMore PNetPlays
attribute [local go_sem] max2_int min2_int max_two min_two max_three min_three max_four min_four

set_option maxHeartbeats 4000000 in
set_option maxRecDepth 100000 in
theorem same_eq (w : World) (A B : Option Addr) (c d : Nat) (l : List S63) (hl : l.length ≤ 200) (hA : Kd.C k63 w A l.length l) (hB : Kd.C k63 w B l.length l) :
    Calls Try.prog 10 #[.slice A l.length c, .slice B l.length d] w fun e w' => e = .returned (.bool true) ∧ Drawn0 w w' := by
  have HA := Aside0.mk hA
  have HB := Aside0.mk hB
  clear hA hB
  go_enter Try.func10, Try.ntmps10
  go_wp2
  repeat (go_quiet (fail); try go_wp2)
  go_loopw [13] (fun v w' => ∃ k : Nat, v = .int .i64 k ∧ k ≤ l.length ∧ Drawn0 w w') (fun c _ => l.length - (intOf c).toNat)
  case atStart => exact ⟨0, rfl, Nat.zero_le _, by repeat (first | exact Drawn0.refl _ | apply Drawn0.step)⟩
  case round =>
    obtain ⟨k, rfl, hk, hD⟩ := hrel
    obtain ⟨m, rfl⟩ := hD.out
    by_cases hlt : k < l.length
    · have p1 : (0 : Int) ≤ (k : Int) := by omega
      have p2 : (k : Int) < (l.length : Int) := by omega
      obtain ⟨a, A3, c3, rfl, a0, a1, a2, a3, al, ai⟩ := at_T63 HA.out k p1 p2
      obtain ⟨b, B3, d3, rfl, b0, b1, b2, b3, bl, bi⟩ := at_T63 HB.out k p1 p2
      rw [Int.toNat_natCast] at a0 a1 a2 a3 b0 b1 b2 b3
      have hs : ∀ m, (convert 35 9 (.slice A3 (rd_T63 l k).f3.length c3)).run Try.prog (w.drewN m) = .ok (.string (strOfNums (rd_T63 l k).f3)) (w.drewN m) := fun m => Kd.C_string (P := Try.prog) Try.underlying35 Try.underlying5 Try.underlying9 ai
      have ht : ∀ m, (convert 35 9 (.slice B3 (rd_T63 l k).f3.length d3)).run Try.prog (w.drewN m) = .ok (.string (strOfNums (rd_T63 l k).f3)) (w.drewN m) := fun m => Kd.C_string (P := Try.prog) Try.underlying35 Try.underlying5 Try.underlying9 bi
      go_wp2
      go_quiet (fail)
      try go_wp2
      go_roundw
      case rel => exact ⟨k + 1, by go_num, by omega, by repeat (first | exact Drawn0.refl _ | apply Drawn0.step)⟩
      case measure => simp [intOf]; omega
    · go_wp2
      go_ret
      exact ⟨rfl, by repeat (first | exact Drawn0.refl _ | apply Drawn0.step)⟩
end Go.Proofs.Ytdfdmjnhekdpjaa
