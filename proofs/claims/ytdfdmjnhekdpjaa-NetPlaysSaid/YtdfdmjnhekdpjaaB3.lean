import Derived.Test.YtdfdmjnhekdpjaaB2
import Derived.Lib.SmallJoins
namespace Go.Proofs.Ytdfdmjnhekdpjaa
set_option linter.unusedVariables false
set_option linter.unusedSimpArgs false
open Go.RowKit

theorem RNet.empty {w : World} {S : Nat → Prop} {b : Nat} (hb : Blk w b 33 #[.slice none 0 0, .int .i64 0]) (hS : S b) : RNet w S b (.slice none 0 0) [] 0 :=
  ⟨hb, World.ownsRow_nil _ _ _ _, fun p hp => (by cases hp), hS, fun k hk => (by cases hk), fun p hp => (by cases hp), List.nodup_nil, by simp⟩
theorem FNet.empty {w : World} {S : Nat → Prop} {b : Nat} (hb : Blk w b 30 #[.slice none 0 0, .int .i64 0]) (hS : S b) : FNet w S b (.slice none 0 0) [] 0 :=
  ⟨hb, World.ownsRow_nil _ _ _ _, fun p hp => (by cases hp), hS, fun k hk => (by cases hk), fun p hp => (by cases hp), by simp⟩

theorem new_any (w : World) :
    Calls Try.prog 7 #[] w fun e w' => e = .returned (.pointer (some ⟨w.heap.size, 0, none⟩)) ∧ Blk w' w.heap.size 33 #[.slice none 0 0, .int .i64 0] ∧ w'.heap.size = w.heap.size + 1 ∧ Fr NoB w w' := by
  go_enter Try.func7, Try.ntmps7
  go_wp2
  go_ret
  exact ⟨rfl, Blk.new _ _ _, by simp, (Fr.refl NoB w).alloc _⟩

set_option maxHeartbeats 4000000 in
set_option maxRecDepth 100000 in
theorem awake_any (w : World) : Calls Try.prog 5 #[] w fun e w' => e = .returned (.bool true) ∧ Fr NoB w w' := by
  go_enter Try.func5, Try.ntmps5
  go_wp2_with (go_at_call 7; refine (new_any _).mono ?_; rintro e w1 ⟨rfl, hb, hz, hf⟩)
  have hcv := Joins.run_convert_bytes_const_at (P := Try.prog) w1 35 5 #[.int .u8 120] 1 1 (w.heap.size + 1) hz.symm Try.underlying35 Try.underlying5
  have hR := RNet.empty (S := fun k => k = w.heap.size) hb rfl
  have hfa : Fr NoB w1 (w1.alloc (.cells #[.int .u8 120] 5 (1, 2))) := (Fr.refl NoB w1).alloc _
  have hrd : Rd (w1.alloc (.cells #[.int .u8 120] 5 (1, 2))) (fun k => k = w.heap.size + 1) 1 (some ⟨w.heap.size + 1, 0, none⟩) 1 [.int .u8 120] := by
    refine ⟨rfl, fun _ => ⟨_, 0, rfl, rfl, by simp [hz], fun j u hu => ?_⟩⟩
    rw [Joins.cell_alloc_mark_at _ _ _ _ _ _ hz.symm, Nat.zero_add]
    simpa using hu
  have hR1 := hR.far hfa (fun _ _ _ => id)
  have hS := (send_any (fun k => k = w.heap.size) w.heap.size (.slice none 0 0) [] 0 1 2 (fun k => k = w.heap.size + 1) (some ⟨w.heap.size + 1, 0, none⟩) 1 1 [.int .u8 120] _ hR1 ⟨by decide, by decide⟩ (fun h => by cases h) hrd (by omega) (fun u hu => ⟨120, by simpa using hu⟩) (by decide) (by decide)).mono
    (R' := fun e w' => e = .returned (.tuple #[.int .i64 1, .int .i64 0]) ∧ ∃ A c, w'.cell? ⟨w.heap.size, 0, none⟩ = some (.slice A 1 c) ∧ Fr NoB w w') (fun e w' ⟨he, line', v, hR3, hf3⟩ => by
      obtain ⟨A, c, rfl, _⟩ := own_slice hR3.own
      have d0 := hR3.blk.cell 0
      simp at d0
      exact ⟨he, A, c, d0, (hf.trans hfa (fun _ h _ => h)).trans hf3 (fun b hb hl => absurd hl (by rw [hb]; omega))⟩)
  go_wp2_with fail
  simp only [hcv, List.size_toArray, List.length_cons, List.length_nil]
  go_wp2_with fail
  refine hS.mono ?_
  rintro e w3 ⟨rfl, A, c, d0, hf3⟩
  go_wp2_with fail
  refine (len_any _ _ _ _ _ d0).mono ?_
  rintro e w4 ⟨rfl, rfl⟩
  go_wp2
  go_ret
  exact ⟨rfl, by first | exact hf3 | exact hf3.drewN _⟩
end Go.Proofs.Ytdfdmjnhekdpjaa
