/- ident: letters, names. -/
import Derived.Test.YtcfmcgkngjpdbaaDoorMem2
import Derived.Test.YtcfmcgkngjpdbaaDoorRows
import Derived.WalkKit
import Derived.WalkSpells
import Derived.WalkLawsBesides
import Derived.Lib.RuneCount
import Derived.Laws.RangeString
import Derived.Laws.RangeAny
import Derived.LoopTactic
import Derived.Outline
namespace Go.Proofs.YtcfmcgkngjpdbaaDoor
set_option linter.unusedVariables false
set_option linter.unusedSimpArgs false
open Go.RowKit

def letterB (r : Int) : Bool := (decide (97 ≤ r) && decide (r ≤ 122)) || (decide (65 ≤ r) && decide (r ≤ 90)) || (decide (913 ≤ r) && decide (r ≤ 969))
def digitB (r : Int) : Bool := decide (48 ≤ r) && decide (r ≤ 57)
def insideB (r : Int) : Bool := letterB r || digitB r || (r == 95)

theorem letter_any (r : Int) (w : World) : Calls Tryd.prog 85 #[.int .i32 r] w fun e w' => e = .returned (.bool (letterB r)) ∧ w = w' := by
  have H : ∀ b, letterB r = b → Calls Tryd.prog 85 #[.int .i32 r] w fun e w' => e = .returned (.bool b) ∧ w = w' := by
    unfold letterB
    cases d1 : decide (97 ≤ r) <;> cases d2 : decide (r ≤ 122) <;> cases d3 : decide (65 ≤ r) <;> cases d4 : decide (r ≤ 90) <;> cases d5 : decide (913 ≤ r) <;> cases d6 : decide (r ≤ 969)
    all_goals first
      | (exfalso; simp at d1 d2 d3 d4 d5 d6; omega)
      | (intro b hb; subst hb; go_enter Tryd.func85, Tryd.ntmps85; go_wp2_with fail; go_ret; exact ⟨rfl, rfl⟩)
  exact H _ rfl
theorem digit_any (r : Int) (w : World) : Calls Tryd.prog 98 #[.int .i32 r] w fun e w' => e = .returned (.bool (digitB r)) ∧ w = w' := by
  have H : ∀ b, digitB r = b → Calls Tryd.prog 98 #[.int .i32 r] w fun e w' => e = .returned (.bool b) ∧ w = w' := by
    unfold digitB
    cases d1 : decide (48 ≤ r) <;> cases d2 : decide (r ≤ 57)
    all_goals (intro b hb; subst hb; go_enter Tryd.func98, Tryd.ntmps98; go_wp2_with fail; go_ret; exact ⟨rfl, rfl⟩)
  exact H _ rfl
theorem inside_any (r : Int) (w : World) : Calls Tryd.prog 84 #[.int .i32 r] w fun e w' => e = .returned (.bool (insideB r)) ∧ w = w' := by
  have H : ∀ b, insideB r = b → Calls Tryd.prog 84 #[.int .i32 r] w fun e w' => e = .returned (.bool b) ∧ w = w' := by
    unfold insideB
    have hl := Lib.hid (letter_any r w)
    have hd := Lib.hid (digit_any r w)
    cases d1 : letterB r <;> cases d2 : digitB r <;> cases d3 : (r == 95)
    all_goals
      rw [d1] at hl
      rw [d2] at hd
      intro b hb
      subst hb
      clear d1 d2
      go_enter Tryd.func84, Tryd.ntmps84
      go_wp2_with (first | (go_at_call 85; refine hl.out.mono ?_; rintro e w' ⟨rfl, rfl⟩) | (go_at_call 98; refine hd.out.mono ?_; rintro e w' ⟨rfl, rfl⟩))
      go_ret
      exact ⟨rfl, rfl⟩
  exact H _ rfl

/-- Names: from place pos on, n runes having been met. -/
def nameGo (s : ByteArray) : Nat → Nat → Nat → Bool
  | 0, _, n => decide (0 < n) && decide (n ≤ 40)
  | f + 1, pos, n => if pos < s.size then
      (if insideB ((Utf8.decode s pos).1 : Int) && (!(pos == 0) || letterB ((Utf8.decode s pos).1 : Int)) then nameGo s f (pos + (Utf8.decode s pos).2) (n + 1) else false)
    else decide (0 < n) && decide (n ≤ 40)
def nameB (s : ByteArray) : Bool := nameGo s s.size 0 0
theorem nameGo_end (s : ByteArray) (f pos n : Nat) (h : ¬ pos < s.size) : nameGo s f pos n = (decide (0 < n) && decide (n ≤ 40)) := by
  cases f <;> simp [nameGo, h]

def NameR (b : Bool) (w : World) (e : Ending) (w' : World) : Prop := e = .returned (.bool b) ∧ Fr NoB w w'
theorem Fr.iter {S : Nat → Prop} (w : World) (s : ByteArray) (pos : Nat) : Fr S w (w.iter s pos) := (Fr.refl S w).alloc _

set_option maxHeartbeats 1000000 in
set_option maxRecDepth 100000 in
theorem name_any (s : ByteArray) (w : World) (hs : s.size < 9223372036854775807) : Calls Tryd.prog 67 #[.string s] w (NameR (nameB s) w) := by
  go_enter Tryd.func67, Tryd.ntmps67
  go_wp2_with fail
  go_loopw [3] (fun n w' => ∃ (pos b acc : Nat), w' = w.iter s pos ∧ n = .int .i64 acc ∧ nameGo s b pos acc = nameB s ∧ s.size ≤ pos + b ∧ acc ≤ pos) (fun _ w' => s.size - w'.iterPos w.heap.size)
  case atStart => exact ⟨0, s.size, 0, rfl, rfl, rfl, by omega, Nat.le_refl _⟩
  case round =>
    obtain ⟨pos, b, acc, rfl, rfl, hc, hb, ha⟩ := hrel
    by_cases hp : pos < s.size
    · have hnx : ∀ ty, (Instr.next (.pointer (some ⟨w.heap.size, 0, none⟩)) true ty).run Tryd.prog (w.iter s pos) = _ := fun ty => run_next_any w s pos ty hp
      have hwd := Lib.decode_width_pos s pos hp
      cases b with
      | zero => omega
      | succ b =>
        have hI := Lib.hid (inside_any ((Utf8.decode s pos).1 : Int) (w.iter s (pos + (Utf8.decode s pos).2)))
        have hL := Lib.hid (letter_any ((Utf8.decode s pos).1 : Int) (w.iter s (pos + (Utf8.decode s pos).2)))
        have hstep : nameGo s (b + 1) pos acc = (if insideB ((Utf8.decode s pos).1 : Int) && (!(pos == 0) || letterB ((Utf8.decode s pos).1 : Int)) then nameGo s b (pos + (Utf8.decode s pos).2) (acc + 1) else false) := by
          simp only [nameGo, hp, if_true]
        rw [hstep] at hc
        clear hstep
        have hacc : acc + 1 ≤ pos + (Utf8.decode s pos).2 := by omega
        have hb2 : s.size ≤ pos + (Utf8.decode s pos).2 + b := by omega
        have hms : s.size - (pos + (Utf8.decode s pos).2) < s.size - pos := by omega
        have hpi : (pos : Int) < 9223372036854775807 := by omega
        have hai : (acc : Int) < 9223372036854775807 := by omega
        cases hin : insideB ((Utf8.decode s pos).1 : Int) with
        | false =>
          rw [hin] at hI hc
          have HC := Lib.hid hc
          clear hc hin
          go_wp2_with fail
          refine hI.out.mono ?_
          rintro e w' ⟨rfl, rfl⟩
          go_wp2_with fail
          go_ret
          exact ⟨by rw [← HC.out]; rfl, Fr.iter _ _ _⟩
        | true =>
          rw [hin] at hI hc
          by_cases h0 : pos = 0
          · have k0 : ((pos : Int) == 0) = true := by simp [h0]
            have k1 : (pos == 0) = true := by simp [h0]
            rw [k1] at hc
            clear h0 k1 hin
            cases hle : letterB ((Utf8.decode s pos).1 : Int) with
            | false =>
              rw [hle] at hL hc
              have HC := Lib.hid hc
              clear hc hle
              go_wp2_with fail
              refine hI.out.mono ?_
              rintro e w' ⟨rfl, rfl⟩
              go_wp2_with fail
              refine hL.out.mono ?_
              rintro e w' ⟨rfl, rfl⟩
              go_wp2_with fail
              go_ret
              exact ⟨by rw [← HC.out]; rfl, Fr.iter _ _ _⟩
            | true =>
              rw [hle] at hL hc
              have HC := Lib.hid hc
              clear hc hle
              go_wp2_with fail
              refine hI.out.mono ?_
              rintro e w' ⟨rfl, rfl⟩
              go_wp2_with fail
              refine hL.out.mono ?_
              rintro e w' ⟨rfl, rfl⟩
              go_wp2_with fail
              go_roundw
              case rel => exact ⟨_, b, acc + 1, rfl, by go_num, HC.out, hb2, hacc⟩
              case measure => simpa using hms
          · have k0 : ((pos : Int) == 0) = false := by simp [h0]
            have k1 : (pos == 0) = false := by simp [h0]
            rw [k1] at hc
            have HC := Lib.hid hc
            clear h0 k1 hin hc
            go_wp2_with fail
            refine hI.out.mono ?_
            rintro e w' ⟨rfl, rfl⟩
            go_wp2_with fail
            go_roundw
            case rel => exact ⟨_, b, acc + 1, rfl, by go_num, HC.out, hb2, hacc⟩
            case measure => simpa using hms
    · have hnx : ∀ ty, (Instr.next (.pointer (some ⟨w.heap.size, 0, none⟩)) true ty).run Tryd.prog (w.iter s pos) = _ := fun ty => run_next_end w s pos ty hp
      rw [nameGo_end s b pos acc hp] at hc
      by_cases h0 : 0 < acc
      · have k0 : decide ((0 : Int) < (acc : Int)) = true := by simp; omega
        have k1 : decide ((acc : Int) ≤ 40) = decide (acc ≤ 40) := by simp; omega
        have HC := Lib.hid hc
        clear hc
        go_wp2_with fail
        go_ret
        exact ⟨by rw [← HC.out]; simp [h0], Fr.iter _ _ _⟩
      · have k0 : decide ((0 : Int) < (acc : Int)) = false := by simp; omega
        have HC := Lib.hid hc
        clear hc
        go_wp2_with fail
        go_ret
        exact ⟨by rw [← HC.out]; simp [h0], Fr.iter _ _ _⟩
end Go.Proofs.YtcfmcgkngjpdbaaDoor
