import Derived.Test.YtdfdmjnhekdpjaaD10
namespace Go.Proofs.Ytdfdmjnhekdpjaa
set_option linter.unusedVariables false
set_option linter.unusedSimpArgs false
open Go.RowKit

set_option maxRecDepth 100000 in
theorem len64_one (w : World) : Calls Try.prog 63 #[.int .u64 1] w fun e w' => e = .returned (.int .i64 1) ∧ w = w' := by
  go_enter Try.func63, Try.ntmps63
  go_wp2
  all_goals go_ret
  all_goals exact ⟨by kernel_rfl, rfl⟩
theorem len_one (w : World) : Calls Try.prog 51 #[.int .u64 1] w fun e w' => e = .returned (.int .i64 1) ∧ w = w' := by
  go_enter Try.func51, Try.ntmps51
  go_wp2_with (go_at_call 63; refine (len64_one _).mono ?_; rintro e w' ⟨rfl, rfl⟩)
  go_ret
  exact ⟨rfl, rfl⟩
theorem insertion_one (w : World) (v : Value) : Calls Try.prog 53 #[v, .int .i64 0, .int .i64 1] w fun e w' => (∃ u, e = .returned u) ∧ w = w' := by
  go_enter Try.func53, Try.ntmps53
  go_wp2
  refine wp_loop_rounds 1 ?_
  rw [rounds_succ]
  go_wp2
  go_end0
  exact ⟨⟨_, rfl⟩, rfl⟩
theorem pdq_one (w : World) (v : Value) (l : Int) : Calls Try.prog 50 #[v, .int .i64 0, .int .i64 1, .int .i64 l] w fun e w' => (∃ u, e = .returned u) ∧ w = w' := by
  go_enter Try.func50, Try.ntmps50
  go_wp2
  refine wp_loop_rounds 1 ?_
  rw [rounds_succ]
  go_wp2_with (go_at_call 53; refine (insertion_one _ _).mono ?_; rintro e w' ⟨⟨u, rfl⟩, rfl⟩)
  refine bodyPost_ret (results_none rfl _ _ _) rfl ?_
  exact ⟨⟨_, rfl⟩, rfl⟩
theorem sort_one (w : World) (A : Option Addr) (c : Nat) : Calls Try.prog 45 #[.slice A 1 c] w fun e w' => (∃ u, e = .returned u) ∧ w = w' := by
  go_enter Try.func45, Try.ntmps45
  go_wp2_with (first | (go_at_call 51; refine (len_one _).mono ?_; rintro e w' ⟨rfl, rfl⟩) | (go_at_call 50; refine (pdq_one _ _ _).mono ?_; rintro e w' ⟨⟨u, rfl⟩, rfl⟩))
  go_end0
  exact ⟨⟨_, rfl⟩, rfl⟩
theorem sorted_any (w : World) (bx bm clock b : Nat) (tok : Int) (v : Value) (hbx : w.cell? ⟨bx, 0, none⟩ = some (.map (some bm))) (hm : Mp w bm #[⟨.int .u64 tok, v, b⟩] clock) (hb : b < clock) :
    Calls Try.prog 36 #[.func (.func 46) #[] #[.pointer (some ⟨bx, 0, none⟩)]] w fun e W' => ∃ A c, e = .returned (.slice A 1 c) ∧ Below w.heap.size w W' := by
  have H := Lib.hid (collect_any w bx bm clock b tok v hbx hm hb)
  go_enter Try.func36, Try.ntmps36
  go_wp2_with fail
  refine H.out.mono ?_
  rintro e w1 ⟨r, rfl, ho, hB⟩
  obtain ⟨A, c, rfl, _⟩ := own_slice ho
  go_wp2_with (go_at_call 45; refine (sort_one _ _ _).mono ?_; rintro e w' ⟨⟨u, rfl⟩, rfl⟩)
  go_ret
  exact ⟨_, _, rfl, hB⟩
/-- Entries of one client with one entry: one. -/
theorem Entries_1 (w : World) {S : Nat → Prop} {bt bs bc bm bo ck k b : Nat} {num fl tok : Int} {v : Value} (h : Tab1 w S bt bs bc bm num fl bo ck) (hm : Mp w bm #[⟨.int .u64 tok, v, b⟩] k) (hb : b < k) :
    Calls Try.prog 18 #[.pointer (some ⟨bt, 0, none⟩), .int .i64 num] w fun e w' => ∃ A c, e = .returned (.slice A 1 c) ∧ Below w.heap.size w w' := by
  have d0 := h.t.cell 0
  have c1 := h.c.cell 1
  simp at d0 c1
  have hlk := lookup_hit (P := Try.prog) h.s (t := 69) (kt := 3) (et := 75) Try.underlying69 Try.underlying3 false
  have hfr : Fr NoB w (w.alloc (.cells #[.map (some bm)] 77)) := (Fr.refl NoB w).alloc _
  have hbx : (w.alloc (.cells #[.map (some bm)] 77)).cell? ⟨w.heap.size, 0, none⟩ = some (.map (some bm)) := (Blk.new w 77 #[.map (some bm)]).cell 0
  have hK : Calls Try.prog 37 #[.map (some bm)] w fun e w' => e = .returned (.func (.func 46) #[] #[.pointer (some ⟨w.heap.size, 0, none⟩)]) ∧ w' = w.alloc (.cells #[.map (some bm)] 77) := by
    go_enter Try.func37, Try.ntmps37
    go_wp2
    go_ret
    exact ⟨rfl, rfl⟩
  have H := Lib.hid (sorted_any _ _ bm k b tok v hbx (hm.fr hfr id) hb)
  go_enter Try.func18, Try.ntmps18
  go_wp2_with fail
  refine hK.mono ?_
  rintro e w1 ⟨rfl, rfl⟩
  go_wp2_with fail
  refine H.out.mono ?_
  rintro e w2 ⟨A, c, rfl, hB⟩
  go_wp2
  go_ret
  exact ⟨A, c, rfl, (hfr.below_all).trans (hB.mono hfr.size)⟩
end Go.Proofs.Ytdfdmjnhekdpjaa
