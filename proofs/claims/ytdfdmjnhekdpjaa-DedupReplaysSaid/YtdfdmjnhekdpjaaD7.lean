import Derived.Test.YtdfdmjnhekdpjaaD6
namespace Go.Proofs.Ytdfdmjnhekdpjaa
set_option linter.unusedVariables false
set_option linter.unusedSimpArgs false
open Go.RowKit
open Go.ChangeMaps (setBlock)

set_option maxHeartbeats 1000000 in
set_option maxRecDepth 100000 in
/-- Offer: what offer says, in a result's cell of its own. -/
theorem Offer_any {w : World} {bt : Nat} {num tok fl : Int} {R : Value → World → Prop} (hc : Calls Try.prog 33 #[.pointer (some ⟨bt, 0, none⟩), .int .i64 num, .int .u64 tok, .int .u64 fl, .agg #[.bool false, .int .i64 0, .slice none 0 0]]
      (w.alloc (.cells #[.int .i64 0, .int .i64 0, .slice none 0 0] 47)) fun e w' => ∃ (a s : Int) (A : Option Addr) (n c : Nat), e = .returned (.agg #[.int .i64 a, .int .i64 s, .slice A n c]) ∧ Blk w' w.heap.size 47 #[.int .i64 0, .int .i64 0, .slice none 0 0] ∧ R (.agg #[.int .i64 a, .int .i64 s, .slice A n c]) w') :
    Calls Try.prog 15 #[.pointer (some ⟨bt, 0, none⟩), .int .i64 num, .int .u64 tok, .int .u64 fl] w fun e w' => ∃ r w1, e = .returned r ∧ R r w1 ∧ Fr (OneB w.heap.size) w1 w' := by
  have H := Lib.hid hc
  clear hc
  go_enter Try.func15, Try.ntmps15
  go_wp2_with fail
  refine H.out.mono ?_
  rintro e w1 ⟨a, s, A, n, c, rfl, hb, hR⟩
  have z0 := hb.cell 0
  have z1 := hb.cell 1
  have z2 := hb.cell 2
  have y0 := hb.frozen 0
  have y1 := hb.frozen 1
  have y2 := hb.frozen 2
  simp at z0 z1 z2
  go_wp2_with fail
  have hB := ((hb.set_ 0 (.int .i64 a)).set_ 1 (.int .i64 s)).set_ 2 (.slice A n c)
  have frB : Fr (OneB w.heap.size) w1 (((w1.setCell ⟨w.heap.size, 0, none⟩ (.int .i64 a)).setCell ⟨w.heap.size, 1, none⟩ (.int .i64 s)).setCell ⟨w.heap.size, 2, none⟩ (.slice A n c)) :=
    (((Fr.refl (OneB w.heap.size) w1).setCell (p := ⟨w.heap.size, 0, none⟩) (fun _ => rfl) _).setCell (p := ⟨w.heap.size, 1, none⟩) (fun _ => rfl) _).setCell (p := ⟨w.heap.size, 2, none⟩) (fun _ => rfl) _
  simp at hB
  exact bodyPost_ret (results_verdict rfl _ _ w.heap.size (by rfl) hB) rfl ⟨_, w1, rfl, hR, frB⟩

/-- The floor of the one client. -/
theorem Floor_1 (w : World) {S : Nat → Prop} {bt bs bc bm bo ck : Nat} {num fl : Int} (h : Tab1 w S bt bs bc bm num fl bo ck) :
    Calls Try.prog 17 #[.pointer (some ⟨bt, 0, none⟩), .int .i64 num] w fun e w' => e = .returned (.int .u64 fl) ∧ w = w' := by
  have d0 := h.t.cell 0
  have c0 := h.c.cell 0
  simp at d0 c0
  have hlk := lookup_hit (P := Try.prog) h.s (t := 69) (kt := 3) (et := 75) Try.underlying69 Try.underlying3 false
  go_enter Try.func17, Try.ntmps17
  go_wp2
  go_ret
  exact ⟨rfl, rfl⟩
end Go.Proofs.Ytdfdmjnhekdpjaa
