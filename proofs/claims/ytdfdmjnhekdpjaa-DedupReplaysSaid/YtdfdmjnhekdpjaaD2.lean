import Derived.Test.YtdfdmjnhekdpjaaD1
import Derived.LoopN
namespace Go.Proofs.Ytdfdmjnhekdpjaa
set_option linter.unusedVariables false
set_option linter.unusedSimpArgs false
open Go.RowKit
open Go.ChangeMaps (setBlock)

section
variable {P : Program} {w : World} {r bm since c0 clock : Nat} {ty : TypeId}
theorem next_empty {seen : Array Nat} (hr : w.heap[r]? = some (.mapIter (some bm) since seen c0)) (hm : Mp w bm #[] clock) : (Instr.next (.pointer (some ⟨r, 0, none⟩)) false ty).run P w = .ok (.tuple #[.bool false]) w := by
  unfold Mp at hm
  simp [Instr.next, getObj, Sem.run, hr, hm, choose, Question.forced]
theorem next_done {e : MapEntry} (hr : w.heap[r]? = some (.mapIter (some bm) since #[e.born] c0)) (hm : Mp w bm #[e] clock) (hb : e.born < c0) : (Instr.next (.pointer (some ⟨r, 0, none⟩)) false ty).run P w = .ok (.tuple #[.bool false]) w := by
  unfold Mp at hm
  simp [Instr.next, getObj, Sem.run, hr, hm, choose, Question.forced, Nat.not_le.2 hb]
open Go.ChangeMaps in
theorem next_one {e : MapEntry} (hr : w.heap[r]? = some (.mapIter (some bm) since #[] c0)) (hm : Mp w bm #[e] clock) (hb : e.born < since) :
    (Instr.next (.pointer (some ⟨r, 0, none⟩)) false ty).run P w = .ok (.tuple #[.bool true, e.key, e.val]) (setBlock w r (.mapIter (some bm) since #[e.born] clock)) := by
  unfold Mp at hm
  have h1 : (#[e].filter fun x => decide (x.born < since)) = #[e] := by simp [hb]
  have h2 : (#[e].filter fun x => decide (x.born ≥ since)) = #[] := by simp [hb]
  have hs := run_setObj_at (P := P) hr (.mapIter (some bm) since #[e.born] clock)
  simp [Instr.next, getObj, Sem.run, hr, hm, choose, Question.forced, h1, h2, hb, Nat.not_le.2 hb, hs]
theorem entry_one {e : MapEntry} (hr : w.heap[r]? = some (.mapIter (some bm) since #[e.born] clock)) (hm : Mp w bm #[e] clock) : (Instr.entry (.pointer (some ⟨r, 0, none⟩))).run P w = .ok (.tuple #[e.key, e.val]) w :=
  run_entry_at w r bm since #[] #[e] clock e hr hm (by simp) (by simp)
end

theorem less_any (w : World) (tok st fl : Int) (d : Bool) (v : Value) (hv : v.oneCell' = true) (bx bc : Nat) (h0 : w.cell? ⟨bx, 0, none⟩ = some (.pointer (some ⟨bc, 0, none⟩))) (h1 : w.cell? ⟨bc, 0, none⟩ = some (.int .u64 fl)) :
    Calls Try.prog 43 #[.int .u64 tok, .agg #[.bool d, .int .i64 st, v], .pointer (some ⟨bx, 0, none⟩)] w fun e w' => e = .returned (.bool (d && decide (tok < fl))) ∧ Fr NoB w w' := by
  have hf := (Fr.refl NoB w).alloc (.cells #[.bool d, .int .i64 st, v] 74)
  have d0 := hf.cell_some h0 id
  have d1 := hf.cell_some h1 id
  cases d with
  | false =>
    go_enter Try.func43, Try.ntmps43
    go_wp2
    go_ret
    exact ⟨rfl, hf⟩
  | true =>
    go_enter Try.func43, Try.ntmps43
    go_wp2
    go_ret
    exact ⟨by simp, hf⟩

theorem delf_empty (w : World) (bm clock bx : Nat) (hm : Mp w bm #[] clock) :
    Calls Try.prog 42 #[.map (some bm), .func (.func 43) #[] #[.pointer (some ⟨bx, 0, none⟩)]] w fun e w' => (∃ v, e = .returned v) ∧ Fr NoB w w' := by
  have hf := (Fr.refl NoB w).alloc (.mapIter (some bm) clock #[] clock)
  have hrng := run_range_map (P := Try.prog) w 77 43 74 bm #[] clock Try.underlying77 hm
  have hnx := next_empty (P := Try.prog) (ty := 0) (heap_alloc_new w (.mapIter (some bm) clock #[] clock)) (hm.fr hf id)
  go_enter Try.func42, Try.ntmps42
  go_wp2
  refine wp_loop_rounds 1 ?_
  rw [rounds_succ]
  go_wp2
  go_end0
  exact ⟨⟨_, rfl⟩, hf⟩

set_option maxHeartbeats 1000000 in
set_option maxRecDepth 100000 in
/-- The iterator of a sweep, and the one entry's box, are of the call's own. -/
theorem delf_one (w : World) (bm clock bx bc : Nat) (tok st fl : Int) (d : Bool) (A : Option Addr) (n c : Nat) (b : Nat) (hm : Mp w bm #[⟨.int .u64 tok, .agg #[.bool d, .int .i64 st, .slice A n c], b⟩] clock) (hb : b < clock)
    (h0 : w.cell? ⟨bx, 0, none⟩ = some (.pointer (some ⟨bc, 0, none⟩))) (h1 : w.cell? ⟨bc, 0, none⟩ = some (.int .u64 fl)) :
    Calls Try.prog 42 #[.map (some bm), .func (.func 43) #[] #[.pointer (some ⟨bx, 0, none⟩)]] w fun e w' => (∃ v, e = .returned v) ∧
      ((d && decide (tok < fl)) = true → Mp w' bm #[] clock ∧ Fr (OneB bm) w w') ∧ ((d && decide (tok < fl)) = false → Fr NoB w w') := by
  have hf := (Fr.refl NoB w).alloc (.mapIter (some bm) clock #[] clock)
  have hrng := run_range_map (P := Try.prog) w 77 43 74 bm _ clock Try.underlying77 hm
  have hm1 := hm.fr hf id
  have hnx := next_one (P := Try.prog) (ty := 0) (heap_alloc_new w (.mapIter (some bm) clock #[] clock)) hm1 hb
  go_enter Try.func42, Try.ntmps42
  go_wp2
  refine wp_loop_rounds 2 ?_
  have hsz : w.heap.size < (w.alloc (.mapIter (some bm) clock #[] clock)).heap.size := by simp
  have hf2 : Fr NoB w (setBlock (w.alloc (.mapIter (some bm) clock #[] clock)) w.heap.size (.mapIter (some bm) clock #[b] clock)) := hf.setBlock (fun h => absurd h (Nat.lt_irrefl _)) _
  have hr2 := heap_setBlock_eq (w.alloc (.mapIter (some bm) clock #[] clock)) w.heap.size (.mapIter (some bm) clock #[b] clock) hsz
  have hen := entry_one (P := Try.prog) hr2 (hm.fr hf2 id)
  have hfa := hf2.alloc (.cells #[.bool d, .int .i64 st, .slice A n c] 74)
  have hL := Lib.hid (less_any _ tok st fl d (.slice A n c) rfl bx bc (hfa.cell_some h0 id) (hfa.cell_some h1 id))
  have hrl : w.heap.size < ((setBlock (w.alloc (.mapIter (some bm) clock #[] clock)) w.heap.size (.mapIter (some bm) clock #[b] clock)).alloc (.cells #[.bool d, .int .i64 st, .slice A n c] 74)).heap.size := by simp [size_setBlock]; omega
  have hra : ((setBlock (w.alloc (.mapIter (some bm) clock #[] clock)) w.heap.size (.mapIter (some bm) clock #[b] clock)).alloc (.cells #[.bool d, .int .i64 st, .slice A n c] 74)).heap[w.heap.size]? = some (.mapIter (some bm) clock #[b] clock) :=
    (Below.heap_alloc _ _ _ (by simp [size_setBlock])).trans hr2
  rw [rounds_succ]
  go_wp2_with fail
  refine hL.out.mono ?_
  rintro e w4 ⟨rfl, hf4⟩
  have hr4 := (hf4.block _ hrl id).trans hra
  have hf4' := hfa.trans hf4 (fun _ h _ => h)
  have hm4 := hm.fr hf4' id
  cases hc : (d && decide (tok < fl)) with
  | true =>
    have hde := delete_hit (P := Try.prog) 0 hm4 Try.underlying77 Try.underlying43
    have hm5 := hm4.set_ #[] clock
    have hr5 := (heap_setBlock_ne w4 bm (.map #[] clock) (k := w.heap.size) (by have := hm.lt; omega)).trans hr4
    have hnx5 := next_empty (P := Try.prog) (ty := 0) hr5 hm5
    have hf5 : Fr (OneB bm) w (setBlock w4 bm (.map #[] clock)) := (hf4'.mono (S' := OneB bm) (fun _ h _ => h.elim)).setBlock (fun _ => (show OneB bm bm from rfl)) _
    go_wp2
    rw [rounds_succ]
    go_wp2
    go_end0
    exact ⟨⟨_, rfl⟩, fun _ => ⟨hm5, hf5⟩, (fun h => absurd (hc.symm.trans h) (by decide))⟩
  | false =>
    have hnx5 := next_done (P := Try.prog) (ty := 0) hr4 hm4 hb
    go_wp2
    rw [rounds_succ]
    go_wp2
    go_end0
    exact ⟨⟨_, rfl⟩, (fun h => absurd (hc.symm.trans h) (by decide)), fun _ => hf4'⟩
end Go.Proofs.Ytdfdmjnhekdpjaa
