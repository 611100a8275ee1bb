import Derived.Test.YtdfdmjnhekdpjaaD3
namespace Go.Proofs.Ytdfdmjnhekdpjaa
set_option linter.unusedVariables false
set_option linter.unusedSimpArgs false
open Go.RowKit
open Go.ChangeMaps (setBlock)

theorem len_map {P : Program} {w : World} {t ty kt et : TypeId} {bm ck : Nat} {es : Array MapEntry} (ht : P.underlying t = some (.map kt et)) (hm : Mp w bm es ck) : (Builtin.len_ #[t] ty #[.map (some bm)]).run P w = .ok (.int .i64 es.size) w := by
  unfold Mp at hm
  simp [Builtin.len_, run_underlying ht, MapKept.run_getObj_map hm, goInt]
theorem len_nil_map {P : Program} {w : World} {t ty kt et : TypeId} (ht : P.underlying t = some (.map kt et)) : (Builtin.len_ #[t] ty #[.map none]).run P w = .ok (.int .i64 0) w := by
  simp [Builtin.len_, run_underlying ht, goInt]

set_option maxHeartbeats 1000000 in
set_option maxRecDepth 100000 in
theorem Len_1 (w : World) {S : Nat → Prop} {bt bs bc bm bo ck k : Nat} {num fl : Int} {es : Array MapEntry} (h : Tab1 w S bt bs bc bm num fl bo ck) (hm : Mp w bm es k) (hes : es.size < 1000) :
    Calls Try.prog 32 #[.pointer (some ⟨bt, 0, none⟩)] w fun e w' => e = .returned (.int .i64 es.size) ∧ Fr NoB w w' := by
  have d0 := h.t.cell 0
  simp at d0
  have hr := run_range_map (P := Try.prog) w 69 3 75 bs _ ck Try.underlying69 h.s
  have hf := (Fr.refl NoB w).alloc (.mapIter (some bs) ck #[] ck)
  have hnx := next_one (P := Try.prog) (ty := 0) (heap_alloc_new w (.mapIter (some bs) ck #[] ck)) (h.s.fr hf id) h.bk
  have hsz : w.heap.size < (w.alloc (.mapIter (some bs) ck #[] ck)).heap.size := by simp
  have hf2 : Fr NoB w (setBlock (w.alloc (.mapIter (some bs) ck #[] ck)) w.heap.size (.mapIter (some bs) ck #[bo] ck)) := hf.setBlock (fun h => absurd h (Nat.lt_irrefl _)) _
  have hr2 := heap_setBlock_eq (w.alloc (.mapIter (some bs) ck #[] ck)) w.heap.size (.mapIter (some bs) ck #[bo] ck) hsz
  have hen := entry_one (P := Try.prog) hr2 (h.s.fr hf2 id)
  have hc2 := h.c.fr hf2 id
  have c1 := hc2.cell 1
  simp at c1
  have hl := len_map (P := Try.prog) (ty := 3) Try.underlying77 (hm.fr hf2 id)
  have hnx2 := next_done (P := Try.prog) (ty := 0) hr2 (h.s.fr hf2 id) h.bk
  go_enter Try.func32, Try.ntmps32
  go_wp2
  refine wp_loop_rounds 2 ?_
  rw [rounds_succ]
  go_wp2
  rw [rounds_succ]
  go_wp2
  go_ret
  exact ⟨by simp, hf2⟩
end Go.Proofs.Ytdfdmjnhekdpjaa
