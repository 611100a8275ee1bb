import Derived.RangeFuncNested
import Derived.RangeFuncBound
import Derived.RangeFuncCalls
import Derived.RangeFuncLeaves
import Derived.RangeFuncOne
import Derived.Shelf.Abstract
import Derived.Shelf.RegionOpen
import Derived.WalkKit
import Derived.OwnWalkIn
import Derived.TacticsInMore
import Derived.LoopNIn
import Derived.LoopIn
import Derived.Maps.AppendAt
import Derived.Sort.EveryDepth
import Derived.Test.YtdfdmjnhekdpjaaD8
namespace Go.Proofs.Ytdfdmjnhekdpjaa
set_option linter.unusedVariables false
set_option linter.unusedSimpArgs false
open Go.RowKit Go.Shelf
open Go.ChangeMaps (setBlock)
attribute [local go_sem] Oper.semAt_some

set_option maxRecDepth 100000 in
set_option maxHeartbeats 1000000 in
/-- maps.Keys's iterator over a map of one entry. -/
theorem keys1_stops (F : Fence) (n : Nat) (h46 : F.fn 46) (hro : F.round = none) (hn : 1 ≤ n) (w : World) (bx bm clock b : Nat) (tok : Int) (v : Value) (hbx : w.cell? ⟨bx, 0, none⟩ = some (.map (some bm)))
    (hm : Mp w bm #[⟨.int .u64 tok, v, b⟩] clock) (hb : b < clock) : SeqStops F n Try.prog 46 #[.pointer (some ⟨bx, 0, none⟩)] (Value.int .u64) (fun xs => xs = [tok]) (fun _ => True) 1 w := by
  intro l J Jx W hW hJ hJx hY h0
  have hm1 : Mp W bm #[⟨.int .u64 tok, v, b⟩] clock := (hW.block bm hm.lt).trans hm
  have hbx1 : W.cell? ⟨bx, 0, none⟩ = some (.map (some bm)) := (hW.cell (p := ⟨bx, 0, none⟩) (World.block_lt_of_cell? w _ hbx)).trans hbx
  have hf := (Fr.refl NoB W).alloc (.mapIter (some bm) clock #[] clock)
  have hrng := run_range_map (P := Try.prog) W 77 43 74 bm _ clock Try.underlying77 hm1
  have hm2 := hm1.fr hf id
  have hnx := next_one (P := Try.prog) (ty := 0) (heap_alloc_new W (.mapIter (some bm) clock #[] clock)) hm2 hb
  have hsz : W.heap.size < (W.alloc (.mapIter (some bm) clock #[] clock)).heap.size := by simp
  have hf2 : Fr NoB W (setBlock (W.alloc (.mapIter (some bm) clock #[] clock)) W.heap.size (.mapIter (some bm) clock #[b] clock)) := hf.setBlock (fun h => absurd h (Nat.lt_irrefl _)) _
  have hr2 := heap_setBlock_eq (W.alloc (.mapIter (some bm) clock #[] clock)) W.heap.size (.mapIter (some bm) clock #[b] clock) hsz
  have hm3 := hm1.fr hf2 id
  have hen := entry_one (P := Try.prog) hr2 hm3
  have hJ2 : J [] (setBlock (W.alloc (.mapIter (some bm) clock #[] clock)) W.heap.size (.mapIter (some bm) clock #[b] clock)) := by
    refine hJ [] (W.alloc (.mapIter (some bm) clock #[] clock)) _ (some W.heap.size) (hJ [] W _ none h0 (World.grownBy_alloc W _ none) (fun r e => by cases e)) ?_ (fun r e => by cases e; exact ⟨Nat.le_refl _, _, heap_alloc_new W _, rfl⟩)
    exact ⟨rfl, rfl, rfl, by rw [size_setBlock]; exact Nat.le_refl _, fun k hk hne => heap_setBlock_ne _ _ _ (fun e => hne (by rw [e]))⟩
  obtain ⟨fn, tmps, assign, body, hy, hR⟩ := hY [] tok _ hJ2 (by simp)
  refine callsIn_of_wp Try.func46 rfl h46 ?_ hro
  simp only [Try.ntmps46, List.size_toArray, List.length_cons, List.length_nil, Nat.reduceAdd, Nat.reduceSub, Array.replicate_succ, Array.replicate_zero, List.push_toArray, List.append_toArray, List.nil_append, List.cons_append]
  gi_wp2
  refine wpIn_loop_rounds 2 ?_
  rw [roundsIn_succ]
  gi_wp2
  refine hR.mono ?_
  rintro e W3 (⟨rfl, hJ3, hk⟩ | ⟨rfl, hJx3⟩)
  · have hm4 : Mp W3 bm #[⟨.int .u64 tok, v, b⟩] clock := hk.same bm _ hm3 rfl
    have hr4 := hk.same W.heap.size _ hr2 rfl
    have hnx4 := next_done (P := Try.prog) (ty := 0) hr4 hm4 hb
    gi_wp2
    rw [roundsIn_succ]
    gi_wp2
    go_end0
    exact ⟨⟨_, rfl⟩, .inl ⟨[tok], rfl, hJ3⟩⟩
  · gi_wp2
    refine bodyPost_ret (results_none rfl _ _ _) rfl ?_
    exact ⟨⟨_, rfl⟩, .inr ⟨[tok], trivial, hJx3⟩⟩
end Go.Proofs.Ytdfdmjnhekdpjaa
