import Derived.RangeFuncBox
import Derived.Test.YtdfdmjnhekdpjaaD9
namespace Go.Proofs.Ytdfdmjnhekdpjaa
set_option linter.unusedVariables false
set_option linter.unusedSimpArgs false
open Go.RowKit Go.Shelf
attribute [local go_sem] Oper.semAt_some

theorem info43 : (Try.prog.info? 43).map (fun i => (i.zero, i.size, i.bytes)) = some (some (.int .u64 0), 1, 8) := by kernel_rfl

set_option maxRecDepth 100000 in
set_option maxHeartbeats 2000000 in
/-- slices.AppendSeq of nothing and a map's keys, the map of one entry. -/
theorem appendSeq_in (F : Fence) (n : Nat) (h49 : F.fn 49) (h46 : F.fn 46) (hro : F.round = none) (hn : 3 ≤ n) (w : World) (bx bm clock b : Nat) (tok : Int) (v : Value) (hbx : w.cell? ⟨bx, 0, none⟩ = some (.map (some bm)))
    (hm : Mp w bm #[⟨.int .u64 tok, v, b⟩] clock) (hb : b < clock) :
    CallsIn F n Try.prog 49 #[.slice none 0 0, .func (.func 46) #[] #[.pointer (some ⟨bx, 0, none⟩)]] w fun e W' => ∃ r, e = .returned r ∧ W'.ownsRow w.heap.size 43 1 r 1 [.int .u64 tok] ∧ Below w.heap.size w W' := by
  have h1 : 1 ≤ n := by omega
  obtain ⟨i0, hi, hz0, hz1, hz2⟩ := info_parts info43
  refine callsIn_of_wp_marks Try.func49 rfl h49 ?_ hro
  simp only [Try.ntmps49, List.size_toArray, List.length_cons, List.length_nil, Nat.reduceAdd, Nat.reduceSub, Array.replicate_succ, Array.replicate_zero, List.push_toArray, List.append_toArray, List.nil_append, List.cons_append]
  gi_wp2
  have bO := Boxed.new w 51 (.slice none 0 0)
  have hfr : Fr NoB w (w.alloc (.cells #[.slice none 0 0] 51)) := (Fr.refl NoB w).alloc _
  have hB0 : Below w.heap.size w (w.alloc (.cells #[.slice none 0 0] 51)) := hfr.below_all
  refine wpIn_rangeFunc_ownG hro h1 (gf := 46) (lb := #[.pointer (some ⟨bx, 0, none⟩)]) rfl h46 (enters_of Try.func46 (by kernel_rfl) rfl)
    (keys1_stops F (n - 1) h46 hro (by omega) _ bx bm clock b tok v (hfr.cell_some hbx id) (hm.fr hfr id) hb) walksK_t walksK_b (Below.refl _ _) (fun _ => rfl)
    (fun pre W => (∃ v, Boxed W w.heap.size 51 v ∧ W.ownsRow w.heap.size 43 1 v pre.length (pre.map (Value.int .u64)) ∧ (v = .slice none 0 0 ↔ pre = [])) ∧ Below w.heap.size w W)
    (fun _ _ _ => False)
    (OwnFrom.and (Own.from (holdsRow_own w.heap.size w.heap.size 51 43 1 (fun pre : List Int => pre.length) (fun pre => pre.map (Value.int .u64)) (fun pre v => v = .slice none 0 0 ↔ pre = [])) _) (ownFrom_below (Nat.le_refl _) (by simp)))
    (fun _ _ _ _ _ hs _ _ => hs)
    ⟨⟨_, bO, World.ownsRow_nil _ _ _ _, by simp⟩, hB0⟩
    (fun x => { tmps := #[.slice none 0 0, .func (.func 46) #[] #[.pointer (some ⟨bx, 0, none⟩)], .pointer (some ⟨w.heap.size, 0, none⟩), undef, .slice none 0 0, .int .u64 x, .func (.func 46) #[] #[.pointer (some ⟨bx, 0, none⟩)], .int .u64 x, undef, undef, undef, undef, undef], defers := [] }) ?assign ?body ?done ?stop
  case assign =>
    intro l x W K hK
    gi_wp2
    exact hK
  case body =>
    rintro l pre x W ⟨⟨v, hv, hrow, hnil⟩, hB⟩ hlt
    have hc := hv.cell
    have hp0 : pre.length = 0 := by omega
    obtain rfl : pre = [] := List.length_eq_zero_iff.1 hp0
    have hmx : 0 + 1 ≤ maxLen := by decide
    simp only [List.length_nil, List.map_nil] at hrow
    clear hlt hp0
    gi_wp2_with (gi_at_builtin; refine wpListIn_append_own _ rfl _ _ 51 rfl w.heap.size 43 i0 (.int .u64 0) 1 8 Try.underlying51 hi hz0 hz1 hz2 rfl (by decide) _ _ _ rfl (hrow.alloc _) ⟨W.heap.size, 0, none⟩ 1 1 [.int .u64 x] rfl rfl (cell_one_new _ _ _) (by simp [Value.oneCell']) (by omega) (by omega) (by have := hB.size; simp; omega) ?_; intro v' w1 hown' hgrow _; simp only [Nat.zero_add, List.nil_append] at hown'; obtain ⟨g', cap', hv'⟩ := ownsRow_succ (k := 0) hown'; replace hv' : v' = .slice (some ⟨g', 0, none⟩) 1 cap' := hv'; subst hv'; obtain ⟨hv1, hv2, hr2, hk2, hb2⟩ := hv.appended (by decide) hrow hB.size (Nat.le_refl _) hown' hgrow; have hc1 := hv1.cell; have hf1 := hv1.frozen)
    exact ⟨hk2.from _, ⟨hk2.size, fun k o h hw => hk2.same k o h (Obj.not_cells_of_walk hw)⟩, ⟨_, hv2, by simpa using hr2, by simp⟩, hB.trans hb2⟩
  case done =>
    rintro D ys W hD rfl ⟨⟨v, hv, hrow, hnil⟩, hB⟩ hK
    have hc := hv.cell
    gi_wp2
    refine ⟨by simp, .inl ⟨_, _, rfl, run_takeDeferred hK, ?_⟩⟩
    exact ⟨_, results_tmp rfl _ _ _, _, rfl, ownsRow_putObj hrow _ hK rfl, hB.trans (belowK_b (w := w) (Nat.le_refl _) W D _ _ (by simp at hD; omega) hK rfl rfl)⟩
  case stop =>
    rintro D c pre W _ _ h _
    exact h.elim

theorem appendSeq_any (w : World) (bx bm clock b : Nat) (tok : Int) (v : Value) (hbx : w.cell? ⟨bx, 0, none⟩ = some (.map (some bm))) (hm : Mp w bm #[⟨.int .u64 tok, v, b⟩] clock) (hb : b < clock) :
    Calls Try.prog 49 #[.slice none 0 0, .func (.func 46) #[] #[.pointer (some ⟨bx, 0, none⟩)]] w fun e W' => ∃ r, e = .returned r ∧ W'.ownsRow w.heap.size 43 1 r 1 [.int .u64 tok] ∧ Below w.heap.size w W' :=
  calls_of_every_depth (L := [49, 46]) (n := 3) fun D => appendSeq_in (Fence.list [49, 46] (some D)) 3 (show 49 ∈ [49, 46] by decide) (show 46 ∈ [49, 46] by decide) rfl (by decide) w bx bm clock b tok v hbx hm hb

theorem collect_any (w : World) (bx bm clock b : Nat) (tok : Int) (v : Value) (hbx : w.cell? ⟨bx, 0, none⟩ = some (.map (some bm))) (hm : Mp w bm #[⟨.int .u64 tok, v, b⟩] clock) (hb : b < clock) :
    Calls Try.prog 44 #[.func (.func 46) #[] #[.pointer (some ⟨bx, 0, none⟩)]] w fun e W' => ∃ r, e = .returned r ∧ W'.ownsRow w.heap.size 43 1 r 1 [.int .u64 tok] ∧ Below w.heap.size w W' := by
  have H := Lib.hid (appendSeq_any w bx bm clock b tok v hbx hm hb)
  go_enter Try.func44, Try.ntmps44
  go_wp2_with fail
  refine H.out.mono ?_
  rintro e w1 ⟨r, rfl, ho, hB⟩
  go_wp2
  go_ret
  exact ⟨_, rfl, ho, hB⟩
end Go.Proofs.Ytdfdmjnhekdpjaa
