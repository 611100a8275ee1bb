import Derived.Test.YtdfdmjnhekdpjaaD2
namespace Go.Proofs.Ytdfdmjnhekdpjaa
set_option linter.unusedVariables false
set_option linter.unusedSimpArgs false
open Go.RowKit
open Go.ChangeMaps (setBlock)

theorem next_nil {P : Program} {w : World} {r s c : Nat} {ty : TypeId} {seen : Array Nat} (hr : w.heap[r]? = some (.mapIter none s seen c)) : (Instr.next (.pointer (some ⟨r, 0, none⟩)) false ty).run P w = .ok (.tuple #[.bool false]) w := by
  simp [Instr.next, getObj, Sem.run, hr]

theorem sweep_empty (w : World) (bc bm clock : Nat) (fl : Int) (hc : Blk w bc 79 #[.int .u64 fl, .map (some bm)]) (hm : Mp w bm #[] clock) :
    Calls Try.prog 35 #[.pointer (some ⟨bc, 0, none⟩)] w fun e w' => (∃ v, e = .returned v) ∧ Fr NoB w w' := by
  have hf := (Fr.refl NoB w).alloc (.cells #[.pointer (some ⟨bc, 0, none⟩)] 75)
  have hc1 := hc.fr hf id
  have d0 := hc1.cell 0
  have d1 := hc1.cell 1
  simp at d0 d1
  have H := Lib.hid (delf_empty _ bm clock w.heap.size (hm.fr hf id))
  go_enter Try.func35, Try.ntmps35
  go_wp2_with fail
  refine H.out.mono ?_
  rintro e w1 ⟨⟨v, rfl⟩, hf1⟩
  go_wp2
  go_end0
  exact ⟨⟨_, rfl⟩, hf.trans hf1 (fun _ h _ => h)⟩

theorem sweep_one (w : World) (bc bm clock : Nat) (tok st fl : Int) (d : Bool) (A : Option Addr) (n c : Nat) (b : Nat) (hc : Blk w bc 79 #[.int .u64 fl, .map (some bm)])
    (hm : Mp w bm #[⟨.int .u64 tok, .agg #[.bool d, .int .i64 st, .slice A n c], b⟩] clock) (hb : b < clock) :
    Calls Try.prog 35 #[.pointer (some ⟨bc, 0, none⟩)] w fun e w' => (∃ v, e = .returned v) ∧
      ((d && decide (tok < fl)) = true → Mp w' bm #[] clock ∧ Fr (OneB bm) w w') ∧ ((d && decide (tok < fl)) = false → Fr NoB w w') := by
  have hf := (Fr.refl NoB w).alloc (.cells #[.pointer (some ⟨bc, 0, none⟩)] 75)
  have hc1 := hc.fr hf id
  have d0 := hc1.cell 0
  have d1 := hc1.cell 1
  simp at d0 d1
  have hbx : (w.alloc (.cells #[.pointer (some ⟨bc, 0, none⟩)] 75)).cell? ⟨w.heap.size, 0, none⟩ = some (.pointer (some ⟨bc, 0, none⟩)) := (Blk.new w 75 #[.pointer (some ⟨bc, 0, none⟩)]).cell 0
  have H := Lib.hid (delf_one _ bm clock w.heap.size bc tok st fl d A n c b (hm.fr hf id) hb hbx d0)
  go_enter Try.func35, Try.ntmps35
  go_wp2_with fail
  refine H.out.mono ?_
  rintro e w1 ⟨⟨v, rfl⟩, h1, h2⟩
  go_wp2
  go_end0
  exact ⟨⟨_, rfl⟩, fun h => ⟨(h1 h).1, (hf.mono (fun _ h _ => h.elim)).trans (h1 h).2 (fun _ h _ => h)⟩, fun h => hf.trans (h2 h) (fun _ h _ => h)⟩

/-- A table without clients. -/
def Tab0 (w : World) (bt : Nat) : Prop := Blk w bt 71 #[.map none]
/-- A table of one client. -/
structure Tab1 (w : World) (S : Nat → Prop) (bt bs bc bm : Nat) (num fl : Int) (bo ck : Nat) : Prop where
  t : Blk w bt 71 #[.map (some bs)]
  s : Mp w bs #[⟨.int .i64 num, .pointer (some ⟨bc, 0, none⟩), bo⟩] ck
  c : Blk w bc 79 #[.int .u64 fl, .map (some bm)]
  bk : bo < ck
  st : S bt
  ss : S bs
  sc : S bc
  sm : S bm
  cm : bc ≠ bm
  sn : bs ≠ bm
theorem Tab1.fr {w w' : World} {S T : Nat → Prop} {bt bs bc bm : Nat} {num fl : Int} {bo ck : Nat} (h : Tab1 w S bt bs bc bm num fl bo ck) (hf : Fr T w w') (h1 : ¬ T bt) (h2 : ¬ T bs) (h3 : ¬ T bc) : Tab1 w' S bt bs bc bm num fl bo ck :=
  ⟨h.t.fr hf h1, h.s.fr hf h2, h.c.fr hf h3, h.bk, h.st, h.ss, h.sc, h.sm, h.cm, h.sn⟩

theorem New_any (w : World) : Calls Try.prog 14 #[] w fun e w' => e = .returned (.pointer (some ⟨w.heap.size, 0, none⟩)) ∧ Tab0 w' w.heap.size ∧ w'.heap.size = w.heap.size + 1 ∧ Fr NoB w w' := by
  go_enter Try.func14, Try.ntmps14
  go_wp2
  go_ret
  exact ⟨rfl, Blk.new _ _ _, by simp, (Fr.refl NoB w).alloc _⟩

/-- Len of no client. -/
theorem Len_0 (w : World) (bt : Nat) (h : Tab0 w bt) : Calls Try.prog 32 #[.pointer (some ⟨bt, 0, none⟩)] w fun e w' => e = .returned (.int .i64 0) ∧ Fr NoB w w' := by
  have d0 := Blk.cell h 0
  simp at d0
  have hr := run_range_nilMap (P := Try.prog) w 69 3 75 Try.underlying69
  have hf := (Fr.refl NoB w).alloc (.mapIter none 0 #[] 0)
  have hnx := next_nil (P := Try.prog) (ty := 0) (heap_alloc_new w (.mapIter none 0 #[] 0))
  go_enter Try.func32, Try.ntmps32
  go_wp2
  refine wp_loop_rounds 1 ?_
  rw [rounds_succ]
  go_wp2
  go_ret
  exact ⟨rfl, hf⟩
end Go.Proofs.Ytdfdmjnhekdpjaa
