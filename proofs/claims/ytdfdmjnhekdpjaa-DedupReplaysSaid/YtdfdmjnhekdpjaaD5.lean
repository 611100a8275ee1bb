import Derived.Test.YtdfdmjnhekdpjaaD4
import Derived.Test.YtdfdmjnhekdpjaaWWords
import Derived.Test.YtdfdmjnhekdpjaaWLast
import Derived.Test.YtdfdmjnhekdpjaaWTab
import Derived.Test.YtdfdmjnhekdpjaaWMore
namespace Go.Proofs.Ytdfdmjnhekdpjaa
set_option linter.unusedVariables false
set_option linter.unusedSimpArgs false
open Go.RowKit Go.Proofs.YtdfdmjnhekdpjaaW.PrintWords Go.Proofs.YtdfdmjnhekdpjaaW.PrintLast Go.Proofs.YtdfdmjnhekdpjaaW.PrintMore
open Go.ChangeMaps (setBlock)
attribute [local go_sem] max2_int min2_int max_two min_two max_three min_three max_four min_four

theorem make_map (w : World) (t : TypeId) : (Instr.makeMap t none).run Try.prog w = .ok (.map (some w.heap.size)) (w.alloc (.map #[] 0)) := by
  simp [Instr.makeMap]
theorem eq_map_nil (w : World) : (binOp .eql 69 (.map none) (.map none)).run Try.prog w = .ok (.bool true) w := by kernel_rfl
theorem eq_map_some (w : World) (b : Nat) : (binOp .eql 69 (.map (some b)) (.map none)).run Try.prog w = .ok (.bool false) w := by kernel_rfl
theorem zero75 (w : World) : (zeroValue 75).run Try.prog w = .ok (.pointer none) w := by kernel_rfl
theorem zero74 (w : World) : (zeroValue 74).run Try.prog w = .ok (.agg #[.bool false, .int .i64 0, .slice none 0 0]) w := by kernel_rfl

theorem results_verdict {fn : Func} {p : Tmp} (h : fn.results = #[.cell p 47]) (tmps : Array Value) (W : World) (b : Nat) (hp : tmps.getD p undef = .pointer (some ⟨b, 0, none⟩)) {a s : Int} {A : Option Addr} {n c : Nat}
    (hb : Blk W b 47 #[.int .i64 a, .int .i64 s, .slice A n c]) : (results fn tmps).run Try.prog W = .ok (.agg #[.int .i64 a, .int .i64 s, .slice A n c]) W :=
  results_cell_row h tmps W b 47 _ (0, 0) _ hp hb Try.underlying47 rfl (by kernel_rfl)

set_option maxHeartbeats 4000000 in
set_option maxRecDepth 100000 in
theorem offer_new (w : World) (bt : Nat) (num tok fl : Int) (h : Tab0 w bt) (hf0 : 1 ≤ fl) (hf1 : fl ≤ tok) (hf2 : tok - fl < 16) (ht : tok < 18446744073709551616) :
    Calls Try.prog 33 #[.pointer (some ⟨bt, 0, none⟩), .int .i64 num, .int .u64 tok, .int .u64 fl, .agg #[.bool false, .int .i64 0, .slice none 0 0]] w fun e w' => e = .returned (.agg #[.int .i64 1, .int .i64 0, .slice none 0 0]) ∧
      ∃ bs bc bm, Tab1 w' (fun k => k = bt ∨ w.heap.size ≤ k) bt bs bc bm num fl 0 1 ∧ Mp w' bm #[⟨.int .u64 tok, .agg #[.bool false, .int .i64 0, .slice none 0 0], 0⟩] 1 ∧ Fr (OneB bt) w w' := by
  have hbtl := Blk.lt h
  have fr2 := ((Fr.refl NoB w).alloc (.cells #[.bool false, .int .i64 0, .slice none 0 0] 74)).alloc (.cells #[.int .i64 0, .int .i64 0, .slice none 0 0] 47)
  have h2 := Blk.fr h fr2 id
  have d0 := Blk.cell h2 0
  simp at d0
  have hlk := fun w => lookup_nil (P := Try.prog) (w := w) (t := 69) (kt := 3) (et := 75) Try.underlying69 Try.underlying3 (.pointer none) zero75 num true
  have hln := fun w => len_nil_map (P := Try.prog) (w := w) (t := 69) (ty := 3) Try.underlying69
  have hb9 := (Blk.new w 74 #[.bool false, .int .i64 0, .slice none 0 0]).alloc (.cells #[.int .i64 0, .int .i64 0, .slice none 0 0] 47)
  have hb10 := Blk.new (w.alloc (.cells #[.bool false, .int .i64 0, .slice none 0 0] 74)) 47 #[.int .i64 0, .int .i64 0, .slice none 0 0]
  rw [show (w.alloc (.cells #[.bool false, .int .i64 0, .slice none 0 0] 74)).heap.size = w.heap.size + 1 by simp] at hb10
  have hmn : (if tok < fl then tok else fl) = fl := if_neg (by omega)
  have hmx : (if 1 < fl then fl else 1) = fl := by split <;> omega
  go_enter Try.func33, Try.ntmps33
  go_wp2_with fail
  generalize ((w.alloc (.cells #[.bool false, .int .i64 0, .slice none 0 0] 74)).alloc (.cells #[.int .i64 0, .int .i64 0, .slice none 0 0] 47)) = W1 at *
  rw [make_map]
  go_wp2_with fail
  have fr3 := ((Fr.refl NoB W1).alloc (.map #[] 0)).alloc (.cells #[.int .u64 fl, .map (some W1.heap.size)] 79)
  have hbm : Mp ((W1.alloc (.map #[] 0)).alloc (.cells #[.int .u64 fl, .map (some W1.heap.size)] 79)) W1.heap.size #[] 0 := (Mp.new W1 #[] 0).fr ((Fr.refl NoB _).alloc _) id
  have hbc := Blk.new (W1.alloc (.map #[] 0)) 79 #[.int .u64 fl, .map (some W1.heap.size)]
  rw [show (W1.alloc (.map #[] 0)).heap.size = W1.heap.size + 1 by simp] at hbc
  have hsw := sweep_empty _ (W1.heap.size + 1) W1.heap.size 0 fl hbc hbm
  have hw1 := fr2.size
  have hlt9 := hb9.lt
  have hlt10 := hb10.lt
  generalize ((W1.alloc (.map #[] 0)).alloc (.cells #[.int .u64 fl, .map (some W1.heap.size)] 79)) = W3 at *
  refine hsw.mono ?_
  rintro e W4 ⟨⟨v, rfl⟩, fr4⟩
  have fr34 := fr3.trans fr4 (fun _ h _ => h)
  have h4 := h2.fr fr34 id
  have hb9' := hb9.fr fr34 id
  have hb10' := hb10.fr fr34 id
  have hbm' := hbm.fr fr4 id
  have hbc' := hbc.fr fr4 id
  have fr04 := fr2.trans fr34 (fun _ h _ => h)
  have hlk2 := lookup_empty (P := Try.prog) (t := 77) (kt := 43) (et := 74) hbm' Try.underlying77 Try.underlying43 _ zero74 tok true
  have fr5 := (Fr.refl NoB W4).alloc (.cells #[.bool false, .int .i64 0, .slice none 0 0] 74)
  have e0 := hbc'.cell 0
  have e1 := hbc'.cell 1
  have g0 := (hbc'.fr fr5 id).cell 0
  simp at e0 e1 g0
  have hL := Len_0 _ bt (h4.fr fr5 id)
  have fr05 := fr04.trans fr5 (fun _ h _ => h)
  have hb9' := hb9'.fr fr5 id
  have hb10' := hb10'.fr fr5 id
  have hbm' := hbm'.fr fr5 id
  have hbc' := hbc'.fr fr5 id
  have h4 := h4.fr fr5 id
  clear hsw hb9 hb10 hbm hbc h2 fr2 fr3 fr4 d0 h fr34 fr04
  have k1 : decide (tok < fl) = false := decide_eq_false (by omega)
  have hwr : IntKind.u64.wrap (tok - fl) = tok - fl := by
    show (tok - fl) % 18446744073709551616 = tok - fl
    omega
  have k2 : decide (16 ≤ tok - fl) = false := decide_eq_false (by omega)
  go_wp2_with fail
  generalize (W4.alloc (.cells #[.bool false, .int .i64 0, .slice none 0 0] 74)) = W5 at *
  refine hL.mono ?_
  rintro e W6 ⟨rfl, fr6⟩
  have fr06 := fr05.trans fr6 (fun _ h _ => h)
  have hb9 := hb9'.fr fr6 id
  have hb10 := hb10'.fr fr6 id
  have hbm := hbm'.fr fr6 id
  have hbc := hbc'.fr fr6 id
  have h6 := h4.fr fr6 id
  clear hb9' hb10' hbm' hbc' h4 hL hlk2 fr5 e0 e1 g0 fr05 fr6
  have e0 := hbc.cell 0
  have e1 := hbc.cell 1
  have c0 := hb9.cell 0
  have c1 := hb9.cell 1
  have c2 := hb9.cell 2
  have d0 := h6.cell 0
  simp at e0 e1 c0 c1 c2 d0
  have hup := update_empty (P := Try.prog) (t := 77) (kt := 43) (et := 74) (show Mp W6.drew W1.heap.size #[] 0 from hbm) Try.underlying77 Try.underlying43 tok (.agg #[.bool false, .int .i64 0, .slice none 0 0])
  have hbtw : bt < W1.heap.size := Nat.lt_of_lt_of_le hbtl hw1
  have fr7 : Fr (OneB W1.heap.size) W6 (setBlock W6.drew W1.heap.size (.map #[⟨.int .u64 tok, .agg #[.bool false, .int .i64 0, .slice none 0 0], 0⟩] 1)) := ((Fr.refl (OneB W1.heap.size) W6).drew).setBlock (fun _ => (show OneB W1.heap.size W1.heap.size from rfl)) _
  have hbm7 : Mp (setBlock W6.drew W1.heap.size (.map #[⟨.int .u64 tok, .agg #[.bool false, .int .i64 0, .slice none 0 0], 0⟩] 1)) W1.heap.size _ 1 := (show Mp W6.drew W1.heap.size #[] 0 from hbm).set_ _ _
  have hb10' := hb10.fr fr7 (fun e => by have : w.heap.size + 1 = W1.heap.size := e; omega)
  have hbc' := hbc.fr fr7 (fun e => by have : W1.heap.size + 1 = W1.heap.size := e; omega)
  have h7 := h6.fr fr7 (fun e => by have : bt = W1.heap.size := e; omega)
  go_wp2
  go_region
  generalize (setBlock W6.drew W1.heap.size (.map #[⟨.int .u64 tok, .agg #[.bool false, .int .i64 0, .slice none 0 0], 0⟩] 1)) = W7 at *
  clear hb9 hb10 hbc hbm e0 e1 c0 c1 c2 d0 hup
  have fr07 := fr06.trans fr7 (S' := OneB W1.heap.size) (fun b hb hl => by have : b = W1.heap.size := hb; omega)
  have d0 := h7.cell 0
  simp at d0
  have hem := eq_map_nil W7
  have h8 := Blk.alloc h7 (.map #[] 0)
  have p0 := h8.cell 0
  have p1 := h8.frozen 0
  simp at p0
  go_wp2_with fail
  rw [make_map]
  have fr8 : Fr (OneB bt) W7 ((W7.alloc (.map #[] 0)).setCell ⟨bt, 0, none⟩ (.map (some W7.heap.size))) := ((Fr.refl (OneB bt) W7).alloc _).setCell (p := ⟨bt, 0, none⟩) (fun _ => rfl) _
  have h9 : Blk ((W7.alloc (.map #[] 0)).setCell ⟨bt, 0, none⟩ (.map (some W7.heap.size))) bt 71 #[.map (some W7.heap.size)] := h8.set_ 0 _
  have d9 := h9.cell 0
  simp at d9
  have hs9 : Mp ((W7.alloc (.map #[] 0)).setCell ⟨bt, 0, none⟩ (.map (some W7.heap.size))) W7.heap.size #[] 0 := (Mp.new W7 #[] 0).fr ((Fr.refl (OneB bt) _).setCell (p := ⟨bt, 0, none⟩) (fun _ => rfl) _) (fun e => by have : W7.heap.size = bt := e; have := fr07.size; omega)
  have hb10 := hb10'.fr fr8 (fun e => by have : w.heap.size + 1 = bt := e; omega)
  have hbc := hbc'.fr fr8 (fun e => by have : W1.heap.size + 1 = bt := e; omega)
  have hbm9 := hbm7.fr fr8 (fun e => by have : W1.heap.size = bt := e; omega)
  have fr09 := (fr07.mono (S' := OneB bt) (fun b hb hl => hb.elim)).trans fr8 (fun _ h _ => h)
  have hs7 := fr07.size
  have hs7' := hbc'.lt
  go_wp2_with fail
  rw [update_empty hs9 Try.underlying69 Try.underlying3]
  have frA : Fr (OneB W7.heap.size) ((W7.alloc (.map #[] 0)).setCell ⟨bt, 0, none⟩ (.map (some W7.heap.size))) (setBlock ((W7.alloc (.map #[] 0)).setCell ⟨bt, 0, none⟩ (.map (some W7.heap.size))) W7.heap.size (.map #[⟨.int .i64 num, .pointer (some ⟨W1.heap.size + 1, 0, none⟩), 0⟩] 1)) :=
    (Fr.refl (OneB W7.heap.size) _).setBlock (fun _ => (show OneB W7.heap.size W7.heap.size from rfl)) _
  have hsA := hs9.set_ #[⟨.int .i64 num, .pointer (some ⟨W1.heap.size + 1, 0, none⟩), 0⟩] (0 + 1)
  have hA := h9.fr frA (fun e => by have : bt = W7.heap.size := e; omega)
  have hb10A := hb10.fr frA (fun e => by have : w.heap.size + 1 = W7.heap.size := e; omega)
  have hbcA := hbc.fr frA (fun e => by have : W1.heap.size + 1 = W7.heap.size := e; omega)
  have hbmA := hbm9.fr frA (fun e => by have : W1.heap.size = W7.heap.size := e; omega)
  have fr0A := fr09.trans frA (fun b hb hl => by have : b = W7.heap.size := hb; omega)
  simp only [Nat.zero_add] at hsA ⊢
  generalize (setBlock ((W7.alloc (.map #[] 0)).setCell ⟨bt, 0, none⟩ (.map (some W7.heap.size))) W7.heap.size (.map #[⟨.int .i64 num, .pointer (some ⟨W1.heap.size + 1, 0, none⟩), 0⟩] 1)) = WA at *
  have z0 := hb10A.cell 0
  have z1 := hb10A.cell 1
  have z2 := hb10A.cell 2
  have y0 := hb10A.frozen 0
  have y1 := hb10A.frozen 1
  have y2 := hb10A.frozen 2
  simp at z0 z1 z2
  go_wp2_with fail
  have hB := ((hb10A.set_ 0 (.int .i64 1)).set_ 1 (.int .i64 0)).set_ 2 (.slice none 0 0)
  have frB : Fr (OneB (w.heap.size + 1)) WA (((WA.setCell ⟨w.heap.size + 1, 0, none⟩ (.int .i64 1)).setCell ⟨w.heap.size + 1, 1, none⟩ (.int .i64 0)).setCell ⟨w.heap.size + 1, 2, none⟩ (.slice none 0 0)) :=
    (((Fr.refl (OneB (w.heap.size + 1)) WA).setCell (p := ⟨w.heap.size + 1, 0, none⟩) (fun _ => rfl) _).setCell (p := ⟨w.heap.size + 1, 1, none⟩) (fun _ => rfl) _).setCell (p := ⟨w.heap.size + 1, 2, none⟩) (fun _ => rfl) _
  simp at hB
  refine bodyPost_ret (results_verdict rfl _ _ (w.heap.size + 1) (by rfl) hB) rfl ⟨rfl, W7.heap.size, W1.heap.size + 1, W1.heap.size, ⟨hA.fr frB (fun e => by have : bt = w.heap.size + 1 := e; omega), hsA.fr frB (fun e => by have : W7.heap.size = w.heap.size + 1 := e; omega),
    hbcA.fr frB (fun e => by have : W1.heap.size + 1 = w.heap.size + 1 := e; omega), Nat.zero_lt_one, .inl rfl, .inr (by omega), .inr (by omega), .inr (by omega), by omega, by omega⟩, hbmA.fr frB (fun e => by have : W1.heap.size = w.heap.size + 1 := e; omega),
    fr0A.trans frB (fun b hb hl => by have : b = w.heap.size + 1 := hb; omega)⟩
end Go.Proofs.Ytdfdmjnhekdpjaa
