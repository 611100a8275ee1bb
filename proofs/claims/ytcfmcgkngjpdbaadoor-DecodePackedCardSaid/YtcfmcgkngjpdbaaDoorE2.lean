/- value.Same of a message of numbers with itself, wherever it lies. -/
import Derived.Test.YtcfmcgkngjpdbaaDoorDL
import Derived.Test.YtcfmcgkngjpdbaaDoorV6
namespace Go.Proofs.YtcfmcgkngjpdbaaDoor
set_option linter.unusedVariables false
set_option linter.unusedSimpArgs false
open Go.RowKit
attribute [local go_sem] ta_Message_Message ta_Message_Int ta_Message_Uint ta_Message_Bool

theorem eqs_Int (x : Int) (w : World) : (binOp .eql 34 (.iface 72 (.int .i64 x)) (.iface 72 (.int .i64 x))).run Tryd.prog w = .ok (.bool true) w := by
  have h : (binOp .eql 34 (.iface 72 (.int .i64 x)) (.iface 72 (.int .i64 x))).run Tryd.prog w = .ok (.bool (x == x)) w := by kernel_rfl
  rw [h, beq_self_eq_true]
theorem eqs_Uint (x : Int) (w : World) : (binOp .eql 34 (.iface 68 (.int .u64 x)) (.iface 68 (.int .u64 x))).run Tryd.prog w = .ok (.bool true) w := by
  have h : (binOp .eql 34 (.iface 68 (.int .u64 x)) (.iface 68 (.int .u64 x))).run Tryd.prog w = .ok (.bool (x == x)) w := by kernel_rfl
  rw [h, beq_self_eq_true]
theorem eqs_Bool (x : Bool) (w : World) : (binOp .eql 34 (.iface 73 (.bool x)) (.iface 73 (.bool x))).run Tryd.prog w = .ok (.bool true) w := by
  cases x <;> kernel_rfl
attribute [local go_sem] eqs_Int eqs_Uint eqs_Bool

def Num1 (y : Nd 1) : Prop := (show Rec (Nd 0) from y).k = 1 ∨ (show Rec (Nd 0) from y).k = 2 ∨ (show Rec (Nd 0) from y).k = 3
theorem leaf_num (k : Int) (n : Nat) : Num1 (leaf k n) := by
  unfold Num1 leaf
  by_cases h1 : k = 1
  · simp [h1]
  · by_cases h3 : k = 3
    · simp [h3]
    · by_cases h4 : k = 4
      · simp [h4]
      · simp [h1, h3, h4]
theorem num1_val {w w' : World} {ok ok' : Nat → Prop} {y : Rec (Nd 0)} {v v' : Value} (hy : y.k = 1 ∨ y.k = 2 ∨ y.k = 3) (h : ValAt (0 + 1) w ok y v) (h' : ValAt (0 + 1) w' ok' y v') :
    v' = v ∧ ((∃ x, v = .iface 72 (.int .i64 x)) ∨ (∃ x, v = .iface 68 (.int .u64 x)) ∨ (∃ x, v = .iface 73 (.bool x))) := by
  obtain ⟨_, h⟩ := h
  obtain ⟨_, h'⟩ := h'
  rcases h with h | h | h | h | h | h | h | h <;> rcases h' with h' | h' | h' | h' | h' | h' | h' | h'
  all_goals first
    | exact ⟨h'.2.trans h.2.symm, .inl ⟨_, h.2⟩⟩
    | exact ⟨h'.2.trans h.2.symm, .inr (.inl ⟨_, h.2⟩)⟩
    | exact ⟨h'.2.trans h.2.symm, .inr (.inr ⟨_, h.2⟩)⟩
    | (exfalso; have h1 := h.1; have h2 := h'.1; omega)
theorem same_num (v : Value) (hv : (∃ x, v = .iface 72 (.int .i64 x)) ∨ (∃ x, v = .iface 68 (.int .u64 x)) ∨ (∃ x, v = .iface 73 (.bool x))) (w : World) :
    Calls Tryd.prog 17 #[v, v] w fun e w' => e = .returned (.bool true) ∧ Fr NoB w w' := by
  rcases hv with ⟨x, rfl⟩ | ⟨x, rfl⟩ | ⟨x, rfl⟩
  all_goals go_enter Tryd.func17, Tryd.ntmps17
  all_goals go_wp2_with fail
  all_goals go_ret
  all_goals exact ⟨rfl, ((Fr.refl NoB w).alloc _).alloc _⟩

set_option maxHeartbeats 1000000 in
set_option maxRecDepth 100000 in
theorem equalV (A A' : Option Addr) (c c' : Nat) (ys : List (Nd 1)) (ok ok' : Nat → Prop) (w : World) (hy : ∀ y ∈ ys, Num1 y) (h : Row 1 (ElemR 1 w ok) w ok A ys) (h' : Row 1 (ElemR 1 w ok') w ok' A' ys) (hl : ys.length ≤ 1000000) :
    Calls Tryd.prog 29 #[.slice A ys.length c, .slice A' ys.length c', .func (.func 17) #[] #[]] w (NameR true w) := by
  have hg : ∀ args w, (callFunc 17 args).run Tryd.prog w = .ok (.enter 17 args) w := fun _ _ => by kernel_rfl
  go_enter Tryd.func29, Tryd.ntmps29
  go_wp2_with fail
  go_loopw [17] (fun iv wr => ∃ k : Nat, iv = .int .i64 k ∧ k ≤ ys.length ∧ Fr NoB w wr) (fun iv _ => ys.length - (intOf iv).toNat)
  case atStart => exact ⟨0, rfl, by omega, Fr.refl _ _⟩
  case round =>
    obtain ⟨k, rfl, hk, hf⟩ := hrel
    by_cases hlt : k < ys.length
    · have p1 : (k : Int) < (ys.length : Int) := by omega
      have p0 : (0 : Int) ≤ (k : Int) := by omega
      obtain ⟨b, o, cs, rfl, _, _, _, ⟨v, rfl, hv⟩, hcell⟩ := h.at_ k ys[k] (List.getElem?_eq_getElem hlt)
      obtain ⟨b2, o2, cs2, rfl, _, _, _, ⟨v2, rfl, hv2⟩, hcell2⟩ := h'.at_ k ys[k] (List.getElem?_eq_getElem hlt)
      obtain ⟨hvv, hvs⟩ := num1_val (y := ys[k]) (hy _ (List.getElem_mem hlt)) hv hv2
      subst hvv
      have r0 := hf.cell_some (hcell 0 _ rfl) id
      have r1 := hf.cell_some (hcell2 0 _ rfl) id
      simp only [Nat.add_zero, Nat.mul_one] at r0 r1
      have hS := Lib.hid (same_num v2 hvs wr)
      go_wp2_with fail
      refine hS.out.mono ?_
      rintro e w3 ⟨rfl, hf3⟩
      go_wp2_with fail
      go_roundw
      case rel => exact ⟨k + 1, by go_num, by omega, hf.trans hf3 (fun _ h _ => h)⟩
      case measure => simp [intOf]; omega
    · have p1 : ¬ (k : Int) < (ys.length : Int) := by omega
      go_wp2_with fail
      go_ret
      exact ⟨rfl, hf⟩

set_option maxHeartbeats 1000000 in
set_option maxRecDepth 100000 in
theorem same1_any (p : Int × List (Nd 1)) (cs cs' : List Value) (ok ok' : Nat → Prop) (w : World) (hy : ∀ y ∈ p.2, Num1 y) (h : FieldR 1 w ok p cs) (h' : FieldR 1 w ok' p cs') (hl : p.2.length ≤ 1000000) :
    Calls Tryd.prog 28 #[.agg cs.toArray, .agg cs'.toArray] w (NameR true w) := by
  obtain ⟨A, c, rfl, hc, h0, hr⟩ := h
  obtain ⟨A', c', rfl, hc', h0', hr'⟩ := h'
  have hq : (p.1 == p.1) = true := beq_self_eq_true _
  have hfT : Fr NoB w ((w.alloc (.cells #[.int .i64 p.1, .slice A p.2.length c] 78)).alloc (.cells #[.int .i64 p.1, .slice A' p.2.length c'] 78)) := ((Fr.refl NoB w).alloc _).alloc _
  have hE := Lib.hid (equalV A A' c c' p.2 ok ok' _ hy (hr.mv (Mv.new hfT) (fun _ _ _ h => h.mv (Mv.new hfT))) (hr'.mv (Mv.new hfT) (fun _ _ _ h => h.mv (Mv.new hfT))) hl)
  go_enter Tryd.func28, Tryd.ntmps28
  go_wp2_with fail
  refine hE.out.mono ?_
  rintro e w3 ⟨rfl, hf3⟩
  go_wp2_with fail
  go_ret
  exact ⟨rfl, hfT.trans hf3 (fun _ h _ => h)⟩

set_option maxHeartbeats 1000000 in
set_option maxRecDepth 100000 in
theorem equalF (A A' : Option Addr) (c c' : Nat) (fs : List (Int × List (Nd 1))) (ok ok' : Nat → Prop) (w : World) (hy : ∀ p ∈ fs, p.2.length ≤ 1000000 ∧ ∀ y ∈ p.2, Num1 y) (h : Row 2 (FieldR 1 w ok) w ok A fs) (h' : Row 2 (FieldR 1 w ok') w ok' A' fs) (hl : fs.length ≤ 1000000) :
    Calls Tryd.prog 27 #[.slice A fs.length c, .slice A' fs.length c', .func (.func 28) #[] #[]] w (NameR true w) := by
  have hg : ∀ args w, (callFunc 28 args).run Tryd.prog w = .ok (.enter 28 args) w := fun _ _ => by kernel_rfl
  go_enter Tryd.func27, Tryd.ntmps27
  go_wp2_with fail
  go_loopw [17] (fun iv wr => ∃ k : Nat, iv = .int .i64 k ∧ k ≤ fs.length ∧ Fr NoB w wr) (fun iv _ => fs.length - (intOf iv).toNat)
  case atStart => exact ⟨0, rfl, by omega, Fr.refl _ _⟩
  case round =>
    obtain ⟨k, rfl, hk, hf⟩ := hrel
    by_cases hlt : k < fs.length
    · have p1 : (k : Int) < (fs.length : Int) := by omega
      have p0 : (0 : Int) ≤ (k : Int) := by omega
      obtain ⟨hl2, hy2⟩ := hy _ (List.getElem_mem hlt)
      obtain ⟨b, o, cs, rfl, _, _, _, hR, hcell⟩ := h.at_ k fs[k] (List.getElem?_eq_getElem hlt)
      obtain ⟨b2, o2, cs2, rfl, _, _, _, hR2, hcell2⟩ := h'.at_ k fs[k] (List.getElem?_eq_getElem hlt)
      generalize fs[k] = p at *
      have hS := Lib.hid (fun w2 (hf2 : Fr NoB w w2) => same1_any p cs cs2 ok ok' w2 hy2 (hR.mv (Mv.new hf2)) (hR2.mv (Mv.new hf2)) hl2)
      obtain ⟨A1, c1, rfl, _⟩ := hR
      obtain ⟨A2, c2, rfl, _⟩ := hR2
      have r0 := hf.cell_some (hcell 0 _ rfl) id
      have r1 := hf.cell_some (hcell 1 _ rfl) id
      have t0 := hf.cell_some (hcell2 0 _ rfl) id
      have t1 := hf.cell_some (hcell2 1 _ rfl) id
      simp only [Nat.add_zero] at r0 t0
      have hfA : Fr NoB wr (wr.alloc (.cells #[.int .i64 p.1, .slice A1 p.2.length c1] 78)) := (Fr.refl NoB wr).alloc _
      have t0 := hfA.cell_some t0 id
      have t1 := hfA.cell_some t1 id
      have hfB := hfA.alloc (.cells #[.int .i64 p.1, .slice A2 p.2.length c2] 78)
      have hb1 := (Blk.new wr 78 #[.int .i64 p.1, .slice A1 p.2.length c1]).alloc (.cells #[.int .i64 p.1, .slice A2 p.2.length c2] 78)
      have m0 := hb1.cell 0
      have m1 := hb1.cell 1
      simp at m0 m1
      go_wp2_with fail
      refine (hS.out _ (hf.trans hfB (fun _ h _ => h))).mono ?_
      rintro e w3 ⟨rfl, hf3⟩
      go_wp2_with fail
      go_roundw
      case rel => exact ⟨k + 1, by go_num, by omega, (hf.trans hfB (fun _ h _ => h)).trans hf3 (fun _ h _ => h)⟩
      case measure => simp [intOf]; omega
    · have p1 : ¬ (k : Int) < (fs.length : Int) := by omega
      go_wp2_with fail
      go_ret
      exact ⟨rfl, hf⟩

set_option maxHeartbeats 1000000 in
set_option maxRecDepth 100000 in
theorem same_msg (f : FD) (vs : List Nat) (v v' : Value) (ok ok' : Nat → Prop) (w : World) (hl : vs.length ≤ 1000000) (h : ValAt 2 w ok (msgTree f vs) v) (h' : ValAt 2 w ok' (msgTree f vs) v') :
    Calls Tryd.prog 17 #[v, v'] w (NameR true w) := by
  have hfs : (show Rec (Nd 1) from msgTree f vs).fs = if vs = [] then [] else [(f.num, vs.map (leaf f.kind))] := rfl
  have hy : ∀ p ∈ (show Rec (Nd 1) from msgTree f vs).fs, p.2.length ≤ 1000000 ∧ ∀ y ∈ p.2, Num1 y := fun p hp => by
    rw [hfs] at hp
    split at hp
    · cases hp
    · rw [List.mem_singleton.1 hp]
      exact ⟨by simpa using hl, fun y hy => by
        obtain ⟨n, _, rfl⟩ := List.mem_map.1 hy
        exact leaf_num _ _⟩
  have hfl : (show Rec (Nd 1) from msgTree f vs).fs.length ≤ 1000000 := by
    rw [hfs]
    split <;> simp
  obtain ⟨A, c, rfl, hc, h0, hr⟩ := ValAt.msg (d := 1) (x := msgTree f vs) h rfl
  obtain ⟨A', c', rfl, hc', h0', hr'⟩ := ValAt.msg (d := 1) (x := msgTree f vs) h' rfl
  have ht : (show Rec (Nd 1) from msgTree f vs).t = 0 := rfl
  have hs : (show Rec (Nd 1) from msgTree f vs).s = ⟨#[]⟩ := rfl
  rw [ht, hs]
  generalize (show Rec (Nd 1) from msgTree f vs).fs = fs at *
  clear hfs ht hs
  have hfT : Fr NoB w ((w.alloc (.cells #[.int .i64 0, .slice A fs.length c, .string ⟨#[]⟩] 30)).alloc (.cells #[.int .i64 0, .slice A' fs.length c', .string ⟨#[]⟩] 30)) := ((Fr.refl NoB w).alloc _).alloc _
  have hE := Lib.hid (fun w2 (hf : Fr NoB w w2) => equalF A A' c c' fs ok ok' w2 hy (Row.mv (FieldsAt.row hr) (Mv.new hf) (fun _ _ _ h => FieldR.mv h (Mv.new hf))) (Row.mv (FieldsAt.row hr') (Mv.new hf) (fun _ _ _ h => FieldR.mv h (Mv.new hf))) hfl)
  have hmf : ∀ (fn : Fn) (first cap : Array Value) (w : World), (Instr.makeFunc fn first cap).run Tryd.prog w = .ok (.func fn first cap) w := fun _ _ _ _ => rfl
  have hb1 := (Blk.new w 30 #[.int .i64 0, .slice A fs.length c, .string ⟨#[]⟩]).alloc (.cells #[.int .i64 0, .slice A' fs.length c', .string ⟨#[]⟩] 30)
  have hb2 := Blk.second w (.cells #[.int .i64 0, .slice A fs.length c, .string ⟨#[]⟩] 30) 30 #[.int .i64 0, .slice A' fs.length c', .string ⟨#[]⟩]
  have m0 := hb1.cell 0
  have m1 := hb1.cell 1
  have m2 := hb1.cell 2
  have l0 := hb2.cell 0
  have l1 := hb2.cell 1
  have l2 := hb2.cell 2
  simp at m0 m1 m2 l0 l1 l2
  go_enter Tryd.func17, Tryd.ntmps17
  go_wp2_with fail
  refine (hE.out _ hfT).mono ?_
  rintro e w3 ⟨rfl, hf3⟩
  go_wp2_with fail
  go_ret
  exact ⟨rfl, hfT.trans hf3 (fun _ h _ => h)⟩
end Go.Proofs.YtcfmcgkngjpdbaaDoor
