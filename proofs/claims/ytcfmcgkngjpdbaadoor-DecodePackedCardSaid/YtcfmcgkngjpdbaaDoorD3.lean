/- Maps of at most one entry; value.Known; decode.own; value.Zero. -/
import Derived.Test.YtcfmcgkngjpdbaaDoorD2
namespace Go.Proofs.YtcfmcgkngjpdbaaDoor
set_option linter.unusedVariables false
set_option linter.unusedSimpArgs false
open Go.RowKit
open Go.ChangeMaps (setBlock)

section
variable {P : Program} {w : World} {bm clock : Nat} {t kt et : TypeId} {q : IntKind}
theorem run_findKey_nil (hk : P.underlying kt = some (.int q)) (a : Int) : (Instr.findKey kt (.int q a) []).run P w = .ok none w := by
  simp [Instr.findKey, run_underlying hk, Instr.findNow]
theorem run_findKey_hit (hk : P.underlying kt = some (.int q)) (a : Int) (v : Value) (b : Nat) : (Instr.findKey kt (.int q a) [⟨.int q a, v, b⟩]).run P w = .ok (some (0, v)) w := by
  simp [Instr.findKey, run_underlying hk, Instr.findNow, Instr.sameNow]
theorem run_findKey_miss (hk : P.underlying kt = some (.int q)) (a c : Int) (hne : (a == c) = false) (v : Value) (b : Nat) : (Instr.findKey kt (.int q a) [⟨.int q c, v, b⟩]).run P w = .ok none w := by
  simp [Instr.findKey, run_underlying hk, Instr.findNow, Instr.sameNow, hne]
theorem run_checkKey_int (hk : P.underlying kt = some (.int q)) (a : Int) (e : Bool) : (Instr.checkKey e 10000 kt (.int q a)).run P w = .ok () w := by
  have h : ∀ n, (Instr.checkKey e (n + 1) kt (.int q a)).run P w = .ok () w := fun n => by
    unfold Instr.checkKey
    simp [run_underlying hk]
  exact h 9999

theorem lookup_nil (ht : P.underlying t = some (.map kt et)) (hk : P.underlying kt = some (.int q)) (z : Value) (hz : ∀ w, (zeroValue et).run P w = .ok z w) (a : Int) (ok : Bool) :
    (Instr.lookup t (.map none) (.int q a) ok).run P w = .ok (if ok then .tuple #[z, .bool false] else z) w := by
  simp [Instr.lookup, run_underlying ht, run_checkKey_int hk, run_findKey_nil hk, hz]
theorem lookup_empty (hm : Mp w bm #[] clock) (ht : P.underlying t = some (.map kt et)) (hk : P.underlying kt = some (.int q)) (z : Value) (hz : ∀ w, (zeroValue et).run P w = .ok z w) (a : Int) (ok : Bool) :
    (Instr.lookup t (.map (some bm)) (.int q a) ok).run P w = .ok (if ok then .tuple #[z, .bool false] else z) w := by
  unfold Mp at hm
  simp [Instr.lookup, run_underlying ht, MapKept.run_getObj_map hm, run_checkKey_int hk, run_findKey_nil hk, hz]
theorem lookup_hit {a : Int} {v : Value} {b : Nat} (hm : Mp w bm #[⟨.int q a, v, b⟩] clock) (ht : P.underlying t = some (.map kt et)) (hk : P.underlying kt = some (.int q)) (ok : Bool) :
    (Instr.lookup t (.map (some bm)) (.int q a) ok).run P w = .ok (if ok then .tuple #[v, .bool true] else v) w := by
  unfold Mp at hm
  simp [Instr.lookup, run_underlying ht, MapKept.run_getObj_map hm, run_checkKey_int hk, run_findKey_hit hk]
theorem lookup_miss {a c : Int} {v : Value} {b : Nat} (hm : Mp w bm #[⟨.int q c, v, b⟩] clock) (hne : (a == c) = false) (ht : P.underlying t = some (.map kt et)) (hk : P.underlying kt = some (.int q)) (z : Value) (hz : ∀ w, (zeroValue et).run P w = .ok z w) (ok : Bool) :
    (Instr.lookup t (.map (some bm)) (.int q a) ok).run P w = .ok (if ok then .tuple #[z, .bool false] else z) w := by
  unfold Mp at hm
  simp [Instr.lookup, run_underlying ht, MapKept.run_getObj_map hm, run_checkKey_int hk, run_findKey_miss hk a c hne, hz]
theorem update_empty (hm : Mp w bm #[] clock) (ht : P.underlying t = some (.map kt et)) (hk : P.underlying kt = some (.int q)) (a : Int) (v : Value) :
    (Instr.mapUpdate t (.map (some bm)) (.int q a) v).run P w = .ok () (setBlock w bm (.map #[⟨.int q a, v, clock⟩] (clock + 1))) := by
  unfold Mp at hm
  simp [Instr.mapUpdate, run_underlying ht, MapKept.run_getObj_map hm, run_checkKey_int hk, run_findKey_nil hk, MapKept.run_setObj_map _ hm, setBlock]
theorem update_hit {a : Int} {v0 : Value} {b : Nat} (hm : Mp w bm #[⟨.int q a, v0, b⟩] clock) (ht : P.underlying t = some (.map kt et)) (hk : P.underlying kt = some (.int q)) (v : Value) :
    (Instr.mapUpdate t (.map (some bm)) (.int q a) v).run P w = .ok () (setBlock w bm (.map #[⟨.int q a, v, b⟩] clock)) := by
  unfold Mp at hm
  simp [Instr.mapUpdate, run_underlying ht, MapKept.run_getObj_map hm, run_checkKey_int hk, run_findKey_hit hk, MapKept.run_setObj_map _ hm, setBlock, Instr.keyThatStays, Instr.sameBits]
theorem delete_hit {a : Int} {v : Value} {b : Nat} (ty : TypeId) (hm : Mp w bm #[⟨.int q a, v, b⟩] clock) (ht : P.underlying t = some (.map kt et)) (hk : P.underlying kt = some (.int q)) :
    (Builtin.delete_ #[t, kt] ty #[.map (some bm), .int q a]).run P w = .ok (.tuple #[]) (setBlock w bm (.map #[] clock)) := by
  unfold Mp at hm
  simp [Builtin.delete_, run_underlying ht, MapKept.run_getObj_map hm, run_checkKey_int hk, run_findKey_hit hk, MapKept.run_setObj_map _ hm, setBlock]
end

/-! ### value.Known -/
def knownB (fs : List FD) (n t : Int) : Bool := match fs.find? (fun f => f.num == n) with
  | none => false
  | some f => (t == wireP f.kind) || (f.rep && ((wireP f.kind != 2) && (t == 2)))
theorem known1_any (x : FD) (n : Int) (b : Nat) (w : World) (h : w.cell? ⟨b, 0, none⟩ = some (.int .i64 n)) : Calls Tryd.prog 73 #[.agg x.cells.toArray, .pointer (some ⟨b, 0, none⟩)] w (NameR (x.num == n) w) := by
  unfold FD.cells
  have hfa : Fr NoB w (w.alloc (.cells #[.int .i64 x.num, .string x.name, .int .i64 x.kind, .bool x.rep, .int .i64 x.typ] 48)) := (Fr.refl NoB w).alloc _
  have h' := hfa.cell_some h id
  go_enter Tryd.func73, Tryd.ntmps73
  go_wp2_with fail
  go_ret
  exact ⟨rfl, hfa⟩
set_option maxHeartbeats 1000000 in
set_option maxRecDepth 100000 in
theorem known_any (s : ByteArray) (A : Option Addr) (fs : List FD) (c : Nat) (n t : Int) (w : World) (hr : FieldsIn w A fs) (hl : fs.length ≤ 1000000) :
    Calls Tryd.prog 47 #[.agg #[.string s, .slice A fs.length c], .int .i64 n, .int .i64 t] w (NameR (knownB fs n t) w) := by
  have hmf : ∀ (fn : Fn) (first cap : Array Value) (w : World), (Instr.makeFunc fn first cap).run Tryd.prog w = .ok (.func fn first cap) w := fun _ _ _ _ => rfl
  have hfa : Fr NoB w ((w.alloc (.cells #[.string s, .slice A fs.length c] 51)).alloc (.cells #[.int .i64 n] 3)) := ((Fr.refl NoB w).alloc _).alloc _
  have hb1 := (Blk.new w 51 #[.string s, .slice A fs.length c]).alloc (.cells #[.int .i64 n] 3)
  have hb2 := Blk.second w (.cells #[.string s, .slice A fs.length c] 51) 3 #[.int .i64 n]
  go_enter Tryd.func47, Tryd.ntmps47
  go_wp2_with fail
  refine (indexFuncF (fun (x : FD) cs => cs = x.cells) 73 #[.pointer (some ⟨w.heap.size + 1, 0, none⟩)] (fun x => x.num == n) A c fs _ _ (hr.mv (Mv.new hfa) (fun _ _ _ h => h)) hl (fun _ _ => by kernel_rfl)
    (fun x cs w' hx hR hf => by subst hR; exact known1_any x n _ w' ((hb2.fr hf id).cell 0))).mono ?_
  rintro e w3 ⟨r, rfl, hix, hf3⟩
  have hf03 := hfa.trans hf3 (fun _ h _ => h)
  have c1 := (hb1.fr hf3 id).cell 1
  simp at c1
  rcases hix with ⟨i, hi, rfl, hp, hno⟩ | ⟨rfl, hno⟩
  · have hfind : fs.find? (fun f => f.num == n) = some fs[i] := by
      rw [List.find?_eq_some_iff_getElem]
      exact ⟨hp, i, hi, rfl, fun j hj => by
        have h := hno fs[j] (List.mem_take_iff_getElem.2 ⟨j, by omega, rfl⟩)
        dsimp only at h
        rw [h]; rfl⟩
    have hkb : knownB fs n t = ((t == wireP fs[i].kind) || (fs[i].rep && ((wireP fs[i].kind != 2) && (t == 2)))) := by unfold knownB; rw [hfind]
    obtain ⟨b, o, cs, rfl, _, _, _, hR, hcell⟩ := hr.at_ i fs[i] (List.getElem?_eq_getElem hi)
    subst hR
    have r0 := hf03.cell_some (hcell 0 _ rfl) id
    have r1 := hf03.cell_some (hcell 1 _ rfl) id
    have r2 := hf03.cell_some (hcell 2 _ rfl) id
    have r3 := hf03.cell_some (hcell 3 _ rfl) id
    have r4 := hf03.cell_some (hcell 4 _ rfl) id
    simp only [Nat.add_zero] at r0
    have p1 : ¬ ((i : Nat) : Int) < 0 := by omega
    have p2 : (i : Int) < (fs.length : Int) := by omega
    have p0 : (0 : Int) ≤ (i : Int) := by omega
    generalize fs[i] = x at *
    have HK := Lib.hid hkb
    clear hkb hfind
    go_wp2_with fail
    have hfb : Fr NoB w3 (w3.alloc (.cells x.cells.toArray 48)) := (Fr.refl NoB w3).alloc _
    have hbf := Blk.new w3 48 x.cells.toArray
    refine (Wire_any _ _).mono ?_
    rintro e w4 ⟨rfl, hf4⟩
    have hb4 := hbf.fr hf4 id
    have f2 := hb4.cell 2
    have f3 := hb4.cell 3
    simp [FD.cells] at f2 f3
    have hf04 := (hf03.trans hfb (fun _ h _ => h)).trans hf4 (fun _ h _ => h)
    cases hq : (t == wireP x.kind) with
    | true =>
      go_wp2_with fail
      go_ret
      exact ⟨by rw [HK.out, hq]; rfl, hf04⟩
    | false =>
      cases hrp : x.rep with
      | false =>
        rw [hrp] at f3
        go_wp2_with fail
        go_ret
        exact ⟨by rw [HK.out, hq, hrp]; rfl, hf04⟩
      | true =>
        rw [hrp] at f3
        go_wp2_with fail
        refine (Packed_any _ _).mono ?_
        rintro e w5 ⟨rfl, hf5⟩
        cases hpk : (wireP x.kind != 2) with
        | false =>
          go_wp2_with fail
          go_ret
          exact ⟨by rw [HK.out, hq, hrp, hpk]; rfl, hf04.trans hf5 (fun _ h _ => h)⟩
        | true =>
          go_wp2_with fail
          go_ret
          exact ⟨by rw [HK.out, hq, hrp, hpk]; rfl, hf04.trans hf5 (fun _ h _ => h)⟩
  · have hkb : knownB fs n t = false := by
      unfold knownB
      rw [List.find?_eq_none.2 (fun x hx => by have h := hno x hx; dsimp only at h; rw [h]; decide)]
    go_wp2_with fail
    go_ret
    exact ⟨by rw [hkb]; rfl, hf03⟩

/-! ### decode.own -/
/-- The fields that are read: all, or the last. -/
def ownP (rep : Bool) (l : List WF) : List WF := if rep then l else match l.getLast? with | none => [] | some x => [x]
def OwnR (rep : Bool) (l : List WF) (w : World) (e : Ending) (w' : World) : Prop := ∃ A c, e = .returned (.slice A (ownP rep l).length c) ∧ Row 4 (WfIn w' (fun _ => True)) w' (fun _ => True) A (ownP rep l) ∧ Fr NoB w w'
theorem own_any (x : FD) (A : Option Addr) (l : List WF) (c : Nat) (w : World) (hk : (x.kind == 10) = false) (hr : Row 4 (WfIn w (fun _ => True)) w (fun _ => True) A l) (hl : l.length ≤ 1000000) :
    Calls Tryd.prog 48 #[.agg x.cells.toArray, .slice A l.length c] w (OwnR x.rep l w) := by
  unfold FD.cells
  have hfa : Fr NoB w (w.alloc (.cells #[.int .i64 x.num, .string x.name, .int .i64 x.kind, .bool x.rep, .int .i64 x.typ] 48)) := (Fr.refl NoB w).alloc _
  go_enter Tryd.func48, Tryd.ntmps48
  cases hrp : x.rep with
  | true =>
    rw [hrp] at hfa
    go_wp2_with fail
    go_ret
    exact ⟨A, c, rfl, hr.mv (Mv.new hfa) (fun _ _ _ h => h.mv (Mv.new hfa)), hfa⟩
  | false =>
    rw [hrp] at hfa
    cases hll : l.getLast? with
    | none =>
      have hnil := List.getLast?_eq_none_iff.1 hll
      subst hnil
      have hl0 : (([] : List WF).length : Int) = 0 := rfl
      go_wp2_with fail
      go_ret
      exact ⟨A, c, rfl, Row.nil _ _ _ _ _, hfa⟩
    | some y =>
      have hpos : 0 < l.length := by
        rcases Nat.eq_zero_or_pos l.length with h | h
        · rw [List.length_eq_zero_iff.1 h] at hll; cases hll
        · exact h
      have hlast : l[l.length - 1]? = some y := by rw [← List.getLast?_eq_getElem?]; exact hll
      obtain ⟨b, o, cs, rfl, _, _, _, ⟨Ad, cd, rfl, h1, h2, h3⟩, hcell⟩ := hr.at_ (l.length - 1) y hlast
      have r0 := hfa.cell_some (hcell 0 _ rfl) id
      have r1 := hfa.cell_some (hcell 1 _ rfl) id
      have r2 := hfa.cell_some (hcell 2 _ rfl) id
      have r3 := hfa.cell_some (hcell 3 _ rfl) id
      simp only [Nat.add_zero] at r0
      have p1 : ((l.length : Nat) : Int) ≠ 0 := by omega
      have p2 : ((l.length : Nat) : Int) - 1 = ((l.length - 1 : Nat) : Int) := by omega
      have p3 : ((l.length - 1 : Nat) : Int) < (l.length : Int) := by omega
      have p0 : (0 : Int) ≤ ((l.length - 1 : Nat) : Int) := by omega
      go_wp2_with fail
      go_ret
      have hown : ownP false l = [y] := by unfold ownP; rw [hll]; rfl
      have hf3 := (hfa.alloc (.cells #[.int .i64 y.n, .int .i64 y.t, .int .u64 y.u, .slice Ad y.d.length cd] 114)).alloc (.cells #[.int .i64 y.n, .int .i64 y.t, .int .u64 y.u, .slice Ad y.d.length cd] 114)
      have hb3 := Blk.second (w.alloc (.cells #[.int .i64 x.num, .string x.name, .int .i64 x.kind, .bool false, .int .i64 x.typ] 48)) (.cells #[.int .i64 y.n, .int .i64 y.t, .int .u64 y.u, .slice Ad y.d.length cd] 114) 114 #[.int .i64 y.n, .int .i64 y.t, .int .u64 y.u, .slice Ad y.d.length cd]
      have hz : (w.alloc (.cells #[.int .i64 x.num, .string x.name, .int .i64 x.kind, .bool false, .int .i64 x.typ] 48)).heap.size = w.heap.size + 1 := by simp
      rw [hz] at hb3
      unfold OwnR
      rw [hown]
      exact ⟨_, 1, rfl, ⟨[.int .i64 y.n, .int .i64 y.t, .int .u64 y.u, .slice Ad y.d.length cd], ⟨[.int .i64 y.n, .int .i64 y.t, .int .u64 y.u, .slice Ad y.d.length cd], [], by simp, rfl, ⟨Ad, cd, rfl, h1, h2, Rd.mv h3 (Mv.new hf3)⟩, rfl⟩, Rd.of_blk (n := 1) (size := 4) _ hb3 rfl trivial⟩, hf3⟩

/-! ### value.Zero -/
theorem eqz_Int_Int (x : Int) (w : World) : (binOp .eql 34 (.iface 72 (.int .i64 x)) (.iface 72 (.int .i64 0))).run Tryd.prog w = .ok (.bool (x == 0)) w := by kernel_rfl
theorem eqz_Int_Uint (x : Int) (w : World) : (binOp .eql 34 (.iface 72 (.int .i64 x)) (.iface 68 (.int .u64 0))).run Tryd.prog w = .ok (.bool false) w := by kernel_rfl
theorem eqz_Int_Bool (x : Int) (w : World) : (binOp .eql 34 (.iface 72 (.int .i64 x)) (.iface 73 (.bool false))).run Tryd.prog w = .ok (.bool false) w := by kernel_rfl
theorem eqz_Int_Text (x : Int) (w : World) : (binOp .eql 34 (.iface 72 (.int .i64 x)) (.iface 74 (.string ⟨#[]⟩))).run Tryd.prog w = .ok (.bool false) w := by kernel_rfl
theorem eqz_Int_Bytes (x : Int) (w : World) : (binOp .eql 34 (.iface 72 (.int .i64 x)) (.iface 75 (.string ⟨#[]⟩))).run Tryd.prog w = .ok (.bool false) w := by kernel_rfl
theorem eqz_Int_Enum (x : Int) (w : World) : (binOp .eql 34 (.iface 72 (.int .i64 x)) (.iface 76 (.int .i32 0))).run Tryd.prog w = .ok (.bool false) w := by kernel_rfl
theorem eqz_Uint_Int (x : Int) (w : World) : (binOp .eql 34 (.iface 68 (.int .u64 x)) (.iface 72 (.int .i64 0))).run Tryd.prog w = .ok (.bool false) w := by kernel_rfl
theorem eqz_Uint_Uint (x : Int) (w : World) : (binOp .eql 34 (.iface 68 (.int .u64 x)) (.iface 68 (.int .u64 0))).run Tryd.prog w = .ok (.bool (x == 0)) w := by kernel_rfl
theorem eqz_Uint_Bool (x : Int) (w : World) : (binOp .eql 34 (.iface 68 (.int .u64 x)) (.iface 73 (.bool false))).run Tryd.prog w = .ok (.bool false) w := by kernel_rfl
theorem eqz_Uint_Text (x : Int) (w : World) : (binOp .eql 34 (.iface 68 (.int .u64 x)) (.iface 74 (.string ⟨#[]⟩))).run Tryd.prog w = .ok (.bool false) w := by kernel_rfl
theorem eqz_Uint_Bytes (x : Int) (w : World) : (binOp .eql 34 (.iface 68 (.int .u64 x)) (.iface 75 (.string ⟨#[]⟩))).run Tryd.prog w = .ok (.bool false) w := by kernel_rfl
theorem eqz_Uint_Enum (x : Int) (w : World) : (binOp .eql 34 (.iface 68 (.int .u64 x)) (.iface 76 (.int .i32 0))).run Tryd.prog w = .ok (.bool false) w := by kernel_rfl
theorem eqz_Enum_Int (x : Int) (w : World) : (binOp .eql 34 (.iface 76 (.int .i32 x)) (.iface 72 (.int .i64 0))).run Tryd.prog w = .ok (.bool false) w := by kernel_rfl
theorem eqz_Enum_Uint (x : Int) (w : World) : (binOp .eql 34 (.iface 76 (.int .i32 x)) (.iface 68 (.int .u64 0))).run Tryd.prog w = .ok (.bool false) w := by kernel_rfl
theorem eqz_Enum_Bool (x : Int) (w : World) : (binOp .eql 34 (.iface 76 (.int .i32 x)) (.iface 73 (.bool false))).run Tryd.prog w = .ok (.bool false) w := by kernel_rfl
theorem eqz_Enum_Text (x : Int) (w : World) : (binOp .eql 34 (.iface 76 (.int .i32 x)) (.iface 74 (.string ⟨#[]⟩))).run Tryd.prog w = .ok (.bool false) w := by kernel_rfl
theorem eqz_Enum_Bytes (x : Int) (w : World) : (binOp .eql 34 (.iface 76 (.int .i32 x)) (.iface 75 (.string ⟨#[]⟩))).run Tryd.prog w = .ok (.bool false) w := by kernel_rfl
theorem eqz_Enum_Enum (x : Int) (w : World) : (binOp .eql 34 (.iface 76 (.int .i32 x)) (.iface 76 (.int .i32 0))).run Tryd.prog w = .ok (.bool (x == 0)) w := by kernel_rfl
attribute [local go_sem] eqz_Int_Int eqz_Int_Uint eqz_Int_Bool eqz_Int_Text eqz_Int_Bytes eqz_Int_Enum eqz_Uint_Int eqz_Uint_Uint eqz_Uint_Bool eqz_Uint_Text eqz_Uint_Bytes eqz_Uint_Enum eqz_Enum_Int eqz_Enum_Uint eqz_Enum_Bool eqz_Enum_Text eqz_Enum_Bytes eqz_Enum_Enum
theorem zero_int (x : Int) (w : World) : Calls Tryd.prog 50 #[.iface 72 (.int .i64 x)] w (NameR (x == 0) w) := by
  go_enter Tryd.func50, Tryd.ntmps50
  cases hx : (x == 0) with
  | true =>
    go_wp2_with fail
    go_ret
    exact ⟨rfl, Fr.refl _ _⟩
  | false =>
    go_wp2_with fail
    go_ret
    exact ⟨rfl, Fr.refl _ _⟩
end Go.Proofs.YtcfmcgkngjpdbaaDoor
