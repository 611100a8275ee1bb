import Derived.Test.YtdfdmjnhekdpjaaMem2
import Derived.Test.YtdfdmjnhekdpjaaT1
import Derived.Maps.RangeRun
import Derived.MapKept
namespace Go.Proofs.Ytdfdmjnhekdpjaa
set_option linter.unusedVariables false
set_option linter.unusedSimpArgs false
open Go.RowKit
open Go.ChangeMaps (setBlock)

/-- A map's block. -/
def Mp (w : World) (g : Nat) (es : Array MapEntry) (clock : Nat) : Prop := w.heap[g]? = some (.map es clock)
section
variable {w w' : World} {g clock : Nat} {es : Array MapEntry} {S : Nat → Prop}
theorem Mp.lt (h : Mp w g es clock) : g < w.heap.size := (Array.getElem?_eq_some_iff.1 h).1
theorem Mp.fr (h : Mp w g es clock) (hf : Fr S w w') (hn : ¬ S g) : Mp w' g es clock := (hf.block g h.lt hn).trans h
theorem Mp.new (w : World) (es : Array MapEntry) (clock : Nat) : Mp (w.alloc (.map es clock)) w.heap.size es clock := heap_alloc_new w _
theorem heap_setBlock_ne (w : World) (b : Nat) (o : Obj) {k : Nat} (h : k ≠ b) : (setBlock w b o).heap[k]? = w.heap[k]? := by
  unfold setBlock
  simp [Array.getElem?_setIfInBounds, Ne.symm h]
theorem heap_setBlock_eq (w : World) (b : Nat) (o : Obj) (h : b < w.heap.size) : (setBlock w b o).heap[b]? = some o := by
  unfold setBlock
  simp [Array.getElem?_setIfInBounds, h]
theorem size_setBlock (w : World) (b : Nat) (o : Obj) : (setBlock w b o).heap.size = w.heap.size := by simp [setBlock]
theorem Fr.setBlock {w0 : World} (h : Fr S w0 w) {b : Nat} (hb : b < w0.heap.size → S b) (o : Obj) : Fr S w0 (setBlock w b o) :=
  ⟨h.os, h.tape, h.output, by rw [size_setBlock]; exact h.size, fun k hk hn => (heap_setBlock_ne w b o (by rintro rfl; exact hn (hb hk))).trans (h.block k hk hn)⟩
theorem Mp.set_ (h : Mp w g es clock) (es' : Array MapEntry) (c' : Nat) : Mp (setBlock w g (.map es' c')) g es' c' := heap_setBlock_eq w g _ h.lt
end

section
variable {P : Program} {w : World} {bm clock : Nat} {t kt et : TypeId} {q : IntKind}
theorem run_findKey_nil (hk : P.underlying kt = some (.int q)) (a : Int) : (Instr.findKey kt (.int q a) []).run P w = .ok none w := by
  simp [Instr.findKey, run_underlying hk, Instr.findNow]
theorem run_findKey_hit (hk : P.underlying kt = some (.int q)) (a : Int) (v : Value) (b : Nat) : (Instr.findKey kt (.int q a) [⟨.int q a, v, b⟩]).run P w = .ok (some (0, v)) w := by
  simp [Instr.findKey, run_underlying hk, Instr.findNow, Instr.sameNow]
theorem run_findKey_miss (hk : P.underlying kt = some (.int q)) (a c : Int) (hne : (a == c) = false) (v : Value) (b : Nat) : (Instr.findKey kt (.int q a) [⟨.int q c, v, b⟩]).run P w = .ok none w := by
  simp [Instr.findKey, run_underlying hk, Instr.findNow, Instr.sameNow, hne]
theorem run_checkKey_int (hk : P.underlying kt = some (.int q)) (a : Int) (e : Bool) : (Instr.checkKey e 10000 kt (.int q a)).run P w = .ok () w := by
  have h : ∀ n, (Instr.checkKey e (n + 1) kt (.int q a)).run P w = .ok () w := fun n => by
    unfold Instr.checkKey
    simp [run_underlying hk]
  exact h 9999

theorem lookup_nil (ht : P.underlying t = some (.map kt et)) (hk : P.underlying kt = some (.int q)) (z : Value) (hz : ∀ w, (zeroValue et).run P w = .ok z w) (a : Int) (ok : Bool) :
    (Instr.lookup t (.map none) (.int q a) ok).run P w = .ok (if ok then .tuple #[z, .bool false] else z) w := by
  simp [Instr.lookup, run_underlying ht, run_checkKey_int hk, run_findKey_nil hk, hz]
theorem lookup_empty (hm : Mp w bm #[] clock) (ht : P.underlying t = some (.map kt et)) (hk : P.underlying kt = some (.int q)) (z : Value) (hz : ∀ w, (zeroValue et).run P w = .ok z w) (a : Int) (ok : Bool) :
    (Instr.lookup t (.map (some bm)) (.int q a) ok).run P w = .ok (if ok then .tuple #[z, .bool false] else z) w := by
  unfold Mp at hm
  simp [Instr.lookup, run_underlying ht, MapKept.run_getObj_map hm, run_checkKey_int hk, run_findKey_nil hk, hz]
theorem lookup_hit {a : Int} {v : Value} {b : Nat} (hm : Mp w bm #[⟨.int q a, v, b⟩] clock) (ht : P.underlying t = some (.map kt et)) (hk : P.underlying kt = some (.int q)) (ok : Bool) :
    (Instr.lookup t (.map (some bm)) (.int q a) ok).run P w = .ok (if ok then .tuple #[v, .bool true] else v) w := by
  unfold Mp at hm
  simp [Instr.lookup, run_underlying ht, MapKept.run_getObj_map hm, run_checkKey_int hk, run_findKey_hit hk]
theorem lookup_miss {a c : Int} {v : Value} {b : Nat} (hm : Mp w bm #[⟨.int q c, v, b⟩] clock) (hne : (a == c) = false) (ht : P.underlying t = some (.map kt et)) (hk : P.underlying kt = some (.int q)) (z : Value) (hz : ∀ w, (zeroValue et).run P w = .ok z w) (ok : Bool) :
    (Instr.lookup t (.map (some bm)) (.int q a) ok).run P w = .ok (if ok then .tuple #[z, .bool false] else z) w := by
  unfold Mp at hm
  simp [Instr.lookup, run_underlying ht, MapKept.run_getObj_map hm, run_checkKey_int hk, run_findKey_miss hk a c hne, hz]
theorem update_empty (hm : Mp w bm #[] clock) (ht : P.underlying t = some (.map kt et)) (hk : P.underlying kt = some (.int q)) (a : Int) (v : Value) :
    (Instr.mapUpdate t (.map (some bm)) (.int q a) v).run P w = .ok () (setBlock w bm (.map #[⟨.int q a, v, clock⟩] (clock + 1))) := by
  unfold Mp at hm
  simp [Instr.mapUpdate, run_underlying ht, MapKept.run_getObj_map hm, run_checkKey_int hk, run_findKey_nil hk, MapKept.run_setObj_map _ hm, setBlock]
theorem update_hit {a : Int} {v0 : Value} {b : Nat} (hm : Mp w bm #[⟨.int q a, v0, b⟩] clock) (ht : P.underlying t = some (.map kt et)) (hk : P.underlying kt = some (.int q)) (v : Value) :
    (Instr.mapUpdate t (.map (some bm)) (.int q a) v).run P w = .ok () (setBlock w bm (.map #[⟨.int q a, v, b⟩] clock)) := by
  unfold Mp at hm
  simp [Instr.mapUpdate, run_underlying ht, MapKept.run_getObj_map hm, run_checkKey_int hk, run_findKey_hit hk, MapKept.run_setObj_map _ hm, setBlock, Instr.keyThatStays, Instr.sameBits]
theorem delete_hit {a : Int} {v : Value} {b : Nat} (ty : TypeId) (hm : Mp w bm #[⟨.int q a, v, b⟩] clock) (ht : P.underlying t = some (.map kt et)) (hk : P.underlying kt = some (.int q)) :
    (Builtin.delete_ #[t, kt] ty #[.map (some bm), .int q a]).run P w = .ok (.tuple #[]) (setBlock w bm (.map #[] clock)) := by
  unfold Mp at hm
  simp [Builtin.delete_, run_underlying ht, MapKept.run_getObj_map hm, run_checkKey_int hk, run_findKey_hit hk, MapKept.run_setObj_map _ hm, setBlock]
end
end Go.Proofs.Ytdfdmjnhekdpjaa
