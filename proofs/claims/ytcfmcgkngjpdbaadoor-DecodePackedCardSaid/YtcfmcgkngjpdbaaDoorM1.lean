/- Maps that are sets: keys that are looked up and laid behind each other. No program occurs here. -/
import Derived.Test.YtcfmcgkngjpdbaaDoorV0
import Derived.Maps.RangeRun
import Derived.MapKept
namespace Go.Proofs.YtcfmcgkngjpdbaaDoor
set_option linter.unusedVariables false
set_option linter.unusedSimpArgs false
open Go.RowKit
open Go.ChangeMaps (setBlock)

/-- A map's block. -/
def Mp (w : World) (g : Nat) (es : Array MapEntry) (clock : Nat) : Prop := w.heap[g]? = some (.map es clock)
section
variable {w w' : World} {g clock : Nat} {es : Array MapEntry} {S : Nat → Prop}
theorem Mp.lt (h : Mp w g es clock) : g < w.heap.size := (Array.getElem?_eq_some_iff.1 h).1
theorem Mp.fr (h : Mp w g es clock) (hf : Fr S w w') (hn : ¬ S g) : Mp w' g es clock := (hf.block g h.lt hn).trans h
theorem Mp.new (w : World) (es : Array MapEntry) (clock : Nat) : Mp (w.alloc (.map es clock)) w.heap.size es clock := heap_alloc_new w _
theorem heap_setBlock_ne (w : World) (b : Nat) (o : Obj) {k : Nat} (h : k ≠ b) : (setBlock w b o).heap[k]? = w.heap[k]? := by
  unfold setBlock
  simp [Array.getElem?_setIfInBounds, Ne.symm h]
theorem heap_setBlock_eq (w : World) (b : Nat) (o : Obj) (h : b < w.heap.size) : (setBlock w b o).heap[b]? = some o := by
  unfold setBlock
  simp [Array.getElem?_setIfInBounds, h]
theorem size_setBlock (w : World) (b : Nat) (o : Obj) : (setBlock w b o).heap.size = w.heap.size := by simp [setBlock]
theorem Fr.setBlock {w0 : World} (h : Fr S w0 w) {b : Nat} (hb : b < w0.heap.size → S b) (o : Obj) : Fr S w0 (setBlock w b o) :=
  ⟨h.os, h.tape, h.output, by rw [size_setBlock]; exact h.size, fun k hk hn => (heap_setBlock_ne w b o (by rintro rfl; exact hn (hb hk))).trans (h.block k hk hn)⟩
theorem Mp.set_ (h : Mp w g es clock) (es' : Array MapEntry) (c' : Nat) : Mp (setBlock w g (.map es' c')) g es' c' := heap_setBlock_eq w g _ h.lt
end

/-- The map holds just these keys, each with 'true'. -/
def Keys {α : Type} (V : α → Value) (es : Array MapEntry) (ks : List α) : Prop := es.toList.map (fun e => e.key) = ks.map V ∧ ∀ e ∈ es.toList, e.val = .bool true
theorem Keys.nil {α : Type} (V : α → Value) : Keys V #[] [] := ⟨rfl, fun e h => by simp at h⟩
theorem Keys.push {α : Type} {V : α → Value} {es : Array MapEntry} {ks : List α} (h : Keys V es ks) (k : α) (b : Nat) : Keys V (es.push ⟨V k, .bool true, b⟩) (ks ++ [k]) := by
  refine ⟨by simp [h.1], fun e he => ?_⟩
  rw [Array.toList_push] at he
  rcases List.mem_append.1 he with h1 | h1
  · exact h.2 e h1
  · rw [List.mem_singleton.1 h1]

section
variable {P : Program} {w : World} {bm clock : Nat} {t kt et : TypeId} {d : TypeDesc} {α : Type} [BEq α] {V : α → Value}
theorem findNow_keys (hsame : ∀ a b : α, Instr.sameNow d (V a) (V b) = some (a == b)) (a : α) : ∀ (l : List MapEntry) (ks : List α) (i : Nat), l.map (fun e => e.key) = ks.map V → (∀ e ∈ l, e.val = .bool true) →
    (ks.any (fun x => a == x) = true → ∃ j, Instr.findNow d (V a) l i = some (some (j, .bool true))) ∧ (ks.any (fun x => a == x) = false → Instr.findNow d (V a) l i = some none)
  | [], ks, i, hk, _ => by
    have hk : [] = ks.map V := hk
    cases ks with
    | nil => exact ⟨fun h => by simp at h, fun _ => rfl⟩
    | cons k r => simp at hk
  | e :: l, ks, i, hk, hv => by
    cases ks with
    | nil => simp at hk
    | cons k r =>
      simp only [List.map_cons, List.cons.injEq] at hk
      have ih := findNow_keys hsame a l r (i + 1) hk.2 (fun e' he => hv e' (List.mem_cons_of_mem _ he))
      have hs : Instr.sameNow d (V a) e.key = some (a == k) := by rw [hk.1]; exact hsame a k
      have h1 := hv e (List.mem_cons_self ..)
      cases hq : (a == k) with
      | true =>
        rw [hq] at hs
        exact ⟨fun _ => ⟨i, by simp [Instr.findNow, hs, h1]⟩, fun h => by simp [hq] at h⟩
      | false =>
        rw [hq] at hs
        refine ⟨fun h => ?_, fun h => ?_⟩
        · obtain ⟨j, hj⟩ := ih.1 (by simpa [hq] using h)
          exact ⟨j, by simp [Instr.findNow, hs, hj]⟩
        · have := ih.2 (by simpa [hq] using h)
          simp [Instr.findNow, hs, this]
theorem lookup_keys {es : Array MapEntry} {ks : List α} (hsame : ∀ a b : α, Instr.sameNow d (V a) (V b) = some (a == b)) (hchk : ∀ e a w, (Instr.checkKey e 10000 kt (V a)).run P w = .ok () w)
    (hm : Mp w bm es clock) (hK : Keys V es ks) (ht : P.underlying t = some (.map kt et)) (hk : P.underlying kt = some d) (hz : ∀ w, (zeroValue et).run P w = .ok (.bool false) w) (a : α) :
    (Instr.lookup t (.map (some bm)) (V a) false).run P w = .ok (.bool (ks.any (fun x => a == x))) w := by
  unfold Mp at hm
  obtain ⟨h1, h2⟩ := findNow_keys hsame a es.toList ks 0 hK.1 hK.2
  cases hq : ks.any (fun x => a == x) with
  | true =>
    obtain ⟨j, hj⟩ := h1 hq
    simp [Instr.lookup, run_underlying ht, MapKept.run_getObj_map hm, hchk, Instr.findKey, run_underlying hk, hj]
  | false =>
    have hj := h2 hq
    simp [Instr.lookup, run_underlying ht, MapKept.run_getObj_map hm, hchk, Instr.findKey, run_underlying hk, hj, hz]
theorem update_keys {es : Array MapEntry} {ks : List α} (hsame : ∀ a b : α, Instr.sameNow d (V a) (V b) = some (a == b)) (hchk : ∀ e a w, (Instr.checkKey e 10000 kt (V a)).run P w = .ok () w)
    (hm : Mp w bm es clock) (hK : Keys V es ks) (ht : P.underlying t = some (.map kt et)) (hk : P.underlying kt = some d) (a : α) (hno : ks.any (fun x => a == x) = false) (v : Value) :
    (Instr.mapUpdate t (.map (some bm)) (V a) v).run P w = .ok () (setBlock w bm (.map (es.push ⟨V a, v, clock⟩) (clock + 1))) := by
  unfold Mp at hm
  have hj := (findNow_keys hsame a es.toList ks 0 hK.1 hK.2).2 hno
  simp [Instr.mapUpdate, run_underlying ht, MapKept.run_getObj_map hm, hchk, Instr.findKey, run_underlying hk, hj, MapKept.run_setObj_map _ hm, setBlock]
theorem checkKey_str (hk : P.underlying kt = some .string) (e : Bool) (a : ByteArray) (w : World) : (Instr.checkKey e 10000 kt (.string a)).run P w = .ok () w := by
  have h : ∀ n, (Instr.checkKey e (n + 1) kt (.string a)).run P w = .ok () w := fun n => by
    unfold Instr.checkKey
    simp [run_underlying hk]
  exact h 9999
theorem checkKey_int {q : IntKind} (hk : P.underlying kt = some (.int q)) (e : Bool) (a : Int) (w : World) : (Instr.checkKey e 10000 kt (.int q a)).run P w = .ok () w := by
  have h : ∀ n, (Instr.checkKey e (n + 1) kt (.int q a)).run P w = .ok () w := fun n => by
    unfold Instr.checkKey
    simp [run_underlying hk]
  exact h 9999
end

/-- No two keys are alike (seen: those that were met). -/
def unlikeGo {α : Type} [BEq α] (seen : List α) : List α → Bool
  | [] => true
  | k :: r => if seen.any (fun x => k == x) then false else unlikeGo (seen ++ [k]) r
def unlikeB {α : Type} [BEq α] (l : List α) : Bool := unlikeGo [] l
end Go.Proofs.YtcfmcgkngjpdbaaDoor
