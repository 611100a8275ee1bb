/- What is decoded, as a tree. -/
import Derived.Test.YtcfmcgkngjpdbaaDoorD5
import Derived.OpenShut
namespace Go.Proofs.YtcfmcgkngjpdbaaDoor
set_option linter.unusedVariables false
set_option linter.unusedSimpArgs false
open Go.RowKit
def valsP : List WF → Option (List Nat)
  | [] => some []
  | x :: r => match valuesP x with
    | none => none
    | some a => (valsP r).map (a ++ ·)
/-- A number's node. -/
def leaf (k : Int) (n : Nat) : Nd 1 := if k = 1 then (⟨1, wrap64 n, 0, false, ⟨#[]⟩, 0, []⟩ : Rec (Nd 0)) else if k = 3 then (⟨1, zagP n, 0, false, ⟨#[]⟩, 0, []⟩ : Rec (Nd 0)) else if k = 4 then (⟨3, 0, 0, (n : Int) != 0, ⟨#[]⟩, 0, []⟩ : Rec (Nd 0)) else (⟨2, 0, n, false, ⟨#[]⟩, 0, []⟩ : Rec (Nd 0))
def msgTree (f : FD) (vs : List Nat) : Nd 2 := (⟨7, 0, 0, false, ⟨#[]⟩, 0, if vs = [] then [] else [(f.num, vs.map (leaf f.kind))]⟩ : Rec (Nd 1))
theorem leaf_val (w : World) (ok : Nat → Prop) (k : Int) (n : Nat) (h9 : k ≠ 9) (hn : n < 2 ^ 64) : ValAt 1 w ok (leaf k n) (numV k n) := by
  have h64 : (Lit.int .i64 (wrap64 n)).wf = true := wrap64_wf _
  have hz : (Lit.int .i64 (zagP n)).wf = true := wf_bits _ _ _ _
  have hu : (Lit.int .u64 n).wf = true := WalkArith.wf_u64 ⟨by omega, by omega⟩
  have z0 : (Lit.int .i64 0).wf = true := by decide
  have zu : (Lit.int .u64 0).wf = true := by decide
  have o1 : (Lit.int .i64 1).wf = true := by decide
  have o2 : (Lit.int .i64 2).wf = true := by decide
  have o3 : (Lit.int .i64 3).wf = true := by decide
  have hs : (⟨#[]⟩ : ByteArray).size ≤ 140737488355328 := by decide
  have e : ∀ x, leaf k n = x → ∀ v, numV k n = v → ValAt 1 w ok x v → ValAt 1 w ok (leaf k n) (numV k n) := fun x hx v hv h => by rw [hx, hv]; exact h
  by_cases h1 : k = 1
  · exact e _ (if_pos h1) _ (if_pos h1) ⟨⟨o1, h64, zu, z0, fun p hp => (by cases hp), hs, Nat.zero_le _⟩, .inl ⟨rfl, rfl⟩⟩
  by_cases h3 : k = 3
  · exact e _ ((if_neg h1).trans (if_pos h3)) _ ((if_neg h1).trans (if_pos h3)) ⟨⟨o1, hz, zu, z0, fun p hp => (by cases hp), hs, Nat.zero_le _⟩, .inl ⟨rfl, rfl⟩⟩
  by_cases h4 : k = 4
  · exact e _ ((if_neg h1).trans ((if_neg h3).trans (if_pos h4))) _ ((if_neg h1).trans ((if_neg h3).trans (if_pos h4))) ⟨⟨o3, z0, zu, z0, fun p hp => (by cases hp), hs, Nat.zero_le _⟩, .inr (.inr (.inl ⟨rfl, rfl⟩))⟩
  exact e _ ((if_neg h1).trans ((if_neg h3).trans (if_neg h4))) _ ((if_neg h1).trans ((if_neg h3).trans ((if_neg h4).trans (if_neg h9)))) ⟨⟨o2, z0, hu, z0, fun p hp => (by cases hp), hs, Nat.zero_le _⟩, .inr (.inl ⟨rfl, rfl⟩)⟩
def MsgR (T : Nd 2) (w : World) (e : Ending) (w' : World) : Prop := ∃ v, e = .returned (.tuple #[v, .int .i64 0]) ∧ ValAt 2 w' (fun b => w.heap.size ≤ b) T v ∧ Fr NoB w w'
theorem msg_wf (f : FD) (vs : List Nat) (hfn : (Lit.int .i64 f.num).wf = true) (hvl : vs.length ≤ 1000000) : (show Rec (Nd 1) from msgTree f vs).Wf := by
  have z0 : (Lit.int .i64 0).wf = true := by decide
  have z7 : (Lit.int .i64 7).wf = true := by decide
  have zu : (Lit.int .u64 0).wf = true := by decide
  have hs : (⟨#[]⟩ : ByteArray).size ≤ 140737488355328 := by decide
  refine ⟨z7, z0, zu, z0, fun p hp => ?_, hs, ?_⟩
  · have hp : p ∈ (if vs = [] then [] else [(f.num, vs.map (leaf f.kind))]) := hp
    split at hp
    · cases hp
    · rw [List.mem_singleton.1 hp]
      exact ⟨hfn, by simp only [List.length_map]; omega⟩
  · show (if vs = [] then [] else [(f.num, vs.map (leaf f.kind))]).length ≤ _
    split
    · simp
    · simp
theorem msg_empty (f : FD) (w : World) (ok : Nat → Prop) (hfn : (Lit.int .i64 f.num).wf = true) : ValAt 2 w ok (msgTree f []) (.iface 30 (.agg #[.int .i64 0, .slice none 0 0, .string ⟨#[]⟩])) :=
  ⟨msg_wf f [] hfn (by simp), .inr (.inr (.inr (.inr (.inr (.inr (.inl ⟨rfl, none, 0, rfl, Nat.le_refl _, fun _ => rfl, Row.nil _ _ _ _ _⟩))))))⟩
theorem msg_full (f : FD) (vs : List Nat) (w : World) (ok : Nat → Prop) (hfn : (Lit.int .i64 f.num).wf = true) (hvl : vs.length ≤ 1000000) (hne : vs ≠ []) (h9 : f.kind ≠ 9) (hvb : ∀ n ∈ vs, n < 2 ^ 64) (A A9 : Option Addr) (c c9 : Nat) (ys : List Value)
    (hc : 1 ≤ c) (h0 : A = none → c = 0) (hr : Rd w ok 2 A 1 [.int .i64 f.num, .slice A9 vs.length c9]) (hc9 : vs.length ≤ c9) (h09 : A9 = none → c9 = 0) (hy : Rd w ok 1 A9 vs.length ys) (rep : RepL 1 (NumIn f.kind) vs ys) :
    ValAt 2 w ok (msgTree f vs) (.iface 30 (.agg #[.int .i64 0, .slice A 1 c, .string ⟨#[]⟩])) := by
  have hfs : (show Rec (Nd 1) from msgTree f vs).fs = [(f.num, vs.map (leaf f.kind))] := if_neg hne
  refine ⟨msg_wf f vs hfn hvl, .inr (.inr (.inr (.inr (.inr (.inr (.inl ⟨rfl, A, c, ?_, ?_, h0, ?_⟩))))))⟩
  · rw [show (show Rec (Nd 1) from msgTree f vs).fs.length = 1 by rw [hfs]; rfl]; rfl
  · rw [show (show Rec (Nd 1) from msgTree f vs).fs.length = 1 by rw [hfs]; rfl]; exact hc
  · show FieldsAt _ _ _ _ (show Rec (Nd 1) from msgTree f vs).fs
    rw [hfs]
    refine ⟨[.int .i64 f.num, .slice A9 vs.length c9], ⟨[.int .i64 f.num, .slice A9 vs.length c9], [], rfl, rfl, ⟨A9, c9, by simp, by simpa using hc9, h09, ⟨ys, rep.map (fun n cs hn h => ⟨numV f.kind n, h, leaf_val w ok f.kind n h9 (hvb n hn)⟩), by simpa using hy⟩⟩, rfl⟩, hr⟩
end Go.Proofs.YtcfmcgkngjpdbaaDoor
