/- Declarations in memory: fields, values, methods, messages, enums, schemas. No program occurs here. -/
import Derived.Test.YtcfmcgkngjpdbaaDoorV0
namespace Go.Proofs.YtcfmcgkngjpdbaaDoor
set_option linter.unusedVariables false
set_option linter.unusedSimpArgs false
open Go.RowKit

structure FD where
  num : Int
  name : ByteArray
  kind : Int
  rep : Bool
  typ : Int
def FD.cells (x : FD) : List Value := [.int .i64 x.num, .string x.name, .int .i64 x.kind, .bool x.rep, .int .i64 x.typ]
structure VD where
  name : ByteArray
  num : Int
def VD.cells (x : VD) : List Value := [.string x.name, .int .i64 x.num]
structure ED where
  name : ByteArray
  vals : List VD
structure MD where
  name : ByteArray
  fields : List FD
structure MeD where
  id : Int
  service : ByteArray
  name : ByteArray
  inn : Int
  out : Int
def MeD.cells (x : MeD) : List Value := [.int .i64 x.id, .string x.service, .string x.name, .int .i64 x.inn, .int .i64 x.out]
structure Sch where
  messages : List MD
  enums : List ED
  methods : List MeD

def FieldsIn (w : World) (A : Option Addr) (l : List FD) : Prop := Row 5 (fun (x : FD) cs => cs = x.cells) w (fun _ => True) A l
def MsgIn (w : World) (m : MD) (cs : List Value) : Prop := ∃ A c, cs = [.string m.name, .slice A m.fields.length c] ∧ m.fields.length ≤ c ∧ (A = none → c = 0) ∧ FieldsIn w A m.fields
def EnumIn (w : World) (m : ED) (cs : List Value) : Prop := ∃ A c, cs = [.string m.name, .slice A m.vals.length c] ∧ m.vals.length ≤ c ∧ (A = none → c = 0) ∧ Row 2 (fun (x : VD) cs => cs = x.cells) w (fun _ => True) A m.vals
/-- The three cells of a schema. -/
def SchIn (w : World) (S : Sch) (cs : List Value) : Prop := ∃ A1 c1 A2 c2 A3 c3, cs = [.slice A1 S.messages.length c1, .slice A2 S.enums.length c2, .slice A3 S.methods.length c3] ∧
  S.messages.length ≤ c1 ∧ S.enums.length ≤ c2 ∧ S.methods.length ≤ c3 ∧ (A1 = none → c1 = 0) ∧ (A2 = none → c2 = 0) ∧ (A3 = none → c3 = 0) ∧
  Row 2 (MsgIn w) w (fun _ => True) A1 S.messages ∧ Row 2 (EnumIn w) w (fun _ => True) A2 S.enums ∧ Row 5 (fun (x : MeD) cs => cs = x.cells) w (fun _ => True) A3 S.methods
section
variable {w w' : World}
theorem FieldsIn.new {A : Option Addr} {l : List FD} (h : FieldsIn w A l) (hf : Fr NoB w w') : FieldsIn w' A l := Row.mv h (Mv.new hf) (fun _ _ _ h => h)
theorem MsgIn.new {m : MD} {cs : List Value} (h : MsgIn w m cs) (hf : Fr NoB w w') : MsgIn w' m cs := by
  obtain ⟨A, c, e, hc, h0, h⟩ := h
  exact ⟨A, c, e, hc, h0, h.new hf⟩
theorem EnumIn.new {m : ED} {cs : List Value} (h : EnumIn w m cs) (hf : Fr NoB w w') : EnumIn w' m cs := by
  obtain ⟨A, c, e, hc, h0, h⟩ := h
  exact ⟨A, c, e, hc, h0, h.mv (Mv.new hf) (fun _ _ _ h => h)⟩
theorem SchIn.new {S : Sch} {cs : List Value} (h : SchIn w S cs) (hf : Fr NoB w w') : SchIn w' S cs := by
  obtain ⟨A1, c1, A2, c2, A3, c3, e, l1, l2, l3, n1, n2, n3, r1, r2, r3⟩ := h
  exact ⟨A1, c1, A2, c2, A3, c3, e, l1, l2, l3, n1, n2, n3, r1.mv (Mv.new hf) (fun _ _ _ h => h.new hf), r2.mv (Mv.new hf) (fun _ _ _ h => h.new hf), r3.mv (Mv.new hf) (fun _ _ _ h => h)⟩
end
end Go.Proofs.YtcfmcgkngjpdbaaDoor
