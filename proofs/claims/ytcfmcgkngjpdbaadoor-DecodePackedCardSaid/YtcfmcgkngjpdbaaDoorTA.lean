/- What type assertions on the package's values answer: closed facts. -/
import Derived.Test.YtcfmcgkngjpdbaaDoorRows
import Derived.KernelRfl
namespace Go.Proofs.YtcfmcgkngjpdbaaDoor
set_option linter.unusedVariables false

theorem ta_Int_Int (v : Value) (w : World) : (Instr.typeAssert (.iface 72 v) 34 72 true).run Tryd.prog w = .ok (.tuple #[v, .bool true]) w := by kernel_rfl
theorem ta_Int_Uint (v : Value) (w : World) : (Instr.typeAssert (.iface 68 v) 34 72 true).run Tryd.prog w = .ok (.tuple #[.int .i64 0, .bool false]) w := by kernel_rfl
theorem ta_Int_Bool (v : Value) (w : World) : (Instr.typeAssert (.iface 73 v) 34 72 true).run Tryd.prog w = .ok (.tuple #[.int .i64 0, .bool false]) w := by kernel_rfl
theorem ta_Int_Text (v : Value) (w : World) : (Instr.typeAssert (.iface 74 v) 34 72 true).run Tryd.prog w = .ok (.tuple #[.int .i64 0, .bool false]) w := by kernel_rfl
theorem ta_Int_Bytes (v : Value) (w : World) : (Instr.typeAssert (.iface 75 v) 34 72 true).run Tryd.prog w = .ok (.tuple #[.int .i64 0, .bool false]) w := by kernel_rfl
theorem ta_Int_Enum (v : Value) (w : World) : (Instr.typeAssert (.iface 76 v) 34 72 true).run Tryd.prog w = .ok (.tuple #[.int .i64 0, .bool false]) w := by kernel_rfl
theorem ta_Int_Message (v : Value) (w : World) : (Instr.typeAssert (.iface 30 v) 34 72 true).run Tryd.prog w = .ok (.tuple #[.int .i64 0, .bool false]) w := by kernel_rfl
theorem ta_Int_nil (w : World) : (Instr.typeAssert .nilIface 34 72 true).run Tryd.prog w = .ok (.tuple #[.int .i64 0, .bool false]) w := by kernel_rfl
theorem ta_Uint_Int (v : Value) (w : World) : (Instr.typeAssert (.iface 72 v) 34 68 true).run Tryd.prog w = .ok (.tuple #[.int .u64 0, .bool false]) w := by kernel_rfl
theorem ta_Uint_Uint (v : Value) (w : World) : (Instr.typeAssert (.iface 68 v) 34 68 true).run Tryd.prog w = .ok (.tuple #[v, .bool true]) w := by kernel_rfl
theorem ta_Uint_Bool (v : Value) (w : World) : (Instr.typeAssert (.iface 73 v) 34 68 true).run Tryd.prog w = .ok (.tuple #[.int .u64 0, .bool false]) w := by kernel_rfl
theorem ta_Uint_Text (v : Value) (w : World) : (Instr.typeAssert (.iface 74 v) 34 68 true).run Tryd.prog w = .ok (.tuple #[.int .u64 0, .bool false]) w := by kernel_rfl
theorem ta_Uint_Bytes (v : Value) (w : World) : (Instr.typeAssert (.iface 75 v) 34 68 true).run Tryd.prog w = .ok (.tuple #[.int .u64 0, .bool false]) w := by kernel_rfl
theorem ta_Uint_Enum (v : Value) (w : World) : (Instr.typeAssert (.iface 76 v) 34 68 true).run Tryd.prog w = .ok (.tuple #[.int .u64 0, .bool false]) w := by kernel_rfl
theorem ta_Uint_Message (v : Value) (w : World) : (Instr.typeAssert (.iface 30 v) 34 68 true).run Tryd.prog w = .ok (.tuple #[.int .u64 0, .bool false]) w := by kernel_rfl
theorem ta_Uint_nil (w : World) : (Instr.typeAssert .nilIface 34 68 true).run Tryd.prog w = .ok (.tuple #[.int .u64 0, .bool false]) w := by kernel_rfl
theorem ta_Bool_Int (v : Value) (w : World) : (Instr.typeAssert (.iface 72 v) 34 73 true).run Tryd.prog w = .ok (.tuple #[.bool false, .bool false]) w := by kernel_rfl
theorem ta_Bool_Uint (v : Value) (w : World) : (Instr.typeAssert (.iface 68 v) 34 73 true).run Tryd.prog w = .ok (.tuple #[.bool false, .bool false]) w := by kernel_rfl
theorem ta_Bool_Bool (v : Value) (w : World) : (Instr.typeAssert (.iface 73 v) 34 73 true).run Tryd.prog w = .ok (.tuple #[v, .bool true]) w := by kernel_rfl
theorem ta_Bool_Text (v : Value) (w : World) : (Instr.typeAssert (.iface 74 v) 34 73 true).run Tryd.prog w = .ok (.tuple #[.bool false, .bool false]) w := by kernel_rfl
theorem ta_Bool_Bytes (v : Value) (w : World) : (Instr.typeAssert (.iface 75 v) 34 73 true).run Tryd.prog w = .ok (.tuple #[.bool false, .bool false]) w := by kernel_rfl
theorem ta_Bool_Enum (v : Value) (w : World) : (Instr.typeAssert (.iface 76 v) 34 73 true).run Tryd.prog w = .ok (.tuple #[.bool false, .bool false]) w := by kernel_rfl
theorem ta_Bool_Message (v : Value) (w : World) : (Instr.typeAssert (.iface 30 v) 34 73 true).run Tryd.prog w = .ok (.tuple #[.bool false, .bool false]) w := by kernel_rfl
theorem ta_Bool_nil (w : World) : (Instr.typeAssert .nilIface 34 73 true).run Tryd.prog w = .ok (.tuple #[.bool false, .bool false]) w := by kernel_rfl
theorem ta_Text_Int (v : Value) (w : World) : (Instr.typeAssert (.iface 72 v) 34 74 true).run Tryd.prog w = .ok (.tuple #[.string ⟨#[]⟩, .bool false]) w := by kernel_rfl
theorem ta_Text_Uint (v : Value) (w : World) : (Instr.typeAssert (.iface 68 v) 34 74 true).run Tryd.prog w = .ok (.tuple #[.string ⟨#[]⟩, .bool false]) w := by kernel_rfl
theorem ta_Text_Bool (v : Value) (w : World) : (Instr.typeAssert (.iface 73 v) 34 74 true).run Tryd.prog w = .ok (.tuple #[.string ⟨#[]⟩, .bool false]) w := by kernel_rfl
theorem ta_Text_Text (v : Value) (w : World) : (Instr.typeAssert (.iface 74 v) 34 74 true).run Tryd.prog w = .ok (.tuple #[v, .bool true]) w := by kernel_rfl
theorem ta_Text_Bytes (v : Value) (w : World) : (Instr.typeAssert (.iface 75 v) 34 74 true).run Tryd.prog w = .ok (.tuple #[.string ⟨#[]⟩, .bool false]) w := by kernel_rfl
theorem ta_Text_Enum (v : Value) (w : World) : (Instr.typeAssert (.iface 76 v) 34 74 true).run Tryd.prog w = .ok (.tuple #[.string ⟨#[]⟩, .bool false]) w := by kernel_rfl
theorem ta_Text_Message (v : Value) (w : World) : (Instr.typeAssert (.iface 30 v) 34 74 true).run Tryd.prog w = .ok (.tuple #[.string ⟨#[]⟩, .bool false]) w := by kernel_rfl
theorem ta_Text_nil (w : World) : (Instr.typeAssert .nilIface 34 74 true).run Tryd.prog w = .ok (.tuple #[.string ⟨#[]⟩, .bool false]) w := by kernel_rfl
theorem ta_Bytes_Int (v : Value) (w : World) : (Instr.typeAssert (.iface 72 v) 34 75 true).run Tryd.prog w = .ok (.tuple #[.string ⟨#[]⟩, .bool false]) w := by kernel_rfl
theorem ta_Bytes_Uint (v : Value) (w : World) : (Instr.typeAssert (.iface 68 v) 34 75 true).run Tryd.prog w = .ok (.tuple #[.string ⟨#[]⟩, .bool false]) w := by kernel_rfl
theorem ta_Bytes_Bool (v : Value) (w : World) : (Instr.typeAssert (.iface 73 v) 34 75 true).run Tryd.prog w = .ok (.tuple #[.string ⟨#[]⟩, .bool false]) w := by kernel_rfl
theorem ta_Bytes_Text (v : Value) (w : World) : (Instr.typeAssert (.iface 74 v) 34 75 true).run Tryd.prog w = .ok (.tuple #[.string ⟨#[]⟩, .bool false]) w := by kernel_rfl
theorem ta_Bytes_Bytes (v : Value) (w : World) : (Instr.typeAssert (.iface 75 v) 34 75 true).run Tryd.prog w = .ok (.tuple #[v, .bool true]) w := by kernel_rfl
theorem ta_Bytes_Enum (v : Value) (w : World) : (Instr.typeAssert (.iface 76 v) 34 75 true).run Tryd.prog w = .ok (.tuple #[.string ⟨#[]⟩, .bool false]) w := by kernel_rfl
theorem ta_Bytes_Message (v : Value) (w : World) : (Instr.typeAssert (.iface 30 v) 34 75 true).run Tryd.prog w = .ok (.tuple #[.string ⟨#[]⟩, .bool false]) w := by kernel_rfl
theorem ta_Bytes_nil (w : World) : (Instr.typeAssert .nilIface 34 75 true).run Tryd.prog w = .ok (.tuple #[.string ⟨#[]⟩, .bool false]) w := by kernel_rfl
theorem ta_Enum_Int (v : Value) (w : World) : (Instr.typeAssert (.iface 72 v) 34 76 true).run Tryd.prog w = .ok (.tuple #[.int .i32 0, .bool false]) w := by kernel_rfl
theorem ta_Enum_Uint (v : Value) (w : World) : (Instr.typeAssert (.iface 68 v) 34 76 true).run Tryd.prog w = .ok (.tuple #[.int .i32 0, .bool false]) w := by kernel_rfl
theorem ta_Enum_Bool (v : Value) (w : World) : (Instr.typeAssert (.iface 73 v) 34 76 true).run Tryd.prog w = .ok (.tuple #[.int .i32 0, .bool false]) w := by kernel_rfl
theorem ta_Enum_Text (v : Value) (w : World) : (Instr.typeAssert (.iface 74 v) 34 76 true).run Tryd.prog w = .ok (.tuple #[.int .i32 0, .bool false]) w := by kernel_rfl
theorem ta_Enum_Bytes (v : Value) (w : World) : (Instr.typeAssert (.iface 75 v) 34 76 true).run Tryd.prog w = .ok (.tuple #[.int .i32 0, .bool false]) w := by kernel_rfl
theorem ta_Enum_Enum (v : Value) (w : World) : (Instr.typeAssert (.iface 76 v) 34 76 true).run Tryd.prog w = .ok (.tuple #[v, .bool true]) w := by kernel_rfl
theorem ta_Enum_Message (v : Value) (w : World) : (Instr.typeAssert (.iface 30 v) 34 76 true).run Tryd.prog w = .ok (.tuple #[.int .i32 0, .bool false]) w := by kernel_rfl
theorem ta_Enum_nil (w : World) : (Instr.typeAssert .nilIface 34 76 true).run Tryd.prog w = .ok (.tuple #[.int .i32 0, .bool false]) w := by kernel_rfl
theorem ta_Message_Int (v : Value) (w : World) : (Instr.typeAssert (.iface 72 v) 34 30 true).run Tryd.prog w = .ok (.tuple #[.agg #[.int .i64 0, .slice none 0 0, .string ⟨#[]⟩], .bool false]) w := by kernel_rfl
theorem ta_Message_Uint (v : Value) (w : World) : (Instr.typeAssert (.iface 68 v) 34 30 true).run Tryd.prog w = .ok (.tuple #[.agg #[.int .i64 0, .slice none 0 0, .string ⟨#[]⟩], .bool false]) w := by kernel_rfl
theorem ta_Message_Bool (v : Value) (w : World) : (Instr.typeAssert (.iface 73 v) 34 30 true).run Tryd.prog w = .ok (.tuple #[.agg #[.int .i64 0, .slice none 0 0, .string ⟨#[]⟩], .bool false]) w := by kernel_rfl
theorem ta_Message_Text (v : Value) (w : World) : (Instr.typeAssert (.iface 74 v) 34 30 true).run Tryd.prog w = .ok (.tuple #[.agg #[.int .i64 0, .slice none 0 0, .string ⟨#[]⟩], .bool false]) w := by kernel_rfl
theorem ta_Message_Bytes (v : Value) (w : World) : (Instr.typeAssert (.iface 75 v) 34 30 true).run Tryd.prog w = .ok (.tuple #[.agg #[.int .i64 0, .slice none 0 0, .string ⟨#[]⟩], .bool false]) w := by kernel_rfl
theorem ta_Message_Enum (v : Value) (w : World) : (Instr.typeAssert (.iface 76 v) 34 30 true).run Tryd.prog w = .ok (.tuple #[.agg #[.int .i64 0, .slice none 0 0, .string ⟨#[]⟩], .bool false]) w := by kernel_rfl
theorem ta_Message_Message (v : Value) (w : World) : (Instr.typeAssert (.iface 30 v) 34 30 true).run Tryd.prog w = .ok (.tuple #[v, .bool true]) w := by kernel_rfl
theorem ta_Message_nil (w : World) : (Instr.typeAssert .nilIface 34 30 true).run Tryd.prog w = .ok (.tuple #[.agg #[.int .i64 0, .slice none 0 0, .string ⟨#[]⟩], .bool false]) w := by kernel_rfl
theorem tm_Int (v : Value) (w : World) : (Instr.typeAssert (.iface 72 v) 34 30 false).run Tryd.prog w = .halt (.panic (.iface 15 (.pointer (some ⟨w.heap.size, 0, none⟩)))) (w.alloc (.cells #[typeHandle Tryd.prog 34, typeHandle Tryd.prog 72, typeHandle Tryd.prog 30, strVal ""] 190)) := by kernel_rfl
theorem tm_Uint (v : Value) (w : World) : (Instr.typeAssert (.iface 68 v) 34 30 false).run Tryd.prog w = .halt (.panic (.iface 15 (.pointer (some ⟨w.heap.size, 0, none⟩)))) (w.alloc (.cells #[typeHandle Tryd.prog 34, typeHandle Tryd.prog 68, typeHandle Tryd.prog 30, strVal ""] 190)) := by kernel_rfl
theorem tm_Bool (v : Value) (w : World) : (Instr.typeAssert (.iface 73 v) 34 30 false).run Tryd.prog w = .halt (.panic (.iface 15 (.pointer (some ⟨w.heap.size, 0, none⟩)))) (w.alloc (.cells #[typeHandle Tryd.prog 34, typeHandle Tryd.prog 73, typeHandle Tryd.prog 30, strVal ""] 190)) := by kernel_rfl
theorem tm_Text (v : Value) (w : World) : (Instr.typeAssert (.iface 74 v) 34 30 false).run Tryd.prog w = .halt (.panic (.iface 15 (.pointer (some ⟨w.heap.size, 0, none⟩)))) (w.alloc (.cells #[typeHandle Tryd.prog 34, typeHandle Tryd.prog 74, typeHandle Tryd.prog 30, strVal ""] 190)) := by kernel_rfl
theorem tm_Bytes (v : Value) (w : World) : (Instr.typeAssert (.iface 75 v) 34 30 false).run Tryd.prog w = .halt (.panic (.iface 15 (.pointer (some ⟨w.heap.size, 0, none⟩)))) (w.alloc (.cells #[typeHandle Tryd.prog 34, typeHandle Tryd.prog 75, typeHandle Tryd.prog 30, strVal ""] 190)) := by kernel_rfl
theorem tm_Enum (v : Value) (w : World) : (Instr.typeAssert (.iface 76 v) 34 30 false).run Tryd.prog w = .halt (.panic (.iface 15 (.pointer (some ⟨w.heap.size, 0, none⟩)))) (w.alloc (.cells #[typeHandle Tryd.prog 34, typeHandle Tryd.prog 76, typeHandle Tryd.prog 30, strVal ""] 190)) := by kernel_rfl
theorem tm_Message (v : Value) (w : World) : (Instr.typeAssert (.iface 30 v) 34 30 false).run Tryd.prog w = .ok v w := by kernel_rfl
theorem tm_nil (w : World) : (Instr.typeAssert .nilIface 34 30 false).run Tryd.prog w = .halt (.panic (.iface 15 (.pointer (some ⟨w.heap.size, 0, none⟩)))) (w.alloc (.cells #[typeHandle Tryd.prog 34, .pointer none, typeHandle Tryd.prog 30, strVal ""] 190)) := by kernel_rfl
end Go.Proofs.YtcfmcgkngjpdbaaDoor
