/- value.Fits of the empty message, of a schema of one message without fields: true; awake. -/
import Derived.Test.YtcfmcgkngjpdbaaDoorV7
import Derived.Test.YtcfmcgkngjpdbaaDoorM5
import Derived.Lib.ConvBytes
namespace Go.Proofs.YtcfmcgkngjpdbaaDoor
set_option linter.unusedVariables false
set_option linter.unusedSimpArgs false
open Go.RowKit
attribute [local go_sem] ta_Message_Message

theorem Fr.bytes {S : Nat → Prop} {w w1 : World} (h : Fr S w w1) (e : TypeId) (s : ByteArray) : Fr S w (Lib.bytesWorld w1 e s) :=
  ⟨h.os, h.tape, h.output, by rw [Lib.bytesWorld_size]; have := h.size; omega, fun k hk hn => (Lib.bytesWorld_at_old w1 e s k (Nat.lt_of_lt_of_le hk h.size)).trans (h.block k hk hn)⟩
def SplitR0 (w : World) (e : Ending) (w' : World) : Prop := e = .returned (.tuple #[.slice none 0 0, .slice none 0 0, .int .i64 0]) ∧ Fr NoB w w'
theorem split_none (A : Option Addr) (c : Nat) (w : World) : Calls Tryd.prog 46 #[.slice A 0 c] w (SplitR0 w) := by
  go_enter Tryd.func46, Tryd.ntmps46
  go_wp2_with fail
  refine wp_loop_rounds 1 ?_
  rw [rounds_succ]
  go_wp2_with fail
  go_ret3
  exact ⟨rfl, Fr.refl _ _⟩

set_option maxHeartbeats 1000000 in
set_option maxRecDepth 100000 in
theorem fits_empty (A1 : Option Addr) (n c1 : Nat) (b o : Nat) (m : MD) (cs : List Value) (w : World) (hA : A1 = some ⟨b, o, none⟩) (hn : 0 < n) (hc : w.cell? ⟨b, o, none⟩ = some (.string m.name)) (A : Option Addr) (nf cf : Nat) (hc1 : w.cell? ⟨b, o + 1, none⟩ = some (.slice A nf cf)) :
    Calls Tryd.prog 30 #[.agg #[.slice A1 n c1, .slice none 0 0, .slice none 0 0], .int .i64 0, .iface 30 (.agg #[.int .i64 0, .slice none 0 0, .string ⟨#[]⟩]), .int .i64 1] w (NameR true w) := by
  subst hA
  have p1 : (0 : Int) < (n : Int) := by omega
  have hmf : ∀ (fn : Fn) (first cap : Array Value) (w : World), (Instr.makeFunc fn first cap).run Tryd.prog w = .ok (.func fn first cap) w := fun _ _ _ _ => rfl
  have hfa : Fr NoB w ((w.alloc (.cells #[.slice (some ⟨b, o, none⟩) n c1, .slice none 0 0, .slice none 0 0] 56)).alloc (.cells #[.int .i64 0, .slice none 0 0, .string ⟨#[]⟩] 30)) := ((Fr.refl NoB w).alloc _).alloc _
  have q0 := hfa.cell_some hc id
  have q1 := hfa.cell_some hc1 id
  have hcv := fun (w : World) => Lib.run_convert_string_bytes (P := Tryd.prog) w 9 57 5 ⟨#[]⟩ Tryd.underlying9 Tryd.underlying57 Tryd.underlying5
  go_enter Tryd.func30, Tryd.ntmps30
  go_wp2_with fail
  refine (split_none _ _ _).mono ?_
  rintro e w4 ⟨rfl, hf4⟩
  have hbm := (Blk.second w (.cells #[.slice (some ⟨b, o, none⟩) n c1, .slice none 0 0, .slice none 0 0] 56) 30 #[.int .i64 0, .slice none 0 0, .string ⟨#[]⟩])
  have hfr : Fr NoB ((w.alloc (.cells #[.slice (some ⟨b, o, none⟩) n c1, .slice none 0 0, .slice none 0 0] 56)).alloc (.cells #[.int .i64 0, .slice none 0 0, .string ⟨#[]⟩] 30)) w4 := ((((Fr.refl NoB _).alloc _).bytes _ _)).trans hf4 (fun _ h _ => h)
  have hE : ∀ caps, Calls Tryd.prog 51 #[.slice none 0 0, .func (.func 52) #[] caps] w4 (NameR false w4) := fun caps =>
    containsFuncW (α := ED) (fun _ _ => True) 52 caps (fun _ => false) none 0 [] (fun _ => True) w4 (Row.nil _ _ _ _ _) (by decide) (fun _ _ => by kernel_rfl) (fun x cs w' hx => by cases hx)
  have HE := Lib.hid hE
  clear hE hcv
  go_wp2_with fail
  refine (HE.out _).mono ?_
  rintro e w5 ⟨rfl, hf5⟩
  have hfr5 := hfr.trans hf5 (fun _ h _ => h)
  have m1 := (hbm.fr hfr5 id).cell 1
  simp at m1
  go_wp2_with fail
  refine wp_loop_rounds 1 ?_
  rw [rounds_succ]
  go_wp2_with fail
  go_ret
  exact ⟨rfl, hfa.trans hfr5 (fun _ h _ => h)⟩

theorem uint_kind (n : Nat) (w : World) : Calls Tryd.prog 19 #[.int .u64 n] w fun e w' => e = .returned (.int .i64 2) ∧ Fr NoB w w' := by
  go_enter Tryd.func19, Tryd.ntmps19
  go_wp2_with fail
  go_ret
  exact ⟨rfl, Fr.refl _ _⟩
/-- The letter A. -/
def nameA : ByteArray := ⟨#[65]⟩
theorem pathA : pathB nameA = true := by decide +kernel
def schA : Sch := ⟨[⟨nameA, []⟩], [], []⟩

theorem schARow (w : World) (b : Nat) (h : Blk w b 51 #[.string nameA, .slice none 0 0]) : Row 2 (MsgIn w) w (fun _ => True) (some ⟨b, 0, none⟩) schA.messages := by
  exact ⟨[.string nameA, .slice none 0 0], ⟨[.string nameA, .slice none 0 0], [], rfl, rfl, ⟨none, 0, rfl, Nat.le_refl _, fun _ => rfl, Row.nil _ _ _ _ _⟩, rfl⟩, Rd.of_blk (n := 1) (size := 2) (fun _ => True) (cs := [.string nameA, .slice none 0 0]) h rfl trivial⟩

set_option maxHeartbeats 1000000 in
set_option maxRecDepth 100000 in
theorem Fits_A (w : World) (hml : ML w) (b : Nat) (hb : Blk w b 51 #[.string nameA, .slice none 0 0]) :
    Calls Tryd.prog 18 #[.agg #[.slice (some ⟨b, 0, none⟩) 1 1, .slice none 0 0, .slice none 0 0], .int .i64 0, .iface 30 (.agg #[.int .i64 0, .slice none 0 0, .string ⟨#[]⟩])] w (NameR true w) := by
  have hfa : Fr NoB w (w.alloc (.cells #[.slice (some ⟨b, 0, none⟩) 1 1, .slice none 0 0, .slice none 0 0] 56)) := (Fr.refl NoB w).alloc _
  have hbs := Blk.new w 56 #[.slice (some ⟨b, 0, none⟩) 1 1, .slice none 0 0, .slice none 0 0]
  have hr := (schARow w b hb).mv (Mv.new hfa) (fun _ _ _ h => h.new hfa)
  have hF := Lib.hid (formed_plain schA (some ⟨b, 0, none⟩) 1 _ (hml.new hfa) hr (by decide) (by decide) (by decide) (by decide +kernel) (by decide +kernel) (by decide +kernel)
    (fun t w' ht hf => needs_none schA (some ⟨b, 0, none⟩) none none 1 0 0 0 0 t w' (hr.mv (Mv.new hf) (fun _ _ _ h => h.new hf)) ht (by decide)
      (by obtain rfl : t = 0 := by (have : schA.messages.length = 1 := rfl); omega
          show (0 : Nat) ≤ 1000000
          decide) (by obtain rfl : t = 0 := by (have : schA.messages.length = 1 := rfl); omega
                      intro f hf; cases hf)))
  go_enter Tryd.func18, Tryd.ntmps18
  go_wp2_with fail
  refine hF.out.mono ?_
  rintro e w2 ⟨rfl, hf2⟩
  have hb2 := hbs.fr hf2 id
  have s0 := hb2.cell 0
  have s1 := hb2.cell 1
  have s2 := hb2.cell 2
  simp at s0 s1 s2
  have hf02 := hfa.trans hf2 (fun _ h _ => h)
  have hbb := hb.fr hf02 id
  have c0 := hbb.cell 0
  have c1 := hbb.cell 1
  simp at c0 c1
  have hE := Lib.hid (fits_empty (some ⟨b, 0, none⟩) 1 1 b 0 ⟨nameA, []⟩ [] w2 rfl (by decide) c0 none 0 0 c1)
  clear c0 c1
  go_wp2_with fail
  refine hE.out.mono ?_
  rintro e w3 ⟨rfl, hf3⟩
  go_wp2_with fail
  go_ret
  exact ⟨rfl, hf02.trans hf3 (fun _ h _ => h)⟩

set_option maxHeartbeats 1000000 in
set_option maxRecDepth 100000 in
theorem awake09 (w : World) (hml : ML w) : Calls Tryd.prog 5 #[] w fun e w' => e = .returned (.bool true) ∧ Fr NoB w w' := by
  have hfa : Fr NoB w (w.alloc (.cells #[.string nameA, .slice none 0 0] 51)) := (Fr.refl NoB w).alloc _
  have hb := Blk.new w 51 #[.string nameA, .slice none 0 0]
  go_enter Tryd.func5, Tryd.ntmps5
  go_wp2_with fail
  refine (Fits_A _ (hml.new hfa) _ hb).mono ?_
  rintro e w2 ⟨rfl, hf2⟩
  go_wp2_with fail
  refine (uint_kind _ _).mono ?_
  rintro e w3 ⟨rfl, hf3⟩
  go_wp2_with fail
  go_ret
  exact ⟨rfl, (hfa.trans hf2 (fun _ h _ => h)).trans hf3 (fun _ h _ => h)⟩
end Go.Proofs.YtcfmcgkngjpdbaaDoor
