/- Must, and must: what Must tells, and whether it panicked. -/
import Derived.Test.YtcfmcgkngjpdbaaDoorV6
namespace Go.Proofs.YtcfmcgkngjpdbaaDoor
set_option linter.unusedVariables false
set_option linter.unusedSimpArgs false
open Go.RowKit
attribute [local go_sem] tm_Message

theorem catch_panicking (p : Addr) (x : Bool) (u : TypeId) (pv : Value) (older : List PanicEntry) (w : World) (hc : w.cell? p = some (.bool x)) (hz : w.frozen? p = false) :
    CallsD Tryd.prog 21 #[.pointer (some p)] (.panicking ({ v := .iface u pv, recovered := false } :: older)) w fun e u' w' =>
      e = .returned (.tuple #[]) ∧ u' = .panicking ({ v := .iface u pv, recovered := true } :: older) ∧ w' = w.setCell p (.bool true) := by
  refine callsD_of_wpS Tryd.func21 rfl fun c₀ cs hu => ?_
  apply wpS_seq
  apply wpS_region
  simp [wpOpsS, go_sem, recoverD, hu, Tryd.ntmps21, Exit.thenS]
  refine wpS_cond (t := true) (by simp [Act.eval, Array.replicate]) ?_
  simp only [if_true]
  apply wpS_region
  simp [wpOpsS, go_sem, hc, hz, bodyPostS, results, Tryd.results21]

theorem catch_idle (p : Addr) (w : World) :
    CallsD Tryd.prog 21 #[.pointer (some p)] .returning w fun e u' w' => e = .returned (.tuple #[]) ∧ u' = .returning ∧ w' = w := by
  refine callsD_of_wpS Tryd.func21 rfl fun c₀ cs hu => ?_
  apply wpS_seq
  apply wpS_region
  simp [wpOpsS, go_sem, recoverD, hu, Tryd.ntmps21, Exit.thenS]
  refine wpS_cond (t := false) (by simp [Act.eval, Array.replicate]) ?_
  simp only [Bool.false_eq_true, if_false]
  refine wpS_of_wp (wp_skip ?_)
  cases c₀
  simp_all [bodyPostS, results, Tryd.results21]

theorem Must_msg (t : Int) (A : Option Addr) (n c : Nat) (s : ByteArray) (w : World) :
    Calls Tryd.prog 22 #[.iface 30 (.agg #[.int .i64 t, .slice A n c, .string s])] w fun e w' => e = .returned (.agg #[.int .i64 t, .slice A n c, .string s]) ∧ Fr NoB w w' := by
  go_enter Tryd.func22, Tryd.ntmps22
  go_wp2_with fail
  refine bodyPost_ret (v := .agg #[.int .i64 t, .slice A n c, .string s]) (by simp [results, Tryd.results22, go_sem]) rfl ⟨rfl, (Fr.refl NoB w).alloc _⟩

def FailR (w : World) (e : Ending) (w' : World) : Prop := ∃ t u, e = .panicked [{ v := .iface t u, recovered := false }] ∧ Fr NoB w w'
theorem Must_fail (d : Nat) (x : Rec (Nd d)) (v : Value) (ok : Nat → Prop) (w : World) (h : ValAt (d + 1) w ok x v) (h7 : x.k ≠ 7) :
    Calls Tryd.prog 22 #[v] w (FailR w) := by
  obtain ⟨hw, h⟩ := h
  rcases h with ⟨hk, rfl⟩ | ⟨hk, rfl⟩ | ⟨hk, rfl⟩ | ⟨hk, rfl⟩ | ⟨hk, rfl⟩ | ⟨hk, rfl⟩ | ⟨hk, A, c, hv, hc, h0, hr⟩ | ⟨hk, rfl⟩
  case inr.inr.inr.inr.inr.inr.inl => exact absurd hk h7
  all_goals clear hk
  · have hq := tm_Int
    go_enter Tryd.func22, Tryd.ntmps22
    go_wp2_with fail
    exact ⟨rfl, _, _, rfl, ((Fr.refl NoB w).alloc _).alloc _⟩
  · have hq := tm_Uint
    go_enter Tryd.func22, Tryd.ntmps22
    go_wp2_with fail
    exact ⟨rfl, _, _, rfl, ((Fr.refl NoB w).alloc _).alloc _⟩
  · have hq := tm_Bool
    go_enter Tryd.func22, Tryd.ntmps22
    go_wp2_with fail
    exact ⟨rfl, _, _, rfl, ((Fr.refl NoB w).alloc _).alloc _⟩
  · have hq := tm_Text
    go_enter Tryd.func22, Tryd.ntmps22
    go_wp2_with fail
    exact ⟨rfl, _, _, rfl, ((Fr.refl NoB w).alloc _).alloc _⟩
  · have hq := tm_Bytes
    go_enter Tryd.func22, Tryd.ntmps22
    go_wp2_with fail
    exact ⟨rfl, _, _, rfl, ((Fr.refl NoB w).alloc _).alloc _⟩
  · have hq := tm_Enum
    go_enter Tryd.func22, Tryd.ntmps22
    go_wp2_with fail
    exact ⟨rfl, _, _, rfl, ((Fr.refl NoB w).alloc _).alloc _⟩
  · have hq := tm_nil
    go_enter Tryd.func22, Tryd.ntmps22
    go_wp2_with fail
    exact ⟨rfl, _, _, rfl, ((Fr.refl NoB w).alloc _).alloc _⟩

def MustR (v : Value) (p : Bool) (w : World) (e : Ending) (w' : World) : Prop := e = .returned (.tuple #[v, .bool p]) ∧ Fr NoB w w'

theorem must_msg (t : Int) (A : Option Addr) (n c : Nat) (s : ByteArray) (w : World) :
    Calls Tryd.prog 7 #[.iface 30 (.agg #[.int .i64 t, .slice A n c, .string s])] w (MustR (.agg #[.int .i64 t, .slice A n c, .string s]) false w) := by
  have hmf : ∀ (fn : Fn) (first cap : Array Value) (w : World), (Instr.makeFunc fn first cap).run Tryd.prog w = .ok (.func fn first cap) w := fun _ _ _ _ => rfl
  have hM := Lib.hid (Must_msg t A n c s ((w.alloc (.cells #[.int .i64 0, .slice none 0 0, .string ⟨#[]⟩] 30)).alloc (.cells #[.bool false] 4)))
  go_enter_defers Tryd.func7, Tryd.ntmps7
  go_wp2_with fail
  refine hM.out.mono ?_
  rintro e w2 ⟨rfl, hf2⟩
  have hb0 := ((Blk.new w 30 #[.int .i64 0, .slice none 0 0, .string ⟨#[]⟩]).alloc (.cells #[.bool false] 4)).fr hf2 id
  have hb1 := (Blk.second w (.cells #[.int .i64 0, .slice none 0 0, .string ⟨#[]⟩] 30) 4 #[.bool false]).fr hf2 id
  have a0 := hb0.cell 0
  have a1 := hb0.cell 1
  have a2 := hb0.cell 2
  have af := hb0.frozen
  have b0 := hb1.cell 0
  have bf := hb1.frozen
  simp at a0 a1 a2 b0
  go_wp2_with fail
  refine leaves_cons (f := 21) (args := #[.pointer (some ⟨w.heap.size + 1, 0, none⟩)]) (by simp) (by simp [go_sem]) ?_
  refine (catch_idle ⟨w.heap.size + 1, 0, none⟩ _).mono ?_
  rintro e u' w'' ⟨rfl, rfl, rfl⟩
  simp [Leaves, settle, results, Tryd.results7, go_sem, a0, a1, a2, b0, af, bf]
  refine ⟨rfl, ?_⟩
  have h2 := hf2.size
  have hf := (((Fr.refl NoB w).alloc _).alloc _).trans hf2 (fun _ h _ => h)
  exact (((hf.setNew (p := ⟨w.heap.size, 0, none⟩) (Nat.le_refl _) _).setNew (p := ⟨w.heap.size, 1, none⟩) (Nat.le_refl _) _).setNew (p := ⟨w.heap.size, 2, none⟩) (Nat.le_refl _) _).setNew (p := ⟨w.heap.size + 1, 0, none⟩) (Nat.le_succ _) _

theorem must_fail (d : Nat) (x : Rec (Nd d)) (v : Value) (ok : Nat → Prop) (w : World) (h : ValAt (d + 1) w ok x v) (h7 : x.k ≠ 7) :
    Calls Tryd.prog 7 #[v] w (MustR (.agg #[.int .i64 0, .slice none 0 0, .string ⟨#[]⟩]) true w) := by
  have hmf : ∀ (fn : Fn) (first cap : Array Value) (w : World), (Instr.makeFunc fn first cap).run Tryd.prog w = .ok (.func fn first cap) w := fun _ _ _ _ => rfl
  have hfa : Fr NoB w ((w.alloc (.cells #[.int .i64 0, .slice none 0 0, .string ⟨#[]⟩] 30)).alloc (.cells #[.bool false] 4)) := ((Fr.refl NoB w).alloc _).alloc _
  have hM := Lib.hid (Must_fail d x v ok _ (h.mv (Mv.new hfa)) h7)
  go_enter_defers Tryd.func7, Tryd.ntmps7
  go_wp2_with fail
  refine hM.out.mono ?_
  rintro e w2 ⟨t9, u9, rfl, hf2⟩
  have hb0 := ((Blk.new w 30 #[.int .i64 0, .slice none 0 0, .string ⟨#[]⟩]).alloc (.cells #[.bool false] 4)).fr hf2 id
  have hb1 := (Blk.second w (.cells #[.int .i64 0, .slice none 0 0, .string ⟨#[]⟩] 30) 4 #[.bool false]).fr hf2 id
  have a0 := hb0.cell 0
  have a1 := hb0.cell 1
  have a2 := hb0.cell 2
  have af := hb0.frozen
  have b0 := hb1.cell 0
  have bf := hb1.frozen
  simp at a0 a1 a2 b0
  go_wp2_with fail
  refine leaves_cons (f := 21) (args := #[.pointer (some ⟨w.heap.size + 1, 0, none⟩)]) (by simp) (by simp [go_sem]) ?_
  refine (catch_panicking ⟨w.heap.size + 1, 0, none⟩ false t9 u9 [] w2 b0 (bf 0)).mono ?_
  rintro e u' w'' ⟨rfl, rfl, rfl⟩
  simp [Leaves, settle, results, Tryd.results7, go_sem, a0, a1, a2, b0, af, bf]
  refine ⟨rfl, ?_⟩
  exact (hfa.trans hf2 (fun _ h _ => h)).setNew (p := ⟨w.heap.size + 1, 0, none⟩) (Nat.le_succ _) _
end Go.Proofs.YtcfmcgkngjpdbaaDoor
