/- decode.Decode of a schema of one message with one field of varints. -/
import Derived.Test.YtcfmcgkngjpdbaaDoorD6
import Derived.Test.YtcfmcgkngjpdbaaDoorV8
namespace Go.Proofs.YtcfmcgkngjpdbaaDoor
set_option linter.unusedVariables false
set_option linter.unusedSimpArgs false
open Go.RowKit

def schOf (m : MD) : Sch := ⟨[m], [], []⟩
set_option maxHeartbeats 1000000 in
set_option maxRecDepth 100000 in
theorem decode_one (vs : List Nat) (A1 : Option Addr) (c1 : Nat) (m : MD) (f : FD) (A : Option Addr) (c : Nat) (l : List UInt8) (ok : Nat → Prop) (w : World) (hml : ML w) (hm : Row 2 (MsgIn w) w (fun _ => True) A1 [m]) (hmf : m.fields = [f]) (hkd : wireP f.kind = 0)
    (hA : A = none → c = 0) (hc : l.length ≤ c) (hr : Bys w ok A l) (hn : l.length ≤ 4096) (r : List (WF × List UInt8)) (h : splitP l.length l = some r) (hrl : r.length ≤ 1000000)
    (hkn : ∀ p ∈ r, p.1.n = f.num ∧ knownB [f] p.1.n p.1.t = true) (hvs : valsP (ownP f.rep (r.map (·.1))) = some vs) (hvl : vs.length ≤ 1000000) (hdl : ∀ x ∈ ownP f.rep (r.map (·.1)), x.d.length ≤ 1000000) (hLl : (ownP f.rep (r.map (·.1))).length ≤ 1000000)
    (hzz : f.rep = true ∨ (f.rep = false ∧ f.kind = 1 ∧ ∀ n ∈ vs, (wrap64 n == 0) = false)) (hfn : (Lit.int .i64 f.num).wf = true) (h9 : f.kind ≠ 9) (h10 : (f.kind == 10) = false) (hvb : ∀ n ∈ vs, n < 2 ^ 64)
    (hs : m.name.size ≤ 1000000 ∧ f.name.size ≤ 1000000) (hp : pathB m.name = true) (hu : unlikeB [m.name] = true) (hmb : messageB 0 1 m = true) :
    Calls Tryd.prog 16 #[.agg #[.slice A1 1 c1, .slice none 0 0, .slice none 0 0], .int .i64 0, .slice A l.length c] w (MsgR (msgTree f vs) w) := by
  have hfa : Fr NoB w (w.alloc (.cells #[.slice A1 1 c1, .slice none 0 0, .slice none 0 0] 56)) := (Fr.refl NoB w).alloc _
  have hbs := Blk.new w 56 #[.slice A1 1 c1, .slice none 0 0, .slice none 0 0]
  have hrm : ∀ w', Fr NoB w w' → Row 2 (MsgIn w') w' (fun _ => True) A1 (schOf m).messages := fun w' hf => hm.mv (Mv.new hf) (fun _ _ _ h => h.new hf)
  have hF := Lib.hid (formed_plain (schOf m) A1 c1 _ (hml.new hfa) (hrm _ hfa) (by simp [schOf]) (by simp [schOf]) (fun q hq => by
      have hq : q = m := by simpa [schOf] using hq
      subst hq
      exact ⟨hs.1, fun x hx => by rw [hmf] at hx; rw [List.mem_singleton.1 hx]; exact hs.2, by rw [hmf]; simp⟩)
    (fun q hq => by
      have hq : q = m := by simpa [schOf] using hq
      subst hq
      exact hp) hu (fun q hq => by
      have hq : q = m := by simpa [schOf] using hq
      subst hq
      exact hmb)
    (fun t w' ht hf => needs_none (schOf m) A1 none none c1 0 0 0 0 t w' (hrm _ (hfa.trans hf (fun _ h _ => h))) ht (by simp [schOf])
      (by obtain rfl : t = 0 := by (have : (schOf m).messages.length = 1 := rfl); omega
          show m.fields.length ≤ 1000000
          rw [hmf]; simp) (by obtain rfl : t = 0 := by (have : (schOf m).messages.length = 1 := rfl); omega
                              intro x hx
                              have hx : x ∈ m.fields := hx
                              rw [hmf] at hx
                              rw [List.mem_singleton.1 hx]
                              exact .inl h10)))
  have hM := Lib.hid (fun w2 (hf : Fr NoB w w2) => message_one vs A1 c1 m f A c l ok w2 (hrm _ hf) hmf hkd hA hc (Rd.fr hr hf (fun _ _ _ => id)) (by omega) r h hrl hkn hvs hvl hdl hLl hzz hfn h9 hvb)
  have p1 : ¬ (4096 : Int) < (l.length : Int) := by omega
  clear h hkn hvs
  go_enter Tryd.func16, Tryd.ntmps16
  go_wp2_with fail
  refine hF.out.mono ?_
  rintro e w2 ⟨rfl, hf2⟩
  have hb2 := hbs.fr hf2 id
  have s0 := hb2.cell 0
  have s1 := hb2.cell 1
  have s2 := hb2.cell 2
  simp at s0 s1 s2
  have hf02 := hfa.trans hf2 (fun _ h _ => h)
  go_wp2_with fail
  refine (hM.out _ hf02).mono ?_
  rintro e w3 ⟨v, rfl, hv, hf3⟩
  go_wp2_with fail
  go_ret2
  exact ⟨v, rfl, hv.mv (Mv.mono w3 (fun b hb _ => Nat.le_trans hf02.size hb)), hf02.trans hf3 (fun _ h _ => h)⟩
end Go.Proofs.YtcfmcgkngjpdbaaDoor
