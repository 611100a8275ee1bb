/- The law DedupReplays, whatever its client, token, status, bytes and numbers: it answers true, and the bytes read as they did. No condition. -/
import Derived.Test.YtdfdmjnhekdpjaaRows
import Derived.Test.YtdfdmjnhekdpjaaD13
import Derived.WalkKit
import Derived.ProofKit
import Derived.OpenShut
import Derived.ShutString
import Derived.ChangeOld
import Derived.Below
import Derived.SizedLaws
import Derived.ChangeSlices
import Derived.Deep.Slices
namespace Go.Proofs.Ytdfdmjnhekdpjaa.DedupReplaysRow
open Go.ChangeShapes Go.WideShapes Go.ChangeAt Go.RowKit Go.Proofs.YtdfdmjnhekdpjaaW.PrintWords
set_option linter.unusedVariables false
set_option linter.unusedSimpArgs false
theorem own : ownKnob Try.prog.godebug = none := by kernel_rfl
theorem laidOut : laidOutB Try.prog = true := by kernel_rfl

section
variable {H : Type} {enc : TypeId × Value → H} {w : World} {base : Nat} {spare : Nat → Bool} {held : Bool}

set_option maxRecDepth 100000 in
/-- A slice of bytes that came in. -/
theorem bytes_of {fuel : Nat} {v : Value} {x : DataW H × List MemPlace} (h : DataW.trod enc Try.prog w base spare held fuel 35 [v] = some x) :
    ∃ (B : Option Addr) (c : Nat) (bs : List Int), v = .slice B bs.length c ∧ bs.length ≤ c ∧ (B = none → c = 0) ∧ (Kd.int .u8).C w B bs.length bs ∧ ∀ b, (DataW.weights Try.prog 35 x.1).all (· ≤ b) = true → bs.length ≤ b := by
  rcases open_ints Try.underlying35 Try.underlying5 (by kernel_rfl) h with ⟨hcs, _⟩ | ⟨a, len, cap, zs, hcs, _, hl, hm, hz, hx, hcell, hwz⟩
  · exact ⟨none, 0, [], by simpa using hcs, Nat.le_refl _, fun _ => rfl, Kd.C_nil _ _, fun b _ => Nat.zero_le _⟩
  · have hzl : len ≤ zs.length := by rw [hz]; split <;> omega
    have ht : (zs.take len).length = len := by rw [List.length_take]; omega
    refine ⟨some a, cap, zs.take len, by rw [ht]; simpa using hcs, by rw [ht]; exact hl, (fun h => (by cases h)), ?_, fun b hb => ?_⟩
    · refine ⟨rfl, by rw [ht]; have : maxLen ≤ 9223372036854775807 := by decide
                      omega, fun _ => ⟨a, rfl, fun j p hj => ?_⟩⟩
      have hjl : j < len := by have := (List.getElem?_eq_some_iff.1 hj).1; omega
      have hp : zs.getD j 0 = p := by
        rw [List.getElem?_take] at hj
        rw [if_pos hjl] at hj
        simp [List.getD, hj]
      refine ⟨[.int .u8 p], rfl, rfl, fun i u hu => ?_⟩
      rcases i with _ | i
      · have : u = .int .u8 p := by simpa using hu.symm
        subst this
        rw [← hp]
        have := hcell j (by omega)
        simpa [Kd.int, Kd.scalar] using this
      · simp at hu
    · rw [hx] at hb
      unfold DataW.weights at hb
      rw [Try.underlying35] at hb
      have h5 : Try.prog.bytesOf 5 = 1 := by kernel_rfl
      have hb1 : ((lits (H := H) .u8 (zs.take len)).length + (lits (H := H) .u8 (zs.drop len)).length) * Try.prog.bytesOf 5 ≤ b := of_decide_eq_true (List.all_eq_true.1 hb _ (List.mem_cons_self ..))
      clear hb
      rw [h5] at hb1
      simp [lits] at hb1
      rw [ht]
      omega

end

set_option maxRecDepth 100000 in
theorem lifted (os : Os) (started : os.Started) (H : Type) (enc : TypeId × Value → H) :
    ReturnsInHanded {} Try.checked os 4 .any (Rows.dedupReplaysSpec.pre6 enc Try.prog Try.f4 Rows.dedupReplaysRow.domain false) (Rows.dedupReplaysSpec.post enc Try.prog Try.f4 false true false false) := by
  refine returnsInHanded_of_change_sized (C := Try.checked) own started (by kernel_rfl) Try.func4
    (ChangeSpec.witness6 (enc := enc) (C := Try.checked) false ⟨#[], #[.int .i64 0, .int .u64 0, .int .i64 0, .slice none 0 0, .int .u8 0, .int .u64 0], []⟩ 8 (by kernel_rfl) (by kernel_rfl) (by kernel_rfl) (by kernel_rfl)) ?_
  intro W base args ds gs before hval0 hW hcnd hsz0 _
  have hval : ∀ (j : Nat) t v, Try.f4.params[j]? = some t → args[j]? = some v → Value.okWide Try.prog W .any base t v := hval0
  have hW' := hW
  obtain ⟨p, q, hA0, hV, rfl, hfz, hnd⟩ := hW
  have hA : DataW.TrodAll enc Try.prog W 0 (fun _ => true) true Try.f4.params.toList args.toList ds p := hA0
  rw [Try.params4] at hA hval
  obtain ⟨v0, vs0, d0, ds0, p0, q0, hargs, rfl, rfl, h0, r0⟩ := trodAll_cons hA
  obtain ⟨v1, vs1, d1, ds1, p1, q1, rfl, rfl, rfl, h1, r1⟩ := trodAll_cons r0
  obtain ⟨v2, vs2, d2, ds2, p2, q2, rfl, rfl, rfl, h2, r2⟩ := trodAll_cons r1
  obtain ⟨v3, vs3, d3, ds3, p3, q3, rfl, rfl, rfl, h3, r3⟩ := trodAll_cons r2
  obtain ⟨v4, vs4, d4, ds4, p4, q4, rfl, rfl, rfl, h4, r4⟩ := trodAll_cons r3
  obtain ⟨v5, vs5, d5, ds5, p5, q5, rfl, rfl, rfl, h5, r5⟩ := trodAll_cons r4
  obtain ⟨rfl, rfl, rfl⟩ := trodAll_nil r5
  obtain rfl : args = #[v0, v1, v2, v3, v4, v5] := by cases args; simp_all
  obtain ⟨rfl, rfl⟩ := trodVars_none hV
  obtain ⟨a0, rfl, rfl, rfl, w0⟩ := open_int Try.underlying3 (hval 0 3 v0 rfl rfl) h0
  obtain ⟨a1, rfl, rfl, rfl, w1⟩ := open_int Try.underlying43 (hval 1 43 v1 rfl rfl) h1
  obtain ⟨a2, rfl, rfl, rfl, w2⟩ := open_int Try.underlying3 (hval 2 3 v2 rfl rfl) h2
  obtain ⟨a4, rfl, rfl, rfl, w4⟩ := open_int Try.underlying5 (hval 4 5 v4 rfl rfl) h4
  obtain ⟨a5, rfl, rfl, rfl, w5⟩ := open_int Try.underlying43 (hval 5 43 v5 rfl rfl) h5
  obtain ⟨a3, len3, cap3, rfl⟩ := okWide_slice Try.underlying35 (hval 3 35 v3 rfl rfl)
  have k3 := h3
  have lt3 : ∀ x ∈ p3, x.block < W.heap.size := by
    obtain ⟨m, hm⟩ := k3
    exact DataW.trod_lt m _ _ _ hm
  obtain ⟨fuel, hf⟩ := h3
  obtain ⟨B, c, bs, hv, hc, hn, hC, _⟩ := bytes_of (x := (d3, p3)) (by simpa [Value.cells] using hf)
  injection hv with e1 e2 e3
  subst e1 e2 e3
  clear hA0 hval0 hsz0 hf
  have m1 : IntKind.u64.min = 0 := rfl
  have m2 : IntKind.u64.max = 18446744073709551615 := rfl
  have m3 : IntKind.u8.min = 0 := rfl
  have m4 : IntKind.u8.max = 255 := rfl
  have u1 := w1
  have u4 := w4
  have u5 := w5
  simp [Lit.wf, m1, m2, m3, m4] at u1 u4 u5
  have key : Calls Try.prog 4 #[.int .i64 a0, .int .u64 a1, .int .i64 a2, .slice a3 bs.length cap3, .int .u8 a4, .int .u64 a5] W fun e w' => e = .returned (.bool true) ∧ Fr NoB W w' := by
    by_cases hoff : (2000 : Int) < bs.length ∨ a1 = 0 ∨ 1152921504606846976 < a1
    · exact replays_off W a0 a1 a2 a4 a5 a3 bs.length cap3 hoff
    · exact replays_on W a0 a1 a2 a4 a5 a3 bs.length cap3 bs (by omega) (by omega) (by omega) (by omega) (by omega) hn hC
  refine key.mono fun e W' ⟨he, hF⟩ => ?_
  subst he
  have bel := hF.below_all
  exact ⟨_, rfl, _, _, _, [], _, [], hW', trodAll_mk1 (shut_bool Try.underlying4 _), (trodAll_cons_mk (shut_int Try.underlying3 w0) (trodAll_cons_mk (shut_int Try.underlying43 w1) (trodAll_cons_mk (shut_int Try.underlying3 w2)
    (trodAll_cons_mk (Below.trod laidOut (by kernel_rfl) (of_decide_eq_true (by kernel_rfl)) k3 bel lt3) (trodAll_cons_mk (shut_int Try.underlying5 w4) (trodAll_cons_mk (shut_int Try.underlying43 w5) trodAll_mk0)))))), rfl, bel.frame _, fun h => by cases h⟩

theorem over : Rows.dedupReplaysRow.holds Try.pinned (OpenSpec.ofChange Rows.dedupReplaysSpec) :=
  OpenClaim.holds_of_wide 4 Try.f4 rfl rfl rfl rfl rfl rfl rfl ⟨rfl, rfl, rfl, rfl, rfl⟩ rfl rfl rfl rfl rfl (by kernel_rfl) Try.func4 (by kernel_rfl)
    (of_decide_eq_true (by kernel_rfl)) (by unfold Func.isWrapper; first | (rw [if_pos (by decide +kernel)]; kernel_rfl) | (rw [if_neg (by decide +kernel)]; exact ⟨rfl, rfl⟩))
    (fun os started H enc _ => lifted os started H enc)
theorem proved : Rows.DedupReplaysSaid := over
#print axioms proved
end Go.Proofs.Ytdfdmjnhekdpjaa.DedupReplaysRow
namespace Go.Proofs.Ytdfdmjnhekdpjaa
/-- The row, under a short name, for the claim. -/
theorem dedupReplays_holds : Rows.DedupReplaysSaid := DedupReplaysRow.proved
end Go.Proofs.Ytdfdmjnhekdpjaa
