/- The law ValueMusts, whatever its node and number: it answers true, and the node reads as it did. -/
import Derived.Test.YtcfmcgkngjpdbaaDoorRows
import Derived.Test.YtcfmcgkngjpdbaaDoorTie
import Derived.Test.YtcfmcgkngjpdbaaDoorCards
import Derived.Test.YtcfmcgkngjpdbaaDoorV9
import Derived.Test.YtcfmcgkngjpdbaaDoorR1
import Derived.WalkKit
import Derived.ProofKit
import Derived.OpenShut
import Derived.ShutString
import Derived.ChangeOld
import Derived.Below
import Derived.SizedLaws
import Derived.LaidMore
import Derived.Lay
import Derived.Shelf.Vars
import Derived.Stop.Joined
import Derived.Deep.DeepHandedRow
import Derived.SevenTiedAt
namespace Go.Proofs.YtcfmcgkngjpdbaaDoor.ValueMustsRow
open Go.ChangeShapes Go.WideShapes Go.ChangeAt Go.RowKit
set_option linter.unusedVariables false
set_option linter.unusedSimpArgs false
theorem own : ownKnob Tryd.prog.godebug = none := by kernel_rfl
theorem laidOut : laidOutB Tryd.prog = true := by kernel_rfl
theorem ml_of {W : World} (h : W.ShapedOpen Tryd.prog) : ML W :=
  cell_of_shapedOpen_int (zero := #[.int .i64 0]) (t := 3) h (of_decide_eq_true (by kernel_rfl)) (by kernel_rfl) rfl (by kernel_rfl) (by kernel_rfl) Tryd.underlying3
noncomputable abbrev laid0 : List (String × DataW Unit) := Rows.valueMustsRow.laid
set_option maxRecDepth 100000 in
theorem underS {W : World} {r : Reach} {base : Nat} {v : Value} (h : Value.okWide Tryd.prog W r base 25 v) : ∃ cs, v = .agg cs := by
  unfold Value.okWide at h
  rw [Tryd.underlying25] at h
  obtain ⟨cs, e, _⟩ := h
  exact ⟨cs, e⟩

set_option maxRecDepth 100000 in
theorem lifted (os : Os) (started : os.Started) (H : Type) (enc : TypeId × Value → H) (F : Stop.Interp) :
    ReturnsInHanded {} Tryd.checked os 3 .any ((OpenSpec.ofChange Rows.valueMustsSpec).preRow enc Tryd.prog Tryd.f3 Rows.valueMustsRow.domain false laid0) (((OpenSpec.ofChange Rows.valueMustsSpec).at F).post enc Tryd.prog Tryd.f3 false true false false) := by
  refine returnsInHanded_of_row (C := Tryd.checked) own started (by kernel_rfl) Tryd.func3
    (ChangeSpec.witness_shaped (enc := enc) (C := Tryd.checked) (os := os) (s := Rows.valueMustsSpec) (X := fun w _ => laidMetH Tryd.prog laid0 w) false (World.laidAll Tryd.prog os laid0) #[.agg #[.int .i64 0, .int .i64 0, .int .u64 0, .bool false, .string ⟨#[]⟩, .int .i64 0, .slice none 0 0], .int .i64 0] 8 (World.laidAll_os _ _ _)
      (World.shaped_of_ZipB (by kernel_rfl) (by kernel_rfl)) (by kernel_rfl) (by kernel_rfl) (by kernel_rfl)
      (by rw [MakeChecks.laidMetH_plain _ _ _ (by kernel_rfl)]; exact laidMet_laidAll _ (by kernel_rfl) (by kernel_rfl))) ?_
  intro W base args ds gs before hval0 hW hcnd _ hsz0 _ hsh _
  have hml := ml_of hsh
  have hval : ∀ (j : Nat) t v, Tryd.f3.params[j]? = some t → args[j]? = some v → Value.okWide Tryd.prog W .any base t v := hval0
  have hW' := hW
  obtain ⟨p, q, hA0, hV, rfl, hfz, hnd⟩ := hW
  have hA : DataW.TrodAll enc Tryd.prog W 0 (fun _ => true) true Tryd.f3.params.toList args.toList ds p := hA0
  rw [Tryd.params3] at hA hval
  obtain ⟨v0, vs0, d0, ds0, p0, q0, hargs, rfl, rfl, h0, r0⟩ := trodAll_cons hA
  obtain ⟨v1, vs1, d1, ds1, p1, q1, rfl, rfl, rfl, h1, r1⟩ := trodAll_cons r0
  obtain ⟨rfl, rfl, rfl⟩ := trodAll_nil r1
  obtain rfl : args = #[v0, v1] := by cases args; simp_all
  obtain ⟨rfl, rfl⟩ := trodVars_none hV
  obtain ⟨a1, rfl, rfl, rfl, w1⟩ := open_int Tryd.underlying3 (hval 1 3 v1 rfl rfl) h1
  obtain ⟨cs0, rfl⟩ := underS (hval 0 25 v0 rfl rfl)
  have k0 := h0
  have lt0 : ∀ x ∈ p0, x.block < W.heap.size := by
    obtain ⟨m, hm⟩ := k0
    exact DataW.trod_lt m _ _ _ hm
  obtain ⟨fuel, hf⟩ := h0
  have hwt : (DataW.weights Tryd.prog 25 d0).all (· ≤ reachBytes) = true := by
    have h : (DataW.weightsEach Tryd.prog (Tryd.f3.params.toList ++ []) ([d0, .lit (.int .i64 a1)] ++ [])).all (· ≤ reachBytes) = true := hsz0
    rw [Tryd.params3] at h
    simp only [List.append_nil, DataW.weightsEach, List.all_append, Bool.and_eq_true] at h
    exact h.1
  obtain ⟨y, hy⟩ := node_open fuel fuel cs0.toList (d0, p0) (Nat.le_refl _) (by simpa [Value.cells] using hf) hwt
  clear hA0 hval0 hsz0 hcnd
  have key : Calls Tryd.prog 3 #[.agg cs0, .int .i64 a1] W fun e w' => e = .returned (.bool true) ∧ Fr NoB W w' := by
    cases fuel with
    | zero => exact hy.elim
    | succ d =>
      have := musts_any d y cs0.toList a1 (fun _ => True) W hml hy
      simpa using this
  refine key.mono fun e W' ⟨he, hF⟩ => ?_
  subst he
  have bel := hF.below_all
  exact ⟨_, rfl, _, _, _, [], _, [], hW', trodAll_mk1 (shut_bool Tryd.underlying4 _), (trodAll_cons_mk (Below.trod laidOut (by kernel_rfl) (of_decide_eq_true (by kernel_rfl)) k0 bel lt0) (trodAll_cons_mk (shut_int Tryd.underlying3 w1) trodAll_mk0)), rfl, bel.frame _, fun h => by cases h⟩

theorem over : Rows.valueMustsRow.holds Tryd.pinned (OpenSpec.ofChange Rows.valueMustsSpec) :=
  OpenClaim.holds_of_cond 3 Tryd.f3 rfl rfl rfl rfl rfl rfl rfl ⟨rfl, rfl, rfl, rfl, rfl⟩ rfl rfl rfl rfl rfl (by kernel_rfl) Tryd.func3 (by kernel_rfl)
    (of_decide_eq_true (by kernel_rfl)) (by unfold Func.isWrapper; first | (rw [if_pos (by decide +kernel)]; kernel_rfl) | (rw [if_neg (by decide +kernel)]; exact ⟨rfl, rfl⟩))
    (fun os started H enc _ F => by rw [OpenClaim.pre_eq_preRow]; exact lifted os started H enc F)
theorem proved : Rows.ValueMustsSaid := over
#print axioms proved
theorem card_holds : Rows.ValueMustsCardSaid :=
  Claim7.holds_tied_plain_at .later [] [.data, .pinned] true (true, "b0b628b471ce3e492f9b387b8367a5f0530bee51bcebf0a3a77d34d19d81c080") true
    proved (fun _ h => by cases h) (by kernel_rfl) (fun _ h => by cases h) valueMusts_row_tie rfl ⟨rfl, rfl⟩ (by kernel_rfl) rfl
    (fun f fn hf hfn => by
      obtain rfl : f = 3 := Option.some.inj ((show Tryd.prog.funcNamed "courier/courierlaw09.ValueMusts" = some 3 by kernel_rfl).symm.trans hf) |>.symm
      obtain rfl : fn = Tryd.f3 := (Option.some.inj (Tryd.func3.symm.trans hfn)).symm
      exact ⟨by kernel_rfl, fun j t ht => by
        rw [Tryd.params3] at ht
        have hm : t ∈ [25, 3] := by simpa using Array.mem_of_getElem? ht
        have hall : ([25, 3].all fun u => !Tryd.prog.wantsStandIn u) = true := by kernel_rfl
        exact (show Tryd.prog.wantsStandIn t = false by simpa using List.all_eq_true.1 hall t hm)⟩)
    (by kernel_rfl)
#print axioms card_holds
end Go.Proofs.YtcfmcgkngjpdbaaDoor.ValueMustsRow
namespace Go.Proofs.YtcfmcgkngjpdbaaDoor
/-- The card, under a short name, for the claim. -/
theorem valueMusts_card : Rows.ValueMustsCardSaid := ValueMustsRow.card_holds
end Go.Proofs.YtcfmcgkngjpdbaaDoor
