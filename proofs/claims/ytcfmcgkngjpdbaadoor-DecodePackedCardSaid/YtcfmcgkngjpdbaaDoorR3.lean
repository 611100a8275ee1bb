/- The law DecodePacked, whatever its kind, numbers and cut: it answers true, and the numbers read as they did. -/
import Derived.Test.YtcfmcgkngjpdbaaDoorRows
import Derived.Test.YtcfmcgkngjpdbaaDoorTie
import Derived.Test.YtcfmcgkngjpdbaaDoorCards
import Derived.Test.YtcfmcgkngjpdbaaDoorE4
import Derived.Test.YtcfmcgkngjpdbaaDoorR1
import Derived.WalkKit
import Derived.ProofKit
import Derived.OpenShut
import Derived.ShutString
import Derived.ChangeOld
import Derived.Below
import Derived.SizedLaws
import Derived.LaidMore
import Derived.Lay
import Derived.Shelf.Vars
import Derived.Stop.Joined
import Derived.Deep.DeepHandedRow
import Derived.SevenTiedAt
namespace Go.Proofs.YtcfmcgkngjpdbaaDoor.DecodePackedRow
open Go.ChangeShapes Go.WideShapes Go.ChangeAt Go.RowKit
set_option linter.unusedVariables false
set_option linter.unusedSimpArgs false
theorem own : ownKnob Tryd.prog.godebug = none := by kernel_rfl
theorem laidOut : laidOutB Tryd.prog = true := by kernel_rfl
theorem ml_of {W : World} (h : W.ShapedOpen Tryd.prog) : ML W :=
  cell_of_shapedOpen_int (zero := #[.int .i64 0]) (t := 3) h (of_decide_eq_true (by kernel_rfl)) (by kernel_rfl) rfl (by kernel_rfl) (by kernel_rfl) Tryd.underlying3
noncomputable abbrev laid0 : List (String × DataW Unit) := Rows.decodePackedRow.laid
theorem cu64_ : Tryd.prog.cellsOf 22 = 1 := by kernel_rfl
theorem bu64_ : 0 < Tryd.prog.bytesOf 22 := of_decide_eq_true (by kernel_rfl)
theorem rep_nums : ∀ (l : List Nat) (xs : List Value), RepL 1 (fun (n : Nat) cs => cs = [Value.int .u64 (n : Int)] ∧ n < 2 ^ 64) l xs → xs = l.map (fun n => .int .u64 (n : Nat)) ∧ ∀ n ∈ l, n < 2 ^ 64
  | [], xs, h => ⟨h, fun n hn => by cases hn⟩
  | n :: l, xs, h => by
    obtain ⟨cs, ys, rfl, _, ⟨rfl, hn⟩, hr⟩ := h
    obtain ⟨rfl, hl⟩ := rep_nums l ys hr
    refine ⟨rfl, fun m hm => ?_⟩
    rcases List.mem_cons.1 hm with rfl | hm
    · exact hn
    · exact hl m hm
set_option maxRecDepth 100000 in
theorem lifted (os : Os) (started : os.Started) (H : Type) (enc : TypeId × Value → H) (F : Stop.Interp) :
    ReturnsInHanded {} Tryd.checked os 4 .any ((OpenSpec.ofChange Rows.decodePackedSpec).preRow enc Tryd.prog Tryd.f4 Rows.decodePackedRow.domain false laid0) (((OpenSpec.ofChange Rows.decodePackedSpec).at F).post enc Tryd.prog Tryd.f4 false true false false) := by
  refine returnsInHanded_of_row (C := Tryd.checked) own started (by kernel_rfl) Tryd.func4
    (ChangeSpec.witness_shaped (enc := enc) (C := Tryd.checked) (os := os) (s := Rows.decodePackedSpec) (X := fun w _ => laidMetH Tryd.prog laid0 w) false (World.laidAll Tryd.prog os laid0) #[.int .u8 0, .slice none 0 0, .int .u8 0] 8 (World.laidAll_os _ _ _)
      (World.shaped_of_ZipB (by kernel_rfl) (by kernel_rfl)) (by kernel_rfl) (by kernel_rfl) (by kernel_rfl)
      (by rw [MakeChecks.laidMetH_plain _ _ _ (by kernel_rfl)]; exact laidMet_laidAll _ (by kernel_rfl) (by kernel_rfl))) ?_
  intro W base args ds gs before hval0 hW hcnd _ hsz0 _ hsh _
  have hml := ml_of hsh
  have hval : ∀ (j : Nat) t v, Tryd.f4.params[j]? = some t → args[j]? = some v → Value.okWide Tryd.prog W .any base t v := hval0
  have hW' := hW
  obtain ⟨p, q, hA0, hV, rfl, hfz, hnd⟩ := hW
  have hA : DataW.TrodAll enc Tryd.prog W 0 (fun _ => true) true Tryd.f4.params.toList args.toList ds p := hA0
  rw [Tryd.params4] at hA hval
  obtain ⟨v0, vs0, d0, ds0, p0, q0, hargs, rfl, rfl, h0, r0⟩ := trodAll_cons hA
  obtain ⟨v1, vs1, d1, ds1, p1, q1, rfl, rfl, rfl, h1, r1⟩ := trodAll_cons r0
  obtain ⟨v2, vs2, d2, ds2, p2, q2, rfl, rfl, rfl, h2, r2⟩ := trodAll_cons r1
  obtain ⟨rfl, rfl, rfl⟩ := trodAll_nil r2
  obtain rfl : args = #[v0, v1, v2] := by cases args; simp_all
  obtain ⟨rfl, rfl⟩ := trodVars_none hV
  obtain ⟨a0, rfl, rfl, rfl, w0⟩ := open_int Tryd.underlying5 (hval 0 5 v0 rfl rfl) h0
  obtain ⟨a2, rfl, rfl, rfl, w2⟩ := open_int Tryd.underlying5 (hval 2 5 v2 rfl rfl) h2
  obtain ⟨A1, len1, cap1, rfl⟩ := okWide_slice Tryd.underlying45 (hval 1 45 v1 rfl rfl)
  have k1 := h1
  have lt1 : ∀ x ∈ p1, x.block < W.heap.size := by
    obtain ⟨m, hm⟩ := k1
    exact DataW.trod_lt m _ _ _ hm
  obtain ⟨fuel, hf⟩ := h1
  have hwt : (DataW.weights Tryd.prog 45 d1).all (· ≤ reachBytes) = true := by
    have h : (DataW.weightsEach Tryd.prog (Tryd.f4.params.toList ++ []) ([.lit (.int .u8 a0), d1, .lit (.int .u8 a2)] ++ [])).all (· ≤ reachBytes) = true := hsz0
    rw [Tryd.params4] at h
    simp only [List.append_nil, DataW.weightsEach, List.all_append, Bool.and_eq_true] at h
    exact h.2.1
  have u0 := w0
  have u2 := w2
  have m3 : IntKind.u8.min = 0 := rfl
  have m4 : IntKind.u8.max = 255 := rfl
  simp [Lit.wf, m3, m4] at u0 u2
  obtain ⟨kn, rfl⟩ : ∃ n : Nat, a0 = n := ⟨a0.toNat, by omega⟩
  obtain ⟨cut, rfl⟩ : ∃ n : Nat, a2 = n := ⟨a2.toNat, by omega⟩
  obtain ⟨A, ns, c, hcs, _, _, ⟨xs, hrep, hrd⟩, hll⟩ := slice_open (α := Nat) (sz := 1) (fun (n : Nat) cs => cs = [Value.int .u64 (n : Int)] ∧ n < 2 ^ 64) Tryd.underlying45 cu64_ (by decide) bu64_ (fun m cs y _ hy _ => by
    obtain ⟨z, rfl, _, hz⟩ := DataW.trod_int Tryd.underlying22 hy
    have m5 : IntKind.u64.min = 0 := rfl
    have m6 : IntKind.u64.max = 18446744073709551615 := rfl
    simp [Lit.wf, m5, m6] at hz
    exact ⟨z.toNat, by rw [Int.toNat_of_nonneg (by omega)], by omega⟩) (x := (d1, p1)) (by simpa [Value.cells] using hf) hwt
  obtain ⟨rfl, hns⟩ := rep_nums ns xs hrep
  simp only [List.cons.injEq, and_true] at hcs
  injection hcs with e1 e2 e3
  subst e1 e2 e3
  clear hA0 hval0 hsz0 hcnd
  have key : Calls Tryd.prog 4 #[.int .u8 kn, .slice A1 ns.length cap1, .int .u8 cut] W fun e w' => e = .returned (.bool true) ∧ Fr NoB W w' := packed_any kn cut A1 cap1 ns (fun _ => True) W hml (by omega) (by omega) hns hrd hll
  refine key.mono fun e W' ⟨he, hF⟩ => ?_
  subst he
  have bel := hF.below_all
  exact ⟨_, rfl, _, _, _, [], _, [], hW', trodAll_mk1 (shut_bool Tryd.underlying4 _), (trodAll_cons_mk (shut_int Tryd.underlying5 w0) (trodAll_cons_mk (Below.trod laidOut (by kernel_rfl) (of_decide_eq_true (by kernel_rfl)) k1 bel lt1) (trodAll_cons_mk (shut_int Tryd.underlying5 w2) trodAll_mk0))), rfl, bel.frame _, fun h => by cases h⟩

theorem over : Rows.decodePackedRow.holds Tryd.pinned (OpenSpec.ofChange Rows.decodePackedSpec) :=
  OpenClaim.holds_of_cond 4 Tryd.f4 rfl rfl rfl rfl rfl rfl rfl ⟨rfl, rfl, rfl, rfl, rfl⟩ rfl rfl rfl rfl rfl (by kernel_rfl) Tryd.func4 (by kernel_rfl)
    (of_decide_eq_true (by kernel_rfl)) (by unfold Func.isWrapper; first | (rw [if_pos (by decide +kernel)]; kernel_rfl) | (rw [if_neg (by decide +kernel)]; exact ⟨rfl, rfl⟩))
    (fun os started H enc _ F => by rw [OpenClaim.pre_eq_preRow]; exact lifted os started H enc F)
theorem proved : Rows.DecodePackedSaid := over
#print axioms proved
theorem card_holds : Rows.DecodePackedCardSaid :=
  Claim7.holds_tied_plain_at .later [] [.data, .pinned] true (true, "b0b628b471ce3e492f9b387b8367a5f0530bee51bcebf0a3a77d34d19d81c080") true
    proved (fun _ h => by cases h) (by kernel_rfl) (fun _ h => by cases h) decodePacked_row_tie rfl ⟨rfl, rfl⟩ (by kernel_rfl) rfl
    (fun f fn hf hfn => by
      obtain rfl : f = 4 := Option.some.inj ((show Tryd.prog.funcNamed "courier/courierlaw11.DecodePacked" = some 4 by kernel_rfl).symm.trans hf) |>.symm
      obtain rfl : fn = Tryd.f4 := (Option.some.inj (Tryd.func4.symm.trans hfn)).symm
      exact ⟨by kernel_rfl, fun j t ht => by
        rw [Tryd.params4] at ht
        have hm : t ∈ [5, 45, 5] := by simpa using Array.mem_of_getElem? ht
        have hall : ([5, 45, 5].all fun u => !Tryd.prog.wantsStandIn u) = true := by kernel_rfl
        exact (show Tryd.prog.wantsStandIn t = false by simpa using List.all_eq_true.1 hall t hm)⟩)
    (by kernel_rfl)
#print axioms card_holds
end Go.Proofs.YtcfmcgkngjpdbaaDoor.DecodePackedRow
namespace Go.Proofs.YtcfmcgkngjpdbaaDoor
/-- The card, under a short name, for the claim. -/
theorem decodePacked_card : Rows.DecodePackedCardSaid := DecodePackedRow.card_holds
end Go.Proofs.YtcfmcgkngjpdbaaDoor
