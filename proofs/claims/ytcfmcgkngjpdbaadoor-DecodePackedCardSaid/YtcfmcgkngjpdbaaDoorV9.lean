/- The law ValueMusts, walked. -/
import Derived.Test.YtcfmcgkngjpdbaaDoorV8
import Derived.Deep.DeepCutAuto
namespace Go.Proofs.YtcfmcgkngjpdbaaDoor
set_option linter.unusedVariables false
set_option linter.unusedSimpArgs false
open Go.RowKit Go.Proofs.YtcfmcgkngjpdbaaDoorW.PrintWords Go.Proofs.YtcfmcgkngjpdbaaDoorW.PrintLast
def F3.T4 : Bool × List (List Nat × List Nat) := (true, [([], []), ([], []), ([1], [1]), ([2], [2]), ([0, 3], [0, 3]), ([4], [4]), ([5], [5]), ([6, 5], [5, 6]), ([7, 5], [5, 7]), ([8, 5, 5], [5, 8]), ([9], [9]), ([10, 9], [9, 10]), ([11, 9, 9], [9, 11]), ([9], [9]), ([13, 12, 9], [9, 13]), ([12, 14, 14, 9], [9, 12, 14]), ([15, 9], [9, 15]), ([9, 16, 5], [5, 9, 16]), ([5, 17], [5, 17])])
def F3.B4 : List Nat := [0, 0, 2, 6, 15, 31, 63, 127, 255, 511, 1023, 2047, 4095, 1023, 16383, 32767, 65535, 131071, 262143]
theorem F3.tab4 : rtab .any (opsOf Tryd.f3 4) = F3.T4 := by kernel_rfl
theorem F3.bits4 : waitsOk F3.T4.2 F3.B4 = true := by kernel_rfl
def F3.T17 : Bool × List (List Nat × List Nat) := (true, [([], []), ([], []), ([0, 1], [0, 1]), ([2], [2]), ([3], [3]), ([], []), ([5], [5]), ([], []), ([6, 7], [6, 7]), ([8], [8]), ([9], [9]), ([], []), ([10, 11], [10, 11]), ([12], [12]), ([13, 4], [13]), ([4, 14, 14], [4, 14]), ([15], [15])])
def F3.B17 : List Nat := [0, 0, 3, 7, 15, 0, 32, 0, 224, 480, 992, 0, 4064, 8160, 16383, 32767, 65535]
theorem F3.tab17 : rtab .any (opsOf Tryd.f3 17) = F3.T17 := by kernel_rfl
theorem F3.bits17 : waitsOk F3.T17.2 F3.B17 = true := by kernel_rfl
set_option maxHeartbeats 4000000 in
set_option maxRecDepth 100000 in
theorem musts_any (d : Nat) (x : Rec (Nd d)) (cs : List Value) (number : Int) (ok : Nat → Prop) (w : World) (hml : ML w) (h : NodeAt (d + 1) w ok x cs) :
    Calls Tryd.prog 3 #[.agg cs.toArray, .int .i64 number] w fun e w' => e = .returned (.bool true) ∧ Fr NoB w w' := by
  have hN := Lib.hid h
  obtain ⟨hw, A, c, rfl, hc, h0, hr⟩ := h
  have hbx := Blk.new w 25 #[.int .i64 x.k, .int .i64 x.n, .int .u64 x.u, .bool x.b, .string x.s, .int .i64 x.t, .slice A x.fs.length c]
  have hf1 : Fr NoB w (w.alloc (.cells #[.int .i64 x.k, .int .i64 x.n, .int .u64 x.u, .bool x.b, .string x.s, .int .i64 x.t, .slice A x.fs.length c] 25)) := (Fr.refl NoB w).alloc _
  go_enter Tryd.func3, Tryd.ntmps3
  go_wp2_with fail
  generalize w.alloc (.cells #[.int .i64 x.k, .int .i64 x.n, .int .u64 x.u, .bool x.b, .string x.s, .int .i64 x.t, .slice A x.fs.length c] 25) = w1 at *
  refine (awake09 _ (hml.new hf1)).mono ?_
  rintro e w2 ⟨rfl, hf2⟩
  have hf12 := hf1.trans hf2 (fun _ h _ => h)
  have hb2 := hbx.fr hf2 id
  have a0 := hb2.cell 0
  have a1 := hb2.cell 1
  have a2 := hb2.cell 2
  have a3 := hb2.cell 3
  have a4 := hb2.cell 4
  have a5 := hb2.cell 5
  have a6 := hb2.cell 6
  simp at a0 a1 a2 a3 a4 a5 a6
  have hS := Lib.hid (Small_any (d + 1) x _ ok w2 (hN.out.mv (Mv.new hf12)))
  go_wp2_with fail
  refine hS.out.mono ?_
  rintro e w3 ⟨sm, rfl, hfine, hf3⟩
  have hf13 := hf12.trans hf3 (fun _ h _ => h)
  have hb3 := hb2.fr hf3 id
  clear a0 a1 a2 a3 a4 a5 a6 hS
  cases sm with
  | false =>
    go_wp2_with fail
    refine (awake09 _ (hml.new hf13)).mono ?_
    rintro e w4 ⟨rfl, hf4⟩
    go_wp2_with fail
    go_ret
    exact ⟨rfl, hf13.trans hf4 (fun _ h _ => h)⟩
  | true =>
    have hfine := hfine rfl
    have a0 := hb3.cell 0
    have a1 := hb3.cell 1
    have a2 := hb3.cell 2
    have a3 := hb3.cell 3
    have a4 := hb3.cell 4
    have a5 := hb3.cell 5
    have a6 := hb3.cell 6
    simp at a0 a1 a2 a3 a4 a5 a6
    have hT := Lib.hid (theirs_any (d + 1) x _ ok w3 (hN.out.mv (Mv.new hf13)) hfine)
    have HF := Lib.hid hfine
    clear hfine
    go_wp2_with fail
    refine hT.out.mono ?_
    rintro e w4 ⟨v, rfl, hv, hf4⟩
    have hf14 := hf13.trans hf4 (fun _ h _ => h)
    have hb4 := hb3.fr hf4 id
    clear a0 a1 a2 a3 a4 a5 a6 hT
    by_cases h7 : x.k = 7
    · obtain ⟨Am, cm, rfl, hcm, hm0, hrm⟩ := hv.msg h7
      have hM := Lib.hid (must_msg x.t Am x.fs.length cm x.s w4)
      go_wp2_with fail
      refine hM.out.mono ?_
      rintro e w5 ⟨rfl, hf5⟩
      have hf15 := hf14.trans hf5 (fun _ h _ => h)
      have hb5 := hb4.fr hf5 id
      have q7 : (x.k == 7) = true := beq_iff_eq.2 h7
      have q7' : (x.k != 7) = false := by simp [h7]
      have hfa : Fr NoB w5 (w5.alloc (.cells #[.int .i64 x.t, .slice Am x.fs.length cm, .string x.s] 30)) := (Fr.refl NoB w5).alloc _
      have hbm := Blk.new w5 30 #[.int .i64 x.t, .slice Am x.fs.length cm, .string x.s]
      have hf16 := hf15.trans hfa (fun _ h _ => h)
      have hb6 := hb5.fr hfa id
      have hv6 := (hv.mv (Mv.new hf5)).mv (Mv.new hfa)
      have hn6 := hN.out.mv (Mv.new hf16)
      have H7 := Lib.hid h7
      clear h7 hrm hv
      go_upto_region 4 with fail
      generalize w5.alloc (.cells #[.int .i64 x.t, .slice Am x.fs.length cm, .string x.s] 30) = w6 at *
      have a0 := hb6.cell 0
      have a1 := hb6.cell 1
      have a2 := hb6.cell 2
      have a3 := hb6.cell 3
      have a4 := hb6.cell 4
      have a5 := hb6.cell 5
      have a6 := hb6.cell 6
      have m0 := hbm.cell 0
      have m1 := hbm.cell 1
      have m2 := hbm.cell 2
      simp at a0 a1 a2 a3 a4 a5 a6 m0 m1 m2
      go_cut [42] (fun s wx => s = .bool false ∧ Fr NoB w6 wx)
      case first =>
        refine start_ (n := 19) (S := fun w' => Fr NoB w6 w') (ds := [15]) #[false, false, false, false, false, false, false, false, false, false, false, false, false, false, false, false, false, false, false] (by kernel_rfl) rfl rfl ((Fr.refl NoB w6).drew) (fun hHeld => ?_)
        refine with_tabW F3.tab4 F3.bits4 (fun HT_ HW_ => ?_)
        have hT0 : Fr NoB w6 w6.drew := (Fr.refl NoB w6).drew
        have hv := hv6.mv (Mv.new hT0)
        have hn := hn6.mv (Mv.new hT0)
        generalize w6.drew = W0 at *
        refine pure_ (i := 0) (N := some 24) (v := ?_) (a' := ?_) #[true, false, false, false, false, false, false, false, false, false, false, false, false, false, false, false, false, false, false] rfl rfl (any_of HT_.out (by kernel_rfl)) (fun _ _ _ h => h) (Or.inl ⟨by rfl, ?_⟩) ?_ ?_
        rotate_left
        · intro w'
          go_simp
          with_reducible rfl
        rotate_left
        · simp only [Act.put, List.setIfInBounds_toArray, List.set_cons_zero, List.set_cons_succ, i64_w, i32_w]
          rfl
        refine pure_ (i := 1) (N := some 25) (v := ?_) (a' := ?_) #[true, true, false, false, false, false, false, false, false, false, false, false, false, false, false, false, false, false, false] rfl rfl (any_of HT_.out (by kernel_rfl)) (fun _ _ _ h => h) (Or.inl ⟨by rfl, ?_⟩) ?_ ?_
        rotate_left
        · intro w'
          go_simp
          with_reducible rfl
        rotate_left
        · simp only [Act.put, List.setIfInBounds_toArray, List.set_cons_zero, List.set_cons_succ, i64_w, i32_w]
          rfl
        refine take_ (i := 2) (N := some 26) (v := ?_) (a' := ?_) #[true, true, true, false, false, false, false, false, false, false, false, false, false, false, false, false, false, false, false] rfl rfl (take_ofW HT_.out HW_.out (by kernel_rfl)) (fun _ _ _ h => h) (Or.inl ⟨by rfl, ?_⟩) hHeld ?_ ?_
        rotate_left
        · intro w' hS
          have sa0 := hS.cell_some a0 id
          have sa1 := hS.cell_some a1 id
          have sa2 := hS.cell_some a2 id
          have sa3 := hS.cell_some a3 id
          have sa4 := hS.cell_some a4 id
          have sa5 := hS.cell_some a5 id
          have sa6 := hS.cell_some a6 id
          have sm0 := hS.cell_some m0 id
          have sm1 := hS.cell_some m1 id
          have sm2 := hS.cell_some m2 id
          go_simp
          with_reducible rfl
        rotate_left
        · simp only [Act.put, List.setIfInBounds_toArray, List.set_cons_zero, List.set_cons_succ, i64_w, i32_w]
          rfl
        refine pure_ (i := 3) (N := some 27) (v := ?_) (a' := ?_) #[true, true, true, true, false, false, false, false, false, false, false, false, false, false, false, false, false, false, false] rfl rfl (any_of HT_.out (by kernel_rfl)) (fun _ _ _ h => h) (Or.inl ⟨by rfl, ?_⟩) ?_ ?_
        rotate_left
        · intro w'
          go_simp
          with_reducible rfl
        rotate_left
        · simp only [Act.put, List.setIfInBounds_toArray, List.set_cons_zero, List.set_cons_succ, i64_w, i32_w]
          rfl
        refine pure_ (i := 4) (N := some 28) (v := ?_) (a' := ?_) #[true, true, true, true, true, false, false, false, false, false, false, false, false, false, false, false, false, false, false] rfl rfl (any_of HT_.out (by kernel_rfl)) (fun _ _ _ h => h) (Or.inl ⟨by rfl, ?_⟩) ?_ ?_
        rotate_left
        · intro w'
          go_simp
          with_reducible rfl
        rotate_left
        · simp only [Act.put, List.setIfInBounds_toArray, List.set_cons_zero, List.set_cons_succ, i64_w, i32_w]
          rfl
        refine pure_ (i := 5) (N := some 29) (v := ?_) (a' := ?_) #[true, true, true, true, true, true, false, false, false, false, false, false, false, false, false, false, false, false, false] rfl rfl (any_of HT_.out (by kernel_rfl)) (fun _ _ _ h => h) (Or.inl ⟨by rfl, ?_⟩) ?_ ?_
        rotate_left
        · intro w'
          go_simp
          with_reducible rfl
        rotate_left
        · simp only [Act.put, List.setIfInBounds_toArray, List.set_cons_zero, List.set_cons_succ, i64_w, i32_w]
          rfl
        refine pure_ (i := 6) (N := some 30) (v := ?_) (a' := ?_) #[true, true, true, true, true, true, true, false, false, false, false, false, false, false, false, false, false, false, false] rfl rfl (any_of HT_.out (by kernel_rfl)) (fun _ _ _ h => h) (Or.inl ⟨by rfl, ?_⟩) ?_ ?_
        rotate_left
        · intro w'
          go_simp
          with_reducible rfl
        rotate_left
        · simp only [Act.put, List.setIfInBounds_toArray, List.set_cons_zero, List.set_cons_succ, i64_w, i32_w]
          rfl
        refine take_ (i := 7) (N := some 31) (v := ?_) (a' := ?_) #[true, true, true, true, true, true, true, true, false, false, false, false, false, false, false, false, false, false, false] rfl rfl (take_ofW HT_.out HW_.out (by kernel_rfl)) (fun _ _ _ h => h) (Or.inl ⟨by rfl, ?_⟩) hHeld ?_ ?_
        rotate_left
        · intro w' hS
          have sa0 := hS.cell_some a0 id
          have sa1 := hS.cell_some a1 id
          have sa2 := hS.cell_some a2 id
          have sa3 := hS.cell_some a3 id
          have sa4 := hS.cell_some a4 id
          have sa5 := hS.cell_some a5 id
          have sa6 := hS.cell_some a6 id
          have sm0 := hS.cell_some m0 id
          have sm1 := hS.cell_some m1 id
          have sm2 := hS.cell_some m2 id
          go_simp
          with_reducible rfl
        rotate_left
        · simp only [Act.put, List.setIfInBounds_toArray, List.set_cons_zero, List.set_cons_succ, i64_w, i32_w]
          rfl
        refine pure_ (i := 8) (N := some 32) (v := ?_) (a' := ?_) #[true, true, true, true, true, true, true, true, true, false, false, false, false, false, false, false, false, false, false] rfl rfl (any_of HT_.out (by kernel_rfl)) (fun _ _ _ h => h) (Or.inl ⟨by rfl, ?_⟩) ?_ ?_
        rotate_left
        · intro w'
          go_simp
          with_reducible rfl
        rotate_left
        · simp only [Act.put, List.setIfInBounds_toArray, List.set_cons_zero, List.set_cons_succ, i64_w, i32_w]
          rfl
        refine pure_ (i := 9) (N := some 33) (v := ?_) (a' := ?_) #[true, true, true, true, true, true, true, true, true, true, false, false, false, false, false, false, false, false, false] rfl rfl (any_of HT_.out (by kernel_rfl)) (fun _ _ _ h => h) (Or.inl ⟨by rfl, ?_⟩) ?_ ?_
        rotate_left
        · intro w'
          go_simp
          with_reducible rfl
        rotate_left
        · simp only [Act.put, List.setIfInBounds_toArray, List.set_cons_zero, List.set_cons_succ, i64_w, i32_w]
          rfl
        refine take_ (i := 10) (N := some 34) (v := ?_) (a' := ?_) #[true, true, true, true, true, true, true, true, true, true, true, false, false, false, false, false, false, false, false] rfl rfl (take_ofW HT_.out HW_.out (by kernel_rfl)) (fun _ _ _ h => h) (Or.inl ⟨by rfl, ?_⟩) hHeld ?_ ?_
        rotate_left
        · intro w' hS
          have sa0 := hS.cell_some a0 id
          have sa1 := hS.cell_some a1 id
          have sa2 := hS.cell_some a2 id
          have sa3 := hS.cell_some a3 id
          have sa4 := hS.cell_some a4 id
          have sa5 := hS.cell_some a5 id
          have sa6 := hS.cell_some a6 id
          have sm0 := hS.cell_some m0 id
          have sm1 := hS.cell_some m1 id
          have sm2 := hS.cell_some m2 id
          go_simp
          with_reducible rfl
        rotate_left
        · simp only [Act.put, List.setIfInBounds_toArray, List.set_cons_zero, List.set_cons_succ, i64_w, i32_w]
          rfl
        refine pure_ (i := 11) (N := some 35) (v := ?_) (a' := ?_) #[true, true, true, true, true, true, true, true, true, true, true, true, false, false, false, false, false, false, false] rfl rfl (any_of HT_.out (by kernel_rfl)) (fun _ _ _ h => h) (Or.inl ⟨by rfl, ?_⟩) ?_ ?_
        rotate_left
        · intro w'
          go_simp
          with_reducible rfl
        rotate_left
        · simp only [Act.put, List.setIfInBounds_toArray, List.set_cons_zero, List.set_cons_succ, i64_w, i32_w]
          rfl
        refine take_ (i := 13) (N := some 37) (v := ?_) (a' := ?_) #[true, true, true, true, true, true, true, true, true, true, true, true, false, true, false, false, false, false, false] rfl rfl (take_ofW HT_.out HW_.out (by kernel_rfl)) (fun _ _ _ h => h) (Or.inl ⟨by rfl, ?_⟩) hHeld ?_ ?_
        rotate_left
        · intro w' hS
          have sa0 := hS.cell_some a0 id
          have sa1 := hS.cell_some a1 id
          have sa2 := hS.cell_some a2 id
          have sa3 := hS.cell_some a3 id
          have sa4 := hS.cell_some a4 id
          have sa5 := hS.cell_some a5 id
          have sa6 := hS.cell_some a6 id
          have sm0 := hS.cell_some m0 id
          have sm1 := hS.cell_some m1 id
          have sm2 := hS.cell_some m2 id
          go_simp
          with_reducible rfl
        rotate_left
        · simp only [Act.put, List.setIfInBounds_toArray, List.set_cons_zero, List.set_cons_succ, i64_w, i32_w]
          rfl
        refine one_ (i := 12) (N := some 36) #[true, true, true, true, true, true, true, true, true, true, true, true, true, true, false, false, false, false, false] rfl rfl (one_of HT_.out (by kernel_rfl)) (by decide) (fun K hK => ?_)
        refine goes_ Tryd.func10 (by kernel_rfl) rfl #[.iface 30 (.agg #[.int .i64 x.t, .slice Am x.fs.length cm, .string x.s])] (by rfl) rfl rfl (by (try simp only [List.map_toArray, List.map_cons, List.map_nil]); first | done | rfl) ?_
        refine (ours_any (d + 1) x _ _ W0 hv HF.out).mono ?_
        rintro e W1 ⟨cs1, rfl, hn1, hT⟩
        have hv := hv.mv (Mv.new hT)
        have hn := hn.mv (Mv.new hT)
        have hSn := hHeld.trans hT (fun _ h _ => h)
        refine ⟨_, rfl, ?_⟩
        refine hK.out _ _ hSn (fun hHeld => ?_)
        clear hK K
        refine norm_ (a' := ?_) ?_ ?_
        rotate_left
        · show Act.put _ (some 36) _ = _
          simp only [Act.put, List.setIfInBounds_toArray, List.set_cons_zero, List.set_cons_succ, i64_w, i32_w]
          rfl
        refine one_ (i := 14) (N := some 38) #[true, true, true, true, true, true, true, true, true, true, true, true, true, true, true, false, false, false, false] rfl rfl (one_of HT_.out (by kernel_rfl)) (by decide) (fun K hK => ?_)
        refine goes_ Tryd.func11 (by kernel_rfl) rfl #[.agg #[.int .i64 x.k, .int .i64 x.n, .int .u64 x.u, .bool x.b, .string x.s, .int .i64 x.t, .slice A x.fs.length c]] (by rfl) rfl rfl (by (try simp only [List.map_toArray, List.map_cons, List.map_nil]); first | done | rfl) ?_
        refine (clean_any (d + 1) x _ _ W1 hn HF.out).mono ?_
        rintro e W2 ⟨cs2, rfl, hn2, hT⟩
        have hv := hv.mv (Mv.new hT)
        have hn := hn.mv (Mv.new hT)
        have hSn := hHeld.trans hT (fun _ h _ => h)
        have hn1 := hn1.mv (Mv.new hT)
        refine ⟨_, rfl, ?_⟩
        refine hK.out _ _ hSn (fun hHeld => ?_)
        clear hK K
        refine norm_ (a' := ?_) ?_ ?_
        rotate_left
        · show Act.put _ (some 38) _ = _
          simp only [Act.put, List.setIfInBounds_toArray, List.set_cons_zero, List.set_cons_succ, i64_w, i32_w]
          rfl
        refine last_ (i := 15) (N := some 39) #[true, true, true, true, true, true, true, true, true, true, true, true, true, true, true, true, false, false, false] rfl rfl (one_of HT_.out (by kernel_rfl)) (by decide) (fun K hK => ?_)
        refine goes_ Tryd.func9 (by kernel_rfl) rfl #[.agg cs1.toArray, .agg cs2.toArray] (by rfl) rfl rfl (by (try simp only [List.map_toArray, List.map_cons, List.map_nil]); first | done | rfl) ?_
        refine (same_any (d + 1) (clean (d + 1) x) cs1 cs2 _ _ W2 hn1 hn2).mono ?_
        rintro e W3 ⟨rfl, hT⟩
        have hSn := hHeld.trans hT (fun _ h _ => h)
        refine ⟨_, rfl, ?_⟩
        refine hK.out _ _ ?_
        clear hK K
        refine norm_ (a' := ?_) ?_ ?_
        rotate_left
        · show Act.put _ (some 39) _ = _
          simp only [Act.put, List.setIfInBounds_toArray, List.set_cons_zero, List.set_cons_succ, i64_w, i32_w]
          rfl
        refine pure_ (i := 16) (N := some 40) (v := ?_) (a' := ?_) #[true, true, true, true, true, true, true, true, true, true, true, true, true, true, true, true, true, false, false] rfl rfl (any_of HT_.out (by kernel_rfl)) (fun _ _ _ h => h) (Or.inl ⟨by rfl, ?_⟩) ?_ ?_
        rotate_left
        · intro w'
          go_simp
          with_reducible rfl
        rotate_left
        · simp only [Act.put, List.setIfInBounds_toArray, List.set_cons_zero, List.set_cons_succ, i64_w, i32_w]
          rfl
        refine pure_ (i := 17) (N := some 41) (v := ?_) (a' := ?_) #[true, true, true, true, true, true, true, true, true, true, true, true, true, true, true, true, true, true, false] rfl rfl (any_of HT_.out (by kernel_rfl)) (fun _ _ _ h => h) (Or.inl ⟨by rfl, ?_⟩) ?_ ?_
        rotate_left
        · intro w'
          go_simp
          with_reducible rfl
        rotate_left
        · simp only [Act.put, List.setIfInBounds_toArray, List.set_cons_zero, List.set_cons_succ, i64_w, i32_w]
          rfl
        refine pure_ (i := 18) (N := some 42) (v := ?_) (a' := ?_) #[true, true, true, true, true, true, true, true, true, true, true, true, true, true, true, true, true, true, true] rfl rfl (any_of HT_.out (by kernel_rfl)) (fun _ _ _ h => h) (Or.inl ⟨by rfl, ?_⟩) ?_ ?_
        rotate_left
        · intro w'
          go_simp
          with_reducible rfl
        rotate_left
        · simp only [Act.put, List.setIfInBounds_toArray, List.set_cons_zero, List.set_cons_succ, i64_w, i32_w]
          rfl
        refine done_ (done_of HT_.out (by kernel_rfl)) ?_
        go_wp2_with fail
        go_meet
        exact ⟨rfl, hSn⟩
      case rest =>
        obtain ⟨rfl, hf7⟩ := hcut
        have hf17 := hf16.trans hf7 (fun _ h _ => h)
        have hb7 := hb6.fr hf7 id
        have hn7 := hn6.mv (Mv.new hf7)
        clear a0 a1 a2 a3 a4 a5 a6 m0 m1 m2 hv6 hn6
        have a0 := hb7.cell 0
        have a1 := hb7.cell 1
        have a2 := hb7.cell 2
        have a3 := hb7.cell 3
        have a4 := hb7.cell 4
        have a5 := hb7.cell 5
        have a6 := hb7.cell 6
        simp at a0 a1 a2 a3 a4 a5 a6
        have hT := Lib.hid (theirs_any (d + 1) x _ ok wc hn7 HF.out)
        go_wp2_with fail
        refine hT.out.mono ?_
        rintro e w8 ⟨v8, rfl, hv8, hf8⟩
        have hf18 := hf17.trans hf8 (fun _ h _ => h)
        have hb8 := hb7.fr hf8 id
        have hG := Lib.hid (get_any d x v8 number _ w8 hv8 HF.out)
        clear a0 a1 a2 a3 a4 a5 a6 hT
        go_wp2_with fail
        refine hG.out.mono ?_
        rintro e w9 ⟨Ag, cg, rfl, hrg, hf9⟩
        have hf19 := hf18.trans hf9 (fun _ h _ => h)
        have hb9 := hb8.fr hf9 id
        have a0 := hb9.cell 0
        have a6 := hb9.cell 6
        simp at a0 a6
        clear hG hn7
        have q7 : (x.k == 7) = true := beq_iff_eq.2 H7.out
        go_wp2_with fail
        clear a0
        have hfine := HF.out
        obtain ⟨hfl, hfn⟩ := hfine
        go_loopw [53] (fun i wr => ∃ k : Nat, i = .int .i64 k ∧ k ≤ x.fs.length ∧ (∀ p ∈ x.fs.take k, (p.1 == number) = false) ∧ Fr NoB w9 wr) (fun i _ => x.fs.length - (intOf i).toNat)
        case atStart => exact ⟨0, rfl, by omega, by simp, Fr.refl _ _⟩
        case round =>
          obtain ⟨k, rfl, hk, hno, hfk⟩ := hrel
          have hfw := hf19.trans hfk (fun _ h _ => h)
          have a6w := a6
          have a6 := hfk.cell_some a6 id
          by_cases hlt : k < x.fs.length
          · have p1 : (k : Int) < (x.fs.length : Int) := by omega
            have p0 : (0 : Int) ≤ (k : Int) := by omega
            obtain ⟨b, o, cs, rfl, _, hbl, _, ⟨A1, c1, rfl, hc1, h01, hr1⟩, hcell⟩ := hr.at_ k x.fs[k] (List.getElem?_eq_getElem hlt)
            have e0 := hfw.cell_some (hcell 0 _ rfl) id
            have e1 := hfw.cell_some (hcell 1 _ rfl) id
            simp only [Nat.add_zero] at e0
            by_cases hhit : x.fs[k].1 = number
            · have kq : (x.fs[k].1 == number) = true := beq_iff_eq.2 hhit
              have kq' : (x.fs[k].1 != number) = false := by simp [hhit]
              have hget := getF_hit x number k hlt H7.out kq hno
              rw [hget] at hrg
              have HG := Lib.hid hget
              have hfn2 := (hfn _ (List.getElem_mem hlt)).2
              have hl400 := (hfn _ (List.getElem_mem hlt)).1
              have hr2 := hr1
              have e1w := hf19.cell_some (hcell 1 _ rfl) id
              clear hhit kq hget
              rw [HG.out]
              go_wp2_with fail
              go_loopw [76] (fun i wj => ∃ j : Nat, i = .int .i64 j ∧ j ≤ x.fs[k].2.length ∧ Fr NoB w9 wj) (fun i _ => x.fs[k].2.length - (intOf i).toNat)
              case atStart => exact ⟨0, rfl, by omega, hfk⟩
              case round =>
                obtain ⟨j, rfl, hj, hfj⟩ := hrel
                by_cases hlt2 : j < x.fs[k].2.length
                · have p3 : (j : Int) < (x.fs[k].2.length : Int) := by omega
                  have p2 : (0 : Int) ≤ (j : Int) := by omega
                  have hfy := hfn2 _ (List.getElem_mem hlt2)
                  obtain ⟨b2, o2, cs2, rfl, _, _, hcl2, hn2, hcell2⟩ := hr1.at_ j x.fs[k].2[j] (List.getElem?_eq_getElem hlt2)
                  obtain ⟨bg, og, csg, rfl, _, _, _, ⟨v1, rfl, hv1⟩, hcellg⟩ := hrg.at_ j x.fs[k].2[j] (List.getElem?_eq_getElem hlt2)
                  obtain ⟨n0, n1, n2, n3, n4, n5, n6, rfl⟩ := len7 hcl2
                  have v0w := hcellg 0 _ rfl
                  simp only [Nat.add_zero, Nat.mul_one] at v0w
                  have q0w := hf19.cell_some (hcell2 0 _ rfl) id
                  have q1w := hf19.cell_some (hcell2 1 _ rfl) id
                  have q2w := hf19.cell_some (hcell2 2 _ rfl) id
                  have q3w := hf19.cell_some (hcell2 3 _ rfl) id
                  have q4w := hf19.cell_some (hcell2 4 _ rfl) id
                  have q5w := hf19.cell_some (hcell2 5 _ rfl) id
                  have q6w := hf19.cell_some (hcell2 6 _ rfl) id
                  simp only [Nat.add_zero] at q0w
                  have hvj := hv1.mv (Mv.new hfj)
                  have hnj := (hn2.mv (Mv.new hf19)).mv (Mv.new hfj)
                  go_wp2_with fail
                  refine start_ (n := 17) (S := fun w' => Fr NoB w9 w') (ds := [15]) #[false, false, false, false, false, false, false, false, false, false, false, false, false, false, false, false, false] (by kernel_rfl) rfl rfl (hfj.drew) (fun hHeld => ?_)
                  refine with_tabW F3.tab17 F3.bits17 (fun HT_ HW_ => ?_)
                  have hT0 : Fr NoB wr wr.drew := (Fr.refl NoB wr).drew
                  have hv := hvj.mv (Mv.new hT0)
                  have hn := hnj.mv (Mv.new hT0)
                  generalize wr.drew = W0 at *
                  refine pure_ (i := 0) (N := some 79) (v := ?_) (a' := ?_) #[true, false, false, false, false, false, false, false, false, false, false, false, false, false, false, false, false] rfl rfl (any_of HT_.out (by kernel_rfl)) (fun _ _ _ h => h) (Or.inl ⟨by rfl, ?_⟩) ?_ ?_
                  rotate_left
                  · intro w'
                    go_simp
                    with_reducible rfl
                  rotate_left
                  · simp only [Act.put, List.setIfInBounds_toArray, List.set_cons_zero, List.set_cons_succ, i64_w, i32_w]
                    rfl
                  refine pure_ (i := 1) (N := some 80) (v := ?_) (a' := ?_) #[true, true, false, false, false, false, false, false, false, false, false, false, false, false, false, false, false] rfl rfl (any_of HT_.out (by kernel_rfl)) (fun _ _ _ h => h) (Or.inl ⟨by rfl, ?_⟩) ?_ ?_
                  rotate_left
                  · intro w'
                    go_simp
                    with_reducible rfl
                  rotate_left
                  · simp only [Act.put, List.setIfInBounds_toArray, List.set_cons_zero, List.set_cons_succ, i64_w, i32_w]
                    rfl
                  refine pure_ (i := 2) (N := some 81) (v := ?_) (a' := ?_) #[true, true, true, false, false, false, false, false, false, false, false, false, false, false, false, false, false] rfl rfl (any_of HT_.out (by kernel_rfl)) (fun _ _ _ h => h) (Or.inl ⟨by rfl, ?_⟩) ?_ ?_
                  rotate_left
                  · intro w'
                    go_simp
                    with_reducible rfl
                  rotate_left
                  · simp only [Act.put, List.setIfInBounds_toArray, List.set_cons_zero, List.set_cons_succ, i64_w, i32_w]
                    rfl
                  refine pure_ (i := 5) (N := some 84) (v := ?_) (a' := ?_) #[true, true, true, false, false, true, false, false, false, false, false, false, false, false, false, false, false] rfl rfl (any_of HT_.out (by kernel_rfl)) (fun _ _ _ h => h) (Or.inl ⟨by rfl, ?_⟩) ?_ ?_
                  rotate_left
                  · intro w'
                    go_simp
                    with_reducible rfl
                  rotate_left
                  · simp only [Act.put, List.setIfInBounds_toArray, List.set_cons_zero, List.set_cons_succ, i64_w, i32_w]
                    rfl
                  refine pure_ (i := 7) (N := some 86) (v := ?_) (a' := ?_) #[true, true, true, false, false, true, false, true, false, false, false, false, false, false, false, false, false] rfl rfl (any_of HT_.out (by kernel_rfl)) (fun _ _ _ h => h) (Or.inl ⟨by rfl, ?_⟩) ?_ ?_
                  rotate_left
                  · intro w'
                    go_simp
                    with_reducible rfl
                  rotate_left
                  · simp only [Act.put, List.setIfInBounds_toArray, List.set_cons_zero, List.set_cons_succ, i64_w, i32_w]
                    rfl
                  refine pure_ (i := 11) (N := some 90) (v := ?_) (a' := ?_) #[true, true, true, false, false, true, false, true, false, false, false, true, false, false, false, false, false] rfl rfl (any_of HT_.out (by kernel_rfl)) (fun _ _ _ h => h) (Or.inl ⟨by rfl, ?_⟩) ?_ ?_
                  rotate_left
                  · intro w'
                    go_simp
                    with_reducible rfl
                  rotate_left
                  · simp only [Act.put, List.setIfInBounds_toArray, List.set_cons_zero, List.set_cons_succ, i64_w, i32_w]
                    rfl
                  refine take_ (i := 3) (N := some 82) (v := ?_) (a' := ?_) #[true, true, true, true, false, true, false, true, false, false, false, true, false, false, false, false, false] rfl rfl (take_ofW HT_.out HW_.out (by kernel_rfl)) (fun _ _ _ h => h) (Or.inl ⟨by rfl, ?_⟩) hHeld ?_ ?_
                  rotate_left
                  · intro w' hS
                    have sa6 := hS.cell_some a6w id
                    have se1 := hS.cell_some e1w id
                    have sv0 := hS.cell_some v0w id
                    have sq0 := hS.cell_some q0w id
                    have sq1 := hS.cell_some q1w id
                    have sq2 := hS.cell_some q2w id
                    have sq3 := hS.cell_some q3w id
                    have sq4 := hS.cell_some q4w id
                    have sq5 := hS.cell_some q5w id
                    have sq6 := hS.cell_some q6w id
                    go_simp
                    with_reducible rfl
                  rotate_left
                  · simp only [Act.put, List.setIfInBounds_toArray, List.set_cons_zero, List.set_cons_succ, i64_w, i32_w]
                    rfl
                  refine take_ (i := 6) (N := some 85) (v := ?_) (a' := ?_) #[true, true, true, true, false, true, true, true, false, false, false, true, false, false, false, false, false] rfl rfl (take_ofW HT_.out HW_.out (by kernel_rfl)) (fun _ _ _ h => h) (Or.inl ⟨by rfl, ?_⟩) hHeld ?_ ?_
                  rotate_left
                  · intro w' hS
                    have sa6 := hS.cell_some a6w id
                    have se1 := hS.cell_some e1w id
                    have sv0 := hS.cell_some v0w id
                    have sq0 := hS.cell_some q0w id
                    have sq1 := hS.cell_some q1w id
                    have sq2 := hS.cell_some q2w id
                    have sq3 := hS.cell_some q3w id
                    have sq4 := hS.cell_some q4w id
                    have sq5 := hS.cell_some q5w id
                    have sq6 := hS.cell_some q6w id
                    go_simp
                    with_reducible rfl
                  rotate_left
                  · simp only [Act.put, List.setIfInBounds_toArray, List.set_cons_zero, List.set_cons_succ, i64_w, i32_w]
                    rfl
                  refine pure_ (i := 8) (N := some 87) (v := ?_) (a' := ?_) #[true, true, true, true, false, true, true, true, true, false, false, true, false, false, false, false, false] rfl rfl (any_of HT_.out (by kernel_rfl)) (fun _ _ _ h => h) (Or.inl ⟨by rfl, ?_⟩) ?_ ?_
                  rotate_left
                  · intro w'
                    go_simp
                    with_reducible rfl
                  rotate_left
                  · simp only [Act.put, List.setIfInBounds_toArray, List.set_cons_zero, List.set_cons_succ, i64_w, i32_w]
                    rfl
                  refine pure_ (i := 9) (N := some 88) (v := ?_) (a' := ?_) #[true, true, true, true, false, true, true, true, true, true, false, true, false, false, false, false, false] rfl rfl (any_of HT_.out (by kernel_rfl)) (fun _ _ _ h => h) (Or.inl ⟨by rfl, ?_⟩) ?_ ?_
                  rotate_left
                  · intro w'
                    go_simp
                    with_reducible rfl
                  rotate_left
                  · simp only [Act.put, List.setIfInBounds_toArray, List.set_cons_zero, List.set_cons_succ, i64_w, i32_w]
                    rfl
                  refine take_ (i := 10) (N := some 89) (v := ?_) (a' := ?_) #[true, true, true, true, false, true, true, true, true, true, true, true, false, false, false, false, false] rfl rfl (take_ofW HT_.out HW_.out (by kernel_rfl)) (fun _ _ _ h => h) (Or.inl ⟨by rfl, ?_⟩) hHeld ?_ ?_
                  rotate_left
                  · intro w' hS
                    have sa6 := hS.cell_some a6w id
                    have se1 := hS.cell_some e1w id
                    have sv0 := hS.cell_some v0w id
                    have sq0 := hS.cell_some q0w id
                    have sq1 := hS.cell_some q1w id
                    have sq2 := hS.cell_some q2w id
                    have sq3 := hS.cell_some q3w id
                    have sq4 := hS.cell_some q4w id
                    have sq5 := hS.cell_some q5w id
                    have sq6 := hS.cell_some q6w id
                    go_simp
                    with_reducible rfl
                  rotate_left
                  · simp only [Act.put, List.setIfInBounds_toArray, List.set_cons_zero, List.set_cons_succ, i64_w, i32_w]
                    rfl
                  refine pure_ (i := 12) (N := some 91) (v := ?_) (a' := ?_) #[true, true, true, true, false, true, true, true, true, true, true, true, true, false, false, false, false] rfl rfl (any_of HT_.out (by kernel_rfl)) (fun _ _ _ h => h) (Or.inl ⟨by rfl, ?_⟩) ?_ ?_
                  rotate_left
                  · intro w'
                    go_simp
                    with_reducible rfl
                  rotate_left
                  · simp only [Act.put, List.setIfInBounds_toArray, List.set_cons_zero, List.set_cons_succ, i64_w, i32_w]
                    rfl
                  refine take_ (i := 13) (N := some 92) (v := ?_) (a' := ?_) #[true, true, true, true, false, true, true, true, true, true, true, true, true, true, false, false, false] rfl rfl (take_ofW HT_.out HW_.out (by kernel_rfl)) (fun _ _ _ h => h) (Or.inl ⟨by rfl, ?_⟩) hHeld ?_ ?_
                  rotate_left
                  · intro w' hS
                    have sa6 := hS.cell_some a6w id
                    have se1 := hS.cell_some e1w id
                    have sv0 := hS.cell_some v0w id
                    have sq0 := hS.cell_some q0w id
                    have sq1 := hS.cell_some q1w id
                    have sq2 := hS.cell_some q2w id
                    have sq3 := hS.cell_some q3w id
                    have sq4 := hS.cell_some q4w id
                    have sq5 := hS.cell_some q5w id
                    have sq6 := hS.cell_some q6w id
                    go_simp
                    with_reducible rfl
                  rotate_left
                  · simp only [Act.put, List.setIfInBounds_toArray, List.set_cons_zero, List.set_cons_succ, i64_w, i32_w]
                    rfl
                  refine one_ (i := 4) (N := some 83) #[true, true, true, true, true, true, true, true, true, true, true, true, true, true, false, false, false] rfl rfl (one_of HT_.out (by kernel_rfl)) (by decide) (fun K hK => ?_)
                  refine goes_ Tryd.func10 (by kernel_rfl) rfl #[v1] (by rfl) rfl rfl (by (try simp only [List.map_toArray, List.map_cons, List.map_nil]); first | done | rfl) ?_
                  refine (ours_any d x.fs[k].2[j] _ _ W0 hv hfy).mono ?_
                  rintro e W1 ⟨cs1, rfl, hn1, hT⟩
                  have hv := hv.mv (Mv.new hT)
                  have hn := hn.mv (Mv.new hT)
                  have hSn := hHeld.trans hT (fun _ h _ => h)
                  refine ⟨_, rfl, ?_⟩
                  refine hK.out _ _ hSn (fun hHeld => ?_)
                  clear hK K
                  refine norm_ (a' := ?_) ?_ ?_
                  rotate_left
                  · show Act.put _ (some 83) _ = _
                    simp only [Act.put, List.setIfInBounds_toArray, List.set_cons_zero, List.set_cons_succ, i64_w, i32_w]
                    rfl
                  refine one_ (i := 14) (N := some 93) #[true, true, true, true, true, true, true, true, true, true, true, true, true, true, true, false, false] rfl rfl (one_of HT_.out (by kernel_rfl)) (by decide) (fun K hK => ?_)
                  refine goes_ Tryd.func11 (by kernel_rfl) rfl #[.agg #[n0, n1, n2, n3, n4, n5, n6]] (by rfl) rfl rfl (by (try simp only [List.map_toArray, List.map_cons, List.map_nil]); first | done | rfl) ?_
                  refine (clean_any d x.fs[k].2[j] _ _ W1 hn hfy).mono ?_
                  rintro e W2 ⟨cs2, rfl, hn2, hT⟩
                  have hv := hv.mv (Mv.new hT)
                  have hn := hn.mv (Mv.new hT)
                  have hSn := hHeld.trans hT (fun _ h _ => h)
                  have hn1 := hn1.mv (Mv.new hT)
                  refine ⟨_, rfl, ?_⟩
                  refine hK.out _ _ hSn (fun hHeld => ?_)
                  clear hK K
                  refine norm_ (a' := ?_) ?_ ?_
                  rotate_left
                  · show Act.put _ (some 93) _ = _
                    simp only [Act.put, List.setIfInBounds_toArray, List.set_cons_zero, List.set_cons_succ, i64_w, i32_w]
                    rfl
                  refine last_ (i := 15) (N := some 94) #[true, true, true, true, true, true, true, true, true, true, true, true, true, true, true, true, false] rfl rfl (one_of HT_.out (by kernel_rfl)) (by decide) (fun K hK => ?_)
                  refine goes_ Tryd.func9 (by kernel_rfl) rfl #[.agg cs1.toArray, .agg cs2.toArray] (by rfl) rfl rfl (by (try simp only [List.map_toArray, List.map_cons, List.map_nil]); first | done | rfl) ?_
                  refine (same_any d (clean d x.fs[k].2[j]) cs1 cs2 _ _ W2 hn1 hn2).mono ?_
                  rintro e W3 ⟨rfl, hT⟩
                  have hSn := hHeld.trans hT (fun _ h _ => h)
                  refine ⟨_, rfl, ?_⟩
                  refine hK.out _ _ ?_
                  clear hK K
                  refine norm_ (a' := ?_) ?_ ?_
                  rotate_left
                  · show Act.put _ (some 94) _ = _
                    simp only [Act.put, List.setIfInBounds_toArray, List.set_cons_zero, List.set_cons_succ, i64_w, i32_w]
                    rfl
                  refine pure_ (i := 16) (N := some 95) (v := ?_) (a' := ?_) #[true, true, true, true, true, true, true, true, true, true, true, true, true, true, true, true, true] rfl rfl (any_of HT_.out (by kernel_rfl)) (fun _ _ _ h => h) (Or.inl ⟨by rfl, ?_⟩) ?_ ?_
                  rotate_left
                  · intro w'
                    go_simp
                    with_reducible rfl
                  rotate_left
                  · simp only [Act.put, List.setIfInBounds_toArray, List.set_cons_zero, List.set_cons_succ, i64_w, i32_w]
                    rfl
                  refine done_ (done_of HT_.out (by kernel_rfl)) ?_
                  go_wp2_with fail
                  go_roundw
                  case rel => exact ⟨j + 1, by go_num, by omega, hSn⟩
                  case measure => simp [intOf]; omega
                · go_wp2_with fail
                  go_ret
                  exact ⟨rfl, hf19.trans hfj (fun _ h _ => h)⟩
            · have kq : (x.fs[k].1 == number) = false := beq_eq_false_iff_ne.2 hhit
              have kq' : (x.fs[k].1 != number) = true := by simp [hhit]
              clear hhit
              go_wp2_with fail
              go_roundw
              case rel => exact ⟨k + 1, by go_num, by omega, fun p hp => by
                rw [List.take_succ_eq_append_getElem hlt] at hp
                rcases List.mem_append.1 hp with h1 | h1
                · exact hno p h1
                · rw [List.mem_singleton.1 h1]; exact kq, hfk⟩
              case measure => simp [intOf]; omega
          · have hkk : k = x.fs.length := by omega
            rw [hkk, List.take_length] at hno
            have hg0 := getF_none x number hno
            clear hkk
            go_wp2_with fail
            go_ret
            exact ⟨by first | rfl | (rw [hg0]; rfl), hfw⟩
    · have hM := Lib.hid (must_fail d x v _ w4 hv h7)
      go_wp2_with fail
      refine hM.out.mono ?_
      rintro e w5 ⟨rfl, hf5⟩
      have hf15 := hf14.trans hf5 (fun _ h _ => h)
      have hb5 := hb4.fr hf5 id
      have q7 : (x.k == 7) = false := beq_eq_false_iff_ne.2 h7
      have q7' : (x.k != 7) = true := by simp [h7]
      have hfa : Fr NoB w5 (w5.alloc (.cells #[.int .i64 0, .slice none 0 0, .string ⟨#[]⟩] 30)) := (Fr.refl NoB w5).alloc _
      have hf16 := hf15.trans hfa (fun _ h _ => h)
      have hb6 := hb5.fr hfa id
      have a0 := hb6.cell 0
      have a1 := hb6.cell 1
      have a2 := hb6.cell 2
      have a3 := hb6.cell 3
      have a4 := hb6.cell 4
      have a5 := hb6.cell 5
      have a6 := hb6.cell 6
      simp at a0 a1 a2 a3 a4 a5 a6
      have H7 := Lib.hid h7
      clear h7
      go_wp2_with fail
      go_quiet (fail)
      rename_i nq
      have hfq := hf16.drewN nq
      have hT := Lib.hid (theirs_any (d + 1) x _ ok _ (hN.out.mv (Mv.new hfq)) HF.out)
      go_wp2_with fail
      refine hT.out.mono ?_
      rintro e w8 ⟨v8, rfl, hv8, hf8⟩
      have hf18 := hfq.trans hf8 (fun _ h _ => h)
      have hb8 := (hb6.drewN nq).fr hf8 id
      have hG := Lib.hid (get_any d x v8 number _ w8 hv8 HF.out)
      have hg0 : getF x number = [] := by unfold getF; rw [if_neg H7.out]
      go_wp2_with fail
      refine hG.out.mono ?_
      rintro e w9 ⟨Ag, cg, rfl, hrg, hf9⟩
      have hf19 := hf18.trans hf9 (fun _ h _ => h)
      have c0 := (hb8.fr hf9 id).cell 0
      simp at c0
      clear hG a0 a1 a2 a3 a4 a5 a6
      go_wp2_with fail
      go_ret
      exact ⟨by first | rfl | (rw [hg0]; rfl), hf19⟩
end Go.Proofs.YtcfmcgkngjpdbaaDoor
