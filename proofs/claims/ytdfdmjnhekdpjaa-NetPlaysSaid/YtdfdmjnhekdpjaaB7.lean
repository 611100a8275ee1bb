import Derived.Test.YtdfdmjnhekdpjaaB6
namespace Go.Proofs.Ytdfdmjnhekdpjaa
set_option linter.unusedVariables false
set_option linter.unusedSimpArgs false
open Go.RowKit Go.Proofs.YtdfdmjnhekdpjaaW.PrintWords Go.Proofs.YtdfdmjnhekdpjaaW.PrintLast

def F8.T15 : Bool × List (List Nat × List Nat) := (true, [([], []), ([], []), ([0, 1], [0, 1]), ([2], [2]), ([3], [3]), ([4, 3], [3, 4]), ([5, 3, 3], [3, 5]), ([3], [3]), ([7, 3], [3, 7]), ([6, 8, 6, 3], [3, 6, 8]), ([3, 9], [3, 9]), ([10, 9, 0, 1, 2, 3, 4, 5, 6, 7, 8, 9, 10], [10])])
def F8.B15 : List Nat := [0, 0, 3, 7, 15, 31, 63, 15, 143, 511, 1023, 2047]
theorem F8.tab15 : rtab .any (opsOf Try.f8 15) = F8.T15 := by kernel_rfl
theorem F8.bits15 : waitsOk F8.T15.2 F8.B15 = true := by kernel_rfl

/-- A literal slice as a step of a guarded operation of a region: a new block. -/
theorem step_value_w {P : Program} {ops : Array Oper} {o : Oper} {a : Act} {w : World} {K : Act → World → Prop} {Q : Exit → Act → World → Prop} {E : Prop} (hw : Region.wanted o (yielded ops a.tmps) = true) (v : Value) (w1 : World)
    (hrun : (execOp a.eval o).run P w = .ok (.value v) w1) (h : K (a.put o.dst v) w1) : if Region.wanted o (yielded ops a.tmps) = true then Oper.wp P o a w K Q else E := by
  rw [if_pos hw]
  unfold Oper.wp
  rw [hrun]
  exact h

theorem step_else {w : World} {lo hi bn bw : Nat} {last : Int} (K a b y : Int) {A : Option Addr} {n c : Nat} (h : Pair w lo hi bn bw last) (hhi : lo ≤ hi ∧ hi ≤ w.heap.size) (h1 : K ≠ 1) (h2 : K ≠ 2) (h3 : K ≠ 3) (h4 : K ≠ 4) (h5 : K ≠ 5) (h6 : K ≠ 6) :
    Calls Try.prog 8 #[.pointer (some ⟨bn, 0, none⟩), .pointer (some ⟨bw, 0, none⟩), .agg #[.int .i64 K, .int .i64 a, .int .i64 b, .int .u8 y, .slice A n c]] w fun e w' => e = .returned (.bool true) ∧ Fr (In lo hi) w w' ∧ ∃ last', last ≤ last' ∧ last' ≤ last + 1 ∧ Pair w' lo w'.heap.size bn bw last' := by
  have hf0 : Fr NoB w (w.alloc (.cells #[.int .i64 K, .int .i64 a, .int .i64 b, .int .u8 y, .slice A n c] 37)) := ((Fr.refl NoB w).alloc _)
  have hP := h.far hf0 (fun _ _ => id)
  have hs := Nat.le_trans hhi.2 hf0.size
  have k1 : (K == 1) = false := beq_eq_false_iff_ne.2 h1
  have k2 : (K == 2) = false := beq_eq_false_iff_ne.2 h2
  have k3 : (K == 3) = false := beq_eq_false_iff_ne.2 h3
  have k4 : (K == 4) = false := beq_eq_false_iff_ne.2 h4
  have k5 : (K == 5) = false := beq_eq_false_iff_ne.2 h5
  have k6 : (K == 6) = false := beq_eq_false_iff_ne.2 h6
  go_enter Try.func8, Try.ntmps8
  go_wp2
  go_ret
  exact ⟨rfl, hf0.mono (fun _ h _ => h.elim), last, by omega, by omega, hP.up hs⟩

/-- The two boxes of a delivery, and the packets' bytes. -/
def Held (w : World) (bp bq : Nat) (cp cq : Array Value) (p q : Pk) : Prop := Blk w bp 60 cp ∧ Blk w bq 63 cq ∧ PkRd w p ∧ PkRd w q
theorem Held.fr {w w' : World} {bp bq : Nat} {cp cq : Array Value} {p q : Pk} (h : Held w bp bq cp cq p q) (hf : Fr NoB w w') : Held w' bp bq cp cq p q :=
  ⟨h.1.fr hf id, h.2.1.fr hf id, h.2.2.1.same (fun k hk => hf.block k hk id), h.2.2.2.same (fun k hk => hf.block k hk id)⟩

set_option maxHeartbeats 4000000 in
set_option maxRecDepth 100000 in
theorem step_4 {w : World} {lo hi bn bw : Nat} {last : Int} (a b y : Int) {A : Option Addr} {n c : Nat} (h : Pair w lo hi bn bw last) (hhi : lo ≤ hi ∧ hi ≤ w.heap.size) :
    Calls Try.prog 8 #[.pointer (some ⟨bn, 0, none⟩), .pointer (some ⟨bw, 0, none⟩), .agg #[.int .i64 4, .int .i64 a, .int .i64 b, .int .u8 y, .slice A n c]] w fun e w' => e = .returned (.bool true) ∧ Fr (In lo hi) w w' ∧ ∃ last', last ≤ last' ∧ last' ≤ last + 1 ∧ Pair w' lo w'.heap.size bn bw last' := by
  have hb := Blk.new w 37 #[.int .i64 4, .int .i64 a, .int .i64 b, .int .u8 y, .slice A n c]
  have hf0 : Fr NoB w (w.alloc (.cells #[.int .i64 4, .int .i64 a, .int .i64 b, .int .u8 y, .slice A n c] 37)) := ((Fr.refl NoB w).alloc _)
  have hP := h.far hf0 (fun _ _ => id)
  have hs := Nat.le_trans hhi.2 hf0.size
  have hnb : ¬ In lo hi w.heap.size := fun h => by have := h.2; omega
  have H := Lib.hid (pair_deliver hP ⟨hhi.1, hs⟩ a)
  go_enter Try.func8, Try.ntmps8
  go_wp2_with fail
  refine H.out.mono ?_
  rintro e w1 ⟨r, p, rfl, hp, hf1, hN⟩
  have hp' := hp
  obtain ⟨B, cB, hv, hB⟩ := hp'
  rw [hv]
  have hb1 := hb.fr hf1 hnb
  have d0 := hb1.cell 0
  have d1 := hb1.cell 1
  simp at d0 d1
  have hfa : Fr NoB w1 (w1.alloc (.cells #[.int .i64 p.n, .int .i64 p.f, .int .i64 p.t, .slice B p.bs.length cB] 60)) := (Fr.refl NoB w1).alloc _
  have hbp := Blk.new w1 60 #[.int .i64 p.n, .int .i64 p.f, .int .i64 p.t, .slice B p.bs.length cB]
  have hb2 := hb1.fr hfa id
  have e0 := hb2.cell 0
  have e1 := hb2.cell 1
  simp at e0 e1
  have hN2 := Lib.hid (hN _ hfa)
  have hnp : ¬ In lo hi w1.heap.size := fun h => by have h1 := h.2; have h2 := hf1.size; omega
  go_wp2_with fail
  refine hN2.out.mono ?_
  rintro e w2 ⟨q, rfl, hkey, hq, hpq, hf2, hP2⟩
  have hq' := hq
  obtain ⟨D, cD, hw, hD⟩ := hq'
  rw [hw]
  have hqp : q.s63 = p.s63 := by
    simp only [Pk.key, Prod.mk.injEq] at hkey
    exact s63_of_key hkey.1 hkey.2.1 hkey.2.2.1 hkey.2.2.2
  have hbp2 := hbp.fr hf2 hnp
  have hbq := Blk.new w2 63 #[.int .i64 q.n, .int .i64 q.f, .int .i64 q.t, .slice D q.bs.length cD]
  have hfb : Fr NoB w2 (w2.alloc (.cells #[.int .i64 q.n, .int .i64 q.f, .int .i64 q.t, .slice D q.bs.length cD] 63)) := (Fr.refl NoB w2).alloc _
  have hH : Held (w2.alloc (.cells #[.int .i64 q.n, .int .i64 q.f, .int .i64 q.t, .slice D q.bs.length cD] 63)) w1.heap.size w2.heap.size #[.int .i64 p.n, .int .i64 p.f, .int .i64 p.t, .slice B p.bs.length cB] #[.int .i64 q.n, .int .i64 q.f, .int .i64 q.t, .slice D q.bs.length cD] p q :=
    ⟨hbp2.fr hfb id, hbq, hpq.same (fun k hk => hfb.block k hk id), hq.same (fun k hk => hfb.block k hk id)⟩
  have hEnd : ∀ W, Fr NoB (w2.alloc (.cells #[.int .i64 q.n, .int .i64 q.f, .int .i64 q.t, .slice D q.bs.length cD] 63)) W → (Fr (In lo hi) w W ∧ ∃ last', last ≤ last' ∧ last' ≤ last + 1 ∧ Pair W lo W.heap.size bn bw last') := fun W hW => by
    have hx := hfb.trans hW (fun _ h _ => h)
    refine ⟨((((hf0.mono (fun _ h _ => h.elim)).trans hf1 (fun _ h _ => h)).trans hfa (fun _ h _ => h.elim)).trans hf2 (fun _ h _ => h)).trans hx (fun _ h _ => h.elim), last, by omega, by omega, (hP2.far hx (fun _ _ => id)).up hx.size⟩
  go_wp2_with fail
  generalize hW9 : (w2.alloc (.cells #[.int .i64 q.n, .int .i64 q.f, .int .i64 q.t, .slice D q.bs.length cD] 63)) = W9 at *
  refine start_ (n := 12) (S := fun w' => Held w' w1.heap.size w2.heap.size #[.int .i64 p.n, .int .i64 p.f, .int .i64 p.t, .slice B p.bs.length cB] #[.int .i64 q.n, .int .i64 q.f, .int .i64 q.t, .slice D q.bs.length cD] p q) (ds := [9]) #[false, false, false, false, false, false, false, false, false, false, false, false] (by kernel_rfl) rfl rfl (hH.fr ((Fr.refl NoB W9).drew)) (fun hHeld => ?_)
  refine with_tabW F8.tab15 F8.bits15 (fun HT_ HW_ => ?_)
  have hf := (Fr.refl NoB W9).drew
  generalize W9.drew = W0 at *
  refine pure_ (i := 0) (N := some 104) (v := ?_) (a' := ?_) #[true, false, false, false, false, false, false, false, false, false, false, false] rfl rfl (any_of HT_.out (by kernel_rfl)) (fun _ _ _ h => h) (Or.inl ⟨by rfl, ?_⟩) ?_ ?_
  rotate_left
  · intro w'
    go_simp
    with_reducible rfl
  rotate_left
  · simp only [Act.put, List.setIfInBounds_toArray, List.set_cons_zero, List.set_cons_succ, i64_w, i32_w]
    rfl
  refine pure_ (i := 1) (N := some 105) (v := ?_) (a' := ?_) #[true, true, false, false, false, false, false, false, false, false, false, false] rfl rfl (any_of HT_.out (by kernel_rfl)) (fun _ _ _ h => h) (Or.inl ⟨by rfl, ?_⟩) ?_ ?_
  rotate_left
  · intro w'
    go_simp
    with_reducible rfl
  rotate_left
  · simp only [Act.put, List.setIfInBounds_toArray, List.set_cons_zero, List.set_cons_succ, i64_w, i32_w]
    rfl
  refine pure_ (i := 2) (N := some 106) (v := ?_) (a' := ?_) #[true, true, true, false, false, false, false, false, false, false, false, false] rfl rfl (any_of HT_.out (by kernel_rfl)) (fun _ _ _ h => h) (Or.inl ⟨by rfl, ?_⟩) ?_ ?_
  rotate_left
  · intro w'
    go_simp
    with_reducible rfl
  rotate_left
  · simp only [Act.put, List.setIfInBounds_toArray, List.set_cons_zero, List.set_cons_succ, i64_w, i32_w]
    rfl
  refine pure_ (i := 3) (N := some 107) (v := ?_) (a' := ?_) #[true, true, true, true, false, false, false, false, false, false, false, false] rfl rfl (any_of HT_.out (by kernel_rfl)) (fun _ _ _ h => h) (Or.inl ⟨by rfl, ?_⟩) ?_ ?_
  rotate_left
  · intro w'
    go_simp
    with_reducible rfl
  rotate_left
  · simp only [Act.put, List.setIfInBounds_toArray, List.set_cons_zero, List.set_cons_succ, i64_w, i32_w]
    rfl
  refine take_ (i := 4) (N := some 108) (v := ?_) (a' := ?_) #[true, true, true, true, true, false, false, false, false, false, false, false] rfl rfl (take_ofW HT_.out HW_.out (by kernel_rfl)) (fun _ _ _ h => h) (Or.inl ⟨by rfl, ?_⟩) hHeld ?_ ?_
  rotate_left
  · intro w' hS
    have s0 := hS.1.cell 0
    have s1 := hS.1.cell 1
    have s2 := hS.1.cell 2
    have s3 := hS.1.cell 3
    have t0 := hS.2.1.cell 0
    have t1 := hS.2.1.cell 1
    have t2 := hS.2.1.cell 2
    have t3 := hS.2.1.cell 3
    simp at s0 s1 s2 s3 t0 t1 t2 t3
    go_simp
    with_reducible rfl
  rotate_left
  · simp only [Act.put, List.setIfInBounds_toArray, List.set_cons_zero, List.set_cons_succ, i64_w, i32_w]
    rfl
  refine take_ (i := 7) (N := some 111) (v := ?_) (a' := ?_) #[true, true, true, true, true, false, false, true, false, false, false, false] rfl rfl (take_ofW HT_.out HW_.out (by kernel_rfl)) (fun _ _ _ h => h) (Or.inl ⟨by rfl, ?_⟩) hHeld ?_ ?_
  rotate_left
  · intro w' hS
    have s0 := hS.1.cell 0
    have s1 := hS.1.cell 1
    have s2 := hS.1.cell 2
    have s3 := hS.1.cell 3
    have t0 := hS.2.1.cell 0
    have t1 := hS.2.1.cell 1
    have t2 := hS.2.1.cell 2
    have t3 := hS.2.1.cell 3
    simp at s0 s1 s2 s3 t0 t1 t2 t3
    go_simp
    with_reducible rfl
  rotate_left
  · simp only [Act.put, List.setIfInBounds_toArray, List.set_cons_zero, List.set_cons_succ, i64_w, i32_w]
    rfl
  refine two_ (i := 5) (j := 8) (Ni := some 109) (Nj := some 112) #[true, true, true, true, true, true, false, true, false, false, false, false] #[true, true, true, true, true, false, false, true, true, false, false, false] rfl rfl rfl rfl (two_of HT_.out (by kernel_rfl)) (by decide) (by decide) ?_ ?_
  · intro K hK
    refine step_value_w (by rfl) (.slice (some ⟨W0.heap.size, 0, none⟩) 1 1) (W0.alloc (.cells #[.int .i64 p.n, .int .i64 p.f, .int .i64 p.t, .slice B p.bs.length cB] 60)) (by first | (go_simp; done) | (go_simp; rfl)) ?_
    have hT : Fr NoB W0 (W0.alloc (.cells #[.int .i64 p.n, .int .i64 p.f, .int .i64 p.t, .slice B p.bs.length cB] 60)) := (Fr.refl NoB W0).alloc _
    have hrp : Rd (W0.alloc (.cells #[.int .i64 p.n, .int .i64 p.f, .int .i64 p.t, .slice B p.bs.length cB] 60)) (fun _ => True) 4 (some ⟨W0.heap.size, 0, none⟩) [p].length (flat [p]) := by
      have := Rd.lit W0 (fun _ => True) 60 4 1 [.int .i64 p.n, .int .i64 p.f, .int .i64 p.t, .slice B p.bs.length cB] rfl trivial
      simpa [flat, Pk.cells, hv] using this
    have hS2 := hHeld.fr hT
    have hf := hf.trans hT (fun _ h _ => h)
    generalize W0.heap.size = gp at *
    generalize (W0.alloc (.cells #[.int .i64 p.n, .int .i64 p.f, .int .i64 p.t, .slice B p.bs.length cB] 60)) = W1 at *
    refine hK.out _ _ hS2 (fun hHeld => ?_)
    clear hK K
    refine norm_ (a' := ?_) ?_ ?_
    rotate_left
    · show Act.put _ (some 109) _ = _
      simp only [Act.put, List.setIfInBounds_toArray, List.set_cons_zero, List.set_cons_succ, i64_w, i32_w]
      rfl
    refine two_ (i := 6) (j := 8) (Ni := some 110) (Nj := some 112) #[true, true, true, true, true, true, true, true, false, false, false, false] #[true, true, true, true, true, true, false, true, true, false, false, false] rfl rfl rfl rfl (two_of HT_.out (by kernel_rfl)) (by decide) (by decide) ?_ ?_
    · intro K hK
      refine goes_ Try.func11 (by kernel_rfl) rfl #[.slice (some ⟨gp, 0, none⟩) 1 1] (by rfl) rfl rfl (by (try simp only [List.map_toArray, List.map_cons, List.map_nil]); first | done | rfl) ?_
      refine (packets_any W1 (fun _ => True) (some ⟨gp, 0, none⟩) 1 [p] hrp (by simp) (by simp) (fun x hx => by rw [List.mem_singleton.1 hx]; exact hHeld.2.2.1)).mono ?_
      rintro e W2 ⟨A', c', rfl, _, hCp, hT⟩
      refine ⟨_, rfl, ?_⟩
      have hS2 := hHeld.fr hT
      have hf := hf.trans hT (fun _ h _ => h)
      have hrp := hrp.same (fun k hk => hT.block k hk id)
      refine hK.out _ _ hS2 (fun hHeld => ?_)
      clear hK K
      refine norm_ (a' := ?_) ?_ ?_
      rotate_left
      · show Act.put _ (some 110) _ = _
        simp only [Act.put, List.setIfInBounds_toArray, List.set_cons_zero, List.set_cons_succ, i64_w, i32_w]
        rfl
      refine one_ (i := 8) (N := some 112) #[true, true, true, true, true, true, true, true, true, false, false, false] rfl rfl (one_of HT_.out (by kernel_rfl)) (by decide) (fun K hK => ?_)
      refine step_value_w (by rfl) (.slice (some ⟨W2.heap.size, 0, none⟩) 1 1) (W2.alloc (.cells #[.int .i64 q.n, .int .i64 q.f, .int .i64 q.t, .slice D q.bs.length cD] 63)) (by first | (go_simp; done) | (go_simp; rfl)) ?_
      have hT : Fr NoB W2 (W2.alloc (.cells #[.int .i64 q.n, .int .i64 q.f, .int .i64 q.t, .slice D q.bs.length cD] 63)) := (Fr.refl NoB W2).alloc _
      have hrq : Rd (W2.alloc (.cells #[.int .i64 q.n, .int .i64 q.f, .int .i64 q.t, .slice D q.bs.length cD] 63)) (fun _ => True) 4 (some ⟨W2.heap.size, 0, none⟩) [q].length (flat [q]) := by
        have := Rd.lit W2 (fun _ => True) 63 4 1 [.int .i64 q.n, .int .i64 q.f, .int .i64 q.t, .slice D q.bs.length cD] rfl trivial
        simpa [flat, Pk.cells, hw] using this
      have hS2 := hHeld.fr hT
      have hf := hf.trans hT (fun _ h _ => h)
      have hCp := Kd.C_below hCp hT.below_all
      generalize W2.heap.size = gq at *
      generalize (W2.alloc (.cells #[.int .i64 q.n, .int .i64 q.f, .int .i64 q.t, .slice D q.bs.length cD] 63)) = W3 at *
      refine hK.out _ _ hS2 (fun hHeld => ?_)
      clear hK K
      refine norm_ (a' := ?_) ?_ ?_
      rotate_left
      · show Act.put _ (some 112) _ = _
        simp only [Act.put, List.setIfInBounds_toArray, List.set_cons_zero, List.set_cons_succ, i64_w, i32_w]
        rfl
      refine last_ (i := 9) (N := some 113) #[true, true, true, true, true, true, true, true, true, true, false, false] rfl rfl (one_of HT_.out (by kernel_rfl)) (by decide) (fun K hK => ?_)
      refine goes_ Try.func10 (by kernel_rfl) rfl #[.slice A' 1 c', .slice (some ⟨gq, 0, none⟩) 1 1] (by rfl) rfl rfl (by (try simp only [List.map_toArray, List.map_cons, List.map_nil]); first | done | rfl) ?_
      have hCq := C63 hrq (by simp) (fun x hx => by rw [List.mem_singleton.1 hx]; exact hHeld.2.2.2)
      rw [show [q].map Pk.s63 = [p].map Pk.s63 by simp [hqp]] at hCq
      refine (same_eq W3 A' (some ⟨gq, 0, none⟩) c' 1 ([p].map Pk.s63) (by simp) hCp hCq).mono ?_
      rintro e W4 ⟨rfl, hD⟩
      obtain ⟨m, rfl⟩ := hD.out
      have hf := hf.drewN m
      refine ⟨_, rfl, ?_⟩
      refine hK.out _ _ ?_
      clear hK K
      refine norm_ (a' := ?_) ?_ ?_
      rotate_left
      · show Act.put _ (some 113) _ = _
        simp only [Act.put, List.setIfInBounds_toArray, List.set_cons_zero, List.set_cons_succ, i64_w, i32_w]
        rfl
      refine pure_ (i := 10) (N := some 114) (v := ?_) (a' := ?_) #[true, true, true, true, true, true, true, true, true, true, true, false] rfl rfl (any_of HT_.out (by kernel_rfl)) (fun _ _ _ h => h) (Or.inl ⟨by rfl, ?_⟩) ?_ ?_
      rotate_left
      · intro w'
        go_simp
        with_reducible rfl
      rotate_left
      · simp only [Act.put, List.setIfInBounds_toArray, List.set_cons_zero, List.set_cons_succ, i64_w, i32_w]
        rfl
      refine pure_ (i := 11) (N := some 6) (v := ?_) (a' := ?_) #[true, true, true, true, true, true, true, true, true, true, true, true] rfl rfl (any_of HT_.out (by kernel_rfl)) (fun _ _ _ h => h) (Or.inl ⟨by rfl, ?_⟩) ?_ ?_
      rotate_left
      · intro w'
        go_simp
        with_reducible rfl
      rotate_left
      · simp only [Act.put, List.setIfInBounds_toArray, List.set_cons_zero, List.set_cons_succ, i64_w, i32_w]
        rfl
      refine done_ (done_of HT_.out (by kernel_rfl)) ?_
      go_wp2
      go_ret
      exact ⟨by simp, hEnd _ hf⟩
    · intro K hK
      refine step_value_w (by rfl) (.slice (some ⟨W1.heap.size, 0, none⟩) 1 1) (W1.alloc (.cells #[.int .i64 q.n, .int .i64 q.f, .int .i64 q.t, .slice D q.bs.length cD] 63)) (by first | (go_simp; done) | (go_simp; rfl)) ?_
      have hT : Fr NoB W1 (W1.alloc (.cells #[.int .i64 q.n, .int .i64 q.f, .int .i64 q.t, .slice D q.bs.length cD] 63)) := (Fr.refl NoB W1).alloc _
      have hrq : Rd (W1.alloc (.cells #[.int .i64 q.n, .int .i64 q.f, .int .i64 q.t, .slice D q.bs.length cD] 63)) (fun _ => True) 4 (some ⟨W1.heap.size, 0, none⟩) [q].length (flat [q]) := by
        have := Rd.lit W1 (fun _ => True) 63 4 1 [.int .i64 q.n, .int .i64 q.f, .int .i64 q.t, .slice D q.bs.length cD] rfl trivial
        simpa [flat, Pk.cells, hw] using this
      have hS2 := hHeld.fr hT
      have hf := hf.trans hT (fun _ h _ => h)
      have hrp := hrp.same (fun k hk => hT.block k hk id)
      generalize W1.heap.size = gq at *
      generalize (W1.alloc (.cells #[.int .i64 q.n, .int .i64 q.f, .int .i64 q.t, .slice D q.bs.length cD] 63)) = W2 at *
      refine hK.out _ _ hS2 (fun hHeld => ?_)
      clear hK K
      refine norm_ (a' := ?_) ?_ ?_
      rotate_left
      · show Act.put _ (some 112) _ = _
        simp only [Act.put, List.setIfInBounds_toArray, List.set_cons_zero, List.set_cons_succ, i64_w, i32_w]
        rfl
      refine one_ (i := 6) (N := some 110) #[true, true, true, true, true, true, true, true, true, false, false, false] rfl rfl (one_of HT_.out (by kernel_rfl)) (by decide) (fun K hK => ?_)
      refine goes_ Try.func11 (by kernel_rfl) rfl #[.slice (some ⟨gp, 0, none⟩) 1 1] (by rfl) rfl rfl (by (try simp only [List.map_toArray, List.map_cons, List.map_nil]); first | done | rfl) ?_
      refine (packets_any W2 (fun _ => True) (some ⟨gp, 0, none⟩) 1 [p] hrp (by simp) (by simp) (fun x hx => by rw [List.mem_singleton.1 hx]; exact hHeld.2.2.1)).mono ?_
      rintro e W3 ⟨A', c', rfl, _, hCp, hT⟩
      refine ⟨_, rfl, ?_⟩
      have hS2 := hHeld.fr hT
      have hf := hf.trans hT (fun _ h _ => h)
      have hrp := hrp.same (fun k hk => hT.block k hk id)
      have hrq := hrq.same (fun k hk => hT.block k hk id)
      refine hK.out _ _ hS2 (fun hHeld => ?_)
      clear hK K
      refine norm_ (a' := ?_) ?_ ?_
      rotate_left
      · show Act.put _ (some 110) _ = _
        simp only [Act.put, List.setIfInBounds_toArray, List.set_cons_zero, List.set_cons_succ, i64_w, i32_w]
        rfl
      refine last_ (i := 9) (N := some 113) #[true, true, true, true, true, true, true, true, true, true, false, false] rfl rfl (one_of HT_.out (by kernel_rfl)) (by decide) (fun K hK => ?_)
      refine goes_ Try.func10 (by kernel_rfl) rfl #[.slice A' 1 c', .slice (some ⟨gq, 0, none⟩) 1 1] (by rfl) rfl rfl (by (try simp only [List.map_toArray, List.map_cons, List.map_nil]); first | done | rfl) ?_
      have hCq := C63 hrq (by simp) (fun x hx => by rw [List.mem_singleton.1 hx]; exact hHeld.2.2.2)
      rw [show [q].map Pk.s63 = [p].map Pk.s63 by simp [hqp]] at hCq
      refine (same_eq W3 A' (some ⟨gq, 0, none⟩) c' 1 ([p].map Pk.s63) (by simp) hCp hCq).mono ?_
      rintro e W4 ⟨rfl, hD⟩
      obtain ⟨m, rfl⟩ := hD.out
      have hf := hf.drewN m
      refine ⟨_, rfl, ?_⟩
      refine hK.out _ _ ?_
      clear hK K
      refine norm_ (a' := ?_) ?_ ?_
      rotate_left
      · show Act.put _ (some 113) _ = _
        simp only [Act.put, List.setIfInBounds_toArray, List.set_cons_zero, List.set_cons_succ, i64_w, i32_w]
        rfl
      refine pure_ (i := 10) (N := some 114) (v := ?_) (a' := ?_) #[true, true, true, true, true, true, true, true, true, true, true, false] rfl rfl (any_of HT_.out (by kernel_rfl)) (fun _ _ _ h => h) (Or.inl ⟨by rfl, ?_⟩) ?_ ?_
      rotate_left
      · intro w'
        go_simp
        with_reducible rfl
      rotate_left
      · simp only [Act.put, List.setIfInBounds_toArray, List.set_cons_zero, List.set_cons_succ, i64_w, i32_w]
        rfl
      refine pure_ (i := 11) (N := some 6) (v := ?_) (a' := ?_) #[true, true, true, true, true, true, true, true, true, true, true, true] rfl rfl (any_of HT_.out (by kernel_rfl)) (fun _ _ _ h => h) (Or.inl ⟨by rfl, ?_⟩) ?_ ?_
      rotate_left
      · intro w'
        go_simp
        with_reducible rfl
      rotate_left
      · simp only [Act.put, List.setIfInBounds_toArray, List.set_cons_zero, List.set_cons_succ, i64_w, i32_w]
        rfl
      refine done_ (done_of HT_.out (by kernel_rfl)) ?_
      go_wp2
      go_ret
      exact ⟨by simp, hEnd _ hf⟩
  · intro K hK
    refine step_value_w (by rfl) (.slice (some ⟨W0.heap.size, 0, none⟩) 1 1) (W0.alloc (.cells #[.int .i64 q.n, .int .i64 q.f, .int .i64 q.t, .slice D q.bs.length cD] 63)) (by first | (go_simp; done) | (go_simp; rfl)) ?_
    have hT : Fr NoB W0 (W0.alloc (.cells #[.int .i64 q.n, .int .i64 q.f, .int .i64 q.t, .slice D q.bs.length cD] 63)) := (Fr.refl NoB W0).alloc _
    have hrq : Rd (W0.alloc (.cells #[.int .i64 q.n, .int .i64 q.f, .int .i64 q.t, .slice D q.bs.length cD] 63)) (fun _ => True) 4 (some ⟨W0.heap.size, 0, none⟩) [q].length (flat [q]) := by
      have := Rd.lit W0 (fun _ => True) 63 4 1 [.int .i64 q.n, .int .i64 q.f, .int .i64 q.t, .slice D q.bs.length cD] rfl trivial
      simpa [flat, Pk.cells, hw] using this
    have hS2 := hHeld.fr hT
    have hf := hf.trans hT (fun _ h _ => h)
    generalize W0.heap.size = gq at *
    generalize (W0.alloc (.cells #[.int .i64 q.n, .int .i64 q.f, .int .i64 q.t, .slice D q.bs.length cD] 63)) = W1 at *
    refine hK.out _ _ hS2 (fun hHeld => ?_)
    clear hK K
    refine norm_ (a' := ?_) ?_ ?_
    rotate_left
    · show Act.put _ (some 112) _ = _
      simp only [Act.put, List.setIfInBounds_toArray, List.set_cons_zero, List.set_cons_succ, i64_w, i32_w]
      rfl
    refine one_ (i := 5) (N := some 109) #[true, true, true, true, true, true, false, true, true, false, false, false] rfl rfl (one_of HT_.out (by kernel_rfl)) (by decide) (fun K hK => ?_)
    refine step_value_w (by rfl) (.slice (some ⟨W1.heap.size, 0, none⟩) 1 1) (W1.alloc (.cells #[.int .i64 p.n, .int .i64 p.f, .int .i64 p.t, .slice B p.bs.length cB] 60)) (by first | (go_simp; done) | (go_simp; rfl)) ?_
    have hT : Fr NoB W1 (W1.alloc (.cells #[.int .i64 p.n, .int .i64 p.f, .int .i64 p.t, .slice B p.bs.length cB] 60)) := (Fr.refl NoB W1).alloc _
    have hrp : Rd (W1.alloc (.cells #[.int .i64 p.n, .int .i64 p.f, .int .i64 p.t, .slice B p.bs.length cB] 60)) (fun _ => True) 4 (some ⟨W1.heap.size, 0, none⟩) [p].length (flat [p]) := by
      have := Rd.lit W1 (fun _ => True) 60 4 1 [.int .i64 p.n, .int .i64 p.f, .int .i64 p.t, .slice B p.bs.length cB] rfl trivial
      simpa [flat, Pk.cells, hv] using this
    have hS2 := hHeld.fr hT
    have hf := hf.trans hT (fun _ h _ => h)
    have hrq := hrq.same (fun k hk => hT.block k hk id)
    generalize W1.heap.size = gp at *
    generalize (W1.alloc (.cells #[.int .i64 p.n, .int .i64 p.f, .int .i64 p.t, .slice B p.bs.length cB] 60)) = W2 at *
    refine hK.out _ _ hS2 (fun hHeld => ?_)
    clear hK K
    refine norm_ (a' := ?_) ?_ ?_
    rotate_left
    · show Act.put _ (some 109) _ = _
      simp only [Act.put, List.setIfInBounds_toArray, List.set_cons_zero, List.set_cons_succ, i64_w, i32_w]
      rfl
    refine one_ (i := 6) (N := some 110) #[true, true, true, true, true, true, true, true, true, false, false, false] rfl rfl (one_of HT_.out (by kernel_rfl)) (by decide) (fun K hK => ?_)
    refine goes_ Try.func11 (by kernel_rfl) rfl #[.slice (some ⟨gp, 0, none⟩) 1 1] (by rfl) rfl rfl (by (try simp only [List.map_toArray, List.map_cons, List.map_nil]); first | done | rfl) ?_
    refine (packets_any W2 (fun _ => True) (some ⟨gp, 0, none⟩) 1 [p] hrp (by simp) (by simp) (fun x hx => by rw [List.mem_singleton.1 hx]; exact hHeld.2.2.1)).mono ?_
    rintro e W3 ⟨A', c', rfl, _, hCp, hT⟩
    refine ⟨_, rfl, ?_⟩
    have hS2 := hHeld.fr hT
    have hf := hf.trans hT (fun _ h _ => h)
    have hrp := hrp.same (fun k hk => hT.block k hk id)
    have hrq := hrq.same (fun k hk => hT.block k hk id)
    refine hK.out _ _ hS2 (fun hHeld => ?_)
    clear hK K
    refine norm_ (a' := ?_) ?_ ?_
    rotate_left
    · show Act.put _ (some 110) _ = _
      simp only [Act.put, List.setIfInBounds_toArray, List.set_cons_zero, List.set_cons_succ, i64_w, i32_w]
      rfl
    refine last_ (i := 9) (N := some 113) #[true, true, true, true, true, true, true, true, true, true, false, false] rfl rfl (one_of HT_.out (by kernel_rfl)) (by decide) (fun K hK => ?_)
    refine goes_ Try.func10 (by kernel_rfl) rfl #[.slice A' 1 c', .slice (some ⟨gq, 0, none⟩) 1 1] (by rfl) rfl rfl (by (try simp only [List.map_toArray, List.map_cons, List.map_nil]); first | done | rfl) ?_
    have hCq := C63 hrq (by simp) (fun x hx => by rw [List.mem_singleton.1 hx]; exact hHeld.2.2.2)
    rw [show [q].map Pk.s63 = [p].map Pk.s63 by simp [hqp]] at hCq
    refine (same_eq W3 A' (some ⟨gq, 0, none⟩) c' 1 ([p].map Pk.s63) (by simp) hCp hCq).mono ?_
    rintro e W4 ⟨rfl, hD⟩
    obtain ⟨m, rfl⟩ := hD.out
    have hf := hf.drewN m
    refine ⟨_, rfl, ?_⟩
    refine hK.out _ _ ?_
    clear hK K
    refine norm_ (a' := ?_) ?_ ?_
    rotate_left
    · show Act.put _ (some 113) _ = _
      simp only [Act.put, List.setIfInBounds_toArray, List.set_cons_zero, List.set_cons_succ, i64_w, i32_w]
      rfl
    refine pure_ (i := 10) (N := some 114) (v := ?_) (a' := ?_) #[true, true, true, true, true, true, true, true, true, true, true, false] rfl rfl (any_of HT_.out (by kernel_rfl)) (fun _ _ _ h => h) (Or.inl ⟨by rfl, ?_⟩) ?_ ?_
    rotate_left
    · intro w'
      go_simp
      with_reducible rfl
    rotate_left
    · simp only [Act.put, List.setIfInBounds_toArray, List.set_cons_zero, List.set_cons_succ, i64_w, i32_w]
      rfl
    refine pure_ (i := 11) (N := some 6) (v := ?_) (a' := ?_) #[true, true, true, true, true, true, true, true, true, true, true, true] rfl rfl (any_of HT_.out (by kernel_rfl)) (fun _ _ _ h => h) (Or.inl ⟨by rfl, ?_⟩) ?_ ?_
    rotate_left
    · intro w'
      go_simp
      with_reducible rfl
    rotate_left
    · simp only [Act.put, List.setIfInBounds_toArray, List.set_cons_zero, List.set_cons_succ, i64_w, i32_w]
      rfl
    refine done_ (done_of HT_.out (by kernel_rfl)) ?_
    go_wp2
    go_ret
    exact ⟨by simp, hEnd _ hf⟩
end Go.Proofs.Ytdfdmjnhekdpjaa
