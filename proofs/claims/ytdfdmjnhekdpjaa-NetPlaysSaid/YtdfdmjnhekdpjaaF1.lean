import Derived.Test.YtdfdmjnhekdpjaaT11
import Derived.Test.YtdfdmjnhekdpjaaMem2
import Derived.Test.YtdfdmjnhekdpjaaWLast
import Derived.Test.YtdfdmjnhekdpjaaWTab
namespace Go.Proofs.Ytdfdmjnhekdpjaa
set_option linter.unusedVariables false
set_option linter.unusedSimpArgs false
open Go.RowKit Go.Proofs.YtdfdmjnhekdpjaaW.PrintWords Go.Proofs.YtdfdmjnhekdpjaaW.PrintLast
def F20.T4 : Bool × List (List Nat × List Nat) := (true, [([], []), ([], []), ([], []), ([2], [2]), ([3], [3]), ([4], [4]), ([1, 5], [1, 5]), ([], []), ([7], [7]), ([8], [8]), ([9], [9]), ([], []), ([], []), ([], []), ([], []), ([13, 14, 6], [13, 14]), ([10, 11, 12, 15], [10, 11, 12, 15]), ([16], [16]), ([6, 17, 15], [6, 17]), ([0, 0, 1, 2, 3, 4, 5, 6, 7, 8, 9, 10, 11, 12, 13, 14, 15, 16, 17, 18], [0]), ([19, 0, 1, 2, 3, 4, 5, 6, 7, 8, 9, 10, 11, 12, 13, 14, 15, 16, 17, 18], [19]), ([20, 18, 18, 0, 1, 2, 3, 4, 5, 6, 7, 8, 9, 10, 11, 12, 13, 14, 15, 16, 17, 18], [18, 20])])
def F20.B4 : List Nat := [0, 0, 0, 4, 12, 28, 62, 0, 128, 384, 896, 0, 0, 0, 0, 24702, 65534, 131070, 262142, 524287, 1048575, 2097151]
theorem F20.tab4 : rtab .any (opsOf Try.f20 4) = F20.T4 := by kernel_rfl
theorem F20.bits4 : waitsOk F20.T4.2 F20.B4 = true := by kernel_rfl

/-- The document's net: its struct in block bw, its list a row, each packet's bytes a row (shared with nobody who writes). -/
structure FNet (w : World) (S : Nat → Prop) (bw : Nat) (line : Value) (ps : List Pk) (last : Int) : Prop where
  blk : Blk w bw 30 #[line, .int .i64 last]
  own : w.ownsRow 0 63 4 line ps.length (flat ps)
  pk : ∀ p ∈ ps, PkOk w p
  sb : S bw
  sl : ∀ k, line.ownBlock = some k → S k
  sp : ∀ p ∈ ps, ∀ k, p.v.ownBlock = some k → S k
  few : ps.length ≤ 200

theorem fsend_end {S : Nat → Prop} {bw : Nat} {line : Value} {ps : List Pk} {last x y : Int} {w W : World} {n : Nat} {v v3 : Value} {xs : List Value} (h : FNet w S bw line ps last) (hlen : ps.length < 200) (hn : n ≤ 20000)
    (hx : ∀ u ∈ xs, ∃ k : Int, u = .int .u8 k) (hb : Blk W bw 30 #[line, .int .i64 (last + 1)]) (hv : W.ownsRow w.heap.size 5 1 v n xs)
    (ho : W.ownsRow w.heap.size 63 4 v3 (ps.length + 1) (flat ps ++ [.int .i64 (last + 1), .int .i64 x, .int .i64 y, v])) (hf : Fr (OneB bw) w W) :
    FNet (W.setCell ⟨bw, 0, none⟩ v3) (fun k => S k ∨ w.heap.size ≤ k) bw v3 (ps ++ [⟨last + 1, x, y, xs, v⟩]) (last + 1) ∧ Fr (OneB bw) w (W.setCell ⟨bw, 0, none⟩ v3) := by
  have hfs : Fr (OneB bw) W (W.setCell ⟨bw, 0, none⟩ v3) := (Fr.refl (OneB bw) W).setCell (p := ⟨bw, 0, none⟩) (fun _ => rfl) _
  have hfc : Fr (OneB bw) w (W.setCell ⟨bw, 0, none⟩ v3) := hf.setCell (p := ⟨bw, 0, none⟩) (fun _ => rfl) _
  have hnl : n = xs.length := by simpa using hv.1.symm
  refine ⟨⟨hb.set_ 0 v3, ?_, ?_, .inl h.sb, ?_, ?_, by simp; omega⟩, hfc⟩
  · rw [flat_append, List.length_append]
    exact own_low (own_fr ho hfs (fun k hk e => own_blk_ne ho hb (by decide) (e ▸ hk))) (Nat.zero_le _)
  · intro p hp
    rcases List.mem_append.1 hp with hp | hp
    · exact ⟨own_fr (h.pk p hp).1 hfc (fun k hk e => own_blk_ne (h.pk p hp).1 h.blk (by decide) (e ▸ hk)), (h.pk p hp).2⟩
    · obtain rfl := List.mem_singleton.1 hp
      refine ⟨?_, hx, by show xs.length ≤ 20000; omega⟩
      show World.ownsRow _ 0 5 1 v xs.length xs
      rw [← hnl]
      exact own_low (own_fr hv hfs (fun k hk e => own_blk_ne hv hb (by decide) (e ▸ hk))) (Nat.zero_le _)
  · exact fun k hk => .inr (ho.lt k hk).1
  · intro p hp k hk
    rcases List.mem_append.1 hp with hp | hp
    · exact .inl (h.sp p hp k hk)
    · obtain rfl := List.mem_singleton.1 hp
      exact .inr (hv.lt k hk).1

set_option maxRecDepth 100000 in
set_option maxHeartbeats 4000000 in
theorem fsend_any (S : Nat → Prop) (bw : Nat) (line : Value) (ps : List Pk) (last x y : Int) (ok : Nat → Prop) (A : Option Addr) (n c : Nat) (xs : List Value) (w : World) (h : FNet w S bw line ps last)
    (hl : 0 ≤ last ∧ last < 1000000) (hA : A = none → c = 0) (hr : Rd w ok 1 A n xs) (hok : ¬ ok bw) (hx : ∀ u ∈ xs, ∃ k : Int, u = .int .u8 k) (hn : n ≤ 20000) (hlen : ps.length < 200) :
    Calls Try.prog 20 #[.pointer (some ⟨bw, 0, none⟩), .int .i64 x, .int .i64 y, .slice A n c] w fun e w' => e = .returned (.tuple #[.int .i64 (last + 1), .int .i64 0]) ∧
      ∃ line' v, FNet w' (fun k => S k ∨ w.heap.size ≤ k) bw line' (ps ++ [⟨last + 1, x, y, xs, v⟩]) (last + 1) ∧ Fr (OneB bw) w w' := by
  have h1 : ∀ u ∈ xs, u.oneCell' = true := fun u hu => by obtain ⟨k, rfl⟩ := hx u hu; rfl
  obtain ⟨L, lc, rfl, hlc, hlm, hL0, hLa⟩ := own_slice h.own
  have hrl := Rd.of_own (ok := fun k => k ≠ bw) h.own (fun k hk e => own_blk_ne h.own h.blk (by decide) (e ▸ hk))
  have hlone : ∀ u ∈ flat ps, u.oneCell' = true := by
    intro u hu
    obtain ⟨p, hp, hu⟩ := List.mem_flatMap.1 hu
    exact pk_one (h.pk p hp).1 p.n p.f p.t u hu
  have H := Lib.hid h
  have hb := h.blk
  have hown := h.own
  clear h
  have f1 := hb.frozen 1
  have f0 := hb.frozen 0
  have c0 := hb.cell 0
  have c1 := hb.cell 1
  simp at c0 c1
  have hlenI : (ps.length : Int) < 200 := by omega
  have hbs := hb.lt
  have HA := Lib.hid hA
  have HL0 := Lib.hid hL0
  clear hA hL0 hLa
  go_enter Try.func20, Try.ntmps20
  go_wp2_with fail
  have hf1 : Fr (OneB bw) w (w.setCell ⟨bw, 1, none⟩ (.int .i64 (last + 1))) := (Fr.refl (OneB bw) w).setCell (p := ⟨bw, 1, none⟩) (fun _ => rfl) _
  have hb1 := hb.set_ 1 (.int .i64 (last + 1))
  have hz1 : (w.setCell ⟨bw, 1, none⟩ (.int .i64 (last + 1))).heap.size = w.heap.size := by simp [World.setCell]
  generalize w.setCell ⟨bw, 1, none⟩ (.int .i64 (last + 1)) = w1 at *
  have hb1' : Blk w1 bw 30 #[.slice L ps.length lc, .int .i64 (last + 1)] := hb1
  clear hb1
  have HF1 := Lib.hid hf1
  have hrl1 := hrl.fr hf1 (fun b hb _ e => hb e)
  have hr1 := hr.fr hf1 (fun b hb _ e => hok (e ▸ hb))
  have d0 := hb1'.cell 0
  have d1 := hb1'.cell 1
  have g0 := hb1'.frozen 0
  have g1 := hb1'.lt
  simp at d0 d1
  clear c0 c1 f0 f1 hz1
  obtain ⟨i0, hi0, hz0, hz1, hz2⟩ := info_parts Try.info63
  obtain ⟨j0, hj0, hy0, hy1, hy2⟩ := info_parts Try.info5
  refine start_ (n := 22) (S := fun w' => Blk w' bw 30 #[.slice L ps.length lc, .int .i64 (last + 1)]) (ds := [21]) #[false, false, false, false, false, false, false, false, false, false, false, false, false, false, false, false, false, false, false, false, false, false] (by kernel_rfl) rfl rfl hb1'.drew (fun hHeld => ?_)
  refine with_tabW F20.tab4 F20.bits4 (fun HT_ HW_ => ?_)
  have hf := hf1.drew
  have hrl := hrl1.fr ((Fr.refl NoB w1).drew) (fun _ _ _ => id)
  have hr := hr1.fr ((Fr.refl NoB w1).drew) (fun _ _ _ => id)
  generalize w1.drew = W0 at *
  refine pure_ (i := 0) (N := some 23) (v := ?_) (a' := ?_) #[true, false, false, false, false, false, false, false, false, false, false, false, false, false, false, false, false, false, false, false, false, false] rfl rfl (any_of HT_.out (by kernel_rfl)) (fun _ _ _ h => h) (Or.inl ⟨by rfl, ?_⟩) ?_ ?_
  rotate_left
  · intro w'
    go_simp
    with_reducible rfl
  rotate_left
  · simp only [Act.put, List.setIfInBounds_toArray, List.set_cons_zero, List.set_cons_succ, i64_w, i32_w]
    rfl
  refine pure_ (i := 2) (N := some 25) (v := ?_) (a' := ?_) #[true, false, true, false, false, false, false, false, false, false, false, false, false, false, false, false, false, false, false, false, false, false] rfl rfl (any_of HT_.out (by kernel_rfl)) (fun _ _ _ h => h) (Or.inl ⟨by rfl, ?_⟩) ?_ ?_
  rotate_left
  · intro w'
    go_simp
    with_reducible rfl
  rotate_left
  · simp only [Act.put, List.setIfInBounds_toArray, List.set_cons_zero, List.set_cons_succ, i64_w, i32_w]
    rfl
  refine pure_ (i := 3) (N := some 26) (v := ?_) (a' := ?_) #[true, false, true, true, false, false, false, false, false, false, false, false, false, false, false, false, false, false, false, false, false, false] rfl rfl (any_of HT_.out (by kernel_rfl)) (fun _ _ _ h => h) (Or.inl ⟨by rfl, ?_⟩) ?_ ?_
  rotate_left
  · intro w'
    go_simp
    with_reducible rfl
  rotate_left
  · simp only [Act.put, List.setIfInBounds_toArray, List.set_cons_zero, List.set_cons_succ, i64_w, i32_w]
    rfl
  refine pure_ (i := 4) (N := some 27) (v := ?_) (a' := ?_) #[true, false, true, true, true, false, false, false, false, false, false, false, false, false, false, false, false, false, false, false, false, false] rfl rfl (any_of HT_.out (by kernel_rfl)) (fun _ _ _ h => h) (Or.inl ⟨by rfl, ?_⟩) ?_ ?_
  rotate_left
  · intro w'
    go_simp
    with_reducible rfl
  rotate_left
  · simp only [Act.put, List.setIfInBounds_toArray, List.set_cons_zero, List.set_cons_succ, i64_w, i32_w]
    rfl
  refine pure_ (i := 7) (N := some 30) (v := ?_) (a' := ?_) #[true, false, true, true, true, false, false, true, false, false, false, false, false, false, false, false, false, false, false, false, false, false] rfl rfl (any_of HT_.out (by kernel_rfl)) (fun _ _ _ h => h) (Or.inl ⟨by rfl, ?_⟩) ?_ ?_
  rotate_left
  · intro w'
    go_simp
    with_reducible rfl
  rotate_left
  · simp only [Act.put, List.setIfInBounds_toArray, List.set_cons_zero, List.set_cons_succ, i64_w, i32_w]
    rfl
  refine pure_ (i := 8) (N := some 31) (v := ?_) (a' := ?_) #[true, false, true, true, true, false, false, true, true, false, false, false, false, false, false, false, false, false, false, false, false, false] rfl rfl (any_of HT_.out (by kernel_rfl)) (fun _ _ _ h => h) (Or.inl ⟨by rfl, ?_⟩) ?_ ?_
  rotate_left
  · intro w'
    go_simp
    with_reducible rfl
  rotate_left
  · simp only [Act.put, List.setIfInBounds_toArray, List.set_cons_zero, List.set_cons_succ, i64_w, i32_w]
    rfl
  refine pure_ (i := 9) (N := some 32) (v := ?_) (a' := ?_) #[true, false, true, true, true, false, false, true, true, true, false, false, false, false, false, false, false, false, false, false, false, false] rfl rfl (any_of HT_.out (by kernel_rfl)) (fun _ _ _ h => h) (Or.inl ⟨by rfl, ?_⟩) ?_ ?_
  rotate_left
  · intro w'
    go_simp
    with_reducible rfl
  rotate_left
  · simp only [Act.put, List.setIfInBounds_toArray, List.set_cons_zero, List.set_cons_succ, i64_w, i32_w]
    rfl
  refine pure_ (i := 11) (N := some 34) (v := ?_) (a' := ?_) #[true, false, true, true, true, false, false, true, true, true, false, true, false, false, false, false, false, false, false, false, false, false] rfl rfl (any_of HT_.out (by kernel_rfl)) (fun _ _ _ h => h) (Or.inl ⟨by rfl, ?_⟩) ?_ ?_
  rotate_left
  · intro w'
    go_simp
    with_reducible rfl
  rotate_left
  · simp only [Act.put, List.setIfInBounds_toArray, List.set_cons_zero, List.set_cons_succ, i64_w, i32_w]
    rfl
  refine pure_ (i := 12) (N := some 35) (v := ?_) (a' := ?_) #[true, false, true, true, true, false, false, true, true, true, false, true, true, false, false, false, false, false, false, false, false, false] rfl rfl (any_of HT_.out (by kernel_rfl)) (fun _ _ _ h => h) (Or.inl ⟨by rfl, ?_⟩) ?_ ?_
  rotate_left
  · intro w'
    go_simp
    with_reducible rfl
  rotate_left
  · simp only [Act.put, List.setIfInBounds_toArray, List.set_cons_zero, List.set_cons_succ, i64_w, i32_w]
    rfl
  refine pure_ (i := 14) (N := some 37) (v := ?_) (a' := ?_) #[true, false, true, true, true, false, false, true, true, true, false, true, true, false, true, false, false, false, false, false, false, false] rfl rfl (any_of HT_.out (by kernel_rfl)) (fun _ _ _ h => h) (Or.inl ⟨by rfl, ?_⟩) ?_ ?_
  rotate_left
  · intro w'
    go_simp
    with_reducible rfl
  rotate_left
  · simp only [Act.put, List.setIfInBounds_toArray, List.set_cons_zero, List.set_cons_succ, i64_w, i32_w]
    rfl
  refine take_ (i := 5) (N := some 28) (v := ?_) (a' := ?_) #[true, false, true, true, true, true, false, true, true, true, false, true, true, false, true, false, false, false, false, false, false, false] rfl rfl (take_ofW HT_.out HW_.out (by kernel_rfl)) (fun _ _ _ h => h) (Or.inl ⟨by rfl, ?_⟩) hHeld ?_ ?_
  rotate_left
  · intro w' hS
    have s0 := hS.cell 0
    have s1 := hS.cell 1
    simp at s0 s1
    go_simp
    with_reducible rfl
  rotate_left
  · simp only [Act.put, List.setIfInBounds_toArray, List.set_cons_zero, List.set_cons_succ, i64_w, i32_w]
    rfl
  refine take_ (i := 10) (N := some 33) (v := ?_) (a' := ?_) #[true, false, true, true, true, true, false, true, true, true, true, true, true, false, true, false, false, false, false, false, false, false] rfl rfl (take_ofW HT_.out HW_.out (by kernel_rfl)) (fun _ _ _ h => h) (Or.inl ⟨by rfl, ?_⟩) hHeld ?_ ?_
  rotate_left
  · intro w' hS
    have s0 := hS.cell 0
    have s1 := hS.cell 1
    simp at s0 s1
    go_simp
    with_reducible rfl
  rotate_left
  · simp only [Act.put, List.setIfInBounds_toArray, List.set_cons_zero, List.set_cons_succ, i64_w, i32_w]
    rfl
  refine two_ (i := 1) (j := 13) (Ni := some 24) (Nj := some 36) #[true, true, true, true, true, true, false, true, true, true, true, true, true, false, true, false, false, false, false, false, false, false] #[true, false, true, true, true, true, false, true, true, true, true, true, true, true, true, false, false, false, false, false, false, false] rfl rfl rfl rfl (two_of HT_.out (by kernel_rfl)) (by decide) (by decide) ?_ ?_
  · intro K hK
    refine step_value rfl (.slice (some ⟨W0.heap.size, 0, none⟩) 0 0) (W0.alloc (.cells #[] 63)) (by first | (go_simp; done) | (go_simp; rfl)) ?_
    have le24 : w.heap.size ≤ W0.heap.size := hf.size
    have hT : Fr NoB W0 (W0.alloc (.cells #[] 63)) := (Fr.refl NoB W0).alloc _
    have hb24 : Blk (W0.alloc (.cells #[] 63)) W0.heap.size 63 #[] := Blk.new _ _ _
    have hrl := hrl.fr hT (fun _ _ _ => id)
    have hr := hr.fr hT (fun _ _ _ => id)
    have hf := hf.trans hT (fun _ h _ => h.elim)
    have hH2 := hHeld.fr hT id
    generalize (W0.alloc (.cells #[] 63)) = W1 at *
    refine hK.out _ _ hH2 (fun hHeld => ?_)
    clear hK K
    refine norm_ (a' := ?_) ?_ ?_
    rotate_left
    · show Act.put _ (some 24) _ = _
      simp only [Act.put, List.setIfInBounds_toArray, List.set_cons_zero, List.set_cons_succ, i64_w, i32_w]
      rfl
    refine two_ (i := 6) (j := 13) (Ni := some 29) (Nj := some 36) #[true, true, true, true, true, true, true, true, true, true, true, true, true, false, true, false, false, false, false, false, false, false] #[true, true, true, true, true, true, false, true, true, true, true, true, true, true, true, false, false, false, false, false, false, false] rfl rfl rfl rfl (two_of HT_.out (by kernel_rfl)) (by decide) (by decide) ?_ ?_
    · intro K hK
      refine step_app_new _ rfl (.tmp 24) (.tmp 28) 28 rfl w.heap.size 63 i0 _ 4 48 Try.underlying28 hi0 hz0 hz1 hz2 rfl (by omega) W0.heap.size rfl le24 hb24 _ L ps.length lc HL0.out (flat ps) rfl hrl (by simp only [maxLen]; omega) (by omega) hf.size ?_
      intro v29 W2 own29 hT hat29
      have hrl := hrl.fr hT (fun _ _ _ => id)
      have hr := hr.fr hT (fun _ _ _ => id)
      have hf := hf.trans hT (fun _ h _ => h.elim)
      refine hK.out _ _ (hHeld.fr hT id) (fun hHeld => ?_)
      clear hK K
      refine norm_ (a' := ?_) ?_ ?_
      rotate_left
      · show Act.put _ (some 29) _ = _
        simp only [Act.put, List.setIfInBounds_toArray, List.set_cons_zero, List.set_cons_succ, i64_w, i32_w]
        rfl
      refine one_ (i := 13) (N := some 36) #[true, true, true, true, true, true, true, true, true, true, true, true, true, true, true, false, false, false, false, false, false, false] rfl rfl (one_of HT_.out (by kernel_rfl)) (by decide) (fun K hK => ?_)
      refine step_value rfl (.slice (some ⟨W2.heap.size, 0, none⟩) 0 0) (W2.alloc (.cells #[] 5)) (by first | (go_simp; done) | (go_simp; rfl)) ?_
      have le36 : w.heap.size ≤ W2.heap.size := hf.size
      have hT : Fr NoB W2 (W2.alloc (.cells #[] 5)) := (Fr.refl NoB W2).alloc _
      have hb36 : Blk (W2.alloc (.cells #[] 5)) W2.heap.size 5 #[] := Blk.new _ _ _
      have hrl := hrl.fr hT (fun _ _ _ => id)
      have hr := hr.fr hT (fun _ _ _ => id)
      have own29 := own_fr own29 hT (fun _ _ => id)
      have hf := hf.trans hT (fun _ h _ => h.elim)
      have hH2 := hHeld.fr hT id
      generalize (W2.alloc (.cells #[] 5)) = W3 at *
      refine hK.out _ _ hH2 (fun hHeld => ?_)
      clear hK K
      refine norm_ (a' := ?_) ?_ ?_
      rotate_left
      · show Act.put _ (some 36) _ = _
        simp only [Act.put, List.setIfInBounds_toArray, List.set_cons_zero, List.set_cons_succ, i64_w, i32_w]
        rfl
      refine one_ (i := 15) (N := some 38) #[true, true, true, true, true, true, true, true, true, true, true, true, true, true, true, true, false, false, false, false, false, false] rfl rfl (one_of HT_.out (by kernel_rfl)) (by decide) (fun K hK => ?_)
      refine step_app_new _ rfl (.tmp 36) (.tmp 37) 35 rfl w.heap.size 5 j0 _ 1 1 Try.underlying35 hj0 hy0 hy1 hy2 rfl (by omega) W2.heap.size rfl le36 hb36 _ A n c HA.out xs rfl hr (by simp only [maxLen]; omega) (by omega) hf.size ?_
      intro v38 W4 own38 hT hat38
      have hrl := hrl.fr hT (fun _ _ _ => id)
      have hr := hr.fr hT (fun _ _ _ => id)
      have own29 := own_fr own29 hT (fun _ _ => id)
      have hf := hf.trans hT (fun _ h _ => h.elim)
      obtain ⟨A38, c38, rfl, hs38⟩ := own_slice own38
      refine hK.out _ _ (hHeld.fr hT id) (fun hHeld => ?_)
      clear hK K
      refine norm_ (a' := ?_) ?_ ?_
      rotate_left
      · show Act.put _ (some 38) _ = _
        simp only [Act.put, List.setIfInBounds_toArray, List.set_cons_zero, List.set_cons_succ, i64_w, i32_w]
        rfl
      refine pure_ (i := 16) (N := some 39) (v := ?_) (a' := ?_) #[true, true, true, true, true, true, true, true, true, true, true, true, true, true, true, true, true, false, false, false, false, false] rfl rfl (any_of HT_.out (by kernel_rfl)) (fun _ _ _ h => h) (Or.inl ⟨by rfl, ?_⟩) ?_ ?_
      rotate_left
      · intro w'
        go_simp
        with_reducible rfl
      rotate_left
      · simp only [Act.put, List.setIfInBounds_toArray, List.set_cons_zero, List.set_cons_succ, i64_w, i32_w]
        rfl
      refine one_ (i := 17) (N := some 40) #[true, true, true, true, true, true, true, true, true, true, true, true, true, true, true, true, true, true, false, false, false, false] rfl rfl (one_of HT_.out (by kernel_rfl)) (by decide) (fun K hK => ?_)
      refine step_value rfl (.slice (some ⟨W4.heap.size, 0, none⟩) 1 1) (W4.alloc (.cells #[.int .i64 (last + 1), .int .i64 x, .int .i64 y, .slice A38 n c38] 63)) (by first | (go_simp; done) | (go_simp; rfl)) ?_
      have le40 : w.heap.size ≤ W4.heap.size := hf.size
      have hT : Fr NoB W4 (W4.alloc (.cells #[.int .i64 (last + 1), .int .i64 x, .int .i64 y, .slice A38 n c38] 63)) := (Fr.refl NoB W4).alloc _
      have hb40 : Blk (W4.alloc (.cells #[.int .i64 (last + 1), .int .i64 x, .int .i64 y, .slice A38 n c38] 63)) W4.heap.size 63 #[.int .i64 (last + 1), .int .i64 x, .int .i64 y, .slice A38 n c38] := Blk.new _ _ _
      have hrl := hrl.fr hT (fun _ _ _ => id)
      have hr := hr.fr hT (fun _ _ _ => id)
      have own29 := own_fr own29 hT (fun _ _ => id)
      have own38 := own_fr own38 hT (fun _ _ => id)
      have hf := hf.trans hT (fun _ h _ => h.elim)
      have hH2 := hHeld.fr hT id
      generalize (W4.alloc (.cells #[.int .i64 (last + 1), .int .i64 x, .int .i64 y, .slice A38 n c38] 63)) = W5 at *
      refine hK.out _ _ hH2 (fun hHeld => ?_)
      clear hK K
      refine norm_ (a' := ?_) ?_ ?_
      rotate_left
      · show Act.put _ (some 40) _ = _
        simp only [Act.put, List.setIfInBounds_toArray, List.set_cons_zero, List.set_cons_succ, i64_w, i32_w]
        rfl
      refine one_ (i := 18) (N := some 41) #[true, true, true, true, true, true, true, true, true, true, true, true, true, true, true, true, true, true, true, false, false, false] rfl rfl (one_of HT_.out (by kernel_rfl)) (by decide) (fun K hK => ?_)
      refine step_app _ rfl (.tmp 29) (.tmp 40) 28 rfl w.heap.size 63 i0 _ 4 48 Try.underlying28 hi0 hz0 hz1 hz2 rfl (by omega) v29 ps.length (flat ps) rfl own29 (fun _ => True) (some ⟨W4.heap.size, 0, none⟩) 1 1 (fun h => by cases h) [.int .i64 (last + 1), .int .i64 x, .int .i64 y, .slice A38 n c38] rfl (Rd.of_blk _ hb40 rfl trivial) (pk_one own38 _ _ _) (by simp only [maxLen]; omega) (by omega) hf.size ?_
      intro v41 W6 own41 hg41 hat41
      have hT := Fr.of_grown (S := fun k => v29.ownBlock = some k) hg41 (fun k hk _ => hk)
      have own38 := own_fr own38 hT (fun k hk e => own_own_ne own29 own38 (by decide) k e hk)
      have hf := hf.trans hT (fun b hb hlt => absurd hlt (by have := (own29.lt b hb).1; omega))
      have hH2 := hHeld.fr hT (fun e => own_blk_ne own29 hHeld (by decide) e)
      obtain ⟨L', c', rfl, hs41⟩ := own_slice own41
      refine hK.out _ _ hH2 (fun hHeld => ?_)
      clear hK K
      refine norm_ (a' := ?_) ?_ ?_
      rotate_left
      · show Act.put _ (some 41) _ = _
        simp only [Act.put, List.setIfInBounds_toArray, List.set_cons_zero, List.set_cons_succ, i64_w, i32_w]
        rfl
      refine pure_ (i := 19) (N := some 42) (v := ?_) (a' := ?_) #[true, true, true, true, true, true, true, true, true, true, true, true, true, true, true, true, true, true, true, true, false, false] rfl rfl (any_of HT_.out (by kernel_rfl)) (fun _ _ _ h => h) (Or.inl ⟨by rfl, ?_⟩) ?_ ?_
      rotate_left
      · intro w'
        go_simp
        with_reducible rfl
      rotate_left
      · simp only [Act.put, List.setIfInBounds_toArray, List.set_cons_zero, List.set_cons_succ, i64_w, i32_w]
        rfl
      refine pure_ (i := 20) (N := some 43) (v := ?_) (a' := ?_) #[true, true, true, true, true, true, true, true, true, true, true, true, true, true, true, true, true, true, true, true, true, false] rfl rfl (any_of HT_.out (by kernel_rfl)) (fun _ _ _ h => h) (Or.inl ⟨by rfl, ?_⟩) ?_ ?_
      rotate_left
      · intro w'
        go_simp
        with_reducible rfl
      rotate_left
      · simp only [Act.put, List.setIfInBounds_toArray, List.set_cons_zero, List.set_cons_succ, i64_w, i32_w]
        rfl
      refine last_ (i := 21) (N := none) #[true, true, true, true, true, true, true, true, true, true, true, true, true, true, true, true, true, true, true, true, true, true] rfl rfl (one_of HT_.out (by kernel_rfl)) (by decide) (fun K hK => ?_)
      have q0 := hHeld.cell 0
      have q1 := hHeld.frozen 0
      simp at q0
      refine skip_ (w1 := ?_) (by rfl) rfl ?_ ?_
      rotate_left
      · go_simp
        rfl
      refine hK.out _ _ ?_
      clear hK K
      refine done_ (done_of HT_.out (by kernel_rfl)) ?_
      have q2 := hHeld.cell 1
      simp at q2
      go_wp2
      go_ret2
      exact ⟨rfl, .slice L' (ps.length + 1) c', .slice A38 n c38, fsend_end H.out hlen hn hx hHeld own38 own41 hf⟩
    · intro K hK
      refine step_value rfl (.slice (some ⟨W1.heap.size, 0, none⟩) 0 0) (W1.alloc (.cells #[] 5)) (by first | (go_simp; done) | (go_simp; rfl)) ?_
      have le36 : w.heap.size ≤ W1.heap.size := hf.size
      have hT : Fr NoB W1 (W1.alloc (.cells #[] 5)) := (Fr.refl NoB W1).alloc _
      have hb36 : Blk (W1.alloc (.cells #[] 5)) W1.heap.size 5 #[] := Blk.new _ _ _
      have hrl := hrl.fr hT (fun _ _ _ => id)
      have hr := hr.fr hT (fun _ _ _ => id)
      have hb24 := hb24.fr hT id
      have hf := hf.trans hT (fun _ h _ => h.elim)
      have hH2 := hHeld.fr hT id
      generalize (W1.alloc (.cells #[] 5)) = W2 at *
      refine hK.out _ _ hH2 (fun hHeld => ?_)
      clear hK K
      refine norm_ (a' := ?_) ?_ ?_
      rotate_left
      · show Act.put _ (some 36) _ = _
        simp only [Act.put, List.setIfInBounds_toArray, List.set_cons_zero, List.set_cons_succ, i64_w, i32_w]
        rfl
      refine one_ (i := 6) (N := some 29) #[true, true, true, true, true, true, true, true, true, true, true, true, true, true, true, false, false, false, false, false, false, false] rfl rfl (one_of HT_.out (by kernel_rfl)) (by decide) (fun K hK => ?_)
      refine step_app_new _ rfl (.tmp 24) (.tmp 28) 28 rfl w.heap.size 63 i0 _ 4 48 Try.underlying28 hi0 hz0 hz1 hz2 rfl (by omega) W0.heap.size rfl le24 hb24 _ L ps.length lc HL0.out (flat ps) rfl hrl (by simp only [maxLen]; omega) (by omega) hf.size ?_
      intro v29 W3 own29 hT hat29
      have hrl := hrl.fr hT (fun _ _ _ => id)
      have hr := hr.fr hT (fun _ _ _ => id)
      have hb36 := hb36.fr hT id
      have hf := hf.trans hT (fun _ h _ => h.elim)
      refine hK.out _ _ (hHeld.fr hT id) (fun hHeld => ?_)
      clear hK K
      refine norm_ (a' := ?_) ?_ ?_
      rotate_left
      · show Act.put _ (some 29) _ = _
        simp only [Act.put, List.setIfInBounds_toArray, List.set_cons_zero, List.set_cons_succ, i64_w, i32_w]
        rfl
      refine one_ (i := 15) (N := some 38) #[true, true, true, true, true, true, true, true, true, true, true, true, true, true, true, true, false, false, false, false, false, false] rfl rfl (one_of HT_.out (by kernel_rfl)) (by decide) (fun K hK => ?_)
      refine step_app_new _ rfl (.tmp 36) (.tmp 37) 35 rfl w.heap.size 5 j0 _ 1 1 Try.underlying35 hj0 hy0 hy1 hy2 rfl (by omega) W1.heap.size rfl le36 hb36 _ A n c HA.out xs rfl hr (by simp only [maxLen]; omega) (by omega) hf.size ?_
      intro v38 W4 own38 hT hat38
      have hrl := hrl.fr hT (fun _ _ _ => id)
      have hr := hr.fr hT (fun _ _ _ => id)
      have own29 := own_fr own29 hT (fun _ _ => id)
      have hf := hf.trans hT (fun _ h _ => h.elim)
      obtain ⟨A38, c38, rfl, hs38⟩ := own_slice own38
      refine hK.out _ _ (hHeld.fr hT id) (fun hHeld => ?_)
      clear hK K
      refine norm_ (a' := ?_) ?_ ?_
      rotate_left
      · show Act.put _ (some 38) _ = _
        simp only [Act.put, List.setIfInBounds_toArray, List.set_cons_zero, List.set_cons_succ, i64_w, i32_w]
        rfl
      refine pure_ (i := 16) (N := some 39) (v := ?_) (a' := ?_) #[true, true, true, true, true, true, true, true, true, true, true, true, true, true, true, true, true, false, false, false, false, false] rfl rfl (any_of HT_.out (by kernel_rfl)) (fun _ _ _ h => h) (Or.inl ⟨by rfl, ?_⟩) ?_ ?_
      rotate_left
      · intro w'
        go_simp
        with_reducible rfl
      rotate_left
      · simp only [Act.put, List.setIfInBounds_toArray, List.set_cons_zero, List.set_cons_succ, i64_w, i32_w]
        rfl
      refine one_ (i := 17) (N := some 40) #[true, true, true, true, true, true, true, true, true, true, true, true, true, true, true, true, true, true, false, false, false, false] rfl rfl (one_of HT_.out (by kernel_rfl)) (by decide) (fun K hK => ?_)
      refine step_value rfl (.slice (some ⟨W4.heap.size, 0, none⟩) 1 1) (W4.alloc (.cells #[.int .i64 (last + 1), .int .i64 x, .int .i64 y, .slice A38 n c38] 63)) (by first | (go_simp; done) | (go_simp; rfl)) ?_
      have le40 : w.heap.size ≤ W4.heap.size := hf.size
      have hT : Fr NoB W4 (W4.alloc (.cells #[.int .i64 (last + 1), .int .i64 x, .int .i64 y, .slice A38 n c38] 63)) := (Fr.refl NoB W4).alloc _
      have hb40 : Blk (W4.alloc (.cells #[.int .i64 (last + 1), .int .i64 x, .int .i64 y, .slice A38 n c38] 63)) W4.heap.size 63 #[.int .i64 (last + 1), .int .i64 x, .int .i64 y, .slice A38 n c38] := Blk.new _ _ _
      have hrl := hrl.fr hT (fun _ _ _ => id)
      have hr := hr.fr hT (fun _ _ _ => id)
      have own29 := own_fr own29 hT (fun _ _ => id)
      have own38 := own_fr own38 hT (fun _ _ => id)
      have hf := hf.trans hT (fun _ h _ => h.elim)
      have hH2 := hHeld.fr hT id
      generalize (W4.alloc (.cells #[.int .i64 (last + 1), .int .i64 x, .int .i64 y, .slice A38 n c38] 63)) = W5 at *
      refine hK.out _ _ hH2 (fun hHeld => ?_)
      clear hK K
      refine norm_ (a' := ?_) ?_ ?_
      rotate_left
      · show Act.put _ (some 40) _ = _
        simp only [Act.put, List.setIfInBounds_toArray, List.set_cons_zero, List.set_cons_succ, i64_w, i32_w]
        rfl
      refine one_ (i := 18) (N := some 41) #[true, true, true, true, true, true, true, true, true, true, true, true, true, true, true, true, true, true, true, false, false, false] rfl rfl (one_of HT_.out (by kernel_rfl)) (by decide) (fun K hK => ?_)
      refine step_app _ rfl (.tmp 29) (.tmp 40) 28 rfl w.heap.size 63 i0 _ 4 48 Try.underlying28 hi0 hz0 hz1 hz2 rfl (by omega) v29 ps.length (flat ps) rfl own29 (fun _ => True) (some ⟨W4.heap.size, 0, none⟩) 1 1 (fun h => by cases h) [.int .i64 (last + 1), .int .i64 x, .int .i64 y, .slice A38 n c38] rfl (Rd.of_blk _ hb40 rfl trivial) (pk_one own38 _ _ _) (by simp only [maxLen]; omega) (by omega) hf.size ?_
      intro v41 W6 own41 hg41 hat41
      have hT := Fr.of_grown (S := fun k => v29.ownBlock = some k) hg41 (fun k hk _ => hk)
      have own38 := own_fr own38 hT (fun k hk e => own_own_ne own29 own38 (by decide) k e hk)
      have hf := hf.trans hT (fun b hb hlt => absurd hlt (by have := (own29.lt b hb).1; omega))
      have hH2 := hHeld.fr hT (fun e => own_blk_ne own29 hHeld (by decide) e)
      obtain ⟨L', c', rfl, hs41⟩ := own_slice own41
      refine hK.out _ _ hH2 (fun hHeld => ?_)
      clear hK K
      refine norm_ (a' := ?_) ?_ ?_
      rotate_left
      · show Act.put _ (some 41) _ = _
        simp only [Act.put, List.setIfInBounds_toArray, List.set_cons_zero, List.set_cons_succ, i64_w, i32_w]
        rfl
      refine pure_ (i := 19) (N := some 42) (v := ?_) (a' := ?_) #[true, true, true, true, true, true, true, true, true, true, true, true, true, true, true, true, true, true, true, true, false, false] rfl rfl (any_of HT_.out (by kernel_rfl)) (fun _ _ _ h => h) (Or.inl ⟨by rfl, ?_⟩) ?_ ?_
      rotate_left
      · intro w'
        go_simp
        with_reducible rfl
      rotate_left
      · simp only [Act.put, List.setIfInBounds_toArray, List.set_cons_zero, List.set_cons_succ, i64_w, i32_w]
        rfl
      refine pure_ (i := 20) (N := some 43) (v := ?_) (a' := ?_) #[true, true, true, true, true, true, true, true, true, true, true, true, true, true, true, true, true, true, true, true, true, false] rfl rfl (any_of HT_.out (by kernel_rfl)) (fun _ _ _ h => h) (Or.inl ⟨by rfl, ?_⟩) ?_ ?_
      rotate_left
      · intro w'
        go_simp
        with_reducible rfl
      rotate_left
      · simp only [Act.put, List.setIfInBounds_toArray, List.set_cons_zero, List.set_cons_succ, i64_w, i32_w]
        rfl
      refine last_ (i := 21) (N := none) #[true, true, true, true, true, true, true, true, true, true, true, true, true, true, true, true, true, true, true, true, true, true] rfl rfl (one_of HT_.out (by kernel_rfl)) (by decide) (fun K hK => ?_)
      have q0 := hHeld.cell 0
      have q1 := hHeld.frozen 0
      simp at q0
      refine skip_ (w1 := ?_) (by rfl) rfl ?_ ?_
      rotate_left
      · go_simp
        rfl
      refine hK.out _ _ ?_
      clear hK K
      refine done_ (done_of HT_.out (by kernel_rfl)) ?_
      have q2 := hHeld.cell 1
      simp at q2
      go_wp2
      go_ret2
      exact ⟨rfl, .slice L' (ps.length + 1) c', .slice A38 n c38, fsend_end H.out hlen hn hx hHeld own38 own41 hf⟩
  · intro K hK
    refine step_value rfl (.slice (some ⟨W0.heap.size, 0, none⟩) 0 0) (W0.alloc (.cells #[] 5)) (by first | (go_simp; done) | (go_simp; rfl)) ?_
    have le36 : w.heap.size ≤ W0.heap.size := hf.size
    have hT : Fr NoB W0 (W0.alloc (.cells #[] 5)) := (Fr.refl NoB W0).alloc _
    have hb36 : Blk (W0.alloc (.cells #[] 5)) W0.heap.size 5 #[] := Blk.new _ _ _
    have hrl := hrl.fr hT (fun _ _ _ => id)
    have hr := hr.fr hT (fun _ _ _ => id)
    have hf := hf.trans hT (fun _ h _ => h.elim)
    have hH2 := hHeld.fr hT id
    generalize (W0.alloc (.cells #[] 5)) = W1 at *
    refine hK.out _ _ hH2 (fun hHeld => ?_)
    clear hK K
    refine norm_ (a' := ?_) ?_ ?_
    rotate_left
    · show Act.put _ (some 36) _ = _
      simp only [Act.put, List.setIfInBounds_toArray, List.set_cons_zero, List.set_cons_succ, i64_w, i32_w]
      rfl
    refine one_ (i := 1) (N := some 24) #[true, true, true, true, true, true, false, true, true, true, true, true, true, true, true, false, false, false, false, false, false, false] rfl rfl (one_of HT_.out (by kernel_rfl)) (by decide) (fun K hK => ?_)
    refine step_value rfl (.slice (some ⟨W1.heap.size, 0, none⟩) 0 0) (W1.alloc (.cells #[] 63)) (by first | (go_simp; done) | (go_simp; rfl)) ?_
    have le24 : w.heap.size ≤ W1.heap.size := hf.size
    have hT : Fr NoB W1 (W1.alloc (.cells #[] 63)) := (Fr.refl NoB W1).alloc _
    have hb24 : Blk (W1.alloc (.cells #[] 63)) W1.heap.size 63 #[] := Blk.new _ _ _
    have hrl := hrl.fr hT (fun _ _ _ => id)
    have hr := hr.fr hT (fun _ _ _ => id)
    have hb36 := hb36.fr hT id
    have hf := hf.trans hT (fun _ h _ => h.elim)
    have hH2 := hHeld.fr hT id
    generalize (W1.alloc (.cells #[] 63)) = W2 at *
    refine hK.out _ _ hH2 (fun hHeld => ?_)
    clear hK K
    refine norm_ (a' := ?_) ?_ ?_
    rotate_left
    · show Act.put _ (some 24) _ = _
      simp only [Act.put, List.setIfInBounds_toArray, List.set_cons_zero, List.set_cons_succ, i64_w, i32_w]
      rfl
    refine one_ (i := 6) (N := some 29) #[true, true, true, true, true, true, true, true, true, true, true, true, true, true, true, false, false, false, false, false, false, false] rfl rfl (one_of HT_.out (by kernel_rfl)) (by decide) (fun K hK => ?_)
    refine step_app_new _ rfl (.tmp 24) (.tmp 28) 28 rfl w.heap.size 63 i0 _ 4 48 Try.underlying28 hi0 hz0 hz1 hz2 rfl (by omega) W1.heap.size rfl le24 hb24 _ L ps.length lc HL0.out (flat ps) rfl hrl (by simp only [maxLen]; omega) (by omega) hf.size ?_
    intro v29 W3 own29 hT hat29
    have hrl := hrl.fr hT (fun _ _ _ => id)
    have hr := hr.fr hT (fun _ _ _ => id)
    have hb36 := hb36.fr hT id
    have hf := hf.trans hT (fun _ h _ => h.elim)
    refine hK.out _ _ (hHeld.fr hT id) (fun hHeld => ?_)
    clear hK K
    refine norm_ (a' := ?_) ?_ ?_
    rotate_left
    · show Act.put _ (some 29) _ = _
      simp only [Act.put, List.setIfInBounds_toArray, List.set_cons_zero, List.set_cons_succ, i64_w, i32_w]
      rfl
    refine one_ (i := 15) (N := some 38) #[true, true, true, true, true, true, true, true, true, true, true, true, true, true, true, true, false, false, false, false, false, false] rfl rfl (one_of HT_.out (by kernel_rfl)) (by decide) (fun K hK => ?_)
    refine step_app_new _ rfl (.tmp 36) (.tmp 37) 35 rfl w.heap.size 5 j0 _ 1 1 Try.underlying35 hj0 hy0 hy1 hy2 rfl (by omega) W0.heap.size rfl le36 hb36 _ A n c HA.out xs rfl hr (by simp only [maxLen]; omega) (by omega) hf.size ?_
    intro v38 W4 own38 hT hat38
    have hrl := hrl.fr hT (fun _ _ _ => id)
    have hr := hr.fr hT (fun _ _ _ => id)
    have own29 := own_fr own29 hT (fun _ _ => id)
    have hf := hf.trans hT (fun _ h _ => h.elim)
    obtain ⟨A38, c38, rfl, hs38⟩ := own_slice own38
    refine hK.out _ _ (hHeld.fr hT id) (fun hHeld => ?_)
    clear hK K
    refine norm_ (a' := ?_) ?_ ?_
    rotate_left
    · show Act.put _ (some 38) _ = _
      simp only [Act.put, List.setIfInBounds_toArray, List.set_cons_zero, List.set_cons_succ, i64_w, i32_w]
      rfl
    refine pure_ (i := 16) (N := some 39) (v := ?_) (a' := ?_) #[true, true, true, true, true, true, true, true, true, true, true, true, true, true, true, true, true, false, false, false, false, false] rfl rfl (any_of HT_.out (by kernel_rfl)) (fun _ _ _ h => h) (Or.inl ⟨by rfl, ?_⟩) ?_ ?_
    rotate_left
    · intro w'
      go_simp
      with_reducible rfl
    rotate_left
    · simp only [Act.put, List.setIfInBounds_toArray, List.set_cons_zero, List.set_cons_succ, i64_w, i32_w]
      rfl
    refine one_ (i := 17) (N := some 40) #[true, true, true, true, true, true, true, true, true, true, true, true, true, true, true, true, true, true, false, false, false, false] rfl rfl (one_of HT_.out (by kernel_rfl)) (by decide) (fun K hK => ?_)
    refine step_value rfl (.slice (some ⟨W4.heap.size, 0, none⟩) 1 1) (W4.alloc (.cells #[.int .i64 (last + 1), .int .i64 x, .int .i64 y, .slice A38 n c38] 63)) (by first | (go_simp; done) | (go_simp; rfl)) ?_
    have le40 : w.heap.size ≤ W4.heap.size := hf.size
    have hT : Fr NoB W4 (W4.alloc (.cells #[.int .i64 (last + 1), .int .i64 x, .int .i64 y, .slice A38 n c38] 63)) := (Fr.refl NoB W4).alloc _
    have hb40 : Blk (W4.alloc (.cells #[.int .i64 (last + 1), .int .i64 x, .int .i64 y, .slice A38 n c38] 63)) W4.heap.size 63 #[.int .i64 (last + 1), .int .i64 x, .int .i64 y, .slice A38 n c38] := Blk.new _ _ _
    have hrl := hrl.fr hT (fun _ _ _ => id)
    have hr := hr.fr hT (fun _ _ _ => id)
    have own29 := own_fr own29 hT (fun _ _ => id)
    have own38 := own_fr own38 hT (fun _ _ => id)
    have hf := hf.trans hT (fun _ h _ => h.elim)
    have hH2 := hHeld.fr hT id
    generalize (W4.alloc (.cells #[.int .i64 (last + 1), .int .i64 x, .int .i64 y, .slice A38 n c38] 63)) = W5 at *
    refine hK.out _ _ hH2 (fun hHeld => ?_)
    clear hK K
    refine norm_ (a' := ?_) ?_ ?_
    rotate_left
    · show Act.put _ (some 40) _ = _
      simp only [Act.put, List.setIfInBounds_toArray, List.set_cons_zero, List.set_cons_succ, i64_w, i32_w]
      rfl
    refine one_ (i := 18) (N := some 41) #[true, true, true, true, true, true, true, true, true, true, true, true, true, true, true, true, true, true, true, false, false, false] rfl rfl (one_of HT_.out (by kernel_rfl)) (by decide) (fun K hK => ?_)
    refine step_app _ rfl (.tmp 29) (.tmp 40) 28 rfl w.heap.size 63 i0 _ 4 48 Try.underlying28 hi0 hz0 hz1 hz2 rfl (by omega) v29 ps.length (flat ps) rfl own29 (fun _ => True) (some ⟨W4.heap.size, 0, none⟩) 1 1 (fun h => by cases h) [.int .i64 (last + 1), .int .i64 x, .int .i64 y, .slice A38 n c38] rfl (Rd.of_blk _ hb40 rfl trivial) (pk_one own38 _ _ _) (by simp only [maxLen]; omega) (by omega) hf.size ?_
    intro v41 W6 own41 hg41 hat41
    have hT := Fr.of_grown (S := fun k => v29.ownBlock = some k) hg41 (fun k hk _ => hk)
    have own38 := own_fr own38 hT (fun k hk e => own_own_ne own29 own38 (by decide) k e hk)
    have hf := hf.trans hT (fun b hb hlt => absurd hlt (by have := (own29.lt b hb).1; omega))
    have hH2 := hHeld.fr hT (fun e => own_blk_ne own29 hHeld (by decide) e)
    obtain ⟨L', c', rfl, hs41⟩ := own_slice own41
    refine hK.out _ _ hH2 (fun hHeld => ?_)
    clear hK K
    refine norm_ (a' := ?_) ?_ ?_
    rotate_left
    · show Act.put _ (some 41) _ = _
      simp only [Act.put, List.setIfInBounds_toArray, List.set_cons_zero, List.set_cons_succ, i64_w, i32_w]
      rfl
    refine pure_ (i := 19) (N := some 42) (v := ?_) (a' := ?_) #[true, true, true, true, true, true, true, true, true, true, true, true, true, true, true, true, true, true, true, true, false, false] rfl rfl (any_of HT_.out (by kernel_rfl)) (fun _ _ _ h => h) (Or.inl ⟨by rfl, ?_⟩) ?_ ?_
    rotate_left
    · intro w'
      go_simp
      with_reducible rfl
    rotate_left
    · simp only [Act.put, List.setIfInBounds_toArray, List.set_cons_zero, List.set_cons_succ, i64_w, i32_w]
      rfl
    refine pure_ (i := 20) (N := some 43) (v := ?_) (a' := ?_) #[true, true, true, true, true, true, true, true, true, true, true, true, true, true, true, true, true, true, true, true, true, false] rfl rfl (any_of HT_.out (by kernel_rfl)) (fun _ _ _ h => h) (Or.inl ⟨by rfl, ?_⟩) ?_ ?_
    rotate_left
    · intro w'
      go_simp
      with_reducible rfl
    rotate_left
    · simp only [Act.put, List.setIfInBounds_toArray, List.set_cons_zero, List.set_cons_succ, i64_w, i32_w]
      rfl
    refine last_ (i := 21) (N := none) #[true, true, true, true, true, true, true, true, true, true, true, true, true, true, true, true, true, true, true, true, true, true] rfl rfl (one_of HT_.out (by kernel_rfl)) (by decide) (fun K hK => ?_)
    have q0 := hHeld.cell 0
    have q1 := hHeld.frozen 0
    simp at q0
    refine skip_ (w1 := ?_) (by rfl) rfl ?_ ?_
    rotate_left
    · go_simp
      rfl
    refine hK.out _ _ ?_
    clear hK K
    refine done_ (done_of HT_.out (by kernel_rfl)) ?_
    have q2 := hHeld.cell 1
    simp at q2
    go_wp2
    go_ret2
    exact ⟨rfl, .slice L' (ps.length + 1) c', .slice A38 n c38, fsend_end H.out hlen hn hx hHeld own38 own41 hf⟩
end Go.Proofs.Ytdfdmjnhekdpjaa
