/- courierref01.Bytes of field 4: a number, or bytes. -/
import Derived.Test.YtcfmcgkngjpdbaaDoorE0
import Derived.Test.YtcfmcgkngjpdbaaDoorWLast
import Derived.Test.YtcfmcgkngjpdbaaDoorWTab
namespace Go.Proofs.YtcfmcgkngjpdbaaDoor
set_option linter.unusedVariables false
set_option linter.unusedSimpArgs false
open Go.RowKit Go.Proofs.YtcfmcgkngjpdbaaDoorW.PrintWords Go.Proofs.YtcfmcgkngjpdbaaDoorW.PrintLast
def F15.T9 : Bool × List (List Nat × List Nat) := (true, [([], []), ([], []), ([1], [1]), ([2], [2]), ([3], [3]), ([0, 4], [0, 4]), ([], []), ([6], [6]), ([5, 7, 5], [5, 7]), ([8, 8, 0, 1, 2, 3, 4, 5, 6, 7, 8], [8])])
def F15.B9 : List Nat := [0, 0, 2, 6, 14, 31, 0, 64, 255, 511]
theorem F15.tab9 : rtab .any (opsOf Tryd.f15 9) = F15.T9 := by kernel_rfl
theorem F15.bits9 : waitsOk F15.T9.2 F15.B9 = true := by kernel_rfl

def RowR (l : List UInt8) (w : World) (e : Ending) (w' : World) : Prop := ∃ v', e = .returned v' ∧ w'.ownsRow w.heap.size 5 1 v' l.length (l.map ub) ∧ Fr NoB w w'
theorem VarR.row {base : Nat} {l : List UInt8} {w : World} {e : Ending} {w' : World} (h : VarR base (.slice none 0 0) l w e w') (hb : base ≤ w.heap.size) : ∃ v', e = .returned v' ∧ w'.ownsRow base 5 1 v' l.length (l.map ub) ∧ (∀ k, v'.ownBlock = some k → w.heap.size ≤ k) ∧ Fr NoB w w' := by
  obtain ⟨v', he, ho, hob, hf⟩ := h
  refine ⟨v', he, ho, fun k hk => ?_, hf.mono (fun b hb _ => by cases hb)⟩
  rcases hob with h | h
  · rw [h] at hk; cases hk
  · exact h k hk
set_option maxHeartbeats 1000000 in
set_option maxRecDepth 100000 in
theorem bytes0_any (n : Nat) (w : World) (hn : n < 2 ^ 64) : Calls Tryd.prog 15 #[.agg #[.int .i64 4, .int .i64 0, .int .u64 n, .slice none 0 0]] w (RowR (varL 32 ++ varL n) w) := by
  have hfa : Fr NoB w (w.alloc (.cells #[.int .i64 4, .int .i64 0, .int .u64 n, .slice none 0 0] 61)) := (Fr.refl NoB w).alloc _
  have hb := Blk.new w 61 #[.int .i64 4, .int .i64 0, .int .u64 n, .slice none 0 0]
  go_enter Tryd.func15, Tryd.ntmps15
  go_wp2_with fail
  refine (varint_any w.heap.size none 0 [] 32 _ (World.ownsRow_nil _ _ _ _) (by simp) (by decide) hfa.size).mono ?_
  rintro e w2 hv
  obtain ⟨v2, rfl, own2, hob2, hf2⟩ := hv.row hfa.size
  rw [List.nil_append] at own2
  have hb2 := hb.fr hf2 id
  have s1 := hb2.cell 1
  have s2 := hb2.cell 2
  simp at s1 s2
  obtain ⟨A2, c2, rfl, _⟩ := own_slice own2
  have hV := Lib.hid (varint_any w.heap.size A2 c2 (varL 32) n w2 own2 (by decide) hn (hfa.trans hf2 (fun _ h _ => h)).size)
  go_wp2_with fail
  refine hV.out.mono ?_
  rintro e w3 ⟨v3, rfl, own3, hob3, hf3⟩
  go_wp2_with fail
  go_ret
  exact ⟨v3, rfl, own3, (hfa.trans hf2 (fun _ h _ => h)).trans hf3 (fun b hb hl => absurd hl (Nat.not_lt.2 (own2.lt b hb).1))⟩
set_option maxHeartbeats 1000000 in
set_option maxRecDepth 100000 in
theorem bytes2_any (A : Option Addr) (d : List UInt8) (c : Nat) (ok : Nat → Prop) (w : World) (hA : A = none → c = 0) (hr : Bys w ok A d) (hl : d.length ≤ 100000) : Calls Tryd.prog 15 #[.agg #[.int .i64 4, .int .i64 2, .int .u64 0, .slice A d.length c]] w (RowR (varL 34 ++ varL d.length ++ d) w) := by
  obtain ⟨i0, hi0, hz0, hz1, hz2⟩ := info_parts infoU8
  have hfa : Fr NoB w (w.alloc (.cells #[.int .i64 4, .int .i64 2, .int .u64 0, .slice A d.length c] 61)) := (Fr.refl NoB w).alloc _
  have hb := Blk.new w 61 #[.int .i64 4, .int .i64 2, .int .u64 0, .slice A d.length c]
  go_enter Tryd.func15, Tryd.ntmps15
  go_wp2_with fail
  refine (varint_any w.heap.size none 0 [] 34 _ (World.ownsRow_nil _ _ _ _) (by simp) (by decide) hfa.size).mono ?_
  rintro e w2 hv
  obtain ⟨v2, rfl, own2, hob2, hf2⟩ := hv.row hfa.size
  rw [List.nil_append] at own2
  have hb2 := hb.fr hf2 id
  have s1 := hb2.cell 1
  have s2 := hb2.cell 2
  have s3 := hb2.cell 3
  simp at s1 s2 s3
  obtain ⟨A2, c2, rfl, _⟩ := own_slice own2
  have hV := Lib.hid (varint_any w.heap.size A2 c2 (varL 34) d.length w2 own2 (by decide) (by omega) (hfa.trans hf2 (fun _ h _ => h)).size)
  have hf02 := hfa.trans hf2 (fun _ h _ => h)
  have hrw : Bys w2 (fun b => ok b ∧ b < w.heap.size) A d := Rd.fr (Rd.mono hr (fun b hb hl => ⟨hb, hl⟩)) hf02 (fun _ _ _ => id)
  have hd1 := ub_one d
  have hu64 := u64_id d.length (by omega)
  have hvl1 : (varL 34 ++ varL d.length).length ≤ 20 := by
    rw [List.length_append]
    have h1 := varF_len 9 34
    have h2 := varF_len 9 d.length
    unfold varL
    omega
  clear hV s1 s2 s3
  have s1 := hb2.cell 1
  have s3 := hb2.cell 3
  simp at s1 s3
  go_wp2_with fail
  refine start_ (n := 10) (S := fun w' => Blk w' w.heap.size 61 #[.int .i64 4, .int .i64 2, .int .u64 0, .slice A d.length c]) (ds := [8]) #[false, false, false, false, false, false, false, false, false, false] (by kernel_rfl) rfl rfl (hb2.drew) (fun hHeld => ?_)
  refine with_tabW F15.tab9 F15.bits9 (fun HT_ HW_ => ?_)
  have hT : Fr NoB w2 w2.drew := (Fr.refl NoB w2).drew
  have own2 := own_fr own2 hT (fun _ _ => id)
  have hf02 := hf02.trans hT (fun _ h _ => h)
  have hrw := hrw.fr hT (fun _ _ _ => id)
  generalize w2.drew = W0 at *
  refine pure_ (i := 0) (N := some 34) (v := ?_) (a' := ?_) #[true, false, false, false, false, false, false, false, false, false] rfl rfl (any_of HT_.out (by kernel_rfl)) (fun _ _ _ h => h) (Or.inl ⟨by rfl, ?_⟩) ?_ ?_
  rotate_left
  · intro w'
    go_simp
    with_reducible rfl
  rotate_left
  · simp only [Act.put, List.setIfInBounds_toArray, List.set_cons_zero, List.set_cons_succ, i64_w, i32_w]
    rfl
  refine pure_ (i := 1) (N := some 35) (v := ?_) (a' := ?_) #[true, true, false, false, false, false, false, false, false, false] rfl rfl (any_of HT_.out (by kernel_rfl)) (fun _ _ _ h => h) (Or.inl ⟨by rfl, ?_⟩) ?_ ?_
  rotate_left
  · intro w'
    go_simp
    with_reducible rfl
  rotate_left
  · simp only [Act.put, List.setIfInBounds_toArray, List.set_cons_zero, List.set_cons_succ, i64_w, i32_w]
    rfl
  refine pure_ (i := 6) (N := some 40) (v := ?_) (a' := ?_) #[true, true, false, false, false, false, true, false, false, false] rfl rfl (any_of HT_.out (by kernel_rfl)) (fun _ _ _ h => h) (Or.inl ⟨by rfl, ?_⟩) ?_ ?_
  rotate_left
  · intro w'
    go_simp
    with_reducible rfl
  rotate_left
  · simp only [Act.put, List.setIfInBounds_toArray, List.set_cons_zero, List.set_cons_succ, i64_w, i32_w]
    rfl
  refine take_ (i := 2) (N := some 36) (v := ?_) (a' := ?_) #[true, true, true, false, false, false, true, false, false, false] rfl rfl (take_ofW HT_.out HW_.out (by kernel_rfl)) (fun _ _ _ h => h) (Or.inl ⟨by rfl, ?_⟩) hHeld ?_ ?_
  rotate_left
  · intro w' hS
    have s0 := hS.cell 3
    simp at s0
    go_simp
    with_reducible rfl
  rotate_left
  · simp only [Act.put, List.setIfInBounds_toArray, List.set_cons_zero, List.set_cons_succ, i64_w, i32_w]
    rfl
  refine pure_ (i := 3) (N := some 37) (v := ?_) (a' := ?_) #[true, true, true, true, false, false, true, false, false, false] rfl rfl (any_of HT_.out (by kernel_rfl)) (fun _ _ _ h => h) (Or.inl ⟨by rfl, ?_⟩) ?_ ?_
  rotate_left
  · intro w'
    go_simp
    with_reducible rfl
  rotate_left
  · simp only [Act.put, List.setIfInBounds_toArray, List.set_cons_zero, List.set_cons_succ, i64_w, i32_w]
    rfl
  refine pure_ (i := 4) (N := some 38) (v := ?_) (a' := ?_) #[true, true, true, true, true, false, true, false, false, false] rfl rfl (any_of HT_.out (by kernel_rfl)) (fun _ _ _ h => h) (Or.inl ⟨by rfl, ?_⟩) ?_ ?_
  rotate_left
  · intro w'
    go_simp
    with_reducible rfl
  rotate_left
  · simp only [Act.put, List.setIfInBounds_toArray, List.set_cons_zero, List.set_cons_succ, i64_w, i32_w]
    rfl
  refine take_ (i := 7) (N := some 41) (v := ?_) (a' := ?_) #[true, true, true, true, true, false, true, true, false, false] rfl rfl (take_ofW HT_.out HW_.out (by kernel_rfl)) (fun _ _ _ h => h) (Or.inl ⟨by rfl, ?_⟩) hHeld ?_ ?_
  rotate_left
  · intro w' hS
    have s0 := hS.cell 3
    simp at s0
    go_simp
    with_reducible rfl
  rotate_left
  · simp only [Act.put, List.setIfInBounds_toArray, List.set_cons_zero, List.set_cons_succ, i64_w, i32_w]
    rfl
  refine one_ (i := 5) (N := some 39) #[true, true, true, true, true, true, true, true, false, false] rfl rfl (one_of HT_.out (by kernel_rfl)) (by decide) (fun K hK => ?_)
  refine goes_ Tryd.func14 (by kernel_rfl) rfl #[.slice A2 (varL 34).length c2, .int .u64 d.length] (by rfl) rfl rfl (by (try simp only [List.map_toArray, List.map_cons, List.map_nil]); first | done | rfl) ?_
  refine (varint_any w.heap.size A2 c2 (varL 34) d.length W0 own2 (by decide) (by omega) hf02.size).mono ?_
  rintro e W1 ⟨v3, rfl, own3, hob3, hf3⟩
  have hge := fun k hk => (own2.lt k hk).1
  have hSn := hHeld.fr hf3 (fun e => own_blk_ne own2 hHeld (by decide) e)
  have hrw := hrw.fr hf3 (fun b hb _ e => absurd hb.2 (Nat.not_lt.2 (hge b e)))
  have hf03 := hf02.trans hf3 (fun b hb hl => absurd hl (Nat.not_lt.2 (hge b hb)))
  obtain ⟨A3, c3, rfl, _⟩ := own_slice own3
  refine ⟨_, rfl, ?_⟩
  refine hK.out _ _ hSn (fun hHeld => ?_)
  clear hK K
  refine norm_ (a' := ?_) ?_ ?_
  rotate_left
  · show Act.put _ (some 39) _ = _
    simp only [Act.put, List.setIfInBounds_toArray, List.set_cons_zero, List.set_cons_succ, i64_w, i32_w]
    rfl
  refine last_ (i := 8) (N := some 42) #[true, true, true, true, true, true, true, true, true, false] rfl rfl (one_of HT_.out (by kernel_rfl)) (by decide) (fun K hK => ?_)
  refine step_app _ rfl (.tmp 39) (.tmp 41) 57 rfl w.heap.size 5 i0 _ 1 1 Tryd.underlying57 hi0 hz0 hz1 hz2 rfl (by omega) (.slice A3 (varL 34 ++ varL d.length).length c3) (varL 34 ++ varL d.length).length ((varL 34 ++ varL d.length).map ub) rfl own3 _ A d.length c hA (d.map ub) rfl hrw hd1 (by simp only [maxLen]; omega) (by omega) hf03.size ?_
  intro v4 W2 own4 hg hat
  have hT := Fr.of_grown (S := fun k => (Value.slice A3 (varL 34 ++ varL d.length).length c3).ownBlock = some k) hg (fun k hk _ => hk)
  have hf04 := hf03.trans hT (fun b hb hl => absurd hl (Nat.not_lt.2 (own3.lt b hb).1))
  refine hK.out _ _ ?_
  clear hK K
  refine norm_ (a' := ?_) ?_ ?_
  rotate_left
  · show Act.put _ (some 42) _ = _
    simp only [Act.put, List.setIfInBounds_toArray, List.set_cons_zero, List.set_cons_succ, i64_w, i32_w]
    rfl
  refine pure_ (i := 9) (N := some 2) (v := ?_) (a' := ?_) #[true, true, true, true, true, true, true, true, true, true] rfl rfl (any_of HT_.out (by kernel_rfl)) (fun _ _ _ h => h) (Or.inl ⟨by rfl, ?_⟩) ?_ ?_
  rotate_left
  · intro w'
    go_simp
    with_reducible rfl
  rotate_left
  · simp only [Act.put, List.setIfInBounds_toArray, List.set_cons_zero, List.set_cons_succ, i64_w, i32_w]
    rfl
  refine done_ (done_of HT_.out (by kernel_rfl)) ?_
  go_wp2_with fail
  go_ret
  have e1 : (varL 34 ++ varL d.length ++ d).map ub = (varL 34 ++ varL d.length).map ub ++ d.map ub := by simp
  have e2 : (varL 34 ++ varL d.length ++ d).length = (varL 34 ++ varL d.length).length + d.length := List.length_append
  exact ⟨v4, rfl, by rw [e1, e2]; exact own4, hf04⟩
end Go.Proofs.YtcfmcgkngjpdbaaDoor
