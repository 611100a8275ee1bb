/- decode.unpack of varints. -/
import Derived.Test.YtcfmcgkngjpdbaaDoorD3
namespace Go.Proofs.YtcfmcgkngjpdbaaDoor
set_option linter.unusedVariables false
set_option linter.unusedSimpArgs false
open Go.RowKit Go.Proofs.YtcfmcgkngjpdbaaDoorW.PrintWords Go.Proofs.YtcfmcgkngjpdbaaDoorW.PrintLast
def F77.T14 : Bool × List (List Nat × List Nat) := (true, [([], []), ([], []), ([], []), ([1, 2], [1, 2]), ([3], [3]), ([0, 4, 3], [0, 4]), ([], []), ([], []), ([6, 7], [6, 7]), ([5, 5, 0, 1, 2, 3, 4, 5], [0, 5]), ([8, 9, 0, 1, 2, 3, 4, 5, 6, 7, 8, 9], [6, 8])])
def F77.B14 : List Nat := [0, 0, 0, 6, 14, 31, 0, 0, 192, 63, 1023]
theorem F77.tab14 : rtab .any (opsOf Tryd.f77 14) = F77.T14 := by kernel_rfl
theorem F77.bits14 : waitsOk F77.T14.2 F77.B14 = true := by kernel_rfl

def unpackP : Nat → List UInt8 → Option (List Nat)
  | _, [] => some []
  | 0, _ :: _ => none
  | n + 1, c :: r => if (takeN 0 0 (c :: r)).2.2 ≠ 0 then none else (unpackP n ((c :: r).drop (takeN 0 0 (c :: r)).2.1)).map ((takeN 0 0 (c :: r)).1 :: ·)
def NumIn (k : Int) (n : Nat) (cs : List Value) : Prop := cs = [numV k n]
theorem numV_one (k : Int) (n : Nat) : (numV k n).oneCell' = true := by
  unfold numV
  repeat' split
  all_goals rfl
theorem numV_shape (k : Int) (n : Nat) : ∃ T v, numV k n = .iface T v := by
  unfold numV
  repeat' split
  all_goals exact ⟨_, _, rfl⟩
def NumsR (k : Int) (ns : List Nat) (w : World) (e : Ending) (w' : World) : Prop :=
  ∃ A c, e = .returned (.tuple #[.slice A ns.length c, .int .i64 0]) ∧ (A = none → c = 0) ∧ ns.length ≤ c ∧ Row 1 (NumIn k) w' (fun b => w.heap.size ≤ b) A ns ∧ Fr NoB w w'

set_option maxHeartbeats 4000000 in
set_option maxRecDepth 100000 in
theorem unpack_any (kd : Int) (A : Option Addr) (c : Nat) (l : List UInt8) (ok : Nat → Prop) (w : World) (hkd : wireP kd = 0) (hA : A = none → c = 0) (hc : l.length ≤ c) (hr : Bys w ok A l) (hn : l.length ≤ 1000000) (r : List Nat) (h : unpackP l.length l = some r) :
    Calls Tryd.prog 77 #[.int .i64 kd, .slice A l.length c] w (NumsR kd r w) := by
  obtain ⟨i0, hi0, hz0, hz1, hz2⟩ := info_parts infoV
  go_enter Tryd.func77, Tryd.ntmps77
  go_wp2_with fail
  go_loopw [1, 4, 5] (fun bv lv ev wr => ∃ (dn td : List Nat) (m : Nat) (rest : List UInt8) (A' : Option Addr) (c' : Nat) (xs : List Value), bv = .slice A' rest.length c' ∧ ev = .int .i64 0 ∧ (A' = none → c' = 0) ∧ rest.length ≤ c' ∧ Bys w ok A' rest ∧
      unpackP m rest = some td ∧ r = dn ++ td ∧ dn.length + rest.length ≤ l.length ∧ wr.ownsRow w.heap.size 34 1 lv dn.length xs ∧
      RepL 1 (NumIn kd) dn xs ∧ Fr NoB w wr) (fun bv _ _ _ => lenOf bv)
  case atStart => exact ⟨[], r, l.length, l, A, c, [], rfl, rfl, hA, hc, hr, h, rfl, by simp, World.ownsRow_nil _ _ _ _, rfl, Fr.refl _ _⟩
  case round =>
    obtain ⟨dn, td, m, rest, A', c', xs, rfl, rfl, hA', hc', hr', hsp, hrr, hlen, own1, rep1, hf⟩ := hrel
    match rest, m, hsp with
    | [], m, hsp =>
      have htd : td = [] := by
        cases m <;> simpa [unpackP] using hsp.symm
      rw [htd, List.append_nil] at hrr
      subst hrr
      obtain ⟨A8, c8, rfl, hc8, _, h08, _⟩ := own_slice own1
      have hl0 : (([] : List UInt8).length : Int) = 0 := rfl
      go_wp2_with fail
      go_ret2
      exact ⟨A8, c8, rfl, h08, hc8, Row.of_own own1 rep1 rfl (fun k hk => (own1.lt k hk).1), hf⟩
    | c0 :: r0, m + 1, hsp =>
      unfold unpackP at hsp
      generalize hrs : c0 :: r0 = rest at *
      have hpos : 0 < rest.length := by rw [← hrs]; simp
      clear hrs
      have htk := takeN_at rest 0 0
      have hT := Lib.hid (fun w2 hf2 => take_any A' rest c' ok w2 (Rd.fr (Rd.fr hr' hf (fun _ _ _ => id)) (S := NoB) (w' := w2) hf2 (fun _ _ _ => id)) (by omega))
      obtain ⟨b, o, rfl, _⟩ := hr'.2 hpos
      generalize takeN 0 0 rest = a at *
      obtain ⟨a1, a2, a3⟩ := a
      dsimp only at hsp htk hT
      split at hsp
      · cases hsp
      rename_i h0
      have h0 : a3 = 0 := by omega
      subst h0
      obtain ⟨td', htd', rfl⟩ := Option.map_eq_some_iff.1 hsp
      obtain ⟨hk1, hk2⟩ := htk rfl
      have e0 : ((0 : Nat) : Int) = 0 := rfl
      have p1 : (0 : Int) < (rest.length : Int) := by omega
      go_wp2_with fail
      refine (Wire_any _ _).mono ?_
      rintro e w3 ⟨rfl, hf3⟩
      rw [hkd]
      go_wp2_with fail
      refine (hT.out _ hf3).mono ?_
      rintro e w4 ⟨rfl, hf4⟩
      go_wp2_with fail
      have hf := (hf.trans hf3 (fun _ h _ => h)).trans hf4 (fun _ h _ => h)
      have own1 := own_fr (own_fr own1 hf3 (fun _ _ => id)) hf4 (fun _ _ => id)
      have HTD := Lib.hid htd'
      have hk3 : a2 ≤ rest.length := by omega
      have hBI : Bys w ok (if c' = a2 then some ⟨b, o, none⟩ else some ⟨b, o + a2, none⟩) (rest.drop a2) := by
        split
        · have hnil : rest.drop a2 = [] := List.drop_eq_nil_of_le (by omega)
          rw [hnil]
          exact ⟨rfl, fun h => by simp at h⟩
        · exact Bys.drop hr' a2
      have HBI := Lib.hid hBI
      have hni : ∀ x : Nat, (if c' = a2 then (some ⟨b, o, none⟩ : Option Addr) else some ⟨b, o + a2, none⟩) = none → x = 0 := fun x h => by
        split at h <;> cases h
      have HNI := Lib.hid hni
      clear hBI hni
      obtain ⟨T, v, hsh⟩ := numV_shape kd a1
      have HSH := Lib.hid hsh
      clear hr' htd' hT hsh
      refine start_ (n := 11) (S := fun _ => True) (ds := [5]) #[false, false, false, false, false, false, false, false, false, false, false] (by kernel_rfl) rfl rfl trivial (fun hHeld => ?_)
      refine with_tabW F77.tab14 F77.bits14 (fun HT_ HW_ => ?_)
      have hT : Fr NoB w4 w4.drew := (Fr.refl NoB w4).drew
      have own1 := own_fr own1 hT (fun _ _ => id)
      have hf := hf.trans hT (fun _ h _ => h)
      generalize w4.drew = W0 at *
      refine pure_ (i := 0) (N := some 38) (v := ?_) (a' := ?_) #[true, false, false, false, false, false, false, false, false, false, false] rfl rfl (any_of HT_.out (by kernel_rfl)) (fun _ _ _ h => h) (Or.inl ⟨by rfl, ?_⟩) ?_ ?_
      rotate_left
      · intro w'
        go_simp
        with_reducible rfl
      rotate_left
      · simp only [Act.put, List.setIfInBounds_toArray, List.set_cons_zero, List.set_cons_succ, i64_w, i32_w]
        rfl
      refine pure_ (i := 1) (N := some 39) (v := ?_) (a' := ?_) #[true, true, false, false, false, false, false, false, false, false, false] rfl rfl (any_of HT_.out (by kernel_rfl)) (fun _ _ _ h => h) (Or.inl ⟨by rfl, ?_⟩) ?_ ?_
      rotate_left
      · intro w'
        go_simp
        with_reducible rfl
      rotate_left
      · simp only [Act.put, List.setIfInBounds_toArray, List.set_cons_zero, List.set_cons_succ, i64_w, i32_w]
        rfl
      refine pure_ (i := 2) (N := some 40) (v := ?_) (a' := ?_) #[true, true, true, false, false, false, false, false, false, false, false] rfl rfl (any_of HT_.out (by kernel_rfl)) (fun _ _ _ h => h) (Or.inl ⟨by rfl, ?_⟩) ?_ ?_
      rotate_left
      · intro w'
        go_simp
        with_reducible rfl
      rotate_left
      · simp only [Act.put, List.setIfInBounds_toArray, List.set_cons_zero, List.set_cons_succ, i64_w, i32_w]
        rfl
      refine pure_ (i := 6) (N := some 44) (v := ?_) (a' := ?_) #[true, true, true, false, false, false, true, false, false, false, false] rfl rfl (any_of HT_.out (by kernel_rfl)) (fun _ _ _ h => h) (Or.inl ⟨by rfl, ?_⟩) ?_ ?_
      rotate_left
      · intro w'
        go_simp
        with_reducible rfl
      rotate_left
      · simp only [Act.put, List.setIfInBounds_toArray, List.set_cons_zero, List.set_cons_succ, i64_w, i32_w]
        rfl
      refine pure_ (i := 7) (N := some 45) (v := ?_) (a' := ?_) #[true, true, true, false, false, false, true, true, false, false, false] rfl rfl (any_of HT_.out (by kernel_rfl)) (fun _ _ _ h => h) (Or.inl ⟨by rfl, ?_⟩) ?_ ?_
      rotate_left
      · intro w'
        go_simp
        with_reducible rfl
      rotate_left
      · simp only [Act.put, List.setIfInBounds_toArray, List.set_cons_zero, List.set_cons_succ, i64_w, i32_w]
        rfl
      refine pure_ (i := 8) (N := some 46) (v := ?_) (a' := ?_) #[true, true, true, false, false, false, true, true, true, false, false] rfl rfl (any_of HT_.out (by kernel_rfl)) (fun _ _ _ h => h) (Or.inl ⟨by rfl, ?_⟩) ?_ ?_
      rotate_left
      · intro w'
        go_simp
        with_reducible rfl
      rotate_left
      · simp only [Act.put, List.setIfInBounds_toArray, List.set_cons_zero, List.set_cons_succ, i64_w, i32_w]
        rfl
      refine one_ (i := 3) (N := some 41) #[true, true, true, true, false, false, true, true, true, false, false] rfl rfl (one_of HT_.out (by kernel_rfl)) (by decide) (fun K hK => ?_)
      refine goes_ Tryd.func78 (by kernel_rfl) rfl #[.int .i64 kd, .int .u64 a1] (by rfl) rfl rfl (by (try simp only [List.map_toArray, List.map_cons, List.map_nil]); first | done | rfl) ?_
      refine (number_any kd a1 W0).mono ?_
      rintro e W1 ⟨rfl, hT⟩
      rw [HSH.out]
      have own1 := own_fr own1 hT (fun _ _ => id)
      have hf := hf.trans hT (fun _ h _ => h)
      refine ⟨_, rfl, ?_⟩
      refine hK.out _ _ trivial (fun hHeld => ?_)
      clear hK K
      refine norm_ (a' := ?_) ?_ ?_
      rotate_left
      · show Act.put _ (some 41) _ = _
        simp only [Act.put, List.setIfInBounds_toArray, List.set_cons_zero, List.set_cons_succ, i64_w, i32_w]
        rfl
      refine one_ (i := 4) (N := some 42) #[true, true, true, true, true, false, true, true, true, false, false] rfl rfl (one_of HT_.out (by kernel_rfl)) (by decide) (fun K hK => ?_)
      refine step_value rfl (.slice (some ⟨W1.heap.size, 0, none⟩) 1 1) (W1.alloc (.cells #[.iface T v] 34)) (by go_simp; first | done | rfl) ?_
      have hT : Fr NoB W1 (W1.alloc (.cells #[.iface T v] 34)) := (Fr.refl NoB W1).alloc _
      have hbv : Blk (W1.alloc (.cells #[.iface T v] 34)) W1.heap.size 34 #[.iface T v] := Blk.new _ _ _
      generalize (W1.alloc (.cells #[.iface T v] 34)) = W2 at *
      have own1 := own_fr own1 hT (fun _ _ => id)
      have hf := hf.trans hT (fun _ h _ => h)
      refine hK.out _ _ trivial (fun hHeld => ?_)
      clear hK K
      refine norm_ (a' := ?_) ?_ ?_
      rotate_left
      · show Act.put _ (some 42) _ = _
        simp only [Act.put, List.setIfInBounds_toArray, List.set_cons_zero, List.set_cons_succ, i64_w, i32_w]
        rfl
      refine last_ (i := 5) (N := some 43) #[true, true, true, true, true, true, true, true, true, false, false] rfl rfl (one_of HT_.out (by kernel_rfl)) (by decide) (fun K hK => ?_)
      have hbase := hf.size
      refine step_app _ rfl (.tmp 38) (.tmp 42) 39 rfl w.heap.size 34 i0 _ 1 16 Tryd.underlying39 hi0 hz0 hz1 hz2 rfl (by omega) u4 dn.length xs rfl own1 (fun _ => True) (some ⟨W1.heap.size, 0, none⟩) 1 1 (fun h => by cases h) [.iface T v] rfl (Rd.of_blk _ hbv rfl trivial) (fun u hu => by rw [List.mem_singleton.1 hu]; rfl) (by simp only [maxLen]; omega) (by omega) hbase ?_
      intro lv' W5 own1' hg hat
      have hT := Fr.of_grown (S := fun k => u4.ownBlock = some k) hg (fun k hk _ => hk)
      have hf := hf.trans hT (fun b hb hl => absurd hl (Nat.not_lt.2 (own1.lt b hb).1))
      have rep1 := rep1.snoc (x := a1) (cs := [.iface T v]) rfl (by show [Value.iface T v] = [numV kd a1]; rw [HSH.out])
      clear own1 hbv
      refine hK.out _ _ ?_
      clear hK K
      refine norm_ (a' := ?_) ?_ ?_
      rotate_left
      · show Act.put _ (some 43) _ = _
        simp only [Act.put, List.setIfInBounds_toArray, List.set_cons_zero, List.set_cons_succ, i64_w, i32_w]
        rfl
      refine pure_ (i := 9) (N := some 4) (v := ?_) (a' := ?_) #[true, true, true, true, true, true, true, true, true, true, false] rfl rfl (any_of HT_.out (by kernel_rfl)) (fun _ _ _ h => h) (Or.inl ⟨by rfl, ?_⟩) ?_ ?_
      rotate_left
      · intro w'
        go_simp
        with_reducible rfl
      rotate_left
      · simp only [Act.put, List.setIfInBounds_toArray, List.set_cons_zero, List.set_cons_succ, i64_w, i32_w]
        rfl
      refine pure_ (i := 10) (N := some 1) (v := ?_) (a' := ?_) #[true, true, true, true, true, true, true, true, true, true, true] rfl rfl (any_of HT_.out (by kernel_rfl)) (fun _ _ _ h => h) (Or.inl ⟨by rfl, ?_⟩) ?_ ?_
      rotate_left
      · intro w'
        go_simp
        with_reducible rfl
      rotate_left
      · simp only [Act.put, List.setIfInBounds_toArray, List.set_cons_zero, List.set_cons_succ, i64_w, i32_w]
        rfl
      refine done_ (done_of HT_.out (by kernel_rfl)) ?_
      have hdl : (rest.drop a2).length = rest.length - a2 := List.length_drop ..
      have hdn : (dn ++ [a1]).length = dn.length + 1 := by simp
      rw [← hdn] at own1'
      have HDL := Lib.hid hdl
      clear hdl hdn
      go_wp2_with fail
      refine ⟨?_, by simp only [lenOf]; omega⟩
      exact ⟨dn ++ [a1], td', m, rest.drop a2, _, _, _, by rw [HDL.out], rfl, HNI.out _, by rw [HDL.out]; omega, HBI.out, HTD.out, by rw [List.append_assoc]; exact hrr, by rw [HDL.out, List.length_append]; simp; omega, own1', rep1, hf⟩
end Go.Proofs.YtcfmcgkngjpdbaaDoor
