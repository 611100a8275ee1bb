import Derived.Test.YtdfdmjnhekdpjaaB8
namespace Go.Proofs.Ytdfdmjnhekdpjaa
set_option linter.unusedVariables false
set_option linter.unusedSimpArgs false
open Go.RowKit Go.Proofs.YtdfdmjnhekdpjaaW.PrintWords Go.Proofs.YtdfdmjnhekdpjaaW.PrintLast PNetPlays

def F3.T9 : Bool × List (List Nat × List Nat) := (true, [([], []), ([], []), ([], []), ([], []), ([2, 3], [2, 3]), ([4], [4]), ([0, 1, 5], [0, 1, 5]), ([6], [6]), ([7, 6], [7]), ([8], [8]), ([9, 8, 8], [8, 9]), ([8], [8]), ([11, 8], [8, 11]), ([12, 8], [8, 12]), ([13, 8], [8, 13]), ([14, 8], [8, 14]), ([10, 15, 8], [8, 10, 15]), ([8, 16], [8, 16]), ([17, 10], [17]), ([18], [18]), ([19, 18, 18], [18, 19]), ([20, 20, 18], [18, 20]), ([18], [18]), ([22, 18], [18, 22]), ([23, 18], [18, 23]), ([24, 18], [18, 24]), ([21, 25, 21, 18], [18, 21, 25]), ([26, 18], [18, 26]), ([18, 27], [18, 27])])
def F3.B9 : List Nat := [0, 0, 0, 0, 12, 28, 63, 127, 255, 511, 1023, 511, 2559, 6655, 14847, 31231, 65535, 131071, 262143, 524287, 1048575, 2097151, 524287, 4718591, 13107199, 29884415, 67108863, 134217727, 268435455]
theorem F3.tab9 : rtab .any (opsOf Try.f3 9) = F3.T9 := by kernel_rfl
theorem F3.bits9 : waitsOk F3.T9.2 F3.B9 = true := by kernel_rfl

theorem Pair.start {w W : World} {bn bw : Nat} {a b : Nat} (hn : Blk W bn 33 #[.slice none 0 0, .int .i64 0]) (hw : Blk W bw 30 #[.slice none 0 0, .int .i64 0]) (h1 : w.heap.size ≤ bn) (h2 : w.heap.size ≤ bw) : Pair W w.heap.size W.heap.size bn bw 0 :=
  ⟨fun k => k = bn, fun k => k = bw, _, _, [], [], RNet.empty hn rfl, FNet.empty hw rfl, rfl, fun k h h' => hn.ne_ hw (by decide) (by rw [← show k = bn from h, ← show k = bw from h']), fun k h => by rw [show k = bn from h]; exact ⟨h1, hn.lt⟩,
    fun k h => by rw [show k = bw from h]; exact ⟨h2, hw.lt⟩⟩

set_option maxHeartbeats 8000000 in
set_option maxRecDepth 100000 in
theorem plays_any (w : World) (A : Option Addr) (c : Nat) (l : List S37) (zero : Bool) (hC : Kd.C k37 w A l.length l) (hc : l.length ≤ c) (hb : ∀ x ∈ l, x.f4.length ≤ 140737488355328)
    (hnil : ∀ ad, A = some ad → ∀ i m A4 c4, i < l.length → w.cell? ⟨(ad.add (i * 5)).block, (ad.add (i * 5)).off + 4, none⟩ = some (.slice A4 m c4) → A4 = none → c4 = 0) :
    Calls Try.prog 3 #[.slice A l.length c, .bool zero] w fun e w' => e = .returned (.bool true) ∧ Fr NoB w w' := by
  have HC := Aside0.mk hC
  clear hC
  go_enter Try.func3, Try.ntmps3
  go_wp2_with (go_at_call 5; refine (awake_any _).mono ?_; rintro e w1 ⟨rfl, hf1⟩)
  refine (few_any w1 A c l (Kd.C_below HC.out hf1.below_all) hc hb).mono ?_
  rintro e w2 ⟨r, rfl, hfew5, hf2⟩
  have hf2 := hf1.trans hf2 (fun _ h _ => h)
  cases r with
  | false =>
    go_wp2_with (go_at_call 5; refine (awake_any _).mono ?_; rintro e w3 ⟨rfl, hf3⟩)
    go_ret
    exact ⟨rfl, hf2.trans hf3 (fun _ h _ => h)⟩
  | true =>
    have HFEW := Lib.hid (hfew5 rfl)
    clear hfew5
    cases zero with
    | false =>
      go_wp2_with (go_at_call 7; refine (new_any _).mono ?_; rintro e w3 ⟨rfl, hb3, -, hf3⟩)
      have hb4 := hb3.alloc (.cells #[.slice none 0 0, .int .i64 0] 30)
      have hb5 := Blk.new w3 30 #[.slice none 0 0, .int .i64 0]
      have s2 := hf2.size
      have s3 := hf3.size
      have HP0 := Pair.start (w := w) (a := 0) (b := 0) hb4 hb5 s2 (Nat.le_trans s2 s3)
      have HF0 := (hf2.trans hf3 (fun _ h _ => h)).alloc (.cells #[.slice none 0 0, .int .i64 0] 30)
      clear hb3 hb4 hb5 s2 s3  hf3
      generalize w2.heap.size = bn at *
      generalize w3.heap.size = bw at *
      generalize (w3.alloc (.cells #[.slice none 0 0, .int .i64 0] 30)) = W3 at *
      have HP0 := Lib.hid HP0
      have HF0 := Lib.hid HF0
      go_loopw [24] (fun c wr => ∃ k : Nat, c = .int .i64 k ∧ k ≤ l.length ∧ ∃ last : Int, 0 ≤ last ∧ last ≤ k ∧ Pair wr w.heap.size wr.heap.size bn bw last ∧ Fr NoB w wr) (fun c _ => l.length - (intOf c).toNat)
      case atStart => exact ⟨0, rfl, Nat.zero_le _, 0, Int.le_refl _, Int.le_refl _, HP0.out, HF0.out⟩
      case round =>
        obtain ⟨k, rfl, hkl, last, hl0, hl1, hP0, hfr⟩ := hrel
        by_cases hlt : k < l.length
        · have hii : (k : Int) < (l.length : Int) := by omega
          have hi0' : (0 : Int) ≤ (k : Int) := by omega
          obtain ⟨ad, A4, c4, rfl, a0, a1, a2, a3, a4, hc4, h8⟩ := at_T37 HC.out k hi0' hii
          rw [Int.toNat_natCast] at a0 a1 a2 a3 a4
          have hop0 : OpAt w (ad.add (k * 5)) (rd_T37 l k) A4 c4 := ⟨a0, a1, a2, a3, a4⟩
          have hap := hop0.lt
          have hop := hop0.fr hfr id
          have hA4 := hnil ad rfl k _ A4 c4 hlt a4
          have hrd := rd_of_C h8
          have hbx : ∀ u ∈ (rd_T37 l k).f4.map (Value.int .u8), ∃ k : Int, u = .int .u8 k := fun u hu => by
            obtain ⟨z, _, rfl⟩ := List.mem_map.1 hu
            exact ⟨z, rfl⟩
          have hmem : rd_T37 l k ∈ l := by
            have : rd_T37 l k = l[k] := by simp [rd_T37, List.getD, List.getElem?_eq_getElem hlt]
            rw [this]
            exact List.getElem_mem hlt
          have hbl := (HFEW.out).2 _ hmem
          have hl5 := (HFEW.out).1
          have hlast : 0 ≤ last ∧ last < 1000000 := ⟨hl0, by omega⟩
          have hP0 := Lib.hid hP0
          clear a0 a1 a2 a3 a4 hop0 h8
          go_wp2_with fail
          refine start_ (n := 29) (S := fun w' => OpAt w' (ad.add (k * 5)) (rd_T37 l k) A4 c4) (ds := [26]) #[false, false, false, false, false, false, false, false, false, false, false, false, false, false, false, false, false, false, false, false, false, false, false, false, false, false, false, false, false] (by kernel_rfl) rfl rfl (hop.fr ((Fr.refl NoB wr).drew) id) (fun hHeld => ?_)
          refine with_tabW F3.tab9 F3.bits9 (fun HT_ HW_ => ?_)
          have hf := hfr.drew
          have hz0 : wr.heap.size ≤ wr.drew.heap.size := Nat.le_refl _
          have hPair := Lib.hid (hP0.out.far ((Fr.refl NoB wr).drew) (fun _ _ => id))
          generalize wr.drew = W0 at *
          refine pure_ (i := 0) (N := some 27) (v := ?_) (a' := ?_) #[true, false, false, false, false, false, false, false, false, false, false, false, false, false, false, false, false, false, false, false, false, false, false, false, false, false, false, false, false] rfl rfl (any_of HT_.out (by kernel_rfl)) (fun _ _ _ h => h) (Or.inl ⟨by rfl, ?_⟩) ?_ ?_
          rotate_left
          · intro w'
            go_simp
            with_reducible rfl
          rotate_left
          · simp only [Act.put, List.setIfInBounds_toArray, List.set_cons_zero, List.set_cons_succ, i64_w, i32_w]
            rfl
          refine pure_ (i := 1) (N := some 28) (v := ?_) (a' := ?_) #[true, true, false, false, false, false, false, false, false, false, false, false, false, false, false, false, false, false, false, false, false, false, false, false, false, false, false, false, false] rfl rfl (any_of HT_.out (by kernel_rfl)) (fun _ _ _ h => h) (Or.inl ⟨by rfl, ?_⟩) ?_ ?_
          rotate_left
          · intro w'
            go_simp
            with_reducible rfl
          rotate_left
          · simp only [Act.put, List.setIfInBounds_toArray, List.set_cons_zero, List.set_cons_succ, i64_w, i32_w]
            rfl
          refine pure_ (i := 2) (N := some 29) (v := ?_) (a' := ?_) #[true, true, true, false, false, false, false, false, false, false, false, false, false, false, false, false, false, false, false, false, false, false, false, false, false, false, false, false, false] rfl rfl (any_of HT_.out (by kernel_rfl)) (fun _ _ _ h => h) (Or.inl ⟨by rfl, ?_⟩) ?_ ?_
          rotate_left
          · intro w'
            go_simp
            with_reducible rfl
          rotate_left
          · simp only [Act.put, List.setIfInBounds_toArray, List.set_cons_zero, List.set_cons_succ, i64_w, i32_w]
            rfl
          refine pure_ (i := 3) (N := some 30) (v := ?_) (a' := ?_) #[true, true, true, true, false, false, false, false, false, false, false, false, false, false, false, false, false, false, false, false, false, false, false, false, false, false, false, false, false] rfl rfl (any_of HT_.out (by kernel_rfl)) (fun _ _ _ h => h) (Or.inl ⟨by rfl, ?_⟩) ?_ ?_
          rotate_left
          · intro w'
            go_simp
            with_reducible rfl
          rotate_left
          · simp only [Act.put, List.setIfInBounds_toArray, List.set_cons_zero, List.set_cons_succ, i64_w, i32_w]
            rfl
          refine pure_ (i := 4) (N := some 31) (v := ?_) (a' := ?_) #[true, true, true, true, true, false, false, false, false, false, false, false, false, false, false, false, false, false, false, false, false, false, false, false, false, false, false, false, false] rfl rfl (any_of HT_.out (by kernel_rfl)) (fun _ _ _ h => h) (Or.inl ⟨by rfl, ?_⟩) ?_ ?_
          rotate_left
          · intro w'
            go_simp
            with_reducible rfl
          rotate_left
          · simp only [Act.put, List.setIfInBounds_toArray, List.set_cons_zero, List.set_cons_succ, i64_w, i32_w]
            rfl
          refine take_ (i := 5) (N := some 32) (v := ?_) (a' := ?_) #[true, true, true, true, true, true, false, false, false, false, false, false, false, false, false, false, false, false, false, false, false, false, false, false, false, false, false, false, false] rfl rfl (take_ofW HT_.out HW_.out (by kernel_rfl)) (fun _ _ _ h => h) (Or.inl ⟨by rfl, ?_⟩) hHeld ?_ ?_
          rotate_left
          · intro w' hS
            obtain ⟨s0, s1, s2, s3, s4⟩ := hS
            go_simp
            with_reducible rfl
          rotate_left
          · simp only [Act.put, List.setIfInBounds_toArray, List.set_cons_zero, List.set_cons_succ, i64_w, i32_w]
            rfl
          refine one_ (i := 6) (N := some 33) #[true, true, true, true, true, true, true, false, false, false, false, false, false, false, false, false, false, false, false, false, false, false, false, false, false, false, false, false, false] rfl rfl (one_of HT_.out (by kernel_rfl)) (by decide) (fun K hK => ?_)
          refine goes_ Try.func8 (by kernel_rfl) rfl #[.pointer (some ⟨bn, 0, none⟩), .pointer (some ⟨bw, 0, none⟩), .agg #[.int .i64 (rd_T37 l k).f0, .int .i64 (rd_T37 l k).f1, .int .i64 (rd_T37 l k).f2, .int .u8 (rd_T37 l k).f3, .slice A4 (rd_T37 l k).f4.length c4]] (by rfl) rfl rfl (by (try simp only [List.map_toArray, List.map_cons, List.map_nil]); first | done | rfl) ?_
          refine (step_any _ _ _ _ hPair.out ⟨hfr.size, hz0⟩ hlast hA4 (hrd.fr hf (fun _ _ _ => id)) (fun b hb hI => Nat.lt_irrefl _ (Nat.lt_of_lt_of_le hb hI.1)) hbx hbl).mono ?_
          rintro e W1 ⟨rfl, hT, last', l1, l2, hP⟩
          have hSn := hHeld.fr hT (fun hI => Nat.lt_irrefl _ (Nat.lt_of_lt_of_le hap hI.1))
          have hf := hf.trans hT (fun b hb hlt => absurd hlt (Nat.not_lt.2 hb.1))
          obtain ⟨SR, SF, lr, lf, ps, qs, hR, hF, hk, hd, h1, h2⟩ := hP
          have hq := key_len hk
          obtain ⟨B1, c1, rfl, _⟩ := hR.c0
          obtain ⟨B2, c2, rfl, _⟩ := hF.c0
          have hsz : W1.heap.size ≤ W1.heap.size := Nat.le_refl _
          have hfew := hR.few
          refine ⟨_, rfl, ?_⟩
          refine hK.out _ _ hSn (fun hHeld => ?_)
          clear hK K
          refine norm_ (a' := ?_) ?_ ?_
          rotate_left
          · show Act.put _ (some 33) _ = _
            simp only [Act.put, List.setIfInBounds_toArray, List.set_cons_zero, List.set_cons_succ, i64_w, i32_w]
            rfl
          refine pure_ (i := 7) (N := some 34) (v := ?_) (a' := ?_) #[true, true, true, true, true, true, true, true, false, false, false, false, false, false, false, false, false, false, false, false, false, false, false, false, false, false, false, false, false] rfl rfl (any_of HT_.out (by kernel_rfl)) (fun _ _ _ h => h) (Or.inl ⟨by rfl, ?_⟩) ?_ ?_
          rotate_left
          · intro w'
            go_simp
            with_reducible rfl
          rotate_left
          · simp only [Act.put, List.setIfInBounds_toArray, List.set_cons_zero, List.set_cons_succ, i64_w, i32_w]
            rfl
          refine pure_ (i := 8) (N := some 35) (v := ?_) (a' := ?_) #[true, true, true, true, true, true, true, true, true, false, false, false, false, false, false, false, false, false, false, false, false, false, false, false, false, false, false, false, false] rfl rfl (any_of HT_.out (by kernel_rfl)) (fun _ _ _ h => h) (Or.inl ⟨by rfl, ?_⟩) ?_ ?_
          rotate_left
          · intro w'
            go_simp
            with_reducible rfl
          rotate_left
          · simp only [Act.put, List.setIfInBounds_toArray, List.set_cons_zero, List.set_cons_succ, i64_w, i32_w]
            rfl
          refine pure_ (i := 9) (N := some 36) (v := ?_) (a' := ?_) #[true, true, true, true, true, true, true, true, true, true, false, false, false, false, false, false, false, false, false, false, false, false, false, false, false, false, false, false, false] rfl rfl (any_of HT_.out (by kernel_rfl)) (fun _ _ _ h => h) (Or.inl ⟨by rfl, ?_⟩) ?_ ?_
          rotate_left
          · intro w'
            go_simp
            with_reducible rfl
          rotate_left
          · simp only [Act.put, List.setIfInBounds_toArray, List.set_cons_zero, List.set_cons_succ, i64_w, i32_w]
            rfl
          refine pure_ (i := 11) (N := some 38) (v := ?_) (a' := ?_) #[true, true, true, true, true, true, true, true, true, true, false, true, false, false, false, false, false, false, false, false, false, false, false, false, false, false, false, false, false] rfl rfl (any_of HT_.out (by kernel_rfl)) (fun _ _ _ h => h) (Or.inl ⟨by rfl, ?_⟩) ?_ ?_
          rotate_left
          · intro w'
            go_simp
            with_reducible rfl
          rotate_left
          · simp only [Act.put, List.setIfInBounds_toArray, List.set_cons_zero, List.set_cons_succ, i64_w, i32_w]
            rfl
          refine pure_ (i := 12) (N := some 39) (v := ?_) (a' := ?_) #[true, true, true, true, true, true, true, true, true, true, false, true, true, false, false, false, false, false, false, false, false, false, false, false, false, false, false, false, false] rfl rfl (any_of HT_.out (by kernel_rfl)) (fun _ _ _ h => h) (Or.inl ⟨by rfl, ?_⟩) ?_ ?_
          rotate_left
          · intro w'
            go_simp
            with_reducible rfl
          rotate_left
          · simp only [Act.put, List.setIfInBounds_toArray, List.set_cons_zero, List.set_cons_succ, i64_w, i32_w]
            rfl
          refine pure_ (i := 13) (N := some 40) (v := ?_) (a' := ?_) #[true, true, true, true, true, true, true, true, true, true, false, true, true, true, false, false, false, false, false, false, false, false, false, false, false, false, false, false, false] rfl rfl (any_of HT_.out (by kernel_rfl)) (fun _ _ _ h => h) (Or.inl ⟨by rfl, ?_⟩) ?_ ?_
          rotate_left
          · intro w'
            go_simp
            with_reducible rfl
          rotate_left
          · simp only [Act.put, List.setIfInBounds_toArray, List.set_cons_zero, List.set_cons_succ, i64_w, i32_w]
            rfl
          refine two_ (i := 10) (j := 14) (Ni := some 37) (Nj := some 41) #[true, true, true, true, true, true, true, true, true, true, true, true, true, true, false, false, false, false, false, false, false, false, false, false, false, false, false, false, false] #[true, true, true, true, true, true, true, true, true, true, false, true, true, true, true, false, false, false, false, false, false, false, false, false, false, false, false, false, false] rfl rfl rfl rfl (two_of HT_.out (by kernel_rfl)) (by decide) (by decide) ?_ ?_
          · intro K hK
            have d0 : W1.cell? ⟨bn, 0, none⟩ = some (.slice B1 ps.length c1) := by have := hR.blk.cell 0; simpa using this
            refine goes_ Try.func9 (by kernel_rfl) rfl #[.pointer (some ⟨bn, 0, none⟩)] (by rfl) rfl rfl (by (try simp only [List.map_toArray, List.map_cons, List.map_nil]); first | done | rfl) ?_
            refine (len_any _ _ _ _ _ d0).mono ?_
            rintro e w' ⟨rfl, rfl⟩
            refine ⟨_, rfl, ?_⟩
            refine hK.out _ _ hHeld (fun hHeld => ?_)
            clear hK K
            refine norm_ (a' := ?_) ?_ ?_
            rotate_left
            · show Act.put _ (some 37) _ = _
              simp only [Act.put, List.setIfInBounds_toArray, List.set_cons_zero, List.set_cons_succ, i64_w, i32_w]
              rfl
            refine one_ (i := 14) (N := some 41) #[true, true, true, true, true, true, true, true, true, true, true, true, true, true, true, false, false, false, false, false, false, false, false, false, false, false, false, false, false] rfl rfl (one_of HT_.out (by kernel_rfl)) (by decide) (fun K hK => ?_)
            have e0 : W1.cell? ⟨bw, 0, none⟩ = some (.slice B2 ps.length c2) := by have := hF.blk.cell 0; rw [← hq]; simpa using this
            refine step_value_w (by rfl) (.slice B2 ps.length c2) W1 (by first | (go_simp; done) | (go_simp; rfl)) ?_
            refine hK.out _ _ hHeld (fun hHeld => ?_)
            clear hK K
            refine norm_ (a' := ?_) ?_ ?_
            rotate_left
            · show Act.put _ (some 41) _ = _
              simp only [Act.put, List.setIfInBounds_toArray, List.set_cons_zero, List.set_cons_succ, i64_w, i32_w]
              rfl
            refine pure_ (i := 15) (N := some 42) (v := ?_) (a' := ?_) #[true, true, true, true, true, true, true, true, true, true, true, true, true, true, true, true, false, false, false, false, false, false, false, false, false, false, false, false, false] rfl rfl (any_of HT_.out (by kernel_rfl)) (fun _ _ _ h => h) (Or.inl ⟨by rfl, ?_⟩) ?_ ?_
            rotate_left
            · intro w'
              go_simp
              with_reducible rfl
            rotate_left
            · simp only [Act.put, List.setIfInBounds_toArray, List.set_cons_zero, List.set_cons_succ, i64_w, i32_w]
              rfl
            refine pure_ (i := 16) (N := some 43) (v := ?_) (a' := ?_) #[true, true, true, true, true, true, true, true, true, true, true, true, true, true, true, true, true, false, false, false, false, false, false, false, false, false, false, false, false] rfl rfl (any_of HT_.out (by kernel_rfl)) (fun _ _ _ h => h) (Or.inl ⟨by rfl, ?_⟩) ?_ ?_
            rotate_left
            · intro w'
              go_simp
              with_reducible rfl
            rotate_left
            · simp only [Act.put, List.setIfInBounds_toArray, List.set_cons_zero, List.set_cons_succ, i64_w, i32_w]
              rfl
            refine pure_ (i := 17) (N := some 44) (v := ?_) (a' := ?_) #[true, true, true, true, true, true, true, true, true, true, true, true, true, true, true, true, true, true, false, false, false, false, false, false, false, false, false, false, false] rfl rfl (any_of HT_.out (by kernel_rfl)) (fun _ _ _ h => h) (Or.inl ⟨by rfl, ?_⟩) ?_ ?_
            rotate_left
            · intro w'
              go_simp
              with_reducible rfl
            rotate_left
            · simp only [Act.put, List.setIfInBounds_toArray, List.set_cons_zero, List.set_cons_succ, i64_w, i32_w]
              rfl
            refine pure_ (i := 18) (N := some 45) (v := ?_) (a' := ?_) #[true, true, true, true, true, true, true, true, true, true, true, true, true, true, true, true, true, true, true, false, false, false, false, false, false, false, false, false, false] rfl rfl (any_of HT_.out (by kernel_rfl)) (fun _ _ _ h => h) (Or.inl ⟨by rfl, ?_⟩) ?_ ?_
            rotate_left
            · intro w'
              go_simp
              with_reducible rfl
            rotate_left
            · simp only [Act.put, List.setIfInBounds_toArray, List.set_cons_zero, List.set_cons_succ, i64_w, i32_w]
              rfl
            refine pure_ (i := 19) (N := some 46) (v := ?_) (a' := ?_) #[true, true, true, true, true, true, true, true, true, true, true, true, true, true, true, true, true, true, true, true, false, false, false, false, false, false, false, false, false] rfl rfl (any_of HT_.out (by kernel_rfl)) (fun _ _ _ h => h) (Or.inl ⟨by rfl, ?_⟩) ?_ ?_
            rotate_left
            · intro w'
              go_simp
              with_reducible rfl
            rotate_left
            · simp only [Act.put, List.setIfInBounds_toArray, List.set_cons_zero, List.set_cons_succ, i64_w, i32_w]
              rfl
            refine pure_ (i := 22) (N := some 49) (v := ?_) (a' := ?_) #[true, true, true, true, true, true, true, true, true, true, true, true, true, true, true, true, true, true, true, true, false, false, true, false, false, false, false, false, false] rfl rfl (any_of HT_.out (by kernel_rfl)) (fun _ _ _ h => h) (Or.inl ⟨by rfl, ?_⟩) ?_ ?_
            rotate_left
            · intro w'
              go_simp
              with_reducible rfl
            rotate_left
            · simp only [Act.put, List.setIfInBounds_toArray, List.set_cons_zero, List.set_cons_succ, i64_w, i32_w]
              rfl
            refine pure_ (i := 23) (N := some 50) (v := ?_) (a' := ?_) #[true, true, true, true, true, true, true, true, true, true, true, true, true, true, true, true, true, true, true, true, false, false, true, true, false, false, false, false, false] rfl rfl (any_of HT_.out (by kernel_rfl)) (fun _ _ _ h => h) (Or.inl ⟨by rfl, ?_⟩) ?_ ?_
            rotate_left
            · intro w'
              go_simp
              with_reducible rfl
            rotate_left
            · simp only [Act.put, List.setIfInBounds_toArray, List.set_cons_zero, List.set_cons_succ, i64_w, i32_w]
              rfl
            refine pure_ (i := 24) (N := some 51) (v := ?_) (a' := ?_) #[true, true, true, true, true, true, true, true, true, true, true, true, true, true, true, true, true, true, true, true, false, false, true, true, true, false, false, false, false] rfl rfl (any_of HT_.out (by kernel_rfl)) (fun _ _ _ h => h) (Or.inl ⟨by rfl, ?_⟩) ?_ ?_
            rotate_left
            · intro w'
              go_simp
              with_reducible rfl
            rotate_left
            · simp only [Act.put, List.setIfInBounds_toArray, List.set_cons_zero, List.set_cons_succ, i64_w, i32_w]
              rfl
            refine two_ (i := 20) (j := 25) (Ni := some 47) (Nj := some 52) #[true, true, true, true, true, true, true, true, true, true, true, true, true, true, true, true, true, true, true, true, true, false, true, true, true, false, false, false, false] #[true, true, true, true, true, true, true, true, true, true, true, true, true, true, true, true, true, true, true, true, false, false, true, true, true, true, false, false, false] rfl rfl rfl rfl (two_of HT_.out (by kernel_rfl)) (by decide) (by decide) ?_ ?_
            · intro K hK
              refine goes_ Try.func12 (by kernel_rfl) rfl #[.pointer (some ⟨bn, 0, none⟩)] (by rfl) rfl rfl (by (try simp only [List.map_toArray, List.map_cons, List.map_nil]); first | done | rfl) ?_
              refine (all_any SR bn _ ps last' W1 hR).mono ?_
              rintro e W2 ⟨v, rs, rfl, hl2, hcp, hT⟩
              have hpk := copies_rd hcp (fun p hp => (hR.pk p hp).2)
              have hs63 := copies_s63 hl2 hcp.1
              obtain ⟨A5, c5, rfl, hc5, _⟩ := own_slice hcp.2.1
              have hrv : Rd W2 (fun _ => True) 4 A5 rs.length (flat rs) := Rd.of_own hcp.2.1 (fun _ _ => trivial)
              have hSn := hHeld.fr hT (fun h => h.elim)
              have hf := hf.trans hT (fun _ h _ => h)
              have hsz := Nat.le_trans hsz hT.size
              have hR := hR.far hT (fun _ _ _ => id)
              have hF := hF.far hT (fun _ _ _ => id)
              refine ⟨_, rfl, ?_⟩
              rw [hl2]
              refine hK.out _ _ hSn (fun hHeld => ?_)
              clear hK K
              refine norm_ (a' := ?_) ?_ ?_
              rotate_left
              · show Act.put _ (some 47) _ = _
                simp only [Act.put, List.setIfInBounds_toArray, List.set_cons_zero, List.set_cons_succ, i64_w, i32_w]
                rfl
              refine two_ (i := 21) (j := 25) (Ni := some 48) (Nj := some 52) #[true, true, true, true, true, true, true, true, true, true, true, true, true, true, true, true, true, true, true, true, true, true, true, true, true, false, false, false, false] #[true, true, true, true, true, true, true, true, true, true, true, true, true, true, true, true, true, true, true, true, true, false, true, true, true, true, false, false, false] rfl rfl rfl rfl (two_of HT_.out (by kernel_rfl)) (by decide) (by decide) ?_ ?_
              · intro K hK
                refine goes_ Try.func11 (by kernel_rfl) rfl #[.slice A5 ps.length c5] (by rfl) rfl rfl (by (try simp only [List.map_toArray, List.map_cons, List.map_nil]); first | done | rfl) ?_
                have hpa := packets_any W2 (fun _ => True) A5 c5 rs hrv (by omega) hc5 hpk
                rw [hl2] at hpa
                refine hpa.mono ?_
                rintro e W3 ⟨A', c', rfl, _, hCp, hT⟩
                have hSn := hHeld.fr hT (fun h => h.elim)
                have hf := hf.trans hT (fun _ h _ => h)
                have hsz := Nat.le_trans hsz hT.size
                have hR := hR.far hT (fun _ _ _ => id)
                have hF := hF.far hT (fun _ _ _ => id)
                have hrv := hrv.same (fun k hk => hT.block k hk id)
                have hpk := fun q hq => (hpk q hq).same (fun k hk => hT.block k hk id)
                refine ⟨_, rfl, ?_⟩
                refine hK.out _ _ hSn (fun hHeld => ?_)
                clear hK K
                refine norm_ (a' := ?_) ?_ ?_
                rotate_left
                · show Act.put _ (some 48) _ = _
                  simp only [Act.put, List.setIfInBounds_toArray, List.set_cons_zero, List.set_cons_succ, i64_w, i32_w]
                  rfl
                refine one_ (i := 25) (N := some 52) #[true, true, true, true, true, true, true, true, true, true, true, true, true, true, true, true, true, true, true, true, true, true, true, true, true, true, false, false, false] rfl rfl (one_of HT_.out (by kernel_rfl)) (by decide) (fun K hK => ?_)
                have e0 : W3.cell? ⟨bw, 0, none⟩ = some (.slice B2 ps.length c2) := by have := hF.blk.cell 0; rw [← hq]; simpa using this
                refine step_value_w (by rfl) (.slice B2 ps.length c2) W3 (by first | (go_simp; done) | (go_simp; rfl)) ?_
                refine hK.out _ _ hHeld (fun hHeld => ?_)
                clear hK K
                refine norm_ (a' := ?_) ?_ ?_
                rotate_left
                · show Act.put _ (some 52) _ = _
                  simp only [Act.put, List.setIfInBounds_toArray, List.set_cons_zero, List.set_cons_succ, i64_w, i32_w]
                  rfl
                refine last_ (i := 26) (N := some 53) #[true, true, true, true, true, true, true, true, true, true, true, true, true, true, true, true, true, true, true, true, true, true, true, true, true, true, true, false, false] rfl rfl (one_of HT_.out (by kernel_rfl)) (by decide) (fun K hK => ?_)
                refine goes_ Try.func10 (by kernel_rfl) rfl #[.slice A' ps.length c', .slice B2 ps.length c2] (by rfl) rfl rfl (by (try simp only [List.map_toArray, List.map_cons, List.map_nil]); first | done | rfl) ?_
                obtain ⟨B3, c3, he, _, hCq⟩ := hF.c63
                injection he with he1 _ he2
                subst he1
                subst he2
                rw [hq, ← key_s63 hk, ← hs63] at hCq
                have hlm : (rs.map Pk.s63).length = ps.length := by rw [List.length_map, hl2]
                have hsa := same_eq W3 A' B2 c' c2 (rs.map Pk.s63) (by omega) (by rw [hlm]; exact hCp) (by rw [hlm]; exact hCq)
                rw [hlm] at hsa
                refine hsa.mono ?_
                rintro e W4 ⟨rfl, hD⟩
                obtain ⟨m, rfl⟩ := hD.out
                have hf := hf.drewN m
                have hR := hR.far ((Fr.refl NoB _).drewN m) (fun _ _ _ => id)
                have hF := hF.far ((Fr.refl NoB _).drewN m) (fun _ _ _ => id)
                refine ⟨_, rfl, ?_⟩
                refine hK.out _ _ ?_
                clear hK K
                refine norm_ (a' := ?_) ?_ ?_
                rotate_left
                · show Act.put _ (some 53) _ = _
                  simp only [Act.put, List.setIfInBounds_toArray, List.set_cons_zero, List.set_cons_succ, i64_w, i32_w]
                  rfl
                refine pure_ (i := 27) (N := some 54) (v := ?_) (a' := ?_) #[true, true, true, true, true, true, true, true, true, true, true, true, true, true, true, true, true, true, true, true, true, true, true, true, true, true, true, true, false] rfl rfl (any_of HT_.out (by kernel_rfl)) (fun _ _ _ h => h) (Or.inl ⟨by rfl, ?_⟩) ?_ ?_
                rotate_left
                · intro w'
                  go_simp
                  with_reducible rfl
                rotate_left
                · simp only [Act.put, List.setIfInBounds_toArray, List.set_cons_zero, List.set_cons_succ, i64_w, i32_w]
                  rfl
                refine pure_ (i := 28) (N := some 55) (v := ?_) (a' := ?_) #[true, true, true, true, true, true, true, true, true, true, true, true, true, true, true, true, true, true, true, true, true, true, true, true, true, true, true, true, true] rfl rfl (any_of HT_.out (by kernel_rfl)) (fun _ _ _ h => h) (Or.inl ⟨by rfl, ?_⟩) ?_ ?_
                rotate_left
                · intro w'
                  go_simp
                  with_reducible rfl
                rotate_left
                · simp only [Act.put, List.setIfInBounds_toArray, List.set_cons_zero, List.set_cons_succ, i64_w, i32_w]
                  rfl
                refine done_ (done_of HT_.out (by kernel_rfl)) ?_
                go_wp2
                go_roundw
                case rel => exact ⟨k + 1, by go_num, by omega, last', by omega, by omega, ⟨SR, SF, _, _, ps, qs, hR, hF, hk, hd, fun k h => ⟨(h1 k h).1, Nat.lt_of_lt_of_le (h1 k h).2 hsz⟩, fun k h => ⟨(h2 k h).1, Nat.lt_of_lt_of_le (h2 k h).2 hsz⟩⟩, hf⟩
                case measure => simp [intOf]; omega
              · intro K hK
                have e0 : W2.cell? ⟨bw, 0, none⟩ = some (.slice B2 ps.length c2) := by have := hF.blk.cell 0; rw [← hq]; simpa using this
                refine step_value_w (by rfl) (.slice B2 ps.length c2) W2 (by first | (go_simp; done) | (go_simp; rfl)) ?_
                refine hK.out _ _ hHeld (fun hHeld => ?_)
                clear hK K
                refine norm_ (a' := ?_) ?_ ?_
                rotate_left
                · show Act.put _ (some 52) _ = _
                  simp only [Act.put, List.setIfInBounds_toArray, List.set_cons_zero, List.set_cons_succ, i64_w, i32_w]
                  rfl
                refine one_ (i := 21) (N := some 48) #[true, true, true, true, true, true, true, true, true, true, true, true, true, true, true, true, true, true, true, true, true, true, true, true, true, true, false, false, false] rfl rfl (one_of HT_.out (by kernel_rfl)) (by decide) (fun K hK => ?_)
                refine goes_ Try.func11 (by kernel_rfl) rfl #[.slice A5 ps.length c5] (by rfl) rfl rfl (by (try simp only [List.map_toArray, List.map_cons, List.map_nil]); first | done | rfl) ?_
                have hpa := packets_any W2 (fun _ => True) A5 c5 rs hrv (by omega) hc5 hpk
                rw [hl2] at hpa
                refine hpa.mono ?_
                rintro e W3 ⟨A', c', rfl, _, hCp, hT⟩
                have hSn := hHeld.fr hT (fun h => h.elim)
                have hf := hf.trans hT (fun _ h _ => h)
                have hsz := Nat.le_trans hsz hT.size
                have hR := hR.far hT (fun _ _ _ => id)
                have hF := hF.far hT (fun _ _ _ => id)
                have hrv := hrv.same (fun k hk => hT.block k hk id)
                have hpk := fun q hq => (hpk q hq).same (fun k hk => hT.block k hk id)
                refine ⟨_, rfl, ?_⟩
                refine hK.out _ _ hSn (fun hHeld => ?_)
                clear hK K
                refine norm_ (a' := ?_) ?_ ?_
                rotate_left
                · show Act.put _ (some 48) _ = _
                  simp only [Act.put, List.setIfInBounds_toArray, List.set_cons_zero, List.set_cons_succ, i64_w, i32_w]
                  rfl
                refine last_ (i := 26) (N := some 53) #[true, true, true, true, true, true, true, true, true, true, true, true, true, true, true, true, true, true, true, true, true, true, true, true, true, true, true, false, false] rfl rfl (one_of HT_.out (by kernel_rfl)) (by decide) (fun K hK => ?_)
                refine goes_ Try.func10 (by kernel_rfl) rfl #[.slice A' ps.length c', .slice B2 ps.length c2] (by rfl) rfl rfl (by (try simp only [List.map_toArray, List.map_cons, List.map_nil]); first | done | rfl) ?_
                obtain ⟨B3, c3, he, _, hCq⟩ := hF.c63
                injection he with he1 _ he2
                subst he1
                subst he2
                rw [hq, ← key_s63 hk, ← hs63] at hCq
                have hlm : (rs.map Pk.s63).length = ps.length := by rw [List.length_map, hl2]
                have hsa := same_eq W3 A' B2 c' c2 (rs.map Pk.s63) (by omega) (by rw [hlm]; exact hCp) (by rw [hlm]; exact hCq)
                rw [hlm] at hsa
                refine hsa.mono ?_
                rintro e W4 ⟨rfl, hD⟩
                obtain ⟨m, rfl⟩ := hD.out
                have hf := hf.drewN m
                have hR := hR.far ((Fr.refl NoB _).drewN m) (fun _ _ _ => id)
                have hF := hF.far ((Fr.refl NoB _).drewN m) (fun _ _ _ => id)
                refine ⟨_, rfl, ?_⟩
                refine hK.out _ _ ?_
                clear hK K
                refine norm_ (a' := ?_) ?_ ?_
                rotate_left
                · show Act.put _ (some 53) _ = _
                  simp only [Act.put, List.setIfInBounds_toArray, List.set_cons_zero, List.set_cons_succ, i64_w, i32_w]
                  rfl
                refine pure_ (i := 27) (N := some 54) (v := ?_) (a' := ?_) #[true, true, true, true, true, true, true, true, true, true, true, true, true, true, true, true, true, true, true, true, true, true, true, true, true, true, true, true, false] rfl rfl (any_of HT_.out (by kernel_rfl)) (fun _ _ _ h => h) (Or.inl ⟨by rfl, ?_⟩) ?_ ?_
                rotate_left
                · intro w'
                  go_simp
                  with_reducible rfl
                rotate_left
                · simp only [Act.put, List.setIfInBounds_toArray, List.set_cons_zero, List.set_cons_succ, i64_w, i32_w]
                  rfl
                refine pure_ (i := 28) (N := some 55) (v := ?_) (a' := ?_) #[true, true, true, true, true, true, true, true, true, true, true, true, true, true, true, true, true, true, true, true, true, true, true, true, true, true, true, true, true] rfl rfl (any_of HT_.out (by kernel_rfl)) (fun _ _ _ h => h) (Or.inl ⟨by rfl, ?_⟩) ?_ ?_
                rotate_left
                · intro w'
                  go_simp
                  with_reducible rfl
                rotate_left
                · simp only [Act.put, List.setIfInBounds_toArray, List.set_cons_zero, List.set_cons_succ, i64_w, i32_w]
                  rfl
                refine done_ (done_of HT_.out (by kernel_rfl)) ?_
                go_wp2
                go_roundw
                case rel => exact ⟨k + 1, by go_num, by omega, last', by omega, by omega, ⟨SR, SF, _, _, ps, qs, hR, hF, hk, hd, fun k h => ⟨(h1 k h).1, Nat.lt_of_lt_of_le (h1 k h).2 hsz⟩, fun k h => ⟨(h2 k h).1, Nat.lt_of_lt_of_le (h2 k h).2 hsz⟩⟩, hf⟩
                case measure => simp [intOf]; omega
            · intro K hK
              have e0 : W1.cell? ⟨bw, 0, none⟩ = some (.slice B2 ps.length c2) := by have := hF.blk.cell 0; rw [← hq]; simpa using this
              refine step_value_w (by rfl) (.slice B2 ps.length c2) W1 (by first | (go_simp; done) | (go_simp; rfl)) ?_
              refine hK.out _ _ hHeld (fun hHeld => ?_)
              clear hK K
              refine norm_ (a' := ?_) ?_ ?_
              rotate_left
              · show Act.put _ (some 52) _ = _
                simp only [Act.put, List.setIfInBounds_toArray, List.set_cons_zero, List.set_cons_succ, i64_w, i32_w]
                rfl
              refine one_ (i := 20) (N := some 47) #[true, true, true, true, true, true, true, true, true, true, true, true, true, true, true, true, true, true, true, true, true, false, true, true, true, true, false, false, false] rfl rfl (one_of HT_.out (by kernel_rfl)) (by decide) (fun K hK => ?_)
              refine goes_ Try.func12 (by kernel_rfl) rfl #[.pointer (some ⟨bn, 0, none⟩)] (by rfl) rfl rfl (by (try simp only [List.map_toArray, List.map_cons, List.map_nil]); first | done | rfl) ?_
              refine (all_any SR bn _ ps last' W1 hR).mono ?_
              rintro e W2 ⟨v, rs, rfl, hl2, hcp, hT⟩
              have hpk := copies_rd hcp (fun p hp => (hR.pk p hp).2)
              have hs63 := copies_s63 hl2 hcp.1
              obtain ⟨A5, c5, rfl, hc5, _⟩ := own_slice hcp.2.1
              have hrv : Rd W2 (fun _ => True) 4 A5 rs.length (flat rs) := Rd.of_own hcp.2.1 (fun _ _ => trivial)
              have hSn := hHeld.fr hT (fun h => h.elim)
              have hf := hf.trans hT (fun _ h _ => h)
              have hsz := Nat.le_trans hsz hT.size
              have hR := hR.far hT (fun _ _ _ => id)
              have hF := hF.far hT (fun _ _ _ => id)
              refine ⟨_, rfl, ?_⟩
              rw [hl2]
              refine hK.out _ _ hSn (fun hHeld => ?_)
              clear hK K
              refine norm_ (a' := ?_) ?_ ?_
              rotate_left
              · show Act.put _ (some 47) _ = _
                simp only [Act.put, List.setIfInBounds_toArray, List.set_cons_zero, List.set_cons_succ, i64_w, i32_w]
                rfl
              refine one_ (i := 21) (N := some 48) #[true, true, true, true, true, true, true, true, true, true, true, true, true, true, true, true, true, true, true, true, true, true, true, true, true, true, false, false, false] rfl rfl (one_of HT_.out (by kernel_rfl)) (by decide) (fun K hK => ?_)
              refine goes_ Try.func11 (by kernel_rfl) rfl #[.slice A5 ps.length c5] (by rfl) rfl rfl (by (try simp only [List.map_toArray, List.map_cons, List.map_nil]); first | done | rfl) ?_
              have hpa := packets_any W2 (fun _ => True) A5 c5 rs hrv (by omega) hc5 hpk
              rw [hl2] at hpa
              refine hpa.mono ?_
              rintro e W3 ⟨A', c', rfl, _, hCp, hT⟩
              have hSn := hHeld.fr hT (fun h => h.elim)
              have hf := hf.trans hT (fun _ h _ => h)
              have hsz := Nat.le_trans hsz hT.size
              have hR := hR.far hT (fun _ _ _ => id)
              have hF := hF.far hT (fun _ _ _ => id)
              have hrv := hrv.same (fun k hk => hT.block k hk id)
              have hpk := fun q hq => (hpk q hq).same (fun k hk => hT.block k hk id)
              refine ⟨_, rfl, ?_⟩
              refine hK.out _ _ hSn (fun hHeld => ?_)
              clear hK K
              refine norm_ (a' := ?_) ?_ ?_
              rotate_left
              · show Act.put _ (some 48) _ = _
                simp only [Act.put, List.setIfInBounds_toArray, List.set_cons_zero, List.set_cons_succ, i64_w, i32_w]
                rfl
              refine last_ (i := 26) (N := some 53) #[true, true, true, true, true, true, true, true, true, true, true, true, true, true, true, true, true, true, true, true, true, true, true, true, true, true, true, false, false] rfl rfl (one_of HT_.out (by kernel_rfl)) (by decide) (fun K hK => ?_)
              refine goes_ Try.func10 (by kernel_rfl) rfl #[.slice A' ps.length c', .slice B2 ps.length c2] (by rfl) rfl rfl (by (try simp only [List.map_toArray, List.map_cons, List.map_nil]); first | done | rfl) ?_
              obtain ⟨B3, c3, he, _, hCq⟩ := hF.c63
              injection he with he1 _ he2
              subst he1
              subst he2
              rw [hq, ← key_s63 hk, ← hs63] at hCq
              have hlm : (rs.map Pk.s63).length = ps.length := by rw [List.length_map, hl2]
              have hsa := same_eq W3 A' B2 c' c2 (rs.map Pk.s63) (by omega) (by rw [hlm]; exact hCp) (by rw [hlm]; exact hCq)
              rw [hlm] at hsa
              refine hsa.mono ?_
              rintro e W4 ⟨rfl, hD⟩
              obtain ⟨m, rfl⟩ := hD.out
              have hf := hf.drewN m
              have hR := hR.far ((Fr.refl NoB _).drewN m) (fun _ _ _ => id)
              have hF := hF.far ((Fr.refl NoB _).drewN m) (fun _ _ _ => id)
              refine ⟨_, rfl, ?_⟩
              refine hK.out _ _ ?_
              clear hK K
              refine norm_ (a' := ?_) ?_ ?_
              rotate_left
              · show Act.put _ (some 53) _ = _
                simp only [Act.put, List.setIfInBounds_toArray, List.set_cons_zero, List.set_cons_succ, i64_w, i32_w]
                rfl
              refine pure_ (i := 27) (N := some 54) (v := ?_) (a' := ?_) #[true, true, true, true, true, true, true, true, true, true, true, true, true, true, true, true, true, true, true, true, true, true, true, true, true, true, true, true, false] rfl rfl (any_of HT_.out (by kernel_rfl)) (fun _ _ _ h => h) (Or.inl ⟨by rfl, ?_⟩) ?_ ?_
              rotate_left
              · intro w'
                go_simp
                with_reducible rfl
              rotate_left
              · simp only [Act.put, List.setIfInBounds_toArray, List.set_cons_zero, List.set_cons_succ, i64_w, i32_w]
                rfl
              refine pure_ (i := 28) (N := some 55) (v := ?_) (a' := ?_) #[true, true, true, true, true, true, true, true, true, true, true, true, true, true, true, true, true, true, true, true, true, true, true, true, true, true, true, true, true] rfl rfl (any_of HT_.out (by kernel_rfl)) (fun _ _ _ h => h) (Or.inl ⟨by rfl, ?_⟩) ?_ ?_
              rotate_left
              · intro w'
                go_simp
                with_reducible rfl
              rotate_left
              · simp only [Act.put, List.setIfInBounds_toArray, List.set_cons_zero, List.set_cons_succ, i64_w, i32_w]
                rfl
              refine done_ (done_of HT_.out (by kernel_rfl)) ?_
              go_wp2
              go_roundw
              case rel => exact ⟨k + 1, by go_num, by omega, last', by omega, by omega, ⟨SR, SF, _, _, ps, qs, hR, hF, hk, hd, fun k h => ⟨(h1 k h).1, Nat.lt_of_lt_of_le (h1 k h).2 hsz⟩, fun k h => ⟨(h2 k h).1, Nat.lt_of_lt_of_le (h2 k h).2 hsz⟩⟩, hf⟩
              case measure => simp [intOf]; omega
          · intro K hK
            have e0 : W1.cell? ⟨bw, 0, none⟩ = some (.slice B2 ps.length c2) := by have := hF.blk.cell 0; rw [← hq]; simpa using this
            refine step_value_w (by rfl) (.slice B2 ps.length c2) W1 (by first | (go_simp; done) | (go_simp; rfl)) ?_
            refine hK.out _ _ hHeld (fun hHeld => ?_)
            clear hK K
            refine norm_ (a' := ?_) ?_ ?_
            rotate_left
            · show Act.put _ (some 41) _ = _
              simp only [Act.put, List.setIfInBounds_toArray, List.set_cons_zero, List.set_cons_succ, i64_w, i32_w]
              rfl
            refine pure_ (i := 15) (N := some 42) (v := ?_) (a' := ?_) #[true, true, true, true, true, true, true, true, true, true, false, true, true, true, true, true, false, false, false, false, false, false, false, false, false, false, false, false, false] rfl rfl (any_of HT_.out (by kernel_rfl)) (fun _ _ _ h => h) (Or.inl ⟨by rfl, ?_⟩) ?_ ?_
            rotate_left
            · intro w'
              go_simp
              with_reducible rfl
            rotate_left
            · simp only [Act.put, List.setIfInBounds_toArray, List.set_cons_zero, List.set_cons_succ, i64_w, i32_w]
              rfl
            refine one_ (i := 10) (N := some 37) #[true, true, true, true, true, true, true, true, true, true, true, true, true, true, true, true, false, false, false, false, false, false, false, false, false, false, false, false, false] rfl rfl (one_of HT_.out (by kernel_rfl)) (by decide) (fun K hK => ?_)
            have d0 : W1.cell? ⟨bn, 0, none⟩ = some (.slice B1 ps.length c1) := by have := hR.blk.cell 0; simpa using this
            refine goes_ Try.func9 (by kernel_rfl) rfl #[.pointer (some ⟨bn, 0, none⟩)] (by rfl) rfl rfl (by (try simp only [List.map_toArray, List.map_cons, List.map_nil]); first | done | rfl) ?_
            refine (len_any _ _ _ _ _ d0).mono ?_
            rintro e w' ⟨rfl, rfl⟩
            refine ⟨_, rfl, ?_⟩
            refine hK.out _ _ hHeld (fun hHeld => ?_)
            clear hK K
            refine norm_ (a' := ?_) ?_ ?_
            rotate_left
            · show Act.put _ (some 37) _ = _
              simp only [Act.put, List.setIfInBounds_toArray, List.set_cons_zero, List.set_cons_succ, i64_w, i32_w]
              rfl
            refine pure_ (i := 16) (N := some 43) (v := ?_) (a' := ?_) #[true, true, true, true, true, true, true, true, true, true, true, true, true, true, true, true, true, false, false, false, false, false, false, false, false, false, false, false, false] rfl rfl (any_of HT_.out (by kernel_rfl)) (fun _ _ _ h => h) (Or.inl ⟨by rfl, ?_⟩) ?_ ?_
            rotate_left
            · intro w'
              go_simp
              with_reducible rfl
            rotate_left
            · simp only [Act.put, List.setIfInBounds_toArray, List.set_cons_zero, List.set_cons_succ, i64_w, i32_w]
              rfl
            refine pure_ (i := 17) (N := some 44) (v := ?_) (a' := ?_) #[true, true, true, true, true, true, true, true, true, true, true, true, true, true, true, true, true, true, false, false, false, false, false, false, false, false, false, false, false] rfl rfl (any_of HT_.out (by kernel_rfl)) (fun _ _ _ h => h) (Or.inl ⟨by rfl, ?_⟩) ?_ ?_
            rotate_left
            · intro w'
              go_simp
              with_reducible rfl
            rotate_left
            · simp only [Act.put, List.setIfInBounds_toArray, List.set_cons_zero, List.set_cons_succ, i64_w, i32_w]
              rfl
            refine pure_ (i := 18) (N := some 45) (v := ?_) (a' := ?_) #[true, true, true, true, true, true, true, true, true, true, true, true, true, true, true, true, true, true, true, false, false, false, false, false, false, false, false, false, false] rfl rfl (any_of HT_.out (by kernel_rfl)) (fun _ _ _ h => h) (Or.inl ⟨by rfl, ?_⟩) ?_ ?_
            rotate_left
            · intro w'
              go_simp
              with_reducible rfl
            rotate_left
            · simp only [Act.put, List.setIfInBounds_toArray, List.set_cons_zero, List.set_cons_succ, i64_w, i32_w]
              rfl
            refine pure_ (i := 19) (N := some 46) (v := ?_) (a' := ?_) #[true, true, true, true, true, true, true, true, true, true, true, true, true, true, true, true, true, true, true, true, false, false, false, false, false, false, false, false, false] rfl rfl (any_of HT_.out (by kernel_rfl)) (fun _ _ _ h => h) (Or.inl ⟨by rfl, ?_⟩) ?_ ?_
            rotate_left
            · intro w'
              go_simp
              with_reducible rfl
            rotate_left
            · simp only [Act.put, List.setIfInBounds_toArray, List.set_cons_zero, List.set_cons_succ, i64_w, i32_w]
              rfl
            refine pure_ (i := 22) (N := some 49) (v := ?_) (a' := ?_) #[true, true, true, true, true, true, true, true, true, true, true, true, true, true, true, true, true, true, true, true, false, false, true, false, false, false, false, false, false] rfl rfl (any_of HT_.out (by kernel_rfl)) (fun _ _ _ h => h) (Or.inl ⟨by rfl, ?_⟩) ?_ ?_
            rotate_left
            · intro w'
              go_simp
              with_reducible rfl
            rotate_left
            · simp only [Act.put, List.setIfInBounds_toArray, List.set_cons_zero, List.set_cons_succ, i64_w, i32_w]
              rfl
            refine pure_ (i := 23) (N := some 50) (v := ?_) (a' := ?_) #[true, true, true, true, true, true, true, true, true, true, true, true, true, true, true, true, true, true, true, true, false, false, true, true, false, false, false, false, false] rfl rfl (any_of HT_.out (by kernel_rfl)) (fun _ _ _ h => h) (Or.inl ⟨by rfl, ?_⟩) ?_ ?_
            rotate_left
            · intro w'
              go_simp
              with_reducible rfl
            rotate_left
            · simp only [Act.put, List.setIfInBounds_toArray, List.set_cons_zero, List.set_cons_succ, i64_w, i32_w]
              rfl
            refine pure_ (i := 24) (N := some 51) (v := ?_) (a' := ?_) #[true, true, true, true, true, true, true, true, true, true, true, true, true, true, true, true, true, true, true, true, false, false, true, true, true, false, false, false, false] rfl rfl (any_of HT_.out (by kernel_rfl)) (fun _ _ _ h => h) (Or.inl ⟨by rfl, ?_⟩) ?_ ?_
            rotate_left
            · intro w'
              go_simp
              with_reducible rfl
            rotate_left
            · simp only [Act.put, List.setIfInBounds_toArray, List.set_cons_zero, List.set_cons_succ, i64_w, i32_w]
              rfl
            refine two_ (i := 20) (j := 25) (Ni := some 47) (Nj := some 52) #[true, true, true, true, true, true, true, true, true, true, true, true, true, true, true, true, true, true, true, true, true, false, true, true, true, false, false, false, false] #[true, true, true, true, true, true, true, true, true, true, true, true, true, true, true, true, true, true, true, true, false, false, true, true, true, true, false, false, false] rfl rfl rfl rfl (two_of HT_.out (by kernel_rfl)) (by decide) (by decide) ?_ ?_
            · intro K hK
              refine goes_ Try.func12 (by kernel_rfl) rfl #[.pointer (some ⟨bn, 0, none⟩)] (by rfl) rfl rfl (by (try simp only [List.map_toArray, List.map_cons, List.map_nil]); first | done | rfl) ?_
              refine (all_any SR bn _ ps last' W1 hR).mono ?_
              rintro e W2 ⟨v, rs, rfl, hl2, hcp, hT⟩
              have hpk := copies_rd hcp (fun p hp => (hR.pk p hp).2)
              have hs63 := copies_s63 hl2 hcp.1
              obtain ⟨A5, c5, rfl, hc5, _⟩ := own_slice hcp.2.1
              have hrv : Rd W2 (fun _ => True) 4 A5 rs.length (flat rs) := Rd.of_own hcp.2.1 (fun _ _ => trivial)
              have hSn := hHeld.fr hT (fun h => h.elim)
              have hf := hf.trans hT (fun _ h _ => h)
              have hsz := Nat.le_trans hsz hT.size
              have hR := hR.far hT (fun _ _ _ => id)
              have hF := hF.far hT (fun _ _ _ => id)
              refine ⟨_, rfl, ?_⟩
              rw [hl2]
              refine hK.out _ _ hSn (fun hHeld => ?_)
              clear hK K
              refine norm_ (a' := ?_) ?_ ?_
              rotate_left
              · show Act.put _ (some 47) _ = _
                simp only [Act.put, List.setIfInBounds_toArray, List.set_cons_zero, List.set_cons_succ, i64_w, i32_w]
                rfl
              refine two_ (i := 21) (j := 25) (Ni := some 48) (Nj := some 52) #[true, true, true, true, true, true, true, true, true, true, true, true, true, true, true, true, true, true, true, true, true, true, true, true, true, false, false, false, false] #[true, true, true, true, true, true, true, true, true, true, true, true, true, true, true, true, true, true, true, true, true, false, true, true, true, true, false, false, false] rfl rfl rfl rfl (two_of HT_.out (by kernel_rfl)) (by decide) (by decide) ?_ ?_
              · intro K hK
                refine goes_ Try.func11 (by kernel_rfl) rfl #[.slice A5 ps.length c5] (by rfl) rfl rfl (by (try simp only [List.map_toArray, List.map_cons, List.map_nil]); first | done | rfl) ?_
                have hpa := packets_any W2 (fun _ => True) A5 c5 rs hrv (by omega) hc5 hpk
                rw [hl2] at hpa
                refine hpa.mono ?_
                rintro e W3 ⟨A', c', rfl, _, hCp, hT⟩
                have hSn := hHeld.fr hT (fun h => h.elim)
                have hf := hf.trans hT (fun _ h _ => h)
                have hsz := Nat.le_trans hsz hT.size
                have hR := hR.far hT (fun _ _ _ => id)
                have hF := hF.far hT (fun _ _ _ => id)
                have hrv := hrv.same (fun k hk => hT.block k hk id)
                have hpk := fun q hq => (hpk q hq).same (fun k hk => hT.block k hk id)
                refine ⟨_, rfl, ?_⟩
                refine hK.out _ _ hSn (fun hHeld => ?_)
                clear hK K
                refine norm_ (a' := ?_) ?_ ?_
                rotate_left
                · show Act.put _ (some 48) _ = _
                  simp only [Act.put, List.setIfInBounds_toArray, List.set_cons_zero, List.set_cons_succ, i64_w, i32_w]
                  rfl
                refine one_ (i := 25) (N := some 52) #[true, true, true, true, true, true, true, true, true, true, true, true, true, true, true, true, true, true, true, true, true, true, true, true, true, true, false, false, false] rfl rfl (one_of HT_.out (by kernel_rfl)) (by decide) (fun K hK => ?_)
                have e0 : W3.cell? ⟨bw, 0, none⟩ = some (.slice B2 ps.length c2) := by have := hF.blk.cell 0; rw [← hq]; simpa using this
                refine step_value_w (by rfl) (.slice B2 ps.length c2) W3 (by first | (go_simp; done) | (go_simp; rfl)) ?_
                refine hK.out _ _ hHeld (fun hHeld => ?_)
                clear hK K
                refine norm_ (a' := ?_) ?_ ?_
                rotate_left
                · show Act.put _ (some 52) _ = _
                  simp only [Act.put, List.setIfInBounds_toArray, List.set_cons_zero, List.set_cons_succ, i64_w, i32_w]
                  rfl
                refine last_ (i := 26) (N := some 53) #[true, true, true, true, true, true, true, true, true, true, true, true, true, true, true, true, true, true, true, true, true, true, true, true, true, true, true, false, false] rfl rfl (one_of HT_.out (by kernel_rfl)) (by decide) (fun K hK => ?_)
                refine goes_ Try.func10 (by kernel_rfl) rfl #[.slice A' ps.length c', .slice B2 ps.length c2] (by rfl) rfl rfl (by (try simp only [List.map_toArray, List.map_cons, List.map_nil]); first | done | rfl) ?_
                obtain ⟨B3, c3, he, _, hCq⟩ := hF.c63
                injection he with he1 _ he2
                subst he1
                subst he2
                rw [hq, ← key_s63 hk, ← hs63] at hCq
                have hlm : (rs.map Pk.s63).length = ps.length := by rw [List.length_map, hl2]
                have hsa := same_eq W3 A' B2 c' c2 (rs.map Pk.s63) (by omega) (by rw [hlm]; exact hCp) (by rw [hlm]; exact hCq)
                rw [hlm] at hsa
                refine hsa.mono ?_
                rintro e W4 ⟨rfl, hD⟩
                obtain ⟨m, rfl⟩ := hD.out
                have hf := hf.drewN m
                have hR := hR.far ((Fr.refl NoB _).drewN m) (fun _ _ _ => id)
                have hF := hF.far ((Fr.refl NoB _).drewN m) (fun _ _ _ => id)
                refine ⟨_, rfl, ?_⟩
                refine hK.out _ _ ?_
                clear hK K
                refine norm_ (a' := ?_) ?_ ?_
                rotate_left
                · show Act.put _ (some 53) _ = _
                  simp only [Act.put, List.setIfInBounds_toArray, List.set_cons_zero, List.set_cons_succ, i64_w, i32_w]
                  rfl
                refine pure_ (i := 27) (N := some 54) (v := ?_) (a' := ?_) #[true, true, true, true, true, true, true, true, true, true, true, true, true, true, true, true, true, true, true, true, true, true, true, true, true, true, true, true, false] rfl rfl (any_of HT_.out (by kernel_rfl)) (fun _ _ _ h => h) (Or.inl ⟨by rfl, ?_⟩) ?_ ?_
                rotate_left
                · intro w'
                  go_simp
                  with_reducible rfl
                rotate_left
                · simp only [Act.put, List.setIfInBounds_toArray, List.set_cons_zero, List.set_cons_succ, i64_w, i32_w]
                  rfl
                refine pure_ (i := 28) (N := some 55) (v := ?_) (a' := ?_) #[true, true, true, true, true, true, true, true, true, true, true, true, true, true, true, true, true, true, true, true, true, true, true, true, true, true, true, true, true] rfl rfl (any_of HT_.out (by kernel_rfl)) (fun _ _ _ h => h) (Or.inl ⟨by rfl, ?_⟩) ?_ ?_
                rotate_left
                · intro w'
                  go_simp
                  with_reducible rfl
                rotate_left
                · simp only [Act.put, List.setIfInBounds_toArray, List.set_cons_zero, List.set_cons_succ, i64_w, i32_w]
                  rfl
                refine done_ (done_of HT_.out (by kernel_rfl)) ?_
                go_wp2
                go_roundw
                case rel => exact ⟨k + 1, by go_num, by omega, last', by omega, by omega, ⟨SR, SF, _, _, ps, qs, hR, hF, hk, hd, fun k h => ⟨(h1 k h).1, Nat.lt_of_lt_of_le (h1 k h).2 hsz⟩, fun k h => ⟨(h2 k h).1, Nat.lt_of_lt_of_le (h2 k h).2 hsz⟩⟩, hf⟩
                case measure => simp [intOf]; omega
              · intro K hK
                have e0 : W2.cell? ⟨bw, 0, none⟩ = some (.slice B2 ps.length c2) := by have := hF.blk.cell 0; rw [← hq]; simpa using this
                refine step_value_w (by rfl) (.slice B2 ps.length c2) W2 (by first | (go_simp; done) | (go_simp; rfl)) ?_
                refine hK.out _ _ hHeld (fun hHeld => ?_)
                clear hK K
                refine norm_ (a' := ?_) ?_ ?_
                rotate_left
                · show Act.put _ (some 52) _ = _
                  simp only [Act.put, List.setIfInBounds_toArray, List.set_cons_zero, List.set_cons_succ, i64_w, i32_w]
                  rfl
                refine one_ (i := 21) (N := some 48) #[true, true, true, true, true, true, true, true, true, true, true, true, true, true, true, true, true, true, true, true, true, true, true, true, true, true, false, false, false] rfl rfl (one_of HT_.out (by kernel_rfl)) (by decide) (fun K hK => ?_)
                refine goes_ Try.func11 (by kernel_rfl) rfl #[.slice A5 ps.length c5] (by rfl) rfl rfl (by (try simp only [List.map_toArray, List.map_cons, List.map_nil]); first | done | rfl) ?_
                have hpa := packets_any W2 (fun _ => True) A5 c5 rs hrv (by omega) hc5 hpk
                rw [hl2] at hpa
                refine hpa.mono ?_
                rintro e W3 ⟨A', c', rfl, _, hCp, hT⟩
                have hSn := hHeld.fr hT (fun h => h.elim)
                have hf := hf.trans hT (fun _ h _ => h)
                have hsz := Nat.le_trans hsz hT.size
                have hR := hR.far hT (fun _ _ _ => id)
                have hF := hF.far hT (fun _ _ _ => id)
                have hrv := hrv.same (fun k hk => hT.block k hk id)
                have hpk := fun q hq => (hpk q hq).same (fun k hk => hT.block k hk id)
                refine ⟨_, rfl, ?_⟩
                refine hK.out _ _ hSn (fun hHeld => ?_)
                clear hK K
                refine norm_ (a' := ?_) ?_ ?_
                rotate_left
                · show Act.put _ (some 48) _ = _
                  simp only [Act.put, List.setIfInBounds_toArray, List.set_cons_zero, List.set_cons_succ, i64_w, i32_w]
                  rfl
                refine last_ (i := 26) (N := some 53) #[true, true, true, true, true, true, true, true, true, true, true, true, true, true, true, true, true, true, true, true, true, true, true, true, true, true, true, false, false] rfl rfl (one_of HT_.out (by kernel_rfl)) (by decide) (fun K hK => ?_)
                refine goes_ Try.func10 (by kernel_rfl) rfl #[.slice A' ps.length c', .slice B2 ps.length c2] (by rfl) rfl rfl (by (try simp only [List.map_toArray, List.map_cons, List.map_nil]); first | done | rfl) ?_
                obtain ⟨B3, c3, he, _, hCq⟩ := hF.c63
                injection he with he1 _ he2
                subst he1
                subst he2
                rw [hq, ← key_s63 hk, ← hs63] at hCq
                have hlm : (rs.map Pk.s63).length = ps.length := by rw [List.length_map, hl2]
                have hsa := same_eq W3 A' B2 c' c2 (rs.map Pk.s63) (by omega) (by rw [hlm]; exact hCp) (by rw [hlm]; exact hCq)
                rw [hlm] at hsa
                refine hsa.mono ?_
                rintro e W4 ⟨rfl, hD⟩
                obtain ⟨m, rfl⟩ := hD.out
                have hf := hf.drewN m
                have hR := hR.far ((Fr.refl NoB _).drewN m) (fun _ _ _ => id)
                have hF := hF.far ((Fr.refl NoB _).drewN m) (fun _ _ _ => id)
                refine ⟨_, rfl, ?_⟩
                refine hK.out _ _ ?_
                clear hK K
                refine norm_ (a' := ?_) ?_ ?_
                rotate_left
                · show Act.put _ (some 53) _ = _
                  simp only [Act.put, List.setIfInBounds_toArray, List.set_cons_zero, List.set_cons_succ, i64_w, i32_w]
                  rfl
                refine pure_ (i := 27) (N := some 54) (v := ?_) (a' := ?_) #[true, true, true, true, true, true, true, true, true, true, true, true, true, true, true, true, true, true, true, true, true, true, true, true, true, true, true, true, false] rfl rfl (any_of HT_.out (by kernel_rfl)) (fun _ _ _ h => h) (Or.inl ⟨by rfl, ?_⟩) ?_ ?_
                rotate_left
                · intro w'
                  go_simp
                  with_reducible rfl
                rotate_left
                · simp only [Act.put, List.setIfInBounds_toArray, List.set_cons_zero, List.set_cons_succ, i64_w, i32_w]
                  rfl
                refine pure_ (i := 28) (N := some 55) (v := ?_) (a' := ?_) #[true, true, true, true, true, true, true, true, true, true, true, true, true, true, true, true, true, true, true, true, true, true, true, true, true, true, true, true, true] rfl rfl (any_of HT_.out (by kernel_rfl)) (fun _ _ _ h => h) (Or.inl ⟨by rfl, ?_⟩) ?_ ?_
                rotate_left
                · intro w'
                  go_simp
                  with_reducible rfl
                rotate_left
                · simp only [Act.put, List.setIfInBounds_toArray, List.set_cons_zero, List.set_cons_succ, i64_w, i32_w]
                  rfl
                refine done_ (done_of HT_.out (by kernel_rfl)) ?_
                go_wp2
                go_roundw
                case rel => exact ⟨k + 1, by go_num, by omega, last', by omega, by omega, ⟨SR, SF, _, _, ps, qs, hR, hF, hk, hd, fun k h => ⟨(h1 k h).1, Nat.lt_of_lt_of_le (h1 k h).2 hsz⟩, fun k h => ⟨(h2 k h).1, Nat.lt_of_lt_of_le (h2 k h).2 hsz⟩⟩, hf⟩
                case measure => simp [intOf]; omega
            · intro K hK
              have e0 : W1.cell? ⟨bw, 0, none⟩ = some (.slice B2 ps.length c2) := by have := hF.blk.cell 0; rw [← hq]; simpa using this
              refine step_value_w (by rfl) (.slice B2 ps.length c2) W1 (by first | (go_simp; done) | (go_simp; rfl)) ?_
              refine hK.out _ _ hHeld (fun hHeld => ?_)
              clear hK K
              refine norm_ (a' := ?_) ?_ ?_
              rotate_left
              · show Act.put _ (some 52) _ = _
                simp only [Act.put, List.setIfInBounds_toArray, List.set_cons_zero, List.set_cons_succ, i64_w, i32_w]
                rfl
              refine one_ (i := 20) (N := some 47) #[true, true, true, true, true, true, true, true, true, true, true, true, true, true, true, true, true, true, true, true, true, false, true, true, true, true, false, false, false] rfl rfl (one_of HT_.out (by kernel_rfl)) (by decide) (fun K hK => ?_)
              refine goes_ Try.func12 (by kernel_rfl) rfl #[.pointer (some ⟨bn, 0, none⟩)] (by rfl) rfl rfl (by (try simp only [List.map_toArray, List.map_cons, List.map_nil]); first | done | rfl) ?_
              refine (all_any SR bn _ ps last' W1 hR).mono ?_
              rintro e W2 ⟨v, rs, rfl, hl2, hcp, hT⟩
              have hpk := copies_rd hcp (fun p hp => (hR.pk p hp).2)
              have hs63 := copies_s63 hl2 hcp.1
              obtain ⟨A5, c5, rfl, hc5, _⟩ := own_slice hcp.2.1
              have hrv : Rd W2 (fun _ => True) 4 A5 rs.length (flat rs) := Rd.of_own hcp.2.1 (fun _ _ => trivial)
              have hSn := hHeld.fr hT (fun h => h.elim)
              have hf := hf.trans hT (fun _ h _ => h)
              have hsz := Nat.le_trans hsz hT.size
              have hR := hR.far hT (fun _ _ _ => id)
              have hF := hF.far hT (fun _ _ _ => id)
              refine ⟨_, rfl, ?_⟩
              rw [hl2]
              refine hK.out _ _ hSn (fun hHeld => ?_)
              clear hK K
              refine norm_ (a' := ?_) ?_ ?_
              rotate_left
              · show Act.put _ (some 47) _ = _
                simp only [Act.put, List.setIfInBounds_toArray, List.set_cons_zero, List.set_cons_succ, i64_w, i32_w]
                rfl
              refine one_ (i := 21) (N := some 48) #[true, true, true, true, true, true, true, true, true, true, true, true, true, true, true, true, true, true, true, true, true, true, true, true, true, true, false, false, false] rfl rfl (one_of HT_.out (by kernel_rfl)) (by decide) (fun K hK => ?_)
              refine goes_ Try.func11 (by kernel_rfl) rfl #[.slice A5 ps.length c5] (by rfl) rfl rfl (by (try simp only [List.map_toArray, List.map_cons, List.map_nil]); first | done | rfl) ?_
              have hpa := packets_any W2 (fun _ => True) A5 c5 rs hrv (by omega) hc5 hpk
              rw [hl2] at hpa
              refine hpa.mono ?_
              rintro e W3 ⟨A', c', rfl, _, hCp, hT⟩
              have hSn := hHeld.fr hT (fun h => h.elim)
              have hf := hf.trans hT (fun _ h _ => h)
              have hsz := Nat.le_trans hsz hT.size
              have hR := hR.far hT (fun _ _ _ => id)
              have hF := hF.far hT (fun _ _ _ => id)
              have hrv := hrv.same (fun k hk => hT.block k hk id)
              have hpk := fun q hq => (hpk q hq).same (fun k hk => hT.block k hk id)
              refine ⟨_, rfl, ?_⟩
              refine hK.out _ _ hSn (fun hHeld => ?_)
              clear hK K
              refine norm_ (a' := ?_) ?_ ?_
              rotate_left
              · show Act.put _ (some 48) _ = _
                simp only [Act.put, List.setIfInBounds_toArray, List.set_cons_zero, List.set_cons_succ, i64_w, i32_w]
                rfl
              refine last_ (i := 26) (N := some 53) #[true, true, true, true, true, true, true, true, true, true, true, true, true, true, true, true, true, true, true, true, true, true, true, true, true, true, true, false, false] rfl rfl (one_of HT_.out (by kernel_rfl)) (by decide) (fun K hK => ?_)
              refine goes_ Try.func10 (by kernel_rfl) rfl #[.slice A' ps.length c', .slice B2 ps.length c2] (by rfl) rfl rfl (by (try simp only [List.map_toArray, List.map_cons, List.map_nil]); first | done | rfl) ?_
              obtain ⟨B3, c3, he, _, hCq⟩ := hF.c63
              injection he with he1 _ he2
              subst he1
              subst he2
              rw [hq, ← key_s63 hk, ← hs63] at hCq
              have hlm : (rs.map Pk.s63).length = ps.length := by rw [List.length_map, hl2]
              have hsa := same_eq W3 A' B2 c' c2 (rs.map Pk.s63) (by omega) (by rw [hlm]; exact hCp) (by rw [hlm]; exact hCq)
              rw [hlm] at hsa
              refine hsa.mono ?_
              rintro e W4 ⟨rfl, hD⟩
              obtain ⟨m, rfl⟩ := hD.out
              have hf := hf.drewN m
              have hR := hR.far ((Fr.refl NoB _).drewN m) (fun _ _ _ => id)
              have hF := hF.far ((Fr.refl NoB _).drewN m) (fun _ _ _ => id)
              refine ⟨_, rfl, ?_⟩
              refine hK.out _ _ ?_
              clear hK K
              refine norm_ (a' := ?_) ?_ ?_
              rotate_left
              · show Act.put _ (some 53) _ = _
                simp only [Act.put, List.setIfInBounds_toArray, List.set_cons_zero, List.set_cons_succ, i64_w, i32_w]
                rfl
              refine pure_ (i := 27) (N := some 54) (v := ?_) (a' := ?_) #[true, true, true, true, true, true, true, true, true, true, true, true, true, true, true, true, true, true, true, true, true, true, true, true, true, true, true, true, false] rfl rfl (any_of HT_.out (by kernel_rfl)) (fun _ _ _ h => h) (Or.inl ⟨by rfl, ?_⟩) ?_ ?_
              rotate_left
              · intro w'
                go_simp
                with_reducible rfl
              rotate_left
              · simp only [Act.put, List.setIfInBounds_toArray, List.set_cons_zero, List.set_cons_succ, i64_w, i32_w]
                rfl
              refine pure_ (i := 28) (N := some 55) (v := ?_) (a' := ?_) #[true, true, true, true, true, true, true, true, true, true, true, true, true, true, true, true, true, true, true, true, true, true, true, true, true, true, true, true, true] rfl rfl (any_of HT_.out (by kernel_rfl)) (fun _ _ _ h => h) (Or.inl ⟨by rfl, ?_⟩) ?_ ?_
              rotate_left
              · intro w'
                go_simp
                with_reducible rfl
              rotate_left
              · simp only [Act.put, List.setIfInBounds_toArray, List.set_cons_zero, List.set_cons_succ, i64_w, i32_w]
                rfl
              refine done_ (done_of HT_.out (by kernel_rfl)) ?_
              go_wp2
              go_roundw
              case rel => exact ⟨k + 1, by go_num, by omega, last', by omega, by omega, ⟨SR, SF, _, _, ps, qs, hR, hF, hk, hd, fun k h => ⟨(h1 k h).1, Nat.lt_of_lt_of_le (h1 k h).2 hsz⟩, fun k h => ⟨(h2 k h).1, Nat.lt_of_lt_of_le (h2 k h).2 hsz⟩⟩, hf⟩
              case measure => simp [intOf]; omega
        · go_wp2
          go_ret
          exact ⟨rfl, by first | exact hfr | exact hfr.drewN _⟩
    | true =>
      go_wp2_with (go_at_call 7; refine (new_any _).mono ?_; rintro e w3 ⟨rfl, hb3, -, hf3⟩)
      have hb4 := (Blk.new w3 30 #[.slice none 0 0, .int .i64 0]).alloc (.cells #[.slice none 0 0, .int .i64 0] 33)
      have hb5 := Blk.new (w3.alloc (.cells #[.slice none 0 0, .int .i64 0] 30)) 33 #[.slice none 0 0, .int .i64 0]
      have s2 := hf2.size
      have s3 := hf3.size
      have hsz : (w3.alloc (.cells #[.slice none 0 0, .int .i64 0] 30)).heap.size = w3.heap.size + 1 := by simp
      rw [hsz] at hb5
      have HP0 := Pair.start (w := w) (a := 0) (b := 0) hb5 hb4 (by omega) (by omega)
      have HF0 := ((hf2.trans hf3 (fun _ h _ => h)).alloc (.cells #[.slice none 0 0, .int .i64 0] 30)).alloc (.cells #[.slice none 0 0, .int .i64 0] 33)
      clear hb3 hb4 hb5 s2 s3  hf3 hsz
      generalize w3.heap.size + 1 = bn at *
      generalize w3.heap.size = bw at *
      generalize ((w3.alloc (.cells #[.slice none 0 0, .int .i64 0] 30)).alloc (.cells #[.slice none 0 0, .int .i64 0] 33)) = W3 at *
      have HP0 := Lib.hid HP0
      have HF0 := Lib.hid HF0
      go_loopw [24] (fun c wr => ∃ k : Nat, c = .int .i64 k ∧ k ≤ l.length ∧ ∃ last : Int, 0 ≤ last ∧ last ≤ k ∧ Pair wr w.heap.size wr.heap.size bn bw last ∧ Fr NoB w wr) (fun c _ => l.length - (intOf c).toNat)
      case atStart => exact ⟨0, rfl, Nat.zero_le _, 0, Int.le_refl _, Int.le_refl _, HP0.out, HF0.out⟩
      case round =>
        obtain ⟨k, rfl, hkl, last, hl0, hl1, hP0, hfr⟩ := hrel
        by_cases hlt : k < l.length
        · have hii : (k : Int) < (l.length : Int) := by omega
          have hi0' : (0 : Int) ≤ (k : Int) := by omega
          obtain ⟨ad, A4, c4, rfl, a0, a1, a2, a3, a4, hc4, h8⟩ := at_T37 HC.out k hi0' hii
          rw [Int.toNat_natCast] at a0 a1 a2 a3 a4
          have hop0 : OpAt w (ad.add (k * 5)) (rd_T37 l k) A4 c4 := ⟨a0, a1, a2, a3, a4⟩
          have hap := hop0.lt
          have hop := hop0.fr hfr id
          have hA4 := hnil ad rfl k _ A4 c4 hlt a4
          have hrd := rd_of_C h8
          have hbx : ∀ u ∈ (rd_T37 l k).f4.map (Value.int .u8), ∃ k : Int, u = .int .u8 k := fun u hu => by
            obtain ⟨z, _, rfl⟩ := List.mem_map.1 hu
            exact ⟨z, rfl⟩
          have hmem : rd_T37 l k ∈ l := by
            have : rd_T37 l k = l[k] := by simp [rd_T37, List.getD, List.getElem?_eq_getElem hlt]
            rw [this]
            exact List.getElem_mem hlt
          have hbl := (HFEW.out).2 _ hmem
          have hl5 := (HFEW.out).1
          have hlast : 0 ≤ last ∧ last < 1000000 := ⟨hl0, by omega⟩
          have hP0 := Lib.hid hP0
          clear a0 a1 a2 a3 a4 hop0 h8
          go_wp2_with fail
          refine start_ (n := 29) (S := fun w' => OpAt w' (ad.add (k * 5)) (rd_T37 l k) A4 c4) (ds := [26]) #[false, false, false, false, false, false, false, false, false, false, false, false, false, false, false, false, false, false, false, false, false, false, false, false, false, false, false, false, false] (by kernel_rfl) rfl rfl (hop.fr ((Fr.refl NoB wr).drew) id) (fun hHeld => ?_)
          refine with_tabW F3.tab9 F3.bits9 (fun HT_ HW_ => ?_)
          have hf := hfr.drew
          have hz0 : wr.heap.size ≤ wr.drew.heap.size := Nat.le_refl _
          have hPair := Lib.hid (hP0.out.far ((Fr.refl NoB wr).drew) (fun _ _ => id))
          generalize wr.drew = W0 at *
          refine pure_ (i := 0) (N := some 27) (v := ?_) (a' := ?_) #[true, false, false, false, false, false, false, false, false, false, false, false, false, false, false, false, false, false, false, false, false, false, false, false, false, false, false, false, false] rfl rfl (any_of HT_.out (by kernel_rfl)) (fun _ _ _ h => h) (Or.inl ⟨by rfl, ?_⟩) ?_ ?_
          rotate_left
          · intro w'
            go_simp
            with_reducible rfl
          rotate_left
          · simp only [Act.put, List.setIfInBounds_toArray, List.set_cons_zero, List.set_cons_succ, i64_w, i32_w]
            rfl
          refine pure_ (i := 1) (N := some 28) (v := ?_) (a' := ?_) #[true, true, false, false, false, false, false, false, false, false, false, false, false, false, false, false, false, false, false, false, false, false, false, false, false, false, false, false, false] rfl rfl (any_of HT_.out (by kernel_rfl)) (fun _ _ _ h => h) (Or.inl ⟨by rfl, ?_⟩) ?_ ?_
          rotate_left
          · intro w'
            go_simp
            with_reducible rfl
          rotate_left
          · simp only [Act.put, List.setIfInBounds_toArray, List.set_cons_zero, List.set_cons_succ, i64_w, i32_w]
            rfl
          refine pure_ (i := 2) (N := some 29) (v := ?_) (a' := ?_) #[true, true, true, false, false, false, false, false, false, false, false, false, false, false, false, false, false, false, false, false, false, false, false, false, false, false, false, false, false] rfl rfl (any_of HT_.out (by kernel_rfl)) (fun _ _ _ h => h) (Or.inl ⟨by rfl, ?_⟩) ?_ ?_
          rotate_left
          · intro w'
            go_simp
            with_reducible rfl
          rotate_left
          · simp only [Act.put, List.setIfInBounds_toArray, List.set_cons_zero, List.set_cons_succ, i64_w, i32_w]
            rfl
          refine pure_ (i := 3) (N := some 30) (v := ?_) (a' := ?_) #[true, true, true, true, false, false, false, false, false, false, false, false, false, false, false, false, false, false, false, false, false, false, false, false, false, false, false, false, false] rfl rfl (any_of HT_.out (by kernel_rfl)) (fun _ _ _ h => h) (Or.inl ⟨by rfl, ?_⟩) ?_ ?_
          rotate_left
          · intro w'
            go_simp
            with_reducible rfl
          rotate_left
          · simp only [Act.put, List.setIfInBounds_toArray, List.set_cons_zero, List.set_cons_succ, i64_w, i32_w]
            rfl
          refine pure_ (i := 4) (N := some 31) (v := ?_) (a' := ?_) #[true, true, true, true, true, false, false, false, false, false, false, false, false, false, false, false, false, false, false, false, false, false, false, false, false, false, false, false, false] rfl rfl (any_of HT_.out (by kernel_rfl)) (fun _ _ _ h => h) (Or.inl ⟨by rfl, ?_⟩) ?_ ?_
          rotate_left
          · intro w'
            go_simp
            with_reducible rfl
          rotate_left
          · simp only [Act.put, List.setIfInBounds_toArray, List.set_cons_zero, List.set_cons_succ, i64_w, i32_w]
            rfl
          refine take_ (i := 5) (N := some 32) (v := ?_) (a' := ?_) #[true, true, true, true, true, true, false, false, false, false, false, false, false, false, false, false, false, false, false, false, false, false, false, false, false, false, false, false, false] rfl rfl (take_ofW HT_.out HW_.out (by kernel_rfl)) (fun _ _ _ h => h) (Or.inl ⟨by rfl, ?_⟩) hHeld ?_ ?_
          rotate_left
          · intro w' hS
            obtain ⟨s0, s1, s2, s3, s4⟩ := hS
            go_simp
            with_reducible rfl
          rotate_left
          · simp only [Act.put, List.setIfInBounds_toArray, List.set_cons_zero, List.set_cons_succ, i64_w, i32_w]
            rfl
          refine one_ (i := 6) (N := some 33) #[true, true, true, true, true, true, true, false, false, false, false, false, false, false, false, false, false, false, false, false, false, false, false, false, false, false, false, false, false] rfl rfl (one_of HT_.out (by kernel_rfl)) (by decide) (fun K hK => ?_)
          refine goes_ Try.func8 (by kernel_rfl) rfl #[.pointer (some ⟨bn, 0, none⟩), .pointer (some ⟨bw, 0, none⟩), .agg #[.int .i64 (rd_T37 l k).f0, .int .i64 (rd_T37 l k).f1, .int .i64 (rd_T37 l k).f2, .int .u8 (rd_T37 l k).f3, .slice A4 (rd_T37 l k).f4.length c4]] (by rfl) rfl rfl (by (try simp only [List.map_toArray, List.map_cons, List.map_nil]); first | done | rfl) ?_
          refine (step_any _ _ _ _ hPair.out ⟨hfr.size, hz0⟩ hlast hA4 (hrd.fr hf (fun _ _ _ => id)) (fun b hb hI => Nat.lt_irrefl _ (Nat.lt_of_lt_of_le hb hI.1)) hbx hbl).mono ?_
          rintro e W1 ⟨rfl, hT, last', l1, l2, hP⟩
          have hSn := hHeld.fr hT (fun hI => Nat.lt_irrefl _ (Nat.lt_of_lt_of_le hap hI.1))
          have hf := hf.trans hT (fun b hb hlt => absurd hlt (Nat.not_lt.2 hb.1))
          obtain ⟨SR, SF, lr, lf, ps, qs, hR, hF, hk, hd, h1, h2⟩ := hP
          have hq := key_len hk
          obtain ⟨B1, c1, rfl, _⟩ := hR.c0
          obtain ⟨B2, c2, rfl, _⟩ := hF.c0
          have hsz : W1.heap.size ≤ W1.heap.size := Nat.le_refl _
          have hfew := hR.few
          refine ⟨_, rfl, ?_⟩
          refine hK.out _ _ hSn (fun hHeld => ?_)
          clear hK K
          refine norm_ (a' := ?_) ?_ ?_
          rotate_left
          · show Act.put _ (some 33) _ = _
            simp only [Act.put, List.setIfInBounds_toArray, List.set_cons_zero, List.set_cons_succ, i64_w, i32_w]
            rfl
          refine pure_ (i := 7) (N := some 34) (v := ?_) (a' := ?_) #[true, true, true, true, true, true, true, true, false, false, false, false, false, false, false, false, false, false, false, false, false, false, false, false, false, false, false, false, false] rfl rfl (any_of HT_.out (by kernel_rfl)) (fun _ _ _ h => h) (Or.inl ⟨by rfl, ?_⟩) ?_ ?_
          rotate_left
          · intro w'
            go_simp
            with_reducible rfl
          rotate_left
          · simp only [Act.put, List.setIfInBounds_toArray, List.set_cons_zero, List.set_cons_succ, i64_w, i32_w]
            rfl
          refine pure_ (i := 8) (N := some 35) (v := ?_) (a' := ?_) #[true, true, true, true, true, true, true, true, true, false, false, false, false, false, false, false, false, false, false, false, false, false, false, false, false, false, false, false, false] rfl rfl (any_of HT_.out (by kernel_rfl)) (fun _ _ _ h => h) (Or.inl ⟨by rfl, ?_⟩) ?_ ?_
          rotate_left
          · intro w'
            go_simp
            with_reducible rfl
          rotate_left
          · simp only [Act.put, List.setIfInBounds_toArray, List.set_cons_zero, List.set_cons_succ, i64_w, i32_w]
            rfl
          refine pure_ (i := 9) (N := some 36) (v := ?_) (a' := ?_) #[true, true, true, true, true, true, true, true, true, true, false, false, false, false, false, false, false, false, false, false, false, false, false, false, false, false, false, false, false] rfl rfl (any_of HT_.out (by kernel_rfl)) (fun _ _ _ h => h) (Or.inl ⟨by rfl, ?_⟩) ?_ ?_
          rotate_left
          · intro w'
            go_simp
            with_reducible rfl
          rotate_left
          · simp only [Act.put, List.setIfInBounds_toArray, List.set_cons_zero, List.set_cons_succ, i64_w, i32_w]
            rfl
          refine pure_ (i := 11) (N := some 38) (v := ?_) (a' := ?_) #[true, true, true, true, true, true, true, true, true, true, false, true, false, false, false, false, false, false, false, false, false, false, false, false, false, false, false, false, false] rfl rfl (any_of HT_.out (by kernel_rfl)) (fun _ _ _ h => h) (Or.inl ⟨by rfl, ?_⟩) ?_ ?_
          rotate_left
          · intro w'
            go_simp
            with_reducible rfl
          rotate_left
          · simp only [Act.put, List.setIfInBounds_toArray, List.set_cons_zero, List.set_cons_succ, i64_w, i32_w]
            rfl
          refine pure_ (i := 12) (N := some 39) (v := ?_) (a' := ?_) #[true, true, true, true, true, true, true, true, true, true, false, true, true, false, false, false, false, false, false, false, false, false, false, false, false, false, false, false, false] rfl rfl (any_of HT_.out (by kernel_rfl)) (fun _ _ _ h => h) (Or.inl ⟨by rfl, ?_⟩) ?_ ?_
          rotate_left
          · intro w'
            go_simp
            with_reducible rfl
          rotate_left
          · simp only [Act.put, List.setIfInBounds_toArray, List.set_cons_zero, List.set_cons_succ, i64_w, i32_w]
            rfl
          refine pure_ (i := 13) (N := some 40) (v := ?_) (a' := ?_) #[true, true, true, true, true, true, true, true, true, true, false, true, true, true, false, false, false, false, false, false, false, false, false, false, false, false, false, false, false] rfl rfl (any_of HT_.out (by kernel_rfl)) (fun _ _ _ h => h) (Or.inl ⟨by rfl, ?_⟩) ?_ ?_
          rotate_left
          · intro w'
            go_simp
            with_reducible rfl
          rotate_left
          · simp only [Act.put, List.setIfInBounds_toArray, List.set_cons_zero, List.set_cons_succ, i64_w, i32_w]
            rfl
          refine two_ (i := 10) (j := 14) (Ni := some 37) (Nj := some 41) #[true, true, true, true, true, true, true, true, true, true, true, true, true, true, false, false, false, false, false, false, false, false, false, false, false, false, false, false, false] #[true, true, true, true, true, true, true, true, true, true, false, true, true, true, true, false, false, false, false, false, false, false, false, false, false, false, false, false, false] rfl rfl rfl rfl (two_of HT_.out (by kernel_rfl)) (by decide) (by decide) ?_ ?_
          · intro K hK
            have d0 : W1.cell? ⟨bn, 0, none⟩ = some (.slice B1 ps.length c1) := by have := hR.blk.cell 0; simpa using this
            refine goes_ Try.func9 (by kernel_rfl) rfl #[.pointer (some ⟨bn, 0, none⟩)] (by rfl) rfl rfl (by (try simp only [List.map_toArray, List.map_cons, List.map_nil]); first | done | rfl) ?_
            refine (len_any _ _ _ _ _ d0).mono ?_
            rintro e w' ⟨rfl, rfl⟩
            refine ⟨_, rfl, ?_⟩
            refine hK.out _ _ hHeld (fun hHeld => ?_)
            clear hK K
            refine norm_ (a' := ?_) ?_ ?_
            rotate_left
            · show Act.put _ (some 37) _ = _
              simp only [Act.put, List.setIfInBounds_toArray, List.set_cons_zero, List.set_cons_succ, i64_w, i32_w]
              rfl
            refine one_ (i := 14) (N := some 41) #[true, true, true, true, true, true, true, true, true, true, true, true, true, true, true, false, false, false, false, false, false, false, false, false, false, false, false, false, false] rfl rfl (one_of HT_.out (by kernel_rfl)) (by decide) (fun K hK => ?_)
            have e0 : W1.cell? ⟨bw, 0, none⟩ = some (.slice B2 ps.length c2) := by have := hF.blk.cell 0; rw [← hq]; simpa using this
            refine step_value_w (by rfl) (.slice B2 ps.length c2) W1 (by first | (go_simp; done) | (go_simp; rfl)) ?_
            refine hK.out _ _ hHeld (fun hHeld => ?_)
            clear hK K
            refine norm_ (a' := ?_) ?_ ?_
            rotate_left
            · show Act.put _ (some 41) _ = _
              simp only [Act.put, List.setIfInBounds_toArray, List.set_cons_zero, List.set_cons_succ, i64_w, i32_w]
              rfl
            refine pure_ (i := 15) (N := some 42) (v := ?_) (a' := ?_) #[true, true, true, true, true, true, true, true, true, true, true, true, true, true, true, true, false, false, false, false, false, false, false, false, false, false, false, false, false] rfl rfl (any_of HT_.out (by kernel_rfl)) (fun _ _ _ h => h) (Or.inl ⟨by rfl, ?_⟩) ?_ ?_
            rotate_left
            · intro w'
              go_simp
              with_reducible rfl
            rotate_left
            · simp only [Act.put, List.setIfInBounds_toArray, List.set_cons_zero, List.set_cons_succ, i64_w, i32_w]
              rfl
            refine pure_ (i := 16) (N := some 43) (v := ?_) (a' := ?_) #[true, true, true, true, true, true, true, true, true, true, true, true, true, true, true, true, true, false, false, false, false, false, false, false, false, false, false, false, false] rfl rfl (any_of HT_.out (by kernel_rfl)) (fun _ _ _ h => h) (Or.inl ⟨by rfl, ?_⟩) ?_ ?_
            rotate_left
            · intro w'
              go_simp
              with_reducible rfl
            rotate_left
            · simp only [Act.put, List.setIfInBounds_toArray, List.set_cons_zero, List.set_cons_succ, i64_w, i32_w]
              rfl
            refine pure_ (i := 17) (N := some 44) (v := ?_) (a' := ?_) #[true, true, true, true, true, true, true, true, true, true, true, true, true, true, true, true, true, true, false, false, false, false, false, false, false, false, false, false, false] rfl rfl (any_of HT_.out (by kernel_rfl)) (fun _ _ _ h => h) (Or.inl ⟨by rfl, ?_⟩) ?_ ?_
            rotate_left
            · intro w'
              go_simp
              with_reducible rfl
            rotate_left
            · simp only [Act.put, List.setIfInBounds_toArray, List.set_cons_zero, List.set_cons_succ, i64_w, i32_w]
              rfl
            refine pure_ (i := 18) (N := some 45) (v := ?_) (a' := ?_) #[true, true, true, true, true, true, true, true, true, true, true, true, true, true, true, true, true, true, true, false, false, false, false, false, false, false, false, false, false] rfl rfl (any_of HT_.out (by kernel_rfl)) (fun _ _ _ h => h) (Or.inl ⟨by rfl, ?_⟩) ?_ ?_
            rotate_left
            · intro w'
              go_simp
              with_reducible rfl
            rotate_left
            · simp only [Act.put, List.setIfInBounds_toArray, List.set_cons_zero, List.set_cons_succ, i64_w, i32_w]
              rfl
            refine pure_ (i := 19) (N := some 46) (v := ?_) (a' := ?_) #[true, true, true, true, true, true, true, true, true, true, true, true, true, true, true, true, true, true, true, true, false, false, false, false, false, false, false, false, false] rfl rfl (any_of HT_.out (by kernel_rfl)) (fun _ _ _ h => h) (Or.inl ⟨by rfl, ?_⟩) ?_ ?_
            rotate_left
            · intro w'
              go_simp
              with_reducible rfl
            rotate_left
            · simp only [Act.put, List.setIfInBounds_toArray, List.set_cons_zero, List.set_cons_succ, i64_w, i32_w]
              rfl
            refine pure_ (i := 22) (N := some 49) (v := ?_) (a' := ?_) #[true, true, true, true, true, true, true, true, true, true, true, true, true, true, true, true, true, true, true, true, false, false, true, false, false, false, false, false, false] rfl rfl (any_of HT_.out (by kernel_rfl)) (fun _ _ _ h => h) (Or.inl ⟨by rfl, ?_⟩) ?_ ?_
            rotate_left
            · intro w'
              go_simp
              with_reducible rfl
            rotate_left
            · simp only [Act.put, List.setIfInBounds_toArray, List.set_cons_zero, List.set_cons_succ, i64_w, i32_w]
              rfl
            refine pure_ (i := 23) (N := some 50) (v := ?_) (a' := ?_) #[true, true, true, true, true, true, true, true, true, true, true, true, true, true, true, true, true, true, true, true, false, false, true, true, false, false, false, false, false] rfl rfl (any_of HT_.out (by kernel_rfl)) (fun _ _ _ h => h) (Or.inl ⟨by rfl, ?_⟩) ?_ ?_
            rotate_left
            · intro w'
              go_simp
              with_reducible rfl
            rotate_left
            · simp only [Act.put, List.setIfInBounds_toArray, List.set_cons_zero, List.set_cons_succ, i64_w, i32_w]
              rfl
            refine pure_ (i := 24) (N := some 51) (v := ?_) (a' := ?_) #[true, true, true, true, true, true, true, true, true, true, true, true, true, true, true, true, true, true, true, true, false, false, true, true, true, false, false, false, false] rfl rfl (any_of HT_.out (by kernel_rfl)) (fun _ _ _ h => h) (Or.inl ⟨by rfl, ?_⟩) ?_ ?_
            rotate_left
            · intro w'
              go_simp
              with_reducible rfl
            rotate_left
            · simp only [Act.put, List.setIfInBounds_toArray, List.set_cons_zero, List.set_cons_succ, i64_w, i32_w]
              rfl
            refine two_ (i := 20) (j := 25) (Ni := some 47) (Nj := some 52) #[true, true, true, true, true, true, true, true, true, true, true, true, true, true, true, true, true, true, true, true, true, false, true, true, true, false, false, false, false] #[true, true, true, true, true, true, true, true, true, true, true, true, true, true, true, true, true, true, true, true, false, false, true, true, true, true, false, false, false] rfl rfl rfl rfl (two_of HT_.out (by kernel_rfl)) (by decide) (by decide) ?_ ?_
            · intro K hK
              refine goes_ Try.func12 (by kernel_rfl) rfl #[.pointer (some ⟨bn, 0, none⟩)] (by rfl) rfl rfl (by (try simp only [List.map_toArray, List.map_cons, List.map_nil]); first | done | rfl) ?_
              refine (all_any SR bn _ ps last' W1 hR).mono ?_
              rintro e W2 ⟨v, rs, rfl, hl2, hcp, hT⟩
              have hpk := copies_rd hcp (fun p hp => (hR.pk p hp).2)
              have hs63 := copies_s63 hl2 hcp.1
              obtain ⟨A5, c5, rfl, hc5, _⟩ := own_slice hcp.2.1
              have hrv : Rd W2 (fun _ => True) 4 A5 rs.length (flat rs) := Rd.of_own hcp.2.1 (fun _ _ => trivial)
              have hSn := hHeld.fr hT (fun h => h.elim)
              have hf := hf.trans hT (fun _ h _ => h)
              have hsz := Nat.le_trans hsz hT.size
              have hR := hR.far hT (fun _ _ _ => id)
              have hF := hF.far hT (fun _ _ _ => id)
              refine ⟨_, rfl, ?_⟩
              rw [hl2]
              refine hK.out _ _ hSn (fun hHeld => ?_)
              clear hK K
              refine norm_ (a' := ?_) ?_ ?_
              rotate_left
              · show Act.put _ (some 47) _ = _
                simp only [Act.put, List.setIfInBounds_toArray, List.set_cons_zero, List.set_cons_succ, i64_w, i32_w]
                rfl
              refine two_ (i := 21) (j := 25) (Ni := some 48) (Nj := some 52) #[true, true, true, true, true, true, true, true, true, true, true, true, true, true, true, true, true, true, true, true, true, true, true, true, true, false, false, false, false] #[true, true, true, true, true, true, true, true, true, true, true, true, true, true, true, true, true, true, true, true, true, false, true, true, true, true, false, false, false] rfl rfl rfl rfl (two_of HT_.out (by kernel_rfl)) (by decide) (by decide) ?_ ?_
              · intro K hK
                refine goes_ Try.func11 (by kernel_rfl) rfl #[.slice A5 ps.length c5] (by rfl) rfl rfl (by (try simp only [List.map_toArray, List.map_cons, List.map_nil]); first | done | rfl) ?_
                have hpa := packets_any W2 (fun _ => True) A5 c5 rs hrv (by omega) hc5 hpk
                rw [hl2] at hpa
                refine hpa.mono ?_
                rintro e W3 ⟨A', c', rfl, _, hCp, hT⟩
                have hSn := hHeld.fr hT (fun h => h.elim)
                have hf := hf.trans hT (fun _ h _ => h)
                have hsz := Nat.le_trans hsz hT.size
                have hR := hR.far hT (fun _ _ _ => id)
                have hF := hF.far hT (fun _ _ _ => id)
                have hrv := hrv.same (fun k hk => hT.block k hk id)
                have hpk := fun q hq => (hpk q hq).same (fun k hk => hT.block k hk id)
                refine ⟨_, rfl, ?_⟩
                refine hK.out _ _ hSn (fun hHeld => ?_)
                clear hK K
                refine norm_ (a' := ?_) ?_ ?_
                rotate_left
                · show Act.put _ (some 48) _ = _
                  simp only [Act.put, List.setIfInBounds_toArray, List.set_cons_zero, List.set_cons_succ, i64_w, i32_w]
                  rfl
                refine one_ (i := 25) (N := some 52) #[true, true, true, true, true, true, true, true, true, true, true, true, true, true, true, true, true, true, true, true, true, true, true, true, true, true, false, false, false] rfl rfl (one_of HT_.out (by kernel_rfl)) (by decide) (fun K hK => ?_)
                have e0 : W3.cell? ⟨bw, 0, none⟩ = some (.slice B2 ps.length c2) := by have := hF.blk.cell 0; rw [← hq]; simpa using this
                refine step_value_w (by rfl) (.slice B2 ps.length c2) W3 (by first | (go_simp; done) | (go_simp; rfl)) ?_
                refine hK.out _ _ hHeld (fun hHeld => ?_)
                clear hK K
                refine norm_ (a' := ?_) ?_ ?_
                rotate_left
                · show Act.put _ (some 52) _ = _
                  simp only [Act.put, List.setIfInBounds_toArray, List.set_cons_zero, List.set_cons_succ, i64_w, i32_w]
                  rfl
                refine last_ (i := 26) (N := some 53) #[true, true, true, true, true, true, true, true, true, true, true, true, true, true, true, true, true, true, true, true, true, true, true, true, true, true, true, false, false] rfl rfl (one_of HT_.out (by kernel_rfl)) (by decide) (fun K hK => ?_)
                refine goes_ Try.func10 (by kernel_rfl) rfl #[.slice A' ps.length c', .slice B2 ps.length c2] (by rfl) rfl rfl (by (try simp only [List.map_toArray, List.map_cons, List.map_nil]); first | done | rfl) ?_
                obtain ⟨B3, c3, he, _, hCq⟩ := hF.c63
                injection he with he1 _ he2
                subst he1
                subst he2
                rw [hq, ← key_s63 hk, ← hs63] at hCq
                have hlm : (rs.map Pk.s63).length = ps.length := by rw [List.length_map, hl2]
                have hsa := same_eq W3 A' B2 c' c2 (rs.map Pk.s63) (by omega) (by rw [hlm]; exact hCp) (by rw [hlm]; exact hCq)
                rw [hlm] at hsa
                refine hsa.mono ?_
                rintro e W4 ⟨rfl, hD⟩
                obtain ⟨m, rfl⟩ := hD.out
                have hf := hf.drewN m
                have hR := hR.far ((Fr.refl NoB _).drewN m) (fun _ _ _ => id)
                have hF := hF.far ((Fr.refl NoB _).drewN m) (fun _ _ _ => id)
                refine ⟨_, rfl, ?_⟩
                refine hK.out _ _ ?_
                clear hK K
                refine norm_ (a' := ?_) ?_ ?_
                rotate_left
                · show Act.put _ (some 53) _ = _
                  simp only [Act.put, List.setIfInBounds_toArray, List.set_cons_zero, List.set_cons_succ, i64_w, i32_w]
                  rfl
                refine pure_ (i := 27) (N := some 54) (v := ?_) (a' := ?_) #[true, true, true, true, true, true, true, true, true, true, true, true, true, true, true, true, true, true, true, true, true, true, true, true, true, true, true, true, false] rfl rfl (any_of HT_.out (by kernel_rfl)) (fun _ _ _ h => h) (Or.inl ⟨by rfl, ?_⟩) ?_ ?_
                rotate_left
                · intro w'
                  go_simp
                  with_reducible rfl
                rotate_left
                · simp only [Act.put, List.setIfInBounds_toArray, List.set_cons_zero, List.set_cons_succ, i64_w, i32_w]
                  rfl
                refine pure_ (i := 28) (N := some 55) (v := ?_) (a' := ?_) #[true, true, true, true, true, true, true, true, true, true, true, true, true, true, true, true, true, true, true, true, true, true, true, true, true, true, true, true, true] rfl rfl (any_of HT_.out (by kernel_rfl)) (fun _ _ _ h => h) (Or.inl ⟨by rfl, ?_⟩) ?_ ?_
                rotate_left
                · intro w'
                  go_simp
                  with_reducible rfl
                rotate_left
                · simp only [Act.put, List.setIfInBounds_toArray, List.set_cons_zero, List.set_cons_succ, i64_w, i32_w]
                  rfl
                refine done_ (done_of HT_.out (by kernel_rfl)) ?_
                go_wp2
                go_roundw
                case rel => exact ⟨k + 1, by go_num, by omega, last', by omega, by omega, ⟨SR, SF, _, _, ps, qs, hR, hF, hk, hd, fun k h => ⟨(h1 k h).1, Nat.lt_of_lt_of_le (h1 k h).2 hsz⟩, fun k h => ⟨(h2 k h).1, Nat.lt_of_lt_of_le (h2 k h).2 hsz⟩⟩, hf⟩
                case measure => simp [intOf]; omega
              · intro K hK
                have e0 : W2.cell? ⟨bw, 0, none⟩ = some (.slice B2 ps.length c2) := by have := hF.blk.cell 0; rw [← hq]; simpa using this
                refine step_value_w (by rfl) (.slice B2 ps.length c2) W2 (by first | (go_simp; done) | (go_simp; rfl)) ?_
                refine hK.out _ _ hHeld (fun hHeld => ?_)
                clear hK K
                refine norm_ (a' := ?_) ?_ ?_
                rotate_left
                · show Act.put _ (some 52) _ = _
                  simp only [Act.put, List.setIfInBounds_toArray, List.set_cons_zero, List.set_cons_succ, i64_w, i32_w]
                  rfl
                refine one_ (i := 21) (N := some 48) #[true, true, true, true, true, true, true, true, true, true, true, true, true, true, true, true, true, true, true, true, true, true, true, true, true, true, false, false, false] rfl rfl (one_of HT_.out (by kernel_rfl)) (by decide) (fun K hK => ?_)
                refine goes_ Try.func11 (by kernel_rfl) rfl #[.slice A5 ps.length c5] (by rfl) rfl rfl (by (try simp only [List.map_toArray, List.map_cons, List.map_nil]); first | done | rfl) ?_
                have hpa := packets_any W2 (fun _ => True) A5 c5 rs hrv (by omega) hc5 hpk
                rw [hl2] at hpa
                refine hpa.mono ?_
                rintro e W3 ⟨A', c', rfl, _, hCp, hT⟩
                have hSn := hHeld.fr hT (fun h => h.elim)
                have hf := hf.trans hT (fun _ h _ => h)
                have hsz := Nat.le_trans hsz hT.size
                have hR := hR.far hT (fun _ _ _ => id)
                have hF := hF.far hT (fun _ _ _ => id)
                have hrv := hrv.same (fun k hk => hT.block k hk id)
                have hpk := fun q hq => (hpk q hq).same (fun k hk => hT.block k hk id)
                refine ⟨_, rfl, ?_⟩
                refine hK.out _ _ hSn (fun hHeld => ?_)
                clear hK K
                refine norm_ (a' := ?_) ?_ ?_
                rotate_left
                · show Act.put _ (some 48) _ = _
                  simp only [Act.put, List.setIfInBounds_toArray, List.set_cons_zero, List.set_cons_succ, i64_w, i32_w]
                  rfl
                refine last_ (i := 26) (N := some 53) #[true, true, true, true, true, true, true, true, true, true, true, true, true, true, true, true, true, true, true, true, true, true, true, true, true, true, true, false, false] rfl rfl (one_of HT_.out (by kernel_rfl)) (by decide) (fun K hK => ?_)
                refine goes_ Try.func10 (by kernel_rfl) rfl #[.slice A' ps.length c', .slice B2 ps.length c2] (by rfl) rfl rfl (by (try simp only [List.map_toArray, List.map_cons, List.map_nil]); first | done | rfl) ?_
                obtain ⟨B3, c3, he, _, hCq⟩ := hF.c63
                injection he with he1 _ he2
                subst he1
                subst he2
                rw [hq, ← key_s63 hk, ← hs63] at hCq
                have hlm : (rs.map Pk.s63).length = ps.length := by rw [List.length_map, hl2]
                have hsa := same_eq W3 A' B2 c' c2 (rs.map Pk.s63) (by omega) (by rw [hlm]; exact hCp) (by rw [hlm]; exact hCq)
                rw [hlm] at hsa
                refine hsa.mono ?_
                rintro e W4 ⟨rfl, hD⟩
                obtain ⟨m, rfl⟩ := hD.out
                have hf := hf.drewN m
                have hR := hR.far ((Fr.refl NoB _).drewN m) (fun _ _ _ => id)
                have hF := hF.far ((Fr.refl NoB _).drewN m) (fun _ _ _ => id)
                refine ⟨_, rfl, ?_⟩
                refine hK.out _ _ ?_
                clear hK K
                refine norm_ (a' := ?_) ?_ ?_
                rotate_left
                · show Act.put _ (some 53) _ = _
                  simp only [Act.put, List.setIfInBounds_toArray, List.set_cons_zero, List.set_cons_succ, i64_w, i32_w]
                  rfl
                refine pure_ (i := 27) (N := some 54) (v := ?_) (a' := ?_) #[true, true, true, true, true, true, true, true, true, true, true, true, true, true, true, true, true, true, true, true, true, true, true, true, true, true, true, true, false] rfl rfl (any_of HT_.out (by kernel_rfl)) (fun _ _ _ h => h) (Or.inl ⟨by rfl, ?_⟩) ?_ ?_
                rotate_left
                · intro w'
                  go_simp
                  with_reducible rfl
                rotate_left
                · simp only [Act.put, List.setIfInBounds_toArray, List.set_cons_zero, List.set_cons_succ, i64_w, i32_w]
                  rfl
                refine pure_ (i := 28) (N := some 55) (v := ?_) (a' := ?_) #[true, true, true, true, true, true, true, true, true, true, true, true, true, true, true, true, true, true, true, true, true, true, true, true, true, true, true, true, true] rfl rfl (any_of HT_.out (by kernel_rfl)) (fun _ _ _ h => h) (Or.inl ⟨by rfl, ?_⟩) ?_ ?_
                rotate_left
                · intro w'
                  go_simp
                  with_reducible rfl
                rotate_left
                · simp only [Act.put, List.setIfInBounds_toArray, List.set_cons_zero, List.set_cons_succ, i64_w, i32_w]
                  rfl
                refine done_ (done_of HT_.out (by kernel_rfl)) ?_
                go_wp2
                go_roundw
                case rel => exact ⟨k + 1, by go_num, by omega, last', by omega, by omega, ⟨SR, SF, _, _, ps, qs, hR, hF, hk, hd, fun k h => ⟨(h1 k h).1, Nat.lt_of_lt_of_le (h1 k h).2 hsz⟩, fun k h => ⟨(h2 k h).1, Nat.lt_of_lt_of_le (h2 k h).2 hsz⟩⟩, hf⟩
                case measure => simp [intOf]; omega
            · intro K hK
              have e0 : W1.cell? ⟨bw, 0, none⟩ = some (.slice B2 ps.length c2) := by have := hF.blk.cell 0; rw [← hq]; simpa using this
              refine step_value_w (by rfl) (.slice B2 ps.length c2) W1 (by first | (go_simp; done) | (go_simp; rfl)) ?_
              refine hK.out _ _ hHeld (fun hHeld => ?_)
              clear hK K
              refine norm_ (a' := ?_) ?_ ?_
              rotate_left
              · show Act.put _ (some 52) _ = _
                simp only [Act.put, List.setIfInBounds_toArray, List.set_cons_zero, List.set_cons_succ, i64_w, i32_w]
                rfl
              refine one_ (i := 20) (N := some 47) #[true, true, true, true, true, true, true, true, true, true, true, true, true, true, true, true, true, true, true, true, true, false, true, true, true, true, false, false, false] rfl rfl (one_of HT_.out (by kernel_rfl)) (by decide) (fun K hK => ?_)
              refine goes_ Try.func12 (by kernel_rfl) rfl #[.pointer (some ⟨bn, 0, none⟩)] (by rfl) rfl rfl (by (try simp only [List.map_toArray, List.map_cons, List.map_nil]); first | done | rfl) ?_
              refine (all_any SR bn _ ps last' W1 hR).mono ?_
              rintro e W2 ⟨v, rs, rfl, hl2, hcp, hT⟩
              have hpk := copies_rd hcp (fun p hp => (hR.pk p hp).2)
              have hs63 := copies_s63 hl2 hcp.1
              obtain ⟨A5, c5, rfl, hc5, _⟩ := own_slice hcp.2.1
              have hrv : Rd W2 (fun _ => True) 4 A5 rs.length (flat rs) := Rd.of_own hcp.2.1 (fun _ _ => trivial)
              have hSn := hHeld.fr hT (fun h => h.elim)
              have hf := hf.trans hT (fun _ h _ => h)
              have hsz := Nat.le_trans hsz hT.size
              have hR := hR.far hT (fun _ _ _ => id)
              have hF := hF.far hT (fun _ _ _ => id)
              refine ⟨_, rfl, ?_⟩
              rw [hl2]
              refine hK.out _ _ hSn (fun hHeld => ?_)
              clear hK K
              refine norm_ (a' := ?_) ?_ ?_
              rotate_left
              · show Act.put _ (some 47) _ = _
                simp only [Act.put, List.setIfInBounds_toArray, List.set_cons_zero, List.set_cons_succ, i64_w, i32_w]
                rfl
              refine one_ (i := 21) (N := some 48) #[true, true, true, true, true, true, true, true, true, true, true, true, true, true, true, true, true, true, true, true, true, true, true, true, true, true, false, false, false] rfl rfl (one_of HT_.out (by kernel_rfl)) (by decide) (fun K hK => ?_)
              refine goes_ Try.func11 (by kernel_rfl) rfl #[.slice A5 ps.length c5] (by rfl) rfl rfl (by (try simp only [List.map_toArray, List.map_cons, List.map_nil]); first | done | rfl) ?_
              have hpa := packets_any W2 (fun _ => True) A5 c5 rs hrv (by omega) hc5 hpk
              rw [hl2] at hpa
              refine hpa.mono ?_
              rintro e W3 ⟨A', c', rfl, _, hCp, hT⟩
              have hSn := hHeld.fr hT (fun h => h.elim)
              have hf := hf.trans hT (fun _ h _ => h)
              have hsz := Nat.le_trans hsz hT.size
              have hR := hR.far hT (fun _ _ _ => id)
              have hF := hF.far hT (fun _ _ _ => id)
              have hrv := hrv.same (fun k hk => hT.block k hk id)
              have hpk := fun q hq => (hpk q hq).same (fun k hk => hT.block k hk id)
              refine ⟨_, rfl, ?_⟩
              refine hK.out _ _ hSn (fun hHeld => ?_)
              clear hK K
              refine norm_ (a' := ?_) ?_ ?_
              rotate_left
              · show Act.put _ (some 48) _ = _
                simp only [Act.put, List.setIfInBounds_toArray, List.set_cons_zero, List.set_cons_succ, i64_w, i32_w]
                rfl
              refine last_ (i := 26) (N := some 53) #[true, true, true, true, true, true, true, true, true, true, true, true, true, true, true, true, true, true, true, true, true, true, true, true, true, true, true, false, false] rfl rfl (one_of HT_.out (by kernel_rfl)) (by decide) (fun K hK => ?_)
              refine goes_ Try.func10 (by kernel_rfl) rfl #[.slice A' ps.length c', .slice B2 ps.length c2] (by rfl) rfl rfl (by (try simp only [List.map_toArray, List.map_cons, List.map_nil]); first | done | rfl) ?_
              obtain ⟨B3, c3, he, _, hCq⟩ := hF.c63
              injection he with he1 _ he2
              subst he1
              subst he2
              rw [hq, ← key_s63 hk, ← hs63] at hCq
              have hlm : (rs.map Pk.s63).length = ps.length := by rw [List.length_map, hl2]
              have hsa := same_eq W3 A' B2 c' c2 (rs.map Pk.s63) (by omega) (by rw [hlm]; exact hCp) (by rw [hlm]; exact hCq)
              rw [hlm] at hsa
              refine hsa.mono ?_
              rintro e W4 ⟨rfl, hD⟩
              obtain ⟨m, rfl⟩ := hD.out
              have hf := hf.drewN m
              have hR := hR.far ((Fr.refl NoB _).drewN m) (fun _ _ _ => id)
              have hF := hF.far ((Fr.refl NoB _).drewN m) (fun _ _ _ => id)
              refine ⟨_, rfl, ?_⟩
              refine hK.out _ _ ?_
              clear hK K
              refine norm_ (a' := ?_) ?_ ?_
              rotate_left
              · show Act.put _ (some 53) _ = _
                simp only [Act.put, List.setIfInBounds_toArray, List.set_cons_zero, List.set_cons_succ, i64_w, i32_w]
                rfl
              refine pure_ (i := 27) (N := some 54) (v := ?_) (a' := ?_) #[true, true, true, true, true, true, true, true, true, true, true, true, true, true, true, true, true, true, true, true, true, true, true, true, true, true, true, true, false] rfl rfl (any_of HT_.out (by kernel_rfl)) (fun _ _ _ h => h) (Or.inl ⟨by rfl, ?_⟩) ?_ ?_
              rotate_left
              · intro w'
                go_simp
                with_reducible rfl
              rotate_left
              · simp only [Act.put, List.setIfInBounds_toArray, List.set_cons_zero, List.set_cons_succ, i64_w, i32_w]
                rfl
              refine pure_ (i := 28) (N := some 55) (v := ?_) (a' := ?_) #[true, true, true, true, true, true, true, true, true, true, true, true, true, true, true, true, true, true, true, true, true, true, true, true, true, true, true, true, true] rfl rfl (any_of HT_.out (by kernel_rfl)) (fun _ _ _ h => h) (Or.inl ⟨by rfl, ?_⟩) ?_ ?_
              rotate_left
              · intro w'
                go_simp
                with_reducible rfl
              rotate_left
              · simp only [Act.put, List.setIfInBounds_toArray, List.set_cons_zero, List.set_cons_succ, i64_w, i32_w]
                rfl
              refine done_ (done_of HT_.out (by kernel_rfl)) ?_
              go_wp2
              go_roundw
              case rel => exact ⟨k + 1, by go_num, by omega, last', by omega, by omega, ⟨SR, SF, _, _, ps, qs, hR, hF, hk, hd, fun k h => ⟨(h1 k h).1, Nat.lt_of_lt_of_le (h1 k h).2 hsz⟩, fun k h => ⟨(h2 k h).1, Nat.lt_of_lt_of_le (h2 k h).2 hsz⟩⟩, hf⟩
              case measure => simp [intOf]; omega
          · intro K hK
            have e0 : W1.cell? ⟨bw, 0, none⟩ = some (.slice B2 ps.length c2) := by have := hF.blk.cell 0; rw [← hq]; simpa using this
            refine step_value_w (by rfl) (.slice B2 ps.length c2) W1 (by first | (go_simp; done) | (go_simp; rfl)) ?_
            refine hK.out _ _ hHeld (fun hHeld => ?_)
            clear hK K
            refine norm_ (a' := ?_) ?_ ?_
            rotate_left
            · show Act.put _ (some 41) _ = _
              simp only [Act.put, List.setIfInBounds_toArray, List.set_cons_zero, List.set_cons_succ, i64_w, i32_w]
              rfl
            refine pure_ (i := 15) (N := some 42) (v := ?_) (a' := ?_) #[true, true, true, true, true, true, true, true, true, true, false, true, true, true, true, true, false, false, false, false, false, false, false, false, false, false, false, false, false] rfl rfl (any_of HT_.out (by kernel_rfl)) (fun _ _ _ h => h) (Or.inl ⟨by rfl, ?_⟩) ?_ ?_
            rotate_left
            · intro w'
              go_simp
              with_reducible rfl
            rotate_left
            · simp only [Act.put, List.setIfInBounds_toArray, List.set_cons_zero, List.set_cons_succ, i64_w, i32_w]
              rfl
            refine one_ (i := 10) (N := some 37) #[true, true, true, true, true, true, true, true, true, true, true, true, true, true, true, true, false, false, false, false, false, false, false, false, false, false, false, false, false] rfl rfl (one_of HT_.out (by kernel_rfl)) (by decide) (fun K hK => ?_)
            have d0 : W1.cell? ⟨bn, 0, none⟩ = some (.slice B1 ps.length c1) := by have := hR.blk.cell 0; simpa using this
            refine goes_ Try.func9 (by kernel_rfl) rfl #[.pointer (some ⟨bn, 0, none⟩)] (by rfl) rfl rfl (by (try simp only [List.map_toArray, List.map_cons, List.map_nil]); first | done | rfl) ?_
            refine (len_any _ _ _ _ _ d0).mono ?_
            rintro e w' ⟨rfl, rfl⟩
            refine ⟨_, rfl, ?_⟩
            refine hK.out _ _ hHeld (fun hHeld => ?_)
            clear hK K
            refine norm_ (a' := ?_) ?_ ?_
            rotate_left
            · show Act.put _ (some 37) _ = _
              simp only [Act.put, List.setIfInBounds_toArray, List.set_cons_zero, List.set_cons_succ, i64_w, i32_w]
              rfl
            refine pure_ (i := 16) (N := some 43) (v := ?_) (a' := ?_) #[true, true, true, true, true, true, true, true, true, true, true, true, true, true, true, true, true, false, false, false, false, false, false, false, false, false, false, false, false] rfl rfl (any_of HT_.out (by kernel_rfl)) (fun _ _ _ h => h) (Or.inl ⟨by rfl, ?_⟩) ?_ ?_
            rotate_left
            · intro w'
              go_simp
              with_reducible rfl
            rotate_left
            · simp only [Act.put, List.setIfInBounds_toArray, List.set_cons_zero, List.set_cons_succ, i64_w, i32_w]
              rfl
            refine pure_ (i := 17) (N := some 44) (v := ?_) (a' := ?_) #[true, true, true, true, true, true, true, true, true, true, true, true, true, true, true, true, true, true, false, false, false, false, false, false, false, false, false, false, false] rfl rfl (any_of HT_.out (by kernel_rfl)) (fun _ _ _ h => h) (Or.inl ⟨by rfl, ?_⟩) ?_ ?_
            rotate_left
            · intro w'
              go_simp
              with_reducible rfl
            rotate_left
            · simp only [Act.put, List.setIfInBounds_toArray, List.set_cons_zero, List.set_cons_succ, i64_w, i32_w]
              rfl
            refine pure_ (i := 18) (N := some 45) (v := ?_) (a' := ?_) #[true, true, true, true, true, true, true, true, true, true, true, true, true, true, true, true, true, true, true, false, false, false, false, false, false, false, false, false, false] rfl rfl (any_of HT_.out (by kernel_rfl)) (fun _ _ _ h => h) (Or.inl ⟨by rfl, ?_⟩) ?_ ?_
            rotate_left
            · intro w'
              go_simp
              with_reducible rfl
            rotate_left
            · simp only [Act.put, List.setIfInBounds_toArray, List.set_cons_zero, List.set_cons_succ, i64_w, i32_w]
              rfl
            refine pure_ (i := 19) (N := some 46) (v := ?_) (a' := ?_) #[true, true, true, true, true, true, true, true, true, true, true, true, true, true, true, true, true, true, true, true, false, false, false, false, false, false, false, false, false] rfl rfl (any_of HT_.out (by kernel_rfl)) (fun _ _ _ h => h) (Or.inl ⟨by rfl, ?_⟩) ?_ ?_
            rotate_left
            · intro w'
              go_simp
              with_reducible rfl
            rotate_left
            · simp only [Act.put, List.setIfInBounds_toArray, List.set_cons_zero, List.set_cons_succ, i64_w, i32_w]
              rfl
            refine pure_ (i := 22) (N := some 49) (v := ?_) (a' := ?_) #[true, true, true, true, true, true, true, true, true, true, true, true, true, true, true, true, true, true, true, true, false, false, true, false, false, false, false, false, false] rfl rfl (any_of HT_.out (by kernel_rfl)) (fun _ _ _ h => h) (Or.inl ⟨by rfl, ?_⟩) ?_ ?_
            rotate_left
            · intro w'
              go_simp
              with_reducible rfl
            rotate_left
            · simp only [Act.put, List.setIfInBounds_toArray, List.set_cons_zero, List.set_cons_succ, i64_w, i32_w]
              rfl
            refine pure_ (i := 23) (N := some 50) (v := ?_) (a' := ?_) #[true, true, true, true, true, true, true, true, true, true, true, true, true, true, true, true, true, true, true, true, false, false, true, true, false, false, false, false, false] rfl rfl (any_of HT_.out (by kernel_rfl)) (fun _ _ _ h => h) (Or.inl ⟨by rfl, ?_⟩) ?_ ?_
            rotate_left
            · intro w'
              go_simp
              with_reducible rfl
            rotate_left
            · simp only [Act.put, List.setIfInBounds_toArray, List.set_cons_zero, List.set_cons_succ, i64_w, i32_w]
              rfl
            refine pure_ (i := 24) (N := some 51) (v := ?_) (a' := ?_) #[true, true, true, true, true, true, true, true, true, true, true, true, true, true, true, true, true, true, true, true, false, false, true, true, true, false, false, false, false] rfl rfl (any_of HT_.out (by kernel_rfl)) (fun _ _ _ h => h) (Or.inl ⟨by rfl, ?_⟩) ?_ ?_
            rotate_left
            · intro w'
              go_simp
              with_reducible rfl
            rotate_left
            · simp only [Act.put, List.setIfInBounds_toArray, List.set_cons_zero, List.set_cons_succ, i64_w, i32_w]
              rfl
            refine two_ (i := 20) (j := 25) (Ni := some 47) (Nj := some 52) #[true, true, true, true, true, true, true, true, true, true, true, true, true, true, true, true, true, true, true, true, true, false, true, true, true, false, false, false, false] #[true, true, true, true, true, true, true, true, true, true, true, true, true, true, true, true, true, true, true, true, false, false, true, true, true, true, false, false, false] rfl rfl rfl rfl (two_of HT_.out (by kernel_rfl)) (by decide) (by decide) ?_ ?_
            · intro K hK
              refine goes_ Try.func12 (by kernel_rfl) rfl #[.pointer (some ⟨bn, 0, none⟩)] (by rfl) rfl rfl (by (try simp only [List.map_toArray, List.map_cons, List.map_nil]); first | done | rfl) ?_
              refine (all_any SR bn _ ps last' W1 hR).mono ?_
              rintro e W2 ⟨v, rs, rfl, hl2, hcp, hT⟩
              have hpk := copies_rd hcp (fun p hp => (hR.pk p hp).2)
              have hs63 := copies_s63 hl2 hcp.1
              obtain ⟨A5, c5, rfl, hc5, _⟩ := own_slice hcp.2.1
              have hrv : Rd W2 (fun _ => True) 4 A5 rs.length (flat rs) := Rd.of_own hcp.2.1 (fun _ _ => trivial)
              have hSn := hHeld.fr hT (fun h => h.elim)
              have hf := hf.trans hT (fun _ h _ => h)
              have hsz := Nat.le_trans hsz hT.size
              have hR := hR.far hT (fun _ _ _ => id)
              have hF := hF.far hT (fun _ _ _ => id)
              refine ⟨_, rfl, ?_⟩
              rw [hl2]
              refine hK.out _ _ hSn (fun hHeld => ?_)
              clear hK K
              refine norm_ (a' := ?_) ?_ ?_
              rotate_left
              · show Act.put _ (some 47) _ = _
                simp only [Act.put, List.setIfInBounds_toArray, List.set_cons_zero, List.set_cons_succ, i64_w, i32_w]
                rfl
              refine two_ (i := 21) (j := 25) (Ni := some 48) (Nj := some 52) #[true, true, true, true, true, true, true, true, true, true, true, true, true, true, true, true, true, true, true, true, true, true, true, true, true, false, false, false, false] #[true, true, true, true, true, true, true, true, true, true, true, true, true, true, true, true, true, true, true, true, true, false, true, true, true, true, false, false, false] rfl rfl rfl rfl (two_of HT_.out (by kernel_rfl)) (by decide) (by decide) ?_ ?_
              · intro K hK
                refine goes_ Try.func11 (by kernel_rfl) rfl #[.slice A5 ps.length c5] (by rfl) rfl rfl (by (try simp only [List.map_toArray, List.map_cons, List.map_nil]); first | done | rfl) ?_
                have hpa := packets_any W2 (fun _ => True) A5 c5 rs hrv (by omega) hc5 hpk
                rw [hl2] at hpa
                refine hpa.mono ?_
                rintro e W3 ⟨A', c', rfl, _, hCp, hT⟩
                have hSn := hHeld.fr hT (fun h => h.elim)
                have hf := hf.trans hT (fun _ h _ => h)
                have hsz := Nat.le_trans hsz hT.size
                have hR := hR.far hT (fun _ _ _ => id)
                have hF := hF.far hT (fun _ _ _ => id)
                have hrv := hrv.same (fun k hk => hT.block k hk id)
                have hpk := fun q hq => (hpk q hq).same (fun k hk => hT.block k hk id)
                refine ⟨_, rfl, ?_⟩
                refine hK.out _ _ hSn (fun hHeld => ?_)
                clear hK K
                refine norm_ (a' := ?_) ?_ ?_
                rotate_left
                · show Act.put _ (some 48) _ = _
                  simp only [Act.put, List.setIfInBounds_toArray, List.set_cons_zero, List.set_cons_succ, i64_w, i32_w]
                  rfl
                refine one_ (i := 25) (N := some 52) #[true, true, true, true, true, true, true, true, true, true, true, true, true, true, true, true, true, true, true, true, true, true, true, true, true, true, false, false, false] rfl rfl (one_of HT_.out (by kernel_rfl)) (by decide) (fun K hK => ?_)
                have e0 : W3.cell? ⟨bw, 0, none⟩ = some (.slice B2 ps.length c2) := by have := hF.blk.cell 0; rw [← hq]; simpa using this
                refine step_value_w (by rfl) (.slice B2 ps.length c2) W3 (by first | (go_simp; done) | (go_simp; rfl)) ?_
                refine hK.out _ _ hHeld (fun hHeld => ?_)
                clear hK K
                refine norm_ (a' := ?_) ?_ ?_
                rotate_left
                · show Act.put _ (some 52) _ = _
                  simp only [Act.put, List.setIfInBounds_toArray, List.set_cons_zero, List.set_cons_succ, i64_w, i32_w]
                  rfl
                refine last_ (i := 26) (N := some 53) #[true, true, true, true, true, true, true, true, true, true, true, true, true, true, true, true, true, true, true, true, true, true, true, true, true, true, true, false, false] rfl rfl (one_of HT_.out (by kernel_rfl)) (by decide) (fun K hK => ?_)
                refine goes_ Try.func10 (by kernel_rfl) rfl #[.slice A' ps.length c', .slice B2 ps.length c2] (by rfl) rfl rfl (by (try simp only [List.map_toArray, List.map_cons, List.map_nil]); first | done | rfl) ?_
                obtain ⟨B3, c3, he, _, hCq⟩ := hF.c63
                injection he with he1 _ he2
                subst he1
                subst he2
                rw [hq, ← key_s63 hk, ← hs63] at hCq
                have hlm : (rs.map Pk.s63).length = ps.length := by rw [List.length_map, hl2]
                have hsa := same_eq W3 A' B2 c' c2 (rs.map Pk.s63) (by omega) (by rw [hlm]; exact hCp) (by rw [hlm]; exact hCq)
                rw [hlm] at hsa
                refine hsa.mono ?_
                rintro e W4 ⟨rfl, hD⟩
                obtain ⟨m, rfl⟩ := hD.out
                have hf := hf.drewN m
                have hR := hR.far ((Fr.refl NoB _).drewN m) (fun _ _ _ => id)
                have hF := hF.far ((Fr.refl NoB _).drewN m) (fun _ _ _ => id)
                refine ⟨_, rfl, ?_⟩
                refine hK.out _ _ ?_
                clear hK K
                refine norm_ (a' := ?_) ?_ ?_
                rotate_left
                · show Act.put _ (some 53) _ = _
                  simp only [Act.put, List.setIfInBounds_toArray, List.set_cons_zero, List.set_cons_succ, i64_w, i32_w]
                  rfl
                refine pure_ (i := 27) (N := some 54) (v := ?_) (a' := ?_) #[true, true, true, true, true, true, true, true, true, true, true, true, true, true, true, true, true, true, true, true, true, true, true, true, true, true, true, true, false] rfl rfl (any_of HT_.out (by kernel_rfl)) (fun _ _ _ h => h) (Or.inl ⟨by rfl, ?_⟩) ?_ ?_
                rotate_left
                · intro w'
                  go_simp
                  with_reducible rfl
                rotate_left
                · simp only [Act.put, List.setIfInBounds_toArray, List.set_cons_zero, List.set_cons_succ, i64_w, i32_w]
                  rfl
                refine pure_ (i := 28) (N := some 55) (v := ?_) (a' := ?_) #[true, true, true, true, true, true, true, true, true, true, true, true, true, true, true, true, true, true, true, true, true, true, true, true, true, true, true, true, true] rfl rfl (any_of HT_.out (by kernel_rfl)) (fun _ _ _ h => h) (Or.inl ⟨by rfl, ?_⟩) ?_ ?_
                rotate_left
                · intro w'
                  go_simp
                  with_reducible rfl
                rotate_left
                · simp only [Act.put, List.setIfInBounds_toArray, List.set_cons_zero, List.set_cons_succ, i64_w, i32_w]
                  rfl
                refine done_ (done_of HT_.out (by kernel_rfl)) ?_
                go_wp2
                go_roundw
                case rel => exact ⟨k + 1, by go_num, by omega, last', by omega, by omega, ⟨SR, SF, _, _, ps, qs, hR, hF, hk, hd, fun k h => ⟨(h1 k h).1, Nat.lt_of_lt_of_le (h1 k h).2 hsz⟩, fun k h => ⟨(h2 k h).1, Nat.lt_of_lt_of_le (h2 k h).2 hsz⟩⟩, hf⟩
                case measure => simp [intOf]; omega
              · intro K hK
                have e0 : W2.cell? ⟨bw, 0, none⟩ = some (.slice B2 ps.length c2) := by have := hF.blk.cell 0; rw [← hq]; simpa using this
                refine step_value_w (by rfl) (.slice B2 ps.length c2) W2 (by first | (go_simp; done) | (go_simp; rfl)) ?_
                refine hK.out _ _ hHeld (fun hHeld => ?_)
                clear hK K
                refine norm_ (a' := ?_) ?_ ?_
                rotate_left
                · show Act.put _ (some 52) _ = _
                  simp only [Act.put, List.setIfInBounds_toArray, List.set_cons_zero, List.set_cons_succ, i64_w, i32_w]
                  rfl
                refine one_ (i := 21) (N := some 48) #[true, true, true, true, true, true, true, true, true, true, true, true, true, true, true, true, true, true, true, true, true, true, true, true, true, true, false, false, false] rfl rfl (one_of HT_.out (by kernel_rfl)) (by decide) (fun K hK => ?_)
                refine goes_ Try.func11 (by kernel_rfl) rfl #[.slice A5 ps.length c5] (by rfl) rfl rfl (by (try simp only [List.map_toArray, List.map_cons, List.map_nil]); first | done | rfl) ?_
                have hpa := packets_any W2 (fun _ => True) A5 c5 rs hrv (by omega) hc5 hpk
                rw [hl2] at hpa
                refine hpa.mono ?_
                rintro e W3 ⟨A', c', rfl, _, hCp, hT⟩
                have hSn := hHeld.fr hT (fun h => h.elim)
                have hf := hf.trans hT (fun _ h _ => h)
                have hsz := Nat.le_trans hsz hT.size
                have hR := hR.far hT (fun _ _ _ => id)
                have hF := hF.far hT (fun _ _ _ => id)
                have hrv := hrv.same (fun k hk => hT.block k hk id)
                have hpk := fun q hq => (hpk q hq).same (fun k hk => hT.block k hk id)
                refine ⟨_, rfl, ?_⟩
                refine hK.out _ _ hSn (fun hHeld => ?_)
                clear hK K
                refine norm_ (a' := ?_) ?_ ?_
                rotate_left
                · show Act.put _ (some 48) _ = _
                  simp only [Act.put, List.setIfInBounds_toArray, List.set_cons_zero, List.set_cons_succ, i64_w, i32_w]
                  rfl
                refine last_ (i := 26) (N := some 53) #[true, true, true, true, true, true, true, true, true, true, true, true, true, true, true, true, true, true, true, true, true, true, true, true, true, true, true, false, false] rfl rfl (one_of HT_.out (by kernel_rfl)) (by decide) (fun K hK => ?_)
                refine goes_ Try.func10 (by kernel_rfl) rfl #[.slice A' ps.length c', .slice B2 ps.length c2] (by rfl) rfl rfl (by (try simp only [List.map_toArray, List.map_cons, List.map_nil]); first | done | rfl) ?_
                obtain ⟨B3, c3, he, _, hCq⟩ := hF.c63
                injection he with he1 _ he2
                subst he1
                subst he2
                rw [hq, ← key_s63 hk, ← hs63] at hCq
                have hlm : (rs.map Pk.s63).length = ps.length := by rw [List.length_map, hl2]
                have hsa := same_eq W3 A' B2 c' c2 (rs.map Pk.s63) (by omega) (by rw [hlm]; exact hCp) (by rw [hlm]; exact hCq)
                rw [hlm] at hsa
                refine hsa.mono ?_
                rintro e W4 ⟨rfl, hD⟩
                obtain ⟨m, rfl⟩ := hD.out
                have hf := hf.drewN m
                have hR := hR.far ((Fr.refl NoB _).drewN m) (fun _ _ _ => id)
                have hF := hF.far ((Fr.refl NoB _).drewN m) (fun _ _ _ => id)
                refine ⟨_, rfl, ?_⟩
                refine hK.out _ _ ?_
                clear hK K
                refine norm_ (a' := ?_) ?_ ?_
                rotate_left
                · show Act.put _ (some 53) _ = _
                  simp only [Act.put, List.setIfInBounds_toArray, List.set_cons_zero, List.set_cons_succ, i64_w, i32_w]
                  rfl
                refine pure_ (i := 27) (N := some 54) (v := ?_) (a' := ?_) #[true, true, true, true, true, true, true, true, true, true, true, true, true, true, true, true, true, true, true, true, true, true, true, true, true, true, true, true, false] rfl rfl (any_of HT_.out (by kernel_rfl)) (fun _ _ _ h => h) (Or.inl ⟨by rfl, ?_⟩) ?_ ?_
                rotate_left
                · intro w'
                  go_simp
                  with_reducible rfl
                rotate_left
                · simp only [Act.put, List.setIfInBounds_toArray, List.set_cons_zero, List.set_cons_succ, i64_w, i32_w]
                  rfl
                refine pure_ (i := 28) (N := some 55) (v := ?_) (a' := ?_) #[true, true, true, true, true, true, true, true, true, true, true, true, true, true, true, true, true, true, true, true, true, true, true, true, true, true, true, true, true] rfl rfl (any_of HT_.out (by kernel_rfl)) (fun _ _ _ h => h) (Or.inl ⟨by rfl, ?_⟩) ?_ ?_
                rotate_left
                · intro w'
                  go_simp
                  with_reducible rfl
                rotate_left
                · simp only [Act.put, List.setIfInBounds_toArray, List.set_cons_zero, List.set_cons_succ, i64_w, i32_w]
                  rfl
                refine done_ (done_of HT_.out (by kernel_rfl)) ?_
                go_wp2
                go_roundw
                case rel => exact ⟨k + 1, by go_num, by omega, last', by omega, by omega, ⟨SR, SF, _, _, ps, qs, hR, hF, hk, hd, fun k h => ⟨(h1 k h).1, Nat.lt_of_lt_of_le (h1 k h).2 hsz⟩, fun k h => ⟨(h2 k h).1, Nat.lt_of_lt_of_le (h2 k h).2 hsz⟩⟩, hf⟩
                case measure => simp [intOf]; omega
            · intro K hK
              have e0 : W1.cell? ⟨bw, 0, none⟩ = some (.slice B2 ps.length c2) := by have := hF.blk.cell 0; rw [← hq]; simpa using this
              refine step_value_w (by rfl) (.slice B2 ps.length c2) W1 (by first | (go_simp; done) | (go_simp; rfl)) ?_
              refine hK.out _ _ hHeld (fun hHeld => ?_)
              clear hK K
              refine norm_ (a' := ?_) ?_ ?_
              rotate_left
              · show Act.put _ (some 52) _ = _
                simp only [Act.put, List.setIfInBounds_toArray, List.set_cons_zero, List.set_cons_succ, i64_w, i32_w]
                rfl
              refine one_ (i := 20) (N := some 47) #[true, true, true, true, true, true, true, true, true, true, true, true, true, true, true, true, true, true, true, true, true, false, true, true, true, true, false, false, false] rfl rfl (one_of HT_.out (by kernel_rfl)) (by decide) (fun K hK => ?_)
              refine goes_ Try.func12 (by kernel_rfl) rfl #[.pointer (some ⟨bn, 0, none⟩)] (by rfl) rfl rfl (by (try simp only [List.map_toArray, List.map_cons, List.map_nil]); first | done | rfl) ?_
              refine (all_any SR bn _ ps last' W1 hR).mono ?_
              rintro e W2 ⟨v, rs, rfl, hl2, hcp, hT⟩
              have hpk := copies_rd hcp (fun p hp => (hR.pk p hp).2)
              have hs63 := copies_s63 hl2 hcp.1
              obtain ⟨A5, c5, rfl, hc5, _⟩ := own_slice hcp.2.1
              have hrv : Rd W2 (fun _ => True) 4 A5 rs.length (flat rs) := Rd.of_own hcp.2.1 (fun _ _ => trivial)
              have hSn := hHeld.fr hT (fun h => h.elim)
              have hf := hf.trans hT (fun _ h _ => h)
              have hsz := Nat.le_trans hsz hT.size
              have hR := hR.far hT (fun _ _ _ => id)
              have hF := hF.far hT (fun _ _ _ => id)
              refine ⟨_, rfl, ?_⟩
              rw [hl2]
              refine hK.out _ _ hSn (fun hHeld => ?_)
              clear hK K
              refine norm_ (a' := ?_) ?_ ?_
              rotate_left
              · show Act.put _ (some 47) _ = _
                simp only [Act.put, List.setIfInBounds_toArray, List.set_cons_zero, List.set_cons_succ, i64_w, i32_w]
                rfl
              refine one_ (i := 21) (N := some 48) #[true, true, true, true, true, true, true, true, true, true, true, true, true, true, true, true, true, true, true, true, true, true, true, true, true, true, false, false, false] rfl rfl (one_of HT_.out (by kernel_rfl)) (by decide) (fun K hK => ?_)
              refine goes_ Try.func11 (by kernel_rfl) rfl #[.slice A5 ps.length c5] (by rfl) rfl rfl (by (try simp only [List.map_toArray, List.map_cons, List.map_nil]); first | done | rfl) ?_
              have hpa := packets_any W2 (fun _ => True) A5 c5 rs hrv (by omega) hc5 hpk
              rw [hl2] at hpa
              refine hpa.mono ?_
              rintro e W3 ⟨A', c', rfl, _, hCp, hT⟩
              have hSn := hHeld.fr hT (fun h => h.elim)
              have hf := hf.trans hT (fun _ h _ => h)
              have hsz := Nat.le_trans hsz hT.size
              have hR := hR.far hT (fun _ _ _ => id)
              have hF := hF.far hT (fun _ _ _ => id)
              have hrv := hrv.same (fun k hk => hT.block k hk id)
              have hpk := fun q hq => (hpk q hq).same (fun k hk => hT.block k hk id)
              refine ⟨_, rfl, ?_⟩
              refine hK.out _ _ hSn (fun hHeld => ?_)
              clear hK K
              refine norm_ (a' := ?_) ?_ ?_
              rotate_left
              · show Act.put _ (some 48) _ = _
                simp only [Act.put, List.setIfInBounds_toArray, List.set_cons_zero, List.set_cons_succ, i64_w, i32_w]
                rfl
              refine last_ (i := 26) (N := some 53) #[true, true, true, true, true, true, true, true, true, true, true, true, true, true, true, true, true, true, true, true, true, true, true, true, true, true, true, false, false] rfl rfl (one_of HT_.out (by kernel_rfl)) (by decide) (fun K hK => ?_)
              refine goes_ Try.func10 (by kernel_rfl) rfl #[.slice A' ps.length c', .slice B2 ps.length c2] (by rfl) rfl rfl (by (try simp only [List.map_toArray, List.map_cons, List.map_nil]); first | done | rfl) ?_
              obtain ⟨B3, c3, he, _, hCq⟩ := hF.c63
              injection he with he1 _ he2
              subst he1
              subst he2
              rw [hq, ← key_s63 hk, ← hs63] at hCq
              have hlm : (rs.map Pk.s63).length = ps.length := by rw [List.length_map, hl2]
              have hsa := same_eq W3 A' B2 c' c2 (rs.map Pk.s63) (by omega) (by rw [hlm]; exact hCp) (by rw [hlm]; exact hCq)
              rw [hlm] at hsa
              refine hsa.mono ?_
              rintro e W4 ⟨rfl, hD⟩
              obtain ⟨m, rfl⟩ := hD.out
              have hf := hf.drewN m
              have hR := hR.far ((Fr.refl NoB _).drewN m) (fun _ _ _ => id)
              have hF := hF.far ((Fr.refl NoB _).drewN m) (fun _ _ _ => id)
              refine ⟨_, rfl, ?_⟩
              refine hK.out _ _ ?_
              clear hK K
              refine norm_ (a' := ?_) ?_ ?_
              rotate_left
              · show Act.put _ (some 53) _ = _
                simp only [Act.put, List.setIfInBounds_toArray, List.set_cons_zero, List.set_cons_succ, i64_w, i32_w]
                rfl
              refine pure_ (i := 27) (N := some 54) (v := ?_) (a' := ?_) #[true, true, true, true, true, true, true, true, true, true, true, true, true, true, true, true, true, true, true, true, true, true, true, true, true, true, true, true, false] rfl rfl (any_of HT_.out (by kernel_rfl)) (fun _ _ _ h => h) (Or.inl ⟨by rfl, ?_⟩) ?_ ?_
              rotate_left
              · intro w'
                go_simp
                with_reducible rfl
              rotate_left
              · simp only [Act.put, List.setIfInBounds_toArray, List.set_cons_zero, List.set_cons_succ, i64_w, i32_w]
                rfl
              refine pure_ (i := 28) (N := some 55) (v := ?_) (a' := ?_) #[true, true, true, true, true, true, true, true, true, true, true, true, true, true, true, true, true, true, true, true, true, true, true, true, true, true, true, true, true] rfl rfl (any_of HT_.out (by kernel_rfl)) (fun _ _ _ h => h) (Or.inl ⟨by rfl, ?_⟩) ?_ ?_
              rotate_left
              · intro w'
                go_simp
                with_reducible rfl
              rotate_left
              · simp only [Act.put, List.setIfInBounds_toArray, List.set_cons_zero, List.set_cons_succ, i64_w, i32_w]
                rfl
              refine done_ (done_of HT_.out (by kernel_rfl)) ?_
              go_wp2
              go_roundw
              case rel => exact ⟨k + 1, by go_num, by omega, last', by omega, by omega, ⟨SR, SF, _, _, ps, qs, hR, hF, hk, hd, fun k h => ⟨(h1 k h).1, Nat.lt_of_lt_of_le (h1 k h).2 hsz⟩, fun k h => ⟨(h2 k h).1, Nat.lt_of_lt_of_le (h2 k h).2 hsz⟩⟩, hf⟩
              case measure => simp [intOf]; omega
        · go_wp2
          go_ret
          exact ⟨rfl, by first | exact hfr | exact hfr.drewN _⟩
end Go.Proofs.Ytdfdmjnhekdpjaa
