import Derived.Test.YtdfdmjnhekdpjaaF1
namespace Go.Proofs.Ytdfdmjnhekdpjaa
set_option linter.unusedVariables false
set_option linter.unusedSimpArgs false
open Go.RowKit Go.Proofs.YtdfdmjnhekdpjaaW.PrintWords Go.Proofs.YtdfdmjnhekdpjaaW.PrintLast
def F22.T3 : Bool × List (List Nat × List Nat) := (true, [([], []), ([], []), ([], []), ([2], [2]), ([3], [3]), ([4], [4]), ([], []), ([5, 6], [5, 6]), ([1, 7], [1, 7]), ([], []), ([9], [9]), ([10], [10]), ([11], [11]), ([], []), ([13], [13]), ([12, 14], [12, 14]), ([8, 15, 8], [8, 15]), ([0, 0, 1, 2, 3, 4, 5, 6, 7, 8, 9, 10, 11, 12, 13, 14, 15, 16], [0]), ([17, 0, 1, 2, 3, 4, 5, 6, 7, 8, 9, 10, 11, 12, 13, 14, 15, 16], [17]), ([18, 16, 16, 0, 1, 2, 3, 4, 5, 6, 7, 8, 9, 10, 11, 12, 13, 14, 15, 16], [16, 18])])
def F22.B3 : List Nat := [0, 0, 0, 4, 12, 28, 0, 124, 254, 0, 512, 1536, 3584, 0, 8192, 32256, 65534, 131071, 262143, 524287]
theorem F22.tab3 : rtab .any (opsOf Try.f22 3) = F22.T3 := by kernel_rfl
theorem F22.bits3 : waitsOk F22.T3.2 F22.B3 = true := by kernel_rfl

theorem FNet.at_ {w : World} {S : Nat → Prop} {bn : Nat} {line : Value} {ps : List Pk} {last : Int} (h : FNet w S bn line ps last) {i : Nat} {p : Pk} (hp : ps[i]? = some p) :
    ∃ g cap L, line = .slice (some ⟨g, 0, none⟩) ps.length cap ∧ Blk w g 63 (List.toArray L) ∧ L.length = cap * 4 ∧ ps.length ≤ cap ∧ cap ≤ maxLen ∧ L.take (ps.length * 4) = flat ps ∧ g ≠ bn ∧
      w.cell? ⟨g, i * 4, none⟩ = some (.int .i64 p.n) ∧ w.cell? ⟨g, i * 4 + 1, none⟩ = some (.int .i64 p.f) ∧ w.cell? ⟨g, i * 4 + 2, none⟩ = some (.int .i64 p.t) ∧ w.cell? ⟨g, i * 4 + 3, none⟩ = some p.v := by
  have hi := (List.getElem?_eq_some_iff.1 hp).1
  obtain ⟨g, cap, L, rfl, _, hb, hl, hc, hm, ht⟩ := own_open h.own (by omega)
  obtain ⟨c0, c1, c2, c3⟩ := flat_get hp
  have hg : ∀ k u, (flat ps)[k]? = some u → w.cell? ⟨g, k, none⟩ = some u := fun k u hu => by
    refine hb.cells k u ?_
    rw [← ht, List.getElem?_take] at hu
    split at hu
    · exact hu
    · cases hu
  exact ⟨g, cap, L, rfl, hb, hl, hc, hm, ht, hb.ne_ h.blk (by decide), hg _ _ c0, hg _ _ c1, hg _ _ c2, hg _ _ c3⟩
theorem FNet.pk_lt {w : World} {S : Nat → Prop} {bn : Nat} {line : Value} {ps : List Pk} {last : Int} (h : FNet w S bn line ps last) {p : Pk} (hp : p ∈ ps) (k : Nat) (hk : p.v.ownBlock = some k) : k < w.heap.size := ((h.pk p hp).1.lt k hk).2
theorem FNet.far {w w' : World} {S T : Nat → Prop} {bn : Nat} {line : Value} {ps : List Pk} {last : Int} (h : FNet w S bn line ps last) (hf : Fr T w w') (hd : ∀ k, S k → k < w.heap.size → ¬ T k) : FNet w' S bn line ps last :=
  ⟨h.blk.fr hf (hd bn h.sb h.blk.lt), own_fr h.own hf (fun k hk => hd k (h.sl k hk) (h.own.lt k hk).2), fun p hp => ⟨own_fr (h.pk p hp).1 hf (fun k hk => hd k (h.sp p hp k hk) (h.pk_lt hp k hk)), (h.pk p hp).2⟩, h.sb, h.sl, h.sp, h.few⟩
theorem FNet.more {w : World} {S S' : Nat → Prop} {bn : Nat} {line : Value} {ps : List Pk} {last : Int} (h : FNet w S bn line ps last) (hs : ∀ k, S k → S' k) : FNet w S' bn line ps last :=
  ⟨h.blk, h.own, h.pk, hs _ h.sb, fun k hk => hs _ (h.sl k hk), fun p hp k hk => hs _ (h.sp p hp k hk), h.few⟩
theorem FNet.tight {w : World} {S : Nat → Prop} {bn : Nat} {line : Value} {ps : List Pk} {last : Int} (h : FNet w S bn line ps last) : FNet w (fun k => S k ∧ k < w.heap.size) bn line ps last :=
  ⟨h.blk, h.own, h.pk, ⟨h.sb, h.blk.lt⟩, fun k hk => ⟨h.sl k hk, (h.own.lt k hk).2⟩, fun p hp k hk => ⟨h.sp p hp k hk, h.pk_lt hp k hk⟩, h.few⟩
theorem FNet.rd {w : World} {S : Nat → Prop} {bn : Nat} {line : Value} {ps : List Pk} {last : Int} (h : FNet w S bn line ps last) {p : Pk} (hp : p ∈ ps) :
    ∃ A c, p.v = .slice A p.bs.length c ∧ (A = none → c = 0) ∧ Rd w (fun k => p.v.ownBlock = some k) 1 A p.bs.length p.bs := by
  obtain ⟨A, c, hv, _, _, h0, _⟩ := own_slice (h.pk p hp).1
  refine ⟨A, c, hv, h0, ?_⟩
  have ho := (h.pk p hp).1
  rw [hv] at ho
  exact Rd.of_own ho (fun k hk => by rw [hv]; exact hk)
theorem fflat_one {w : World} {S : Nat → Prop} {bn : Nat} {line : Value} {ps : List Pk} {last : Int} (h : FNet w S bn line ps last) (qs : List Pk) (hq : ∀ p ∈ qs, p ∈ ps) : ∀ u ∈ flat qs, u.oneCell' = true := by
  intro u hu
  obtain ⟨p, hp, hu⟩ := List.mem_flatMap.1 hu
  exact pk_one (h.pk p (hq p hp)).1 p.n p.f p.t u hu

/-- The first i, and those from i on, of a row that is read. -/
theorem Rd.cut_take {w : World} {ok : Nat → Prop} {g n i : Nat} {L : List Value} {ps : List Pk} (hb : Blk w g 63 L.toArray) (ht : L.take (n * 4) = flat ps) (hn : ps.length = n) (hi : i ≤ n) (hok : ok g) :
    Rd w ok 4 (some ⟨g, 0, none⟩) i (flat (ps.take i)) := by
  refine ⟨by rw [flat_length, List.length_take, hn]; congr 1; omega, fun _ => ⟨g, 0, rfl, hok, hb.lt, fun j u hu => ?_⟩⟩
  rw [Nat.zero_add]
  refine hb.cells j u ?_
  rw [← flat_take, List.getElem?_take] at hu
  split at hu
  · rw [← ht, List.getElem?_take] at hu
    split at hu
    · exact hu
    · cases hu
  · cases hu
theorem Rd.cut_drop {w : World} {ok : Nat → Prop} {g cap n i : Nat} {L : List Value} {ps : List Pk} (hb : Blk w g 63 L.toArray) (ht : L.take (n * 4) = flat ps) (hn : ps.length = n) (hi : i ≤ n) (hc : n ≤ cap) (hok : ok g) :
    Rd w ok 4 (if cap = i then some ⟨g, 0, none⟩ else some ⟨g, i * 4, none⟩) (n - i) (flat (ps.drop i)) := by
  refine ⟨by rw [flat_length, List.length_drop, hn], fun h0 => ⟨g, i * 4, by rw [if_neg (by omega)], hok, hb.lt, fun j u hu => ?_⟩⟩
  refine hb.cells _ u ?_
  rw [← flat_drop, List.getElem?_drop, ← ht, List.getElem?_take] at hu
  split at hu
  · exact hu
  · cases hu

set_option maxHeartbeats 400000 in
theorem fthere_in (bn : Nat) (A : Option Addr) (n c i : Nat) (w : World) (h0 : w.cell? ⟨bn, 0, none⟩ = some (.slice A n c)) (hi : i < n) :
    Calls Try.prog 40 #[.pointer (some ⟨bn, 0, none⟩), .int .i64 i] w fun e w' => e = .returned (.bool true) ∧ w = w' := by
  have h1 : (0 : Int) ≤ (i : Int) := by omega
  have h2 : (i : Int) < (n : Int) := by omega
  go_enter Try.func40, Try.ntmps40
  go_wp2
  go_ret
  simp [hi]
set_option maxHeartbeats 400000 in
theorem fthere_out (bn : Nat) (A : Option Addr) (n c : Nat) (a : Int) (w : World) (h0 : w.cell? ⟨bn, 0, none⟩ = some (.slice A n c)) (ha : a < 0 ∨ (n : Int) ≤ a) :
    Calls Try.prog 40 #[.pointer (some ⟨bn, 0, none⟩), .int .i64 a] w fun e w' => e = .returned (.bool false) ∧ w = w' := by
  by_cases h : 0 ≤ a
  · have h1 : decide (0 ≤ a) = true := by simpa using h
    have h2 : ¬ a < (n : Int) := by omega
    go_enter Try.func40, Try.ntmps40
    go_wp2
    go_ret
    simp [h2]
  · have h1 : decide (0 ≤ a) = false := by simpa using h
    go_enter Try.func40, Try.ntmps40
    go_wp2
    go_ret
    simp

/-- A new line stored into the struct. -/
theorem FNet.put {S : Nat → Prop} {bw n : Nat} {line line0 v3 : Value} {ps qs : List Pk} {last : Int} {w W : World} (h : FNet w S bw line ps last) (hq : ∀ p ∈ qs, p ∈ ps) (hn : qs.length = n) (hl : n ≤ 200)
    (hb : Blk W bw 30 #[line0, .int .i64 last]) (ho : W.ownsRow w.heap.size 63 4 v3 n (flat qs)) (hf : Fr (OneB bw) w W) :
    FNet (W.setCell ⟨bw, 0, none⟩ v3) (fun k => S k ∨ w.heap.size ≤ k) bw v3 qs last ∧ Fr (OneB bw) w (W.setCell ⟨bw, 0, none⟩ v3) := by
  have hfs : Fr (OneB bw) W (W.setCell ⟨bw, 0, none⟩ v3) := (Fr.refl (OneB bw) W).setCell (p := ⟨bw, 0, none⟩) (fun _ => rfl) _
  have hfc : Fr (OneB bw) w (W.setCell ⟨bw, 0, none⟩ v3) := hf.setCell (p := ⟨bw, 0, none⟩) (fun _ => rfl) _
  refine ⟨⟨hb.set_ 0 v3, ?_, ?_, .inl h.sb, fun k hk => .inr (ho.lt k hk).1, fun p hp k hk => .inl (h.sp p (hq p hp) k hk), by omega⟩, hfc⟩
  · rw [hn]
    exact own_low (own_fr ho hfs (fun k hk e => own_blk_ne ho hb (by decide) (e ▸ hk))) (Nat.zero_le _)
  · exact fun p hp => ⟨own_fr (h.pk p (hq p hp)).1 hfc (fun k hk e => own_blk_ne (h.pk p (hq p hp)).1 h.blk (by decide) (e ▸ hk)), (h.pk p (hq p hp)).2⟩

set_option maxRecDepth 100000 in
set_option maxHeartbeats 4000000 in
theorem fdrop_in (S : Nat → Prop) (bw : Nat) (line : Value) (ps : List Pk) (last : Int) (i : Nat) (w : World) (h : FNet w S bw line ps last) (hi : i < ps.length) :
    Calls Try.prog 22 #[.pointer (some ⟨bw, 0, none⟩), .int .i64 i] w fun e w' => e = .returned (.bool true) ∧ ∃ line', (∃ a, line'.ownBlock = some a) ∧ FNet w' (fun k => S k ∨ w.heap.size ≤ k) bw line' (ps.eraseIdx i) last ∧ Fr (OneB bw) w w' := by
  obtain ⟨p, hp⟩ : ∃ p, ps.length = p + 1 := ⟨ps.length - 1, by omega⟩
  obtain ⟨g, lc, L, rfl, hb, hl, hc, hm, ht, hgb, _⟩ := h.at_ (List.getElem?_eq_getElem hi)
  have hbb := h.blk
  have d0 := hbb.cell 0
  simp at d0
  have hone1 := fflat_one h (ps.take i) (fun q hq => List.mem_of_mem_take hq)
  have hone2 := fflat_one h (ps.drop (i + 1)) (fun q hq => List.mem_of_mem_drop hq)
  have hfew := h.few
  have hr1 := Rd.cut_take (ok := fun k => k ≠ bw) hb ht rfl (i := i) (by omega) hgb
  have hr2 := Rd.cut_drop (ok := fun k => k ≠ bw) hb ht rfl (i := i + 1) (by omega) hc hgb
  rw [hp] at d0 hr2 hc hi
  have hic : i ≤ lc := by omega
  have hip : i + 1 ≤ p + 1 := by omega
  have hi2 : (i : Int) + 1 ≤ (p : Int) + 1 := by omega
  have hi3 : (0 : Int) ≤ (i : Int) + 1 := by omega
  rw [show p + 1 - (i + 1) = p - i by omega] at hr2
  obtain ⟨B, hB, hBn⟩ : ∃ B : Option Addr, (if lc = i + 1 then some (⟨g, 0, none⟩ : Addr) else some ⟨g, (i + 1) * 4, none⟩) = B ∧ B ≠ none := ⟨_, rfl, by split <;> simp⟩
  rw [hB] at hr2
  have hH := hbb
  rw [hp] at hH
  have H := Lib.hid h
  have HP := Lib.hid hp
  have HO1 := Lib.hid hone1
  have HO2 := Lib.hid hone2
  clear h hl ht hp hone1 hone2 hbb
  obtain ⟨i0, hi0, hz0, hz1, hz2⟩ := info_parts Try.info63
  go_enter Try.func22, Try.ntmps22
  go_wp2_with fail
  refine (fthere_in bw _ _ _ i w d0 hi).mono ?_
  rintro e w' ⟨rfl, rfl⟩
  go_wp2_with fail
  have hw1 : IntKind.i64.wrap ((i : Int) + 1) = (i : Int) + 1 := by rw [IntKind.wrap_i64]; omega
  have htn : ((i : Int) + 1).toNat = i + 1 := by omega
  refine start_ (n := 20) (S := fun w' => Blk w' bw 30 #[.slice (some ⟨g, 0, none⟩) (p + 1) lc, .int .i64 last]) (ds := [19]) #[false, false, false, false, false, false, false, false, false, false, false, false, false, false, false, false, false, false, false, false] (by kernel_rfl) rfl rfl hH.drew (fun hHeld => ?_)
  refine with_tabW F22.tab3 F22.bits3 (fun HT_ HW_ => ?_)
  have hf := (Fr.refl (OneB bw) w).drew
  have hr1 := hr1.fr ((Fr.refl NoB w).drew) (fun _ _ _ => id)
  have hr2 := hr2.fr ((Fr.refl NoB w).drew) (fun _ _ _ => id)
  generalize w.drew = W0 at *
  refine pure_ (i := 0) (N := some 9) (v := ?_) (a' := ?_) #[true, false, false, false, false, false, false, false, false, false, false, false, false, false, false, false, false, false, false, false] rfl rfl (any_of HT_.out (by kernel_rfl)) (fun _ _ _ h => h) (Or.inl ⟨by rfl, ?_⟩) ?_ ?_
  rotate_left
  · intro w'
    go_simp
    with_reducible rfl
  rotate_left
  · simp only [Act.put, List.setIfInBounds_toArray, List.set_cons_zero, List.set_cons_succ, i64_w, i32_w]
    rfl
  refine pure_ (i := 2) (N := some 11) (v := ?_) (a' := ?_) #[true, false, true, false, false, false, false, false, false, false, false, false, false, false, false, false, false, false, false, false] rfl rfl (any_of HT_.out (by kernel_rfl)) (fun _ _ _ h => h) (Or.inl ⟨by rfl, ?_⟩) ?_ ?_
  rotate_left
  · intro w'
    go_simp
    with_reducible rfl
  rotate_left
  · simp only [Act.put, List.setIfInBounds_toArray, List.set_cons_zero, List.set_cons_succ, i64_w, i32_w]
    rfl
  refine pure_ (i := 3) (N := some 12) (v := ?_) (a' := ?_) #[true, false, true, true, false, false, false, false, false, false, false, false, false, false, false, false, false, false, false, false] rfl rfl (any_of HT_.out (by kernel_rfl)) (fun _ _ _ h => h) (Or.inl ⟨by rfl, ?_⟩) ?_ ?_
  rotate_left
  · intro w'
    go_simp
    with_reducible rfl
  rotate_left
  · simp only [Act.put, List.setIfInBounds_toArray, List.set_cons_zero, List.set_cons_succ, i64_w, i32_w]
    rfl
  refine pure_ (i := 4) (N := some 13) (v := ?_) (a' := ?_) #[true, false, true, true, true, false, false, false, false, false, false, false, false, false, false, false, false, false, false, false] rfl rfl (any_of HT_.out (by kernel_rfl)) (fun _ _ _ h => h) (Or.inl ⟨by rfl, ?_⟩) ?_ ?_
  rotate_left
  · intro w'
    go_simp
    with_reducible rfl
  rotate_left
  · simp only [Act.put, List.setIfInBounds_toArray, List.set_cons_zero, List.set_cons_succ, i64_w, i32_w]
    rfl
  refine pure_ (i := 6) (N := some 15) (v := ?_) (a' := ?_) #[true, false, true, true, true, false, true, false, false, false, false, false, false, false, false, false, false, false, false, false] rfl rfl (any_of HT_.out (by kernel_rfl)) (fun _ _ _ h => h) (Or.inl ⟨by rfl, ?_⟩) ?_ ?_
  rotate_left
  · intro w'
    go_simp
    with_reducible rfl
  rotate_left
  · simp only [Act.put, List.setIfInBounds_toArray, List.set_cons_zero, List.set_cons_succ, i64_w, i32_w]
    rfl
  refine pure_ (i := 9) (N := some 18) (v := ?_) (a' := ?_) #[true, false, true, true, true, false, true, false, false, true, false, false, false, false, false, false, false, false, false, false] rfl rfl (any_of HT_.out (by kernel_rfl)) (fun _ _ _ h => h) (Or.inl ⟨by rfl, ?_⟩) ?_ ?_
  rotate_left
  · intro w'
    go_simp
    with_reducible rfl
  rotate_left
  · simp only [Act.put, List.setIfInBounds_toArray, List.set_cons_zero, List.set_cons_succ, i64_w, i32_w]
    rfl
  refine pure_ (i := 10) (N := some 19) (v := ?_) (a' := ?_) #[true, false, true, true, true, false, true, false, false, true, true, false, false, false, false, false, false, false, false, false] rfl rfl (any_of HT_.out (by kernel_rfl)) (fun _ _ _ h => h) (Or.inl ⟨by rfl, ?_⟩) ?_ ?_
  rotate_left
  · intro w'
    go_simp
    with_reducible rfl
  rotate_left
  · simp only [Act.put, List.setIfInBounds_toArray, List.set_cons_zero, List.set_cons_succ, i64_w, i32_w]
    rfl
  refine pure_ (i := 11) (N := some 20) (v := ?_) (a' := ?_) #[true, false, true, true, true, false, true, false, false, true, true, true, false, false, false, false, false, false, false, false] rfl rfl (any_of HT_.out (by kernel_rfl)) (fun _ _ _ h => h) (Or.inl ⟨by rfl, ?_⟩) ?_ ?_
  rotate_left
  · intro w'
    go_simp
    with_reducible rfl
  rotate_left
  · simp only [Act.put, List.setIfInBounds_toArray, List.set_cons_zero, List.set_cons_succ, i64_w, i32_w]
    rfl
  refine pure_ (i := 13) (N := some 22) (v := ?_) (a' := ?_) #[true, false, true, true, true, false, true, false, false, true, true, true, false, true, false, false, false, false, false, false] rfl rfl (any_of HT_.out (by kernel_rfl)) (fun _ _ _ h => h) (Or.inl ⟨by rfl, ?_⟩) ?_ ?_
  rotate_left
  · intro w'
    go_simp
    with_reducible rfl
  rotate_left
  · simp only [Act.put, List.setIfInBounds_toArray, List.set_cons_zero, List.set_cons_succ, i64_w, i32_w]
    rfl
  refine pure_ (i := 14) (N := some 23) (v := ?_) (a' := ?_) #[true, false, true, true, true, false, true, false, false, true, true, true, false, true, true, false, false, false, false, false] rfl rfl (any_of HT_.out (by kernel_rfl)) (fun _ _ _ h => h) (Or.inl ⟨by rfl, ?_⟩) ?_ ?_
  rotate_left
  · intro w'
    go_simp
    with_reducible rfl
  rotate_left
  · simp only [Act.put, List.setIfInBounds_toArray, List.set_cons_zero, List.set_cons_succ, i64_w, i32_w]
    rfl
  refine take_ (i := 5) (N := some 14) (v := ?_) (a' := ?_) #[true, false, true, true, true, true, true, false, false, true, true, true, false, true, true, false, false, false, false, false] rfl rfl (take_ofW HT_.out HW_.out (by kernel_rfl)) (fun _ _ _ h => h) (Or.inl ⟨by rfl, ?_⟩) hHeld ?_ ?_
  rotate_left
  · intro w' hS
    have s0 := hS.cell 0
    simp at s0
    go_simp
    with_reducible rfl
  rotate_left
  · simp only [Act.put, List.setIfInBounds_toArray, List.set_cons_zero, List.set_cons_succ, i64_w, i32_w]
    rfl
  refine pure_ (i := 7) (N := some 16) (v := ?_) (a' := ?_) #[true, false, true, true, true, true, true, true, false, true, true, true, false, true, true, false, false, false, false, false] rfl rfl (any_of HT_.out (by kernel_rfl)) (fun _ _ _ h => h) (Or.inl ⟨by rfl, ?_⟩) ?_ ?_
  rotate_left
  · intro w'
    go_simp
    with_reducible rfl
  rotate_left
  · simp only [Act.put, List.setIfInBounds_toArray, List.set_cons_zero, List.set_cons_succ, i64_w, i32_w]
    rfl
  refine take_ (i := 12) (N := some 21) (v := ?_) (a' := ?_) #[true, false, true, true, true, true, true, true, false, true, true, true, true, true, true, false, false, false, false, false] rfl rfl (take_ofW HT_.out HW_.out (by kernel_rfl)) (fun _ _ _ h => h) (Or.inl ⟨by rfl, ?_⟩) hHeld ?_ ?_
  rotate_left
  · intro w' hS
    have s0 := hS.cell 0
    simp at s0
    go_simp
    with_reducible rfl
  rotate_left
  · simp only [Act.put, List.setIfInBounds_toArray, List.set_cons_zero, List.set_cons_succ, i64_w, i32_w]
    rfl
  refine pure_ (i := 15) (N := some 24) (v := ?_) (a' := ?_) #[true, false, true, true, true, true, true, true, false, true, true, true, true, true, true, true, false, false, false, false] rfl rfl (any_of HT_.out (by kernel_rfl)) (fun _ _ _ h => h) (Or.inl ⟨by rfl, ?_⟩) ?_ ?_
  rotate_left
  · intro w'
    go_simp
    with_reducible rfl
  rotate_left
  · simp only [Act.put, List.setIfInBounds_toArray, List.set_cons_zero, List.set_cons_succ, i64_w, i32_w]
    rfl
  refine one_ (i := 1) (N := some 10) #[true, true, true, true, true, true, true, true, false, true, true, true, true, true, true, true, false, false, false, false] rfl rfl (one_of HT_.out (by kernel_rfl)) (by decide) (fun K hK => ?_)
  refine step_value rfl (.slice (some ⟨W0.heap.size, 0, none⟩) 0 0) (W0.alloc (.cells #[] 63)) (by first | (go_simp; done) | (go_simp; rfl)) ?_
  have hbN : Blk (W0.alloc (.cells #[] 63)) W0.heap.size 63 #[] := Blk.new _ _ _
  have hT : Fr NoB W0 (W0.alloc (.cells #[] 63)) := (Fr.refl NoB W0).alloc _
  have leN : w.heap.size ≤ W0.heap.size := hf.size
  have hr1 := hr1.fr hT (fun _ _ _ => id)
  have hr2 := hr2.fr hT (fun _ _ _ => id)
  have hf := hf.trans hT (fun _ h _ => h.elim)
  have hH2 := hHeld.fr hT id
  generalize (W0.alloc (.cells #[] 63)) = W1 at *
  refine hK.out _ _ hH2 (fun hHeld => ?_)
  clear hK K
  refine norm_ (a' := ?_) ?_ ?_
  rotate_left
  · show Act.put _ (some 10) _ = _
    simp only [Act.put, List.setIfInBounds_toArray, List.set_cons_zero, List.set_cons_succ, i64_w, i32_w]
    rfl
  refine one_ (i := 8) (N := some 17) #[true, true, true, true, true, true, true, true, true, true, true, true, true, true, true, true, false, false, false, false] rfl rfl (one_of HT_.out (by kernel_rfl)) (by decide) (fun K hK => ?_)
  refine step_app_new _ rfl (.tmp 10) (.tmp 16) 28 rfl w.heap.size 63 i0 _ 4 48 Try.underlying28 hi0 hz0 hz1 hz2 rfl (by omega) W0.heap.size rfl leN hbN _ (some ⟨g, 0, none⟩) i lc (fun h => by cases h) (flat (ps.take i)) rfl hr1 (by simp only [maxLen]; have := HP.out; omega) (by have := HP.out; omega) hf.size ?_
  intro v17 W2 own17 hT hat17
  have hr1 := hr1.fr hT (fun _ _ _ => id)
  have hr2 := hr2.fr hT (fun _ _ _ => id)
  have hf := hf.trans hT (fun _ h _ => h.elim)
  refine hK.out _ _ (hHeld.fr hT id) (fun hHeld => ?_)
  clear hK K
  refine norm_ (a' := ?_) ?_ ?_
  rotate_left
  · show Act.put _ (some 17) _ = _
    simp only [Act.put, List.setIfInBounds_toArray, List.set_cons_zero, List.set_cons_succ, i64_w, i32_w]
    rfl
  refine one_ (i := 16) (N := some 25) #[true, true, true, true, true, true, true, true, true, true, true, true, true, true, true, true, true, false, false, false] rfl rfl (one_of HT_.out (by kernel_rfl)) (by decide) (fun K hK => ?_)
  refine step_app _ rfl (.tmp 17) (.tmp 24) 28 rfl w.heap.size 63 i0 _ 4 48 Try.underlying28 hi0 hz0 hz1 hz2 rfl (by omega) v17 i (flat (ps.take i)) rfl own17 _ B (p - i) (lc - (i + 1)) (fun h => absurd h hBn) (flat (ps.drop (i + 1))) rfl hr2 HO2.out (by simp only [maxLen]; have := HP.out; omega) (by have := HP.out; omega) hf.size ?_
  intro v25 W3 own25 hg25 hat25
  have hT := Fr.of_grown (S := fun k => v17.ownBlock = some k) hg25 (fun k hk _ => hk)
  have hf := hf.trans hT (fun b hb hlt => absurd hlt (by have := (own17.lt b hb).1; omega))
  have hH2 := hHeld.fr hT (fun e => own_blk_ne own17 hHeld (by decide) e)
  obtain ⟨L', c', rfl, hs25⟩ := own_slice own25
  refine hK.out _ _ hH2 (fun hHeld => ?_)
  clear hK K
  refine norm_ (a' := ?_) ?_ ?_
  rotate_left
  · show Act.put _ (some 25) _ = _
    simp only [Act.put, List.setIfInBounds_toArray, List.set_cons_zero, List.set_cons_succ, i64_w, i32_w]
    rfl
  refine pure_ (i := 17) (N := some 26) (v := ?_) (a' := ?_) #[true, true, true, true, true, true, true, true, true, true, true, true, true, true, true, true, true, true, false, false] rfl rfl (any_of HT_.out (by kernel_rfl)) (fun _ _ _ h => h) (Or.inl ⟨by rfl, ?_⟩) ?_ ?_
  rotate_left
  · intro w'
    go_simp
    with_reducible rfl
  rotate_left
  · simp only [Act.put, List.setIfInBounds_toArray, List.set_cons_zero, List.set_cons_succ, i64_w, i32_w]
    rfl
  refine pure_ (i := 18) (N := some 27) (v := ?_) (a' := ?_) #[true, true, true, true, true, true, true, true, true, true, true, true, true, true, true, true, true, true, true, false] rfl rfl (any_of HT_.out (by kernel_rfl)) (fun _ _ _ h => h) (Or.inl ⟨by rfl, ?_⟩) ?_ ?_
  rotate_left
  · intro w'
    go_simp
    with_reducible rfl
  rotate_left
  · simp only [Act.put, List.setIfInBounds_toArray, List.set_cons_zero, List.set_cons_succ, i64_w, i32_w]
    rfl
  refine last_ (i := 19) (N := none) #[true, true, true, true, true, true, true, true, true, true, true, true, true, true, true, true, true, true, true, true] rfl rfl (one_of HT_.out (by kernel_rfl)) (by decide) (fun K hK => ?_)
  have q0 := hHeld.cell 0
  have q1 := hHeld.frozen 0
  simp at q0
  refine skip_ (w1 := ?_) (by rfl) rfl ?_ ?_
  rotate_left
  · go_simp
    rfl
  refine hK.out _ _ ?_
  clear hK K
  refine done_ (done_of HT_.out (by kernel_rfl)) ?_
  go_wp2
  go_ret
  have hE := H.out.put (qs := ps.eraseIdx i) (n := i + (p - i)) (fun q hq => (List.eraseIdx_sublist ps i).subset hq) (by rw [List.length_eraseIdx, if_pos (by have := HP.out; omega)]; have := HP.out; omega) (by have := HP.out; omega) hHeld (by rw [List.eraseIdx_eq_take_drop_succ, flat_append]; exact own25) hf
  have hA : ∃ a, (Value.slice L' (i + (p - i)) c').ownBlock = some a := by
    rcases hat25 with e | e
    · rcases hat17 with e' | e' <;> rw [e, e'] <;> exact ⟨_, rfl⟩
    · exact ⟨_, e⟩
  exact ⟨rfl, _, hA, hE⟩
set_option maxHeartbeats 400000 in
theorem fdrop_out (bn : Nat) (A : Option Addr) (n c : Nat) (a : Int) (w : World) (h0 : w.cell? ⟨bn, 0, none⟩ = some (.slice A n c)) (ha : a < 0 ∨ (n : Int) ≤ a) :
    Calls Try.prog 22 #[.pointer (some ⟨bn, 0, none⟩), .int .i64 a] w fun e w' => e = .returned (.bool false) ∧ w = w' := by
  go_enter Try.func22, Try.ntmps22
  go_wp2_with (go_at_call 40; refine (fthere_out _ _ _ _ _ _ h0 ha).mono ?_; rintro e w' ⟨rfl, rfl⟩)
  go_ret
  exact ⟨rfl, rfl⟩
end Go.Proofs.Ytdfdmjnhekdpjaa
