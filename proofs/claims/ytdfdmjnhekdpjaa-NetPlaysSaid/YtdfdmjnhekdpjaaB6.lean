import Derived.Test.YtdfdmjnhekdpjaaB5
import Derived.Test.YtdfdmjnhekdpjaaWLast
import Derived.Test.YtdfdmjnhekdpjaaWTab
namespace Go.Proofs.Ytdfdmjnhekdpjaa
set_option linter.unusedVariables false
set_option linter.unusedSimpArgs false
open Go.RowKit Go.Proofs.YtdfdmjnhekdpjaaW.PrintWords Go.Proofs.YtdfdmjnhekdpjaaW.PrintLast

set_option maxHeartbeats 4000000 in
set_option maxRecDepth 100000 in
theorem step_1 {w : World} {lo hi bn bw : Nat} {last : Int} (a b y : Int) {A : Option Addr} {n c : Nat} (h : Pair w lo hi bn bw last) (hhi : lo ≤ hi ∧ hi ≤ w.heap.size)
    (hl : 0 ≤ last ∧ last < 1000000) {ok : Nat → Prop} {xs : List Value} (hA : A = none → c = 0) (hr : Rd w ok 1 A n xs) (hok : ∀ b, ok b → ¬ In lo hi b) (hx : ∀ u ∈ xs, ∃ k : Int, u = .int .u8 k) (hn : n ≤ 20000) :
    Calls Try.prog 8 #[.pointer (some ⟨bn, 0, none⟩), .pointer (some ⟨bw, 0, none⟩), .agg #[.int .i64 1, .int .i64 a, .int .i64 b, .int .u8 y, .slice A n c]] w fun e w' => e = .returned (.bool true) ∧ Fr (In lo hi) w w' ∧ ∃ last', last ≤ last' ∧ last' ≤ last + 1 ∧ Pair w' lo w'.heap.size bn bw last' := by
  have hb := Blk.new w 37 #[.int .i64 1, .int .i64 a, .int .i64 b, .int .u8 y, .slice A n c]
  have hf0 : Fr NoB w (w.alloc (.cells #[.int .i64 1, .int .i64 a, .int .i64 b, .int .u8 y, .slice A n c] 37)) := ((Fr.refl NoB w).alloc _)
  have hP := h.far hf0 (fun _ _ => id)
  have hs := Nat.le_trans hhi.2 hf0.size
  have hnb : ¬ In lo hi w.heap.size := fun h => by have := h.2; omega
  have hr0 := hr.fr hf0 (fun _ _ _ => id)
  have H := Lib.hid (pair_send hP ⟨hhi.1, hs⟩ a b ok A n c xs hl hA hr0 hok hx hn)
  go_enter Try.func8, Try.ntmps8
  go_wp2_with fail
  refine H.out.mono ?_
  rintro e w1 ⟨r, s, rfl, hf1, hN⟩
  have hb1 := hb.fr hf1 hnb
  have d0 := hb1.cell 0
  have d1 := hb1.cell 1
  have d2 := hb1.cell 2
  have d3 := hb1.cell 3
  have d4 := hb1.cell 4
  simp at d0 d1 d2 d3 d4
  go_wp2_with fail
  refine (hN _ (by first | exact Fr.refl _ _ | exact (Fr.refl _ _).drewN _)).mono ?_
  rintro e w2 ⟨rfl, hf2, last', l1, l2, hP2⟩
  go_wp2
  go_ret
  exact ⟨by simp, ((hf0.mono (fun _ h _ => h.elim)).trans hf1 (fun _ h _ => h)).trans hf2 (fun _ h _ => h), last', l1, l2, hP2⟩


set_option maxHeartbeats 4000000 in
set_option maxRecDepth 100000 in
theorem step_3 {w : World} {lo hi bn bw : Nat} {last : Int} (a b y : Int) {A : Option Addr} {n c : Nat} (h : Pair w lo hi bn bw last) (hhi : lo ≤ hi ∧ hi ≤ w.heap.size) (hl : 0 ≤ last ∧ last < 1000000) :
    Calls Try.prog 8 #[.pointer (some ⟨bn, 0, none⟩), .pointer (some ⟨bw, 0, none⟩), .agg #[.int .i64 3, .int .i64 a, .int .i64 b, .int .u8 y, .slice A n c]] w fun e w' => e = .returned (.bool true) ∧ Fr (In lo hi) w w' ∧ ∃ last', last ≤ last' ∧ last' ≤ last + 1 ∧ Pair w' lo w'.heap.size bn bw last' := by
  have hb := Blk.new w 37 #[.int .i64 3, .int .i64 a, .int .i64 b, .int .u8 y, .slice A n c]
  have hf0 : Fr NoB w (w.alloc (.cells #[.int .i64 3, .int .i64 a, .int .i64 b, .int .u8 y, .slice A n c] 37)) := ((Fr.refl NoB w).alloc _)
  have hP := h.far hf0 (fun _ _ => id)
  have hs := Nat.le_trans hhi.2 hf0.size
  have hnb : ¬ In lo hi w.heap.size := fun h => by have := h.2; omega
  have H := Lib.hid (pair_double hP ⟨hhi.1, hs⟩ a hl)
  go_enter Try.func8, Try.ntmps8
  go_wp2_with fail
  refine H.out.mono ?_
  rintro e w1 ⟨r, s, rfl, hf1, hN⟩
  have hb1 := hb.fr hf1 hnb
  have d0 := hb1.cell 0
  have d1 := hb1.cell 1
  have d2 := hb1.cell 2
  have d3 := hb1.cell 3
  have d4 := hb1.cell 4
  simp at d0 d1 d2 d3 d4
  go_wp2_with fail
  refine (hN _ (by first | exact Fr.refl _ _ | exact (Fr.refl _ _).drewN _)).mono ?_
  rintro e w2 ⟨rfl, hf2, last', l1, l2, hP2⟩
  go_wp2
  go_ret
  exact ⟨by simp, ((hf0.mono (fun _ h _ => h.elim)).trans hf1 (fun _ h _ => h)).trans hf2 (fun _ h _ => h), last', l1, l2, hP2⟩


def F8.T7 : Bool × List (List Nat × List Nat) := (true, [([], []), ([], []), ([1], [1]), ([0, 2], [0, 2]), ([], []), ([], []), ([5], [5]), ([4, 6, 3], [4, 6]), ([3, 7], [3, 7]), ([8, 7, 0, 1, 2, 3, 4, 5, 6, 7, 8], [8])])
def F8.B7 : List Nat := [0, 0, 2, 7, 0, 0, 32, 127, 255, 511]
theorem F8.tab7 : rtab .any (opsOf Try.f8 7) = F8.T7 := by kernel_rfl
theorem F8.bits7 : waitsOk F8.T7.2 F8.B7 = true := by kernel_rfl

set_option maxHeartbeats 4000000 in
set_option maxRecDepth 100000 in
theorem step_2 {w : World} {lo hi bn bw : Nat} {last : Int} (a b y : Int) {A : Option Addr} {n c : Nat} (h : Pair w lo hi bn bw last) (hhi : lo ≤ hi ∧ hi ≤ w.heap.size) :
    Calls Try.prog 8 #[.pointer (some ⟨bn, 0, none⟩), .pointer (some ⟨bw, 0, none⟩), .agg #[.int .i64 2, .int .i64 a, .int .i64 b, .int .u8 y, .slice A n c]] w fun e w' => e = .returned (.bool true) ∧ Fr (In lo hi) w w' ∧ ∃ last', last ≤ last' ∧ last' ≤ last + 1 ∧ Pair w' lo w'.heap.size bn bw last' := by
  have hb := Blk.new w 37 #[.int .i64 2, .int .i64 a, .int .i64 b, .int .u8 y, .slice A n c]
  have hf0 : Fr NoB w (w.alloc (.cells #[.int .i64 2, .int .i64 a, .int .i64 b, .int .u8 y, .slice A n c] 37)).drew := ((Fr.refl NoB w).alloc _).drew
  have hP := h.far hf0 (fun _ _ => id)
  have hs := Nat.le_trans hhi.2 hf0.size
  have hnb : ¬ In lo hi w.heap.size := fun h => by have := h.2; omega
  have H := Lib.hid (pair_drop hP ⟨hhi.1, hs⟩ a)
  go_enter Try.func8, Try.ntmps8
  go_wp2_with fail
  refine start_ (n := 10) (S := fun w' => Blk w' w.heap.size 37 #[.int .i64 2, .int .i64 a, .int .i64 b, .int .u8 y, .slice A n c]) (ds := [7]) #[false, false, false, false, false, false, false, false, false, false] (by kernel_rfl) rfl rfl hb.drew (fun hHeld => ?_)
  refine with_tabW F8.tab7 F8.bits7 (fun HT_ HW_ => ?_)
  refine pure_ (i := 0) (N := some 55) (v := ?_) (a' := ?_) #[true, false, false, false, false, false, false, false, false, false] rfl rfl (any_of HT_.out (by kernel_rfl)) (fun _ _ _ h => h) (Or.inl ⟨by rfl, ?_⟩) ?_ ?_
  rotate_left
  · intro w'
    go_simp
    with_reducible rfl
  rotate_left
  · simp only [Act.put, List.setIfInBounds_toArray, List.set_cons_zero, List.set_cons_succ, i64_w, i32_w]
    rfl
  refine pure_ (i := 1) (N := some 56) (v := ?_) (a' := ?_) #[true, true, false, false, false, false, false, false, false, false] rfl rfl (any_of HT_.out (by kernel_rfl)) (fun _ _ _ h => h) (Or.inl ⟨by rfl, ?_⟩) ?_ ?_
  rotate_left
  · intro w'
    go_simp
    with_reducible rfl
  rotate_left
  · simp only [Act.put, List.setIfInBounds_toArray, List.set_cons_zero, List.set_cons_succ, i64_w, i32_w]
    rfl
  refine pure_ (i := 4) (N := some 59) (v := ?_) (a' := ?_) #[true, true, false, false, true, false, false, false, false, false] rfl rfl (any_of HT_.out (by kernel_rfl)) (fun _ _ _ h => h) (Or.inl ⟨by rfl, ?_⟩) ?_ ?_
  rotate_left
  · intro w'
    go_simp
    with_reducible rfl
  rotate_left
  · simp only [Act.put, List.setIfInBounds_toArray, List.set_cons_zero, List.set_cons_succ, i64_w, i32_w]
    rfl
  refine pure_ (i := 5) (N := some 60) (v := ?_) (a' := ?_) #[true, true, false, false, true, true, false, false, false, false] rfl rfl (any_of HT_.out (by kernel_rfl)) (fun _ _ _ h => h) (Or.inl ⟨by rfl, ?_⟩) ?_ ?_
  rotate_left
  · intro w'
    go_simp
    with_reducible rfl
  rotate_left
  · simp only [Act.put, List.setIfInBounds_toArray, List.set_cons_zero, List.set_cons_succ, i64_w, i32_w]
    rfl
  refine take_ (i := 2) (N := some 57) (v := ?_) (a' := ?_) #[true, true, true, false, true, true, false, false, false, false] rfl rfl (take_ofW HT_.out HW_.out (by kernel_rfl)) (fun _ _ _ h => h) (Or.inl ⟨by rfl, ?_⟩) hHeld ?_ ?_
  rotate_left
  · intro w' hS
    have s0 := hS.cell 0
    have s1 := hS.cell 1
    have s2 := hS.cell 2
    have s3 := hS.cell 3
    have s4 := hS.cell 4
    simp at s0 s1 s2 s3 s4
    go_simp
    with_reducible rfl
  rotate_left
  · simp only [Act.put, List.setIfInBounds_toArray, List.set_cons_zero, List.set_cons_succ, i64_w, i32_w]
    rfl
  refine take_ (i := 6) (N := some 61) (v := ?_) (a' := ?_) #[true, true, true, false, true, true, true, false, false, false] rfl rfl (take_ofW HT_.out HW_.out (by kernel_rfl)) (fun _ _ _ h => h) (Or.inl ⟨by rfl, ?_⟩) hHeld ?_ ?_
  rotate_left
  · intro w' hS
    have s0 := hS.cell 0
    have s1 := hS.cell 1
    have s2 := hS.cell 2
    have s3 := hS.cell 3
    have s4 := hS.cell 4
    simp at s0 s1 s2 s3 s4
    go_simp
    with_reducible rfl
  rotate_left
  · simp only [Act.put, List.setIfInBounds_toArray, List.set_cons_zero, List.set_cons_succ, i64_w, i32_w]
    rfl
  refine one_ (i := 3) (N := some 58) #[true, true, true, true, true, true, true, false, false, false] rfl rfl (one_of HT_.out (by kernel_rfl)) (by decide) (fun K hK => ?_)
  refine goes_ Try.func21 (by kernel_rfl) rfl #[.pointer (some ⟨bn, 0, none⟩), .int .i64 a] (by rfl) rfl rfl (by (try simp only [List.map_toArray, List.map_cons, List.map_nil]); first | done | rfl) ?_
  refine H.out.mono ?_
  rintro e w1 ⟨r, rfl, hf1, hN⟩
  refine ⟨_, rfl, ?_⟩
  refine hK.out _ _ (hHeld.fr hf1 hnb) (fun hHeld => ?_)
  clear hK K
  refine norm_ (a' := ?_) ?_ ?_
  rotate_left
  · show Act.put _ (some 58) _ = _
    simp only [Act.put, List.setIfInBounds_toArray, List.set_cons_zero, List.set_cons_succ, i64_w, i32_w]
    rfl
  refine last_ (i := 7) (N := some 62) #[true, true, true, true, true, true, true, true, false, false] rfl rfl (one_of HT_.out (by kernel_rfl)) (by decide) (fun K hK => ?_)
  refine goes_ Try.func22 (by kernel_rfl) rfl #[.pointer (some ⟨bw, 0, none⟩), .int .i64 a] (by rfl) rfl rfl (by (try simp only [List.map_toArray, List.map_cons, List.map_nil]); first | done | rfl) ?_
  refine (hN _ (Fr.refl _ _)).mono ?_
  rintro e w2 ⟨rfl, hf2, last', l1, l2, hP2⟩
  refine ⟨_, rfl, ?_⟩
  refine hK.out _ _ ?_
  clear hK K
  refine norm_ (a' := ?_) ?_ ?_
  rotate_left
  · show Act.put _ (some 62) _ = _
    simp only [Act.put, List.setIfInBounds_toArray, List.set_cons_zero, List.set_cons_succ, i64_w, i32_w]
    rfl
  refine pure_ (i := 8) (N := some 63) (v := ?_) (a' := ?_) #[true, true, true, true, true, true, true, true, true, false] rfl rfl (any_of HT_.out (by kernel_rfl)) (fun _ _ _ h => h) (Or.inl ⟨by rfl, ?_⟩) ?_ ?_
  rotate_left
  · intro w'
    go_simp
    with_reducible rfl
  rotate_left
  · simp only [Act.put, List.setIfInBounds_toArray, List.set_cons_zero, List.set_cons_succ, i64_w, i32_w]
    rfl
  refine pure_ (i := 9) (N := some 6) (v := ?_) (a' := ?_) #[true, true, true, true, true, true, true, true, true, true] rfl rfl (any_of HT_.out (by kernel_rfl)) (fun _ _ _ h => h) (Or.inl ⟨by rfl, ?_⟩) ?_ ?_
  rotate_left
  · intro w'
    go_simp
    with_reducible rfl
  rotate_left
  · simp only [Act.put, List.setIfInBounds_toArray, List.set_cons_zero, List.set_cons_succ, i64_w, i32_w]
    rfl
  refine done_ (done_of HT_.out (by kernel_rfl)) ?_
  go_wp2
  go_ret
  exact ⟨by simp, ((hf0.mono (fun _ h _ => h.elim)).trans hf1 (fun _ h _ => h)).trans hf2 (fun _ h _ => h), last', l1, l2, hP2⟩


def F8.T17 : Bool × List (List Nat × List Nat) := (true, [([], []), ([], []), ([1], [1]), ([], []), ([3], [3]), ([], []), ([5], [5]), ([0, 2, 4, 6], [0, 2, 4, 6]), ([], []), ([], []), ([9], [9]), ([], []), ([11], [11]), ([], []), ([13], [13]), ([8, 10, 12, 14, 7], [8, 10, 12, 14]), ([7, 15], [7, 15]), ([16, 15, 0, 1, 2, 3, 4, 5, 6, 7, 8, 9, 10, 11, 12, 13, 14, 15, 16], [16])])
def F8.B17 : List Nat := [0, 0, 2, 0, 8, 0, 32, 127, 0, 0, 512, 0, 2048, 0, 8192, 32767, 65535, 131071]
theorem F8.tab17 : rtab .any (opsOf Try.f8 17) = F8.T17 := by kernel_rfl
theorem F8.bits17 : waitsOk F8.T17.2 F8.B17 = true := by kernel_rfl

set_option maxHeartbeats 4000000 in
set_option maxRecDepth 100000 in
theorem step_5 {w : World} {lo hi bn bw : Nat} {last : Int} (a b y : Int) {A : Option Addr} {n c : Nat} (h : Pair w lo hi bn bw last) (hhi : lo ≤ hi ∧ hi ≤ w.heap.size) :
    Calls Try.prog 8 #[.pointer (some ⟨bn, 0, none⟩), .pointer (some ⟨bw, 0, none⟩), .agg #[.int .i64 5, .int .i64 a, .int .i64 b, .int .u8 y, .slice A n c]] w fun e w' => e = .returned (.bool true) ∧ Fr (In lo hi) w w' ∧ ∃ last', last ≤ last' ∧ last' ≤ last + 1 ∧ Pair w' lo w'.heap.size bn bw last' := by
  have hb := Blk.new w 37 #[.int .i64 5, .int .i64 a, .int .i64 b, .int .u8 y, .slice A n c]
  have hf0 : Fr NoB w (w.alloc (.cells #[.int .i64 5, .int .i64 a, .int .i64 b, .int .u8 y, .slice A n c] 37)).drew := ((Fr.refl NoB w).alloc _).drew
  have hP := h.far hf0 (fun _ _ => id)
  have hs := Nat.le_trans hhi.2 hf0.size
  have hnb : ¬ In lo hi w.heap.size := fun h => by have := h.2; omega
  have H := Lib.hid (pair_damage hP ⟨hhi.1, hs⟩ a b y)
  go_enter Try.func8, Try.ntmps8
  go_wp2_with fail
  refine start_ (n := 18) (S := fun w' => Blk w' w.heap.size 37 #[.int .i64 5, .int .i64 a, .int .i64 b, .int .u8 y, .slice A n c]) (ds := [15]) #[false, false, false, false, false, false, false, false, false, false, false, false, false, false, false, false, false, false] (by kernel_rfl) rfl rfl hb.drew (fun hHeld => ?_)
  refine with_tabW F8.tab17 F8.bits17 (fun HT_ HW_ => ?_)
  refine pure_ (i := 0) (N := some 117) (v := ?_) (a' := ?_) #[true, false, false, false, false, false, false, false, false, false, false, false, false, false, false, false, false, false] rfl rfl (any_of HT_.out (by kernel_rfl)) (fun _ _ _ h => h) (Or.inl ⟨by rfl, ?_⟩) ?_ ?_
  rotate_left
  · intro w'
    go_simp
    with_reducible rfl
  rotate_left
  · simp only [Act.put, List.setIfInBounds_toArray, List.set_cons_zero, List.set_cons_succ, i64_w, i32_w]
    rfl
  refine pure_ (i := 1) (N := some 118) (v := ?_) (a' := ?_) #[true, true, false, false, false, false, false, false, false, false, false, false, false, false, false, false, false, false] rfl rfl (any_of HT_.out (by kernel_rfl)) (fun _ _ _ h => h) (Or.inl ⟨by rfl, ?_⟩) ?_ ?_
  rotate_left
  · intro w'
    go_simp
    with_reducible rfl
  rotate_left
  · simp only [Act.put, List.setIfInBounds_toArray, List.set_cons_zero, List.set_cons_succ, i64_w, i32_w]
    rfl
  refine pure_ (i := 3) (N := some 120) (v := ?_) (a' := ?_) #[true, true, false, true, false, false, false, false, false, false, false, false, false, false, false, false, false, false] rfl rfl (any_of HT_.out (by kernel_rfl)) (fun _ _ _ h => h) (Or.inl ⟨by rfl, ?_⟩) ?_ ?_
  rotate_left
  · intro w'
    go_simp
    with_reducible rfl
  rotate_left
  · simp only [Act.put, List.setIfInBounds_toArray, List.set_cons_zero, List.set_cons_succ, i64_w, i32_w]
    rfl
  refine pure_ (i := 5) (N := some 122) (v := ?_) (a' := ?_) #[true, true, false, true, false, true, false, false, false, false, false, false, false, false, false, false, false, false] rfl rfl (any_of HT_.out (by kernel_rfl)) (fun _ _ _ h => h) (Or.inl ⟨by rfl, ?_⟩) ?_ ?_
  rotate_left
  · intro w'
    go_simp
    with_reducible rfl
  rotate_left
  · simp only [Act.put, List.setIfInBounds_toArray, List.set_cons_zero, List.set_cons_succ, i64_w, i32_w]
    rfl
  refine pure_ (i := 8) (N := some 125) (v := ?_) (a' := ?_) #[true, true, false, true, false, true, false, false, true, false, false, false, false, false, false, false, false, false] rfl rfl (any_of HT_.out (by kernel_rfl)) (fun _ _ _ h => h) (Or.inl ⟨by rfl, ?_⟩) ?_ ?_
  rotate_left
  · intro w'
    go_simp
    with_reducible rfl
  rotate_left
  · simp only [Act.put, List.setIfInBounds_toArray, List.set_cons_zero, List.set_cons_succ, i64_w, i32_w]
    rfl
  refine pure_ (i := 9) (N := some 126) (v := ?_) (a' := ?_) #[true, true, false, true, false, true, false, false, true, true, false, false, false, false, false, false, false, false] rfl rfl (any_of HT_.out (by kernel_rfl)) (fun _ _ _ h => h) (Or.inl ⟨by rfl, ?_⟩) ?_ ?_
  rotate_left
  · intro w'
    go_simp
    with_reducible rfl
  rotate_left
  · simp only [Act.put, List.setIfInBounds_toArray, List.set_cons_zero, List.set_cons_succ, i64_w, i32_w]
    rfl
  refine pure_ (i := 11) (N := some 128) (v := ?_) (a' := ?_) #[true, true, false, true, false, true, false, false, true, true, false, true, false, false, false, false, false, false] rfl rfl (any_of HT_.out (by kernel_rfl)) (fun _ _ _ h => h) (Or.inl ⟨by rfl, ?_⟩) ?_ ?_
  rotate_left
  · intro w'
    go_simp
    with_reducible rfl
  rotate_left
  · simp only [Act.put, List.setIfInBounds_toArray, List.set_cons_zero, List.set_cons_succ, i64_w, i32_w]
    rfl
  refine pure_ (i := 13) (N := some 130) (v := ?_) (a' := ?_) #[true, true, false, true, false, true, false, false, true, true, false, true, false, true, false, false, false, false] rfl rfl (any_of HT_.out (by kernel_rfl)) (fun _ _ _ h => h) (Or.inl ⟨by rfl, ?_⟩) ?_ ?_
  rotate_left
  · intro w'
    go_simp
    with_reducible rfl
  rotate_left
  · simp only [Act.put, List.setIfInBounds_toArray, List.set_cons_zero, List.set_cons_succ, i64_w, i32_w]
    rfl
  refine take_ (i := 2) (N := some 119) (v := ?_) (a' := ?_) #[true, true, true, true, false, true, false, false, true, true, false, true, false, true, false, false, false, false] rfl rfl (take_ofW HT_.out HW_.out (by kernel_rfl)) (fun _ _ _ h => h) (Or.inl ⟨by rfl, ?_⟩) hHeld ?_ ?_
  rotate_left
  · intro w' hS
    have s0 := hS.cell 0
    have s1 := hS.cell 1
    have s2 := hS.cell 2
    have s3 := hS.cell 3
    have s4 := hS.cell 4
    simp at s0 s1 s2 s3 s4
    go_simp
    with_reducible rfl
  rotate_left
  · simp only [Act.put, List.setIfInBounds_toArray, List.set_cons_zero, List.set_cons_succ, i64_w, i32_w]
    rfl
  refine take_ (i := 4) (N := some 121) (v := ?_) (a' := ?_) #[true, true, true, true, true, true, false, false, true, true, false, true, false, true, false, false, false, false] rfl rfl (take_ofW HT_.out HW_.out (by kernel_rfl)) (fun _ _ _ h => h) (Or.inl ⟨by rfl, ?_⟩) hHeld ?_ ?_
  rotate_left
  · intro w' hS
    have s0 := hS.cell 0
    have s1 := hS.cell 1
    have s2 := hS.cell 2
    have s3 := hS.cell 3
    have s4 := hS.cell 4
    simp at s0 s1 s2 s3 s4
    go_simp
    with_reducible rfl
  rotate_left
  · simp only [Act.put, List.setIfInBounds_toArray, List.set_cons_zero, List.set_cons_succ, i64_w, i32_w]
    rfl
  refine take_ (i := 6) (N := some 123) (v := ?_) (a' := ?_) #[true, true, true, true, true, true, true, false, true, true, false, true, false, true, false, false, false, false] rfl rfl (take_ofW HT_.out HW_.out (by kernel_rfl)) (fun _ _ _ h => h) (Or.inl ⟨by rfl, ?_⟩) hHeld ?_ ?_
  rotate_left
  · intro w' hS
    have s0 := hS.cell 0
    have s1 := hS.cell 1
    have s2 := hS.cell 2
    have s3 := hS.cell 3
    have s4 := hS.cell 4
    simp at s0 s1 s2 s3 s4
    go_simp
    with_reducible rfl
  rotate_left
  · simp only [Act.put, List.setIfInBounds_toArray, List.set_cons_zero, List.set_cons_succ, i64_w, i32_w]
    rfl
  refine take_ (i := 10) (N := some 127) (v := ?_) (a' := ?_) #[true, true, true, true, true, true, true, false, true, true, true, true, false, true, false, false, false, false] rfl rfl (take_ofW HT_.out HW_.out (by kernel_rfl)) (fun _ _ _ h => h) (Or.inl ⟨by rfl, ?_⟩) hHeld ?_ ?_
  rotate_left
  · intro w' hS
    have s0 := hS.cell 0
    have s1 := hS.cell 1
    have s2 := hS.cell 2
    have s3 := hS.cell 3
    have s4 := hS.cell 4
    simp at s0 s1 s2 s3 s4
    go_simp
    with_reducible rfl
  rotate_left
  · simp only [Act.put, List.setIfInBounds_toArray, List.set_cons_zero, List.set_cons_succ, i64_w, i32_w]
    rfl
  refine take_ (i := 12) (N := some 129) (v := ?_) (a' := ?_) #[true, true, true, true, true, true, true, false, true, true, true, true, true, true, false, false, false, false] rfl rfl (take_ofW HT_.out HW_.out (by kernel_rfl)) (fun _ _ _ h => h) (Or.inl ⟨by rfl, ?_⟩) hHeld ?_ ?_
  rotate_left
  · intro w' hS
    have s0 := hS.cell 0
    have s1 := hS.cell 1
    have s2 := hS.cell 2
    have s3 := hS.cell 3
    have s4 := hS.cell 4
    simp at s0 s1 s2 s3 s4
    go_simp
    with_reducible rfl
  rotate_left
  · simp only [Act.put, List.setIfInBounds_toArray, List.set_cons_zero, List.set_cons_succ, i64_w, i32_w]
    rfl
  refine take_ (i := 14) (N := some 131) (v := ?_) (a' := ?_) #[true, true, true, true, true, true, true, false, true, true, true, true, true, true, true, false, false, false] rfl rfl (take_ofW HT_.out HW_.out (by kernel_rfl)) (fun _ _ _ h => h) (Or.inl ⟨by rfl, ?_⟩) hHeld ?_ ?_
  rotate_left
  · intro w' hS
    have s0 := hS.cell 0
    have s1 := hS.cell 1
    have s2 := hS.cell 2
    have s3 := hS.cell 3
    have s4 := hS.cell 4
    simp at s0 s1 s2 s3 s4
    go_simp
    with_reducible rfl
  rotate_left
  · simp only [Act.put, List.setIfInBounds_toArray, List.set_cons_zero, List.set_cons_succ, i64_w, i32_w]
    rfl
  refine one_ (i := 7) (N := some 124) #[true, true, true, true, true, true, true, true, true, true, true, true, true, true, true, false, false, false] rfl rfl (one_of HT_.out (by kernel_rfl)) (by decide) (fun K hK => ?_)
  refine goes_ Try.func27 (by kernel_rfl) rfl #[.pointer (some ⟨bn, 0, none⟩), .int .i64 a, .int .i64 b, .int .u8 y] (by rfl) rfl rfl (by (try simp only [List.map_toArray, List.map_cons, List.map_nil]); first | done | rfl) ?_
  refine H.out.mono ?_
  rintro e w1 ⟨r, rfl, hf1, hN⟩
  refine ⟨_, rfl, ?_⟩
  refine hK.out _ _ (hHeld.fr hf1 hnb) (fun hHeld => ?_)
  clear hK K
  refine norm_ (a' := ?_) ?_ ?_
  rotate_left
  · show Act.put _ (some 124) _ = _
    simp only [Act.put, List.setIfInBounds_toArray, List.set_cons_zero, List.set_cons_succ, i64_w, i32_w]
    rfl
  refine last_ (i := 15) (N := some 132) #[true, true, true, true, true, true, true, true, true, true, true, true, true, true, true, true, false, false] rfl rfl (one_of HT_.out (by kernel_rfl)) (by decide) (fun K hK => ?_)
  refine goes_ Try.func28 (by kernel_rfl) rfl #[.pointer (some ⟨bw, 0, none⟩), .int .i64 a, .int .i64 b, .int .u8 y] (by rfl) rfl rfl (by (try simp only [List.map_toArray, List.map_cons, List.map_nil]); first | done | rfl) ?_
  refine (hN _ (Fr.refl _ _)).mono ?_
  rintro e w2 ⟨rfl, hf2, last', l1, l2, hP2⟩
  refine ⟨_, rfl, ?_⟩
  refine hK.out _ _ ?_
  clear hK K
  refine norm_ (a' := ?_) ?_ ?_
  rotate_left
  · show Act.put _ (some 132) _ = _
    simp only [Act.put, List.setIfInBounds_toArray, List.set_cons_zero, List.set_cons_succ, i64_w, i32_w]
    rfl
  refine pure_ (i := 16) (N := some 133) (v := ?_) (a' := ?_) #[true, true, true, true, true, true, true, true, true, true, true, true, true, true, true, true, true, false] rfl rfl (any_of HT_.out (by kernel_rfl)) (fun _ _ _ h => h) (Or.inl ⟨by rfl, ?_⟩) ?_ ?_
  rotate_left
  · intro w'
    go_simp
    with_reducible rfl
  rotate_left
  · simp only [Act.put, List.setIfInBounds_toArray, List.set_cons_zero, List.set_cons_succ, i64_w, i32_w]
    rfl
  refine pure_ (i := 17) (N := some 6) (v := ?_) (a' := ?_) #[true, true, true, true, true, true, true, true, true, true, true, true, true, true, true, true, true, true] rfl rfl (any_of HT_.out (by kernel_rfl)) (fun _ _ _ h => h) (Or.inl ⟨by rfl, ?_⟩) ?_ ?_
  rotate_left
  · intro w'
    go_simp
    with_reducible rfl
  rotate_left
  · simp only [Act.put, List.setIfInBounds_toArray, List.set_cons_zero, List.set_cons_succ, i64_w, i32_w]
    rfl
  refine done_ (done_of HT_.out (by kernel_rfl)) ?_
  go_wp2
  go_ret
  exact ⟨by simp, ((hf0.mono (fun _ h _ => h.elim)).trans hf1 (fun _ h _ => h)).trans hf2 (fun _ h _ => h), last', l1, l2, hP2⟩


def F8.T19 : Bool × List (List Nat × List Nat) := (true, [([], []), ([], []), ([1], [1]), ([], []), ([3], [3]), ([0, 2, 4], [0, 2, 4]), ([], []), ([], []), ([7], [7]), ([], []), ([9], [9]), ([6, 8, 10, 5], [6, 8, 10]), ([5, 11], [5, 11]), ([12, 11, 0, 1, 2, 3, 4, 5, 6, 7, 8, 9, 10, 11, 12], [12])])
def F8.B19 : List Nat := [0, 0, 2, 0, 8, 31, 0, 0, 128, 0, 512, 2047, 4095, 8191]
theorem F8.tab19 : rtab .any (opsOf Try.f8 19) = F8.T19 := by kernel_rfl
theorem F8.bits19 : waitsOk F8.T19.2 F8.B19 = true := by kernel_rfl

set_option maxHeartbeats 4000000 in
set_option maxRecDepth 100000 in
theorem step_6 {w : World} {lo hi bn bw : Nat} {last : Int} (a b y : Int) {A : Option Addr} {n c : Nat} (h : Pair w lo hi bn bw last) (hhi : lo ≤ hi ∧ hi ≤ w.heap.size) :
    Calls Try.prog 8 #[.pointer (some ⟨bn, 0, none⟩), .pointer (some ⟨bw, 0, none⟩), .agg #[.int .i64 6, .int .i64 a, .int .i64 b, .int .u8 y, .slice A n c]] w fun e w' => e = .returned (.bool true) ∧ Fr (In lo hi) w w' ∧ ∃ last', last ≤ last' ∧ last' ≤ last + 1 ∧ Pair w' lo w'.heap.size bn bw last' := by
  have hb := Blk.new w 37 #[.int .i64 6, .int .i64 a, .int .i64 b, .int .u8 y, .slice A n c]
  have hf0 : Fr NoB w (w.alloc (.cells #[.int .i64 6, .int .i64 a, .int .i64 b, .int .u8 y, .slice A n c] 37)).drew := ((Fr.refl NoB w).alloc _).drew
  have hP := h.far hf0 (fun _ _ => id)
  have hs := Nat.le_trans hhi.2 hf0.size
  have hnb : ¬ In lo hi w.heap.size := fun h => by have := h.2; omega
  have H := Lib.hid (pair_move hP ⟨hhi.1, hs⟩ a b)
  go_enter Try.func8, Try.ntmps8
  go_wp2_with fail
  refine start_ (n := 14) (S := fun w' => Blk w' w.heap.size 37 #[.int .i64 6, .int .i64 a, .int .i64 b, .int .u8 y, .slice A n c]) (ds := [11]) #[false, false, false, false, false, false, false, false, false, false, false, false, false, false] (by kernel_rfl) rfl rfl hb.drew (fun hHeld => ?_)
  refine with_tabW F8.tab19 F8.bits19 (fun HT_ HW_ => ?_)
  refine pure_ (i := 0) (N := some 136) (v := ?_) (a' := ?_) #[true, false, false, false, false, false, false, false, false, false, false, false, false, false] rfl rfl (any_of HT_.out (by kernel_rfl)) (fun _ _ _ h => h) (Or.inl ⟨by rfl, ?_⟩) ?_ ?_
  rotate_left
  · intro w'
    go_simp
    with_reducible rfl
  rotate_left
  · simp only [Act.put, List.setIfInBounds_toArray, List.set_cons_zero, List.set_cons_succ, i64_w, i32_w]
    rfl
  refine pure_ (i := 1) (N := some 137) (v := ?_) (a' := ?_) #[true, true, false, false, false, false, false, false, false, false, false, false, false, false] rfl rfl (any_of HT_.out (by kernel_rfl)) (fun _ _ _ h => h) (Or.inl ⟨by rfl, ?_⟩) ?_ ?_
  rotate_left
  · intro w'
    go_simp
    with_reducible rfl
  rotate_left
  · simp only [Act.put, List.setIfInBounds_toArray, List.set_cons_zero, List.set_cons_succ, i64_w, i32_w]
    rfl
  refine pure_ (i := 3) (N := some 139) (v := ?_) (a' := ?_) #[true, true, false, true, false, false, false, false, false, false, false, false, false, false] rfl rfl (any_of HT_.out (by kernel_rfl)) (fun _ _ _ h => h) (Or.inl ⟨by rfl, ?_⟩) ?_ ?_
  rotate_left
  · intro w'
    go_simp
    with_reducible rfl
  rotate_left
  · simp only [Act.put, List.setIfInBounds_toArray, List.set_cons_zero, List.set_cons_succ, i64_w, i32_w]
    rfl
  refine pure_ (i := 6) (N := some 142) (v := ?_) (a' := ?_) #[true, true, false, true, false, false, true, false, false, false, false, false, false, false] rfl rfl (any_of HT_.out (by kernel_rfl)) (fun _ _ _ h => h) (Or.inl ⟨by rfl, ?_⟩) ?_ ?_
  rotate_left
  · intro w'
    go_simp
    with_reducible rfl
  rotate_left
  · simp only [Act.put, List.setIfInBounds_toArray, List.set_cons_zero, List.set_cons_succ, i64_w, i32_w]
    rfl
  refine pure_ (i := 7) (N := some 143) (v := ?_) (a' := ?_) #[true, true, false, true, false, false, true, true, false, false, false, false, false, false] rfl rfl (any_of HT_.out (by kernel_rfl)) (fun _ _ _ h => h) (Or.inl ⟨by rfl, ?_⟩) ?_ ?_
  rotate_left
  · intro w'
    go_simp
    with_reducible rfl
  rotate_left
  · simp only [Act.put, List.setIfInBounds_toArray, List.set_cons_zero, List.set_cons_succ, i64_w, i32_w]
    rfl
  refine pure_ (i := 9) (N := some 145) (v := ?_) (a' := ?_) #[true, true, false, true, false, false, true, true, false, true, false, false, false, false] rfl rfl (any_of HT_.out (by kernel_rfl)) (fun _ _ _ h => h) (Or.inl ⟨by rfl, ?_⟩) ?_ ?_
  rotate_left
  · intro w'
    go_simp
    with_reducible rfl
  rotate_left
  · simp only [Act.put, List.setIfInBounds_toArray, List.set_cons_zero, List.set_cons_succ, i64_w, i32_w]
    rfl
  refine take_ (i := 2) (N := some 138) (v := ?_) (a' := ?_) #[true, true, true, true, false, false, true, true, false, true, false, false, false, false] rfl rfl (take_ofW HT_.out HW_.out (by kernel_rfl)) (fun _ _ _ h => h) (Or.inl ⟨by rfl, ?_⟩) hHeld ?_ ?_
  rotate_left
  · intro w' hS
    have s0 := hS.cell 0
    have s1 := hS.cell 1
    have s2 := hS.cell 2
    have s3 := hS.cell 3
    have s4 := hS.cell 4
    simp at s0 s1 s2 s3 s4
    go_simp
    with_reducible rfl
  rotate_left
  · simp only [Act.put, List.setIfInBounds_toArray, List.set_cons_zero, List.set_cons_succ, i64_w, i32_w]
    rfl
  refine take_ (i := 4) (N := some 140) (v := ?_) (a' := ?_) #[true, true, true, true, true, false, true, true, false, true, false, false, false, false] rfl rfl (take_ofW HT_.out HW_.out (by kernel_rfl)) (fun _ _ _ h => h) (Or.inl ⟨by rfl, ?_⟩) hHeld ?_ ?_
  rotate_left
  · intro w' hS
    have s0 := hS.cell 0
    have s1 := hS.cell 1
    have s2 := hS.cell 2
    have s3 := hS.cell 3
    have s4 := hS.cell 4
    simp at s0 s1 s2 s3 s4
    go_simp
    with_reducible rfl
  rotate_left
  · simp only [Act.put, List.setIfInBounds_toArray, List.set_cons_zero, List.set_cons_succ, i64_w, i32_w]
    rfl
  refine take_ (i := 8) (N := some 144) (v := ?_) (a' := ?_) #[true, true, true, true, true, false, true, true, true, true, false, false, false, false] rfl rfl (take_ofW HT_.out HW_.out (by kernel_rfl)) (fun _ _ _ h => h) (Or.inl ⟨by rfl, ?_⟩) hHeld ?_ ?_
  rotate_left
  · intro w' hS
    have s0 := hS.cell 0
    have s1 := hS.cell 1
    have s2 := hS.cell 2
    have s3 := hS.cell 3
    have s4 := hS.cell 4
    simp at s0 s1 s2 s3 s4
    go_simp
    with_reducible rfl
  rotate_left
  · simp only [Act.put, List.setIfInBounds_toArray, List.set_cons_zero, List.set_cons_succ, i64_w, i32_w]
    rfl
  refine take_ (i := 10) (N := some 146) (v := ?_) (a' := ?_) #[true, true, true, true, true, false, true, true, true, true, true, false, false, false] rfl rfl (take_ofW HT_.out HW_.out (by kernel_rfl)) (fun _ _ _ h => h) (Or.inl ⟨by rfl, ?_⟩) hHeld ?_ ?_
  rotate_left
  · intro w' hS
    have s0 := hS.cell 0
    have s1 := hS.cell 1
    have s2 := hS.cell 2
    have s3 := hS.cell 3
    have s4 := hS.cell 4
    simp at s0 s1 s2 s3 s4
    go_simp
    with_reducible rfl
  rotate_left
  · simp only [Act.put, List.setIfInBounds_toArray, List.set_cons_zero, List.set_cons_succ, i64_w, i32_w]
    rfl
  refine one_ (i := 5) (N := some 141) #[true, true, true, true, true, true, true, true, true, true, true, false, false, false] rfl rfl (one_of HT_.out (by kernel_rfl)) (by decide) (fun K hK => ?_)
  refine goes_ Try.func29 (by kernel_rfl) rfl #[.pointer (some ⟨bn, 0, none⟩), .int .i64 a, .int .i64 b] (by rfl) rfl rfl (by (try simp only [List.map_toArray, List.map_cons, List.map_nil]); first | done | rfl) ?_
  refine H.out.mono ?_
  rintro e w1 ⟨r, rfl, hf1, hN⟩
  refine ⟨_, rfl, ?_⟩
  refine hK.out _ _ (hHeld.fr hf1 hnb) (fun hHeld => ?_)
  clear hK K
  refine norm_ (a' := ?_) ?_ ?_
  rotate_left
  · show Act.put _ (some 141) _ = _
    simp only [Act.put, List.setIfInBounds_toArray, List.set_cons_zero, List.set_cons_succ, i64_w, i32_w]
    rfl
  refine last_ (i := 11) (N := some 147) #[true, true, true, true, true, true, true, true, true, true, true, true, false, false] rfl rfl (one_of HT_.out (by kernel_rfl)) (by decide) (fun K hK => ?_)
  refine goes_ Try.func30 (by kernel_rfl) rfl #[.pointer (some ⟨bw, 0, none⟩), .int .i64 a, .int .i64 b] (by rfl) rfl rfl (by (try simp only [List.map_toArray, List.map_cons, List.map_nil]); first | done | rfl) ?_
  refine (hN _ (Fr.refl _ _)).mono ?_
  rintro e w2 ⟨rfl, hf2, last', l1, l2, hP2⟩
  refine ⟨_, rfl, ?_⟩
  refine hK.out _ _ ?_
  clear hK K
  refine norm_ (a' := ?_) ?_ ?_
  rotate_left
  · show Act.put _ (some 147) _ = _
    simp only [Act.put, List.setIfInBounds_toArray, List.set_cons_zero, List.set_cons_succ, i64_w, i32_w]
    rfl
  refine pure_ (i := 12) (N := some 148) (v := ?_) (a' := ?_) #[true, true, true, true, true, true, true, true, true, true, true, true, true, false] rfl rfl (any_of HT_.out (by kernel_rfl)) (fun _ _ _ h => h) (Or.inl ⟨by rfl, ?_⟩) ?_ ?_
  rotate_left
  · intro w'
    go_simp
    with_reducible rfl
  rotate_left
  · simp only [Act.put, List.setIfInBounds_toArray, List.set_cons_zero, List.set_cons_succ, i64_w, i32_w]
    rfl
  refine pure_ (i := 13) (N := some 6) (v := ?_) (a' := ?_) #[true, true, true, true, true, true, true, true, true, true, true, true, true, true] rfl rfl (any_of HT_.out (by kernel_rfl)) (fun _ _ _ h => h) (Or.inl ⟨by rfl, ?_⟩) ?_ ?_
  rotate_left
  · intro w'
    go_simp
    with_reducible rfl
  rotate_left
  · simp only [Act.put, List.setIfInBounds_toArray, List.set_cons_zero, List.set_cons_succ, i64_w, i32_w]
    rfl
  refine done_ (done_of HT_.out (by kernel_rfl)) ?_
  go_wp2
  go_ret
  exact ⟨by simp, ((hf0.mono (fun _ h _ => h.elim)).trans hf1 (fun _ h _ => h)).trans hf2 (fun _ h _ => h), last', l1, l2, hP2⟩

end Go.Proofs.Ytdfdmjnhekdpjaa
