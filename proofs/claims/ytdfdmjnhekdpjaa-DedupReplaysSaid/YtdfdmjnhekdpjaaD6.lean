import Derived.Test.YtdfdmjnhekdpjaaD5
namespace Go.Proofs.Ytdfdmjnhekdpjaa
set_option linter.unusedVariables false
set_option linter.unusedSimpArgs false
open Go.RowKit Go.Proofs.YtdfdmjnhekdpjaaW.PrintWords Go.Proofs.YtdfdmjnhekdpjaaW.PrintLast Go.Proofs.YtdfdmjnhekdpjaaW.PrintMore
open Go.ChangeMaps (setBlock)
attribute [local go_sem] max2_int min2_int max_two min_two max_three min_three max_four min_four

set_option maxHeartbeats 4000000 in
set_option maxRecDepth 100000 in
theorem offer_stale {w : World} {S : Nat → Prop} {bt bs bc bm bo ck k b n c : Nat} {num f tok0 st : Int} {d : Bool} {A : Option Addr} (tok fl : Int) (h : Tab1 w S bt bs bc bm num f bo ck)
    (hm : Mp w bm #[⟨.int .u64 tok0, .agg #[.bool d, .int .i64 st, .slice A n c], b⟩] k) (hb : b < k) (hmn : (if tok < fl then tok else fl) = fl) (hmx : (if f < fl then fl else f) = f) (hk : (d && decide (tok0 < f)) = false) (hne : (tok == tok0) = false) (hlt : tok < f) :
    Calls Try.prog 33 #[.pointer (some ⟨bt, 0, none⟩), .int .i64 num, .int .u64 tok, .int .u64 fl, .agg #[.bool false, .int .i64 0, .slice none 0 0]] w fun e w' => e = .returned (.agg #[.int .i64 4, .int .i64 0, .slice none 0 0]) ∧ Tab1 w' S bt bs bc bm num f bo ck ∧ Mp w' bm #[⟨.int .u64 tok0, .agg #[.bool d, .int .i64 st, .slice A n c], b⟩] k ∧ Fr (OneB bc) w w' := by
  have fr2 := ((Fr.refl NoB w).alloc (.cells #[.bool false, .int .i64 0, .slice none 0 0] 74)).alloc (.cells #[.int .i64 0, .int .i64 0, .slice none 0 0] 47)
  have hbl := h.c.lt
  have hml := hm.lt
  have htl := h.t.lt
  have hsl := h.s.lt
  have h2 := h.fr fr2 id id id
  have d0 := h2.t.cell 0
  have c0 := h2.c.cell 0
  have c0f := h2.c.frozen 0
  simp at d0 c0
  have hlk := lookup_hit (P := Try.prog) h2.s (t := 69) (kt := 3) (et := 75) Try.underlying69 Try.underlying3 true
  have hcm := h.cm
  have fr3 : Fr (OneB bc) w (w.setCell ⟨bc, 0, none⟩ (.int .u64 f)) := (Fr.refl (OneB bc) w).setCell (p := ⟨bc, 0, none⟩) (fun _ => rfl) _
  have hc3 := h.c.set_ 0 (.int .u64 f)
  simp at hc3
  have hbt : bt ≠ bc := h.t.ne_ h.c (by decide)
  have hbs : bs ≠ bc := fun e => by have h1 := h.s; rw [e] at h1; have h2' := h.c; unfold Mp at h1; unfold Blk at h2'; rw [h1] at h2'; cases h2'
  have hbtm : bt ≠ bm := fun e => by have h1 := hm; rw [← e] at h1; have h2' := h.t; unfold Mp at h1; unfold Blk at h2'; rw [h1] at h2'; cases h2'
  have hbts : bt ≠ bs := fun e => by have h1 := h.s; rw [← e] at h1; have h2' := h.t; unfold Mp at h1; unfold Blk at h2'; rw [h1] at h2'; cases h2'
  have fra : Fr NoB (w.setCell ⟨bc, 0, none⟩ (.int .u64 f)) (((w.setCell ⟨bc, 0, none⟩ (.int .u64 f)).alloc (.cells #[.bool false, .int .i64 0, .slice none 0 0] 74)).alloc (.cells #[.int .i64 0, .int .i64 0, .slice none 0 0] 47)) := ((Fr.refl NoB _).alloc _).alloc _
  have hz : (w.setCell ⟨bc, 0, none⟩ (.int .u64 f)).heap.size = w.heap.size := by simp [World.setCell]
  have hc3 := hc3.fr fra id
  have hm3 := (hm.fr fr3 (fun e => hcm (show bm = bc from e).symm)).fr fra id
  have ht3 := (h.t.fr fr3 hbt).fr fra id
  have hs3 := (h.s.fr fr3 hbs).fr fra id
  have hb9 := (Blk.new (w.setCell ⟨bc, 0, none⟩ (.int .u64 f)) 74 #[.bool false, .int .i64 0, .slice none 0 0]).alloc (.cells #[.int .i64 0, .int .i64 0, .slice none 0 0] 47)
  rw [hz] at hb9
  have hb10 := Blk.new ((w.setCell ⟨bc, 0, none⟩ (.int .u64 f)).alloc (.cells #[.bool false, .int .i64 0, .slice none 0 0] 74)) 47 #[.int .i64 0, .int .i64 0, .slice none 0 0]
  rw [show ((w.setCell ⟨bc, 0, none⟩ (.int .u64 f)).alloc (.cells #[.bool false, .int .i64 0, .slice none 0 0] 74)).heap.size = w.heap.size + 1 by simp [hz]] at hb10
  have hsw := sweep_one _ bc bm k _ st f _ A n c b hc3 hm3 hb
  have fr03 := fr3.trans fra (fun _ h _ => h.elim)
  have hst := h.st
  have hss := h.ss
  have hsc := h.sc
  have hsm := h.sm
  have hsn := h.sn
  have hbk := h.bk
  go_enter Try.func33, Try.ntmps33
  go_wp2_with fail
  clear h hm fr2 h2 d0 c0 c0f hlk fr3 fra
  generalize (((w.setCell ⟨bc, 0, none⟩ (.int .u64 f)).alloc (.cells #[.bool false, .int .i64 0, .slice none 0 0] 74)).alloc (.cells #[.int .i64 0, .int .i64 0, .slice none 0 0] 47)) = W3 at *
  refine hsw.mono ?_
  rintro e W4 ⟨⟨v, rfl⟩, hs1, hs2⟩
  have fr4 := hs2 (by exact hk)
  have hc4 := hc3.fr fr4 id
  have hm4 := hm3.fr fr4 id
  have ht4 := ht3.fr fr4 id
  have hs4 := hs3.fr fr4 id
  have hb9 := hb9.fr fr4 id
  have hb10 := hb10.fr fr4 id
  have fr04 := fr03.trans fr4 (fun _ h _ => h.elim)
  clear hsw hs1 hs2 hc3 hm3 ht3 hs3 fr03 fr4
  have fr5 := (Fr.refl NoB W4).alloc (.cells #[.bool false, .int .i64 0, .slice none 0 0] 74)
  have hc5 := hc4.fr fr5 id
  have hm5 := hm4.fr fr5 id
  have ht5 := ht4.fr fr5 id
  have hs5 := hs4.fr fr5 id
  have hb9 := hb9.fr fr5 id
  have hb10 := hb10.fr fr5 id
  have e1 := hc4.cell 1
  have g0 := hc5.cell 0
  simp at e1 g0
  have hbx := Blk.new W4 74 #[.bool false, .int .i64 0, .slice none 0 0]
  have fr05 := fr04.trans fr5 (fun _ h _ => h.elim)
  have hs04 := fr04.size
  have hlk2 := lookup_miss (P := Try.prog) hm4 hne (t := 77) (kt := 43) (et := 74) Try.underlying77 Try.underlying43 _ zero74 true
  have k1 : decide (tok < f) = true := decide_eq_true hlt
  have z0 := hb10.cell 0
  have z1 := hb10.cell 1
  have z2 := hb10.cell 2
  have y0 := hb10.frozen 0
  have y1 := hb10.frozen 1
  have y2 := hb10.frozen 2
  simp at z0 z1 z2
  go_wp2_with fail
  have hB := ((hb10.set_ 0 (.int .i64 4)).set_ 1 (.int .i64 0)).set_ 2 (.slice none 0 0)
  have frB : Fr (OneB (w.heap.size + 1)) (W4.alloc (.cells #[.bool false, .int .i64 0, .slice none 0 0] 74)) ((((W4.alloc (.cells #[.bool false, .int .i64 0, .slice none 0 0] 74)).setCell ⟨w.heap.size + 1, 0, none⟩ (.int .i64 4)).setCell ⟨w.heap.size + 1, 1, none⟩ (.int .i64 0)).setCell ⟨w.heap.size + 1, 2, none⟩ (.slice none 0 0)) :=
    (((Fr.refl (OneB (w.heap.size + 1)) (W4.alloc (.cells #[.bool false, .int .i64 0, .slice none 0 0] 74))).setCell (p := ⟨w.heap.size + 1, 0, none⟩) (fun _ => rfl) _).setCell (p := ⟨w.heap.size + 1, 1, none⟩) (fun _ => rfl) _).setCell (p := ⟨w.heap.size + 1, 2, none⟩) (fun _ => rfl) _
  simp at hB
  refine bodyPost_ret (results_verdict rfl _ _ (w.heap.size + 1) (by rfl) hB) rfl ⟨rfl, ⟨ht5.fr frB (fun e => by have : bt = w.heap.size + 1 := e; omega), hs5.fr frB (fun e => by have : bs = w.heap.size + 1 := e; omega), hc5.fr frB (fun e => by have : bc = w.heap.size + 1 := e; omega), hbk, hst, hss, hsc, hsm, hcm, hsn⟩,
    hm5.fr frB (fun e => by have : bm = w.heap.size + 1 := e; omega), fr05.trans frB (fun b hb hl => by have : b = w.heap.size + 1 := hb; omega)⟩


def F33.T12 : Bool × List (List Nat × List Nat) := (true, [([], []), ([0], [0]), ([], []), ([2], [2]), ([3], [3]), ([1, 4], [1, 4]), ([5, 4, 0, 1, 2, 3, 4, 5], [5])])
def F33.B12 : List Nat := [0, 1, 0, 4, 12, 31, 63]
theorem F33.tab12 : rtab .any (opsOf Try.f33 12) = F33.T12 := by kernel_rfl
theorem F33.bits12 : waitsOk F33.T12.2 F33.B12 = true := by kernel_rfl

set_option maxHeartbeats 4000000 in
set_option maxRecDepth 100000 in
theorem offer_done {w : World} {S : Nat → Prop} {bt bs bc bm bo ck k b n c : Nat} {num f tok0 st : Int} {d : Bool} {A : Option Addr} (tok fl : Int) (h : Tab1 w S bt bs bc bm num f bo ck)
    (hm : Mp w bm #[⟨.int .u64 tok0, .agg #[.bool d, .int .i64 st, .slice A n c], b⟩] k) (hb : b < k) (hmn : (if tok < fl then tok else fl) = fl) (hmx : (if f < fl then fl else f) = f) (hd : d = true) (hk : decide (tok0 < f) = false) (htk : tok = tok0) (ok : Nat → Prop) (xs : List Value) (hA : A = none → c = 0) (hr : Rd w ok 1 A n xs) (hok : ∀ b, ok b → b < w.heap.size → ¬ OneB bc b) (h1 : ∀ u ∈ xs, u.oneCell' = true) (hn : n ≤ 140737488355328) :
    Calls Try.prog 33 #[.pointer (some ⟨bt, 0, none⟩), .int .i64 num, .int .u64 tok, .int .u64 fl, .agg #[.bool false, .int .i64 0, .slice none 0 0]] w fun e w' => ∃ v, e = .returned (.agg #[.int .i64 3, .int .i64 st, v]) ∧ Tab1 w' S bt bs bc bm num f bo ck ∧ Mp w' bm #[⟨.int .u64 tok, .agg #[.bool true, .int .i64 st, .slice A n c], b⟩] k ∧ w'.ownsRow w.heap.size 5 1 v n xs ∧ Fr (OneB bc) w w' := by
  subst hd
  subst htk
  have fr2 := ((Fr.refl NoB w).alloc (.cells #[.bool false, .int .i64 0, .slice none 0 0] 74)).alloc (.cells #[.int .i64 0, .int .i64 0, .slice none 0 0] 47)
  have hbl := h.c.lt
  have hml := hm.lt
  have htl := h.t.lt
  have hsl := h.s.lt
  have h2 := h.fr fr2 id id id
  have d0 := h2.t.cell 0
  have c0 := h2.c.cell 0
  have c0f := h2.c.frozen 0
  simp at d0 c0
  have hlk := lookup_hit (P := Try.prog) h2.s (t := 69) (kt := 3) (et := 75) Try.underlying69 Try.underlying3 true
  have hcm := h.cm
  have fr3 : Fr (OneB bc) w (w.setCell ⟨bc, 0, none⟩ (.int .u64 f)) := (Fr.refl (OneB bc) w).setCell (p := ⟨bc, 0, none⟩) (fun _ => rfl) _
  have hc3 := h.c.set_ 0 (.int .u64 f)
  simp at hc3
  have hbt : bt ≠ bc := h.t.ne_ h.c (by decide)
  have hbs : bs ≠ bc := fun e => by have h1 := h.s; rw [e] at h1; have h2' := h.c; unfold Mp at h1; unfold Blk at h2'; rw [h1] at h2'; cases h2'
  have hbtm : bt ≠ bm := fun e => by have h1 := hm; rw [← e] at h1; have h2' := h.t; unfold Mp at h1; unfold Blk at h2'; rw [h1] at h2'; cases h2'
  have hbts : bt ≠ bs := fun e => by have h1 := h.s; rw [← e] at h1; have h2' := h.t; unfold Mp at h1; unfold Blk at h2'; rw [h1] at h2'; cases h2'
  have fra : Fr NoB (w.setCell ⟨bc, 0, none⟩ (.int .u64 f)) (((w.setCell ⟨bc, 0, none⟩ (.int .u64 f)).alloc (.cells #[.bool false, .int .i64 0, .slice none 0 0] 74)).alloc (.cells #[.int .i64 0, .int .i64 0, .slice none 0 0] 47)) := ((Fr.refl NoB _).alloc _).alloc _
  have hz : (w.setCell ⟨bc, 0, none⟩ (.int .u64 f)).heap.size = w.heap.size := by simp [World.setCell]
  have hc3 := hc3.fr fra id
  have hm3 := (hm.fr fr3 (fun e => hcm (show bm = bc from e).symm)).fr fra id
  have ht3 := (h.t.fr fr3 hbt).fr fra id
  have hs3 := (h.s.fr fr3 hbs).fr fra id
  have hb9 := (Blk.new (w.setCell ⟨bc, 0, none⟩ (.int .u64 f)) 74 #[.bool false, .int .i64 0, .slice none 0 0]).alloc (.cells #[.int .i64 0, .int .i64 0, .slice none 0 0] 47)
  rw [hz] at hb9
  have hb10 := Blk.new ((w.setCell ⟨bc, 0, none⟩ (.int .u64 f)).alloc (.cells #[.bool false, .int .i64 0, .slice none 0 0] 74)) 47 #[.int .i64 0, .int .i64 0, .slice none 0 0]
  rw [show ((w.setCell ⟨bc, 0, none⟩ (.int .u64 f)).alloc (.cells #[.bool false, .int .i64 0, .slice none 0 0] 74)).heap.size = w.heap.size + 1 by simp [hz]] at hb10
  have hsw := sweep_one _ bc bm k _ st f _ A n c b hc3 hm3 hb
  have fr03 := fr3.trans fra (fun _ h _ => h.elim)
  have hst := h.st
  have hss := h.ss
  have hsc := h.sc
  have hsm := h.sm
  have hsn := h.sn
  have hbk := h.bk
  go_enter Try.func33, Try.ntmps33
  go_wp2_with fail
  clear h hm fr2 h2 d0 c0 c0f hlk fr3 fra
  generalize (((w.setCell ⟨bc, 0, none⟩ (.int .u64 f)).alloc (.cells #[.bool false, .int .i64 0, .slice none 0 0] 74)).alloc (.cells #[.int .i64 0, .int .i64 0, .slice none 0 0] 47)) = W3 at *
  refine hsw.mono ?_
  rintro e W4 ⟨⟨v, rfl⟩, hs1, hs2⟩
  have fr4 := hs2 (by rw [hk]; rfl)
  have hc4 := hc3.fr fr4 id
  have hm4 := hm3.fr fr4 id
  have ht4 := ht3.fr fr4 id
  have hs4 := hs3.fr fr4 id
  have hb9 := hb9.fr fr4 id
  have hb10 := hb10.fr fr4 id
  have fr04 := fr03.trans fr4 (fun _ h _ => h.elim)
  clear hsw hs1 hs2 hc3 hm3 ht3 hs3 fr03 fr4
  have fr5 := (Fr.refl NoB W4).alloc (.cells #[.bool true, .int .i64 st, .slice A n c] 74)
  have hc5 := hc4.fr fr5 id
  have hm5 := hm4.fr fr5 id
  have ht5 := ht4.fr fr5 id
  have hs5 := hs4.fr fr5 id
  have hb9 := hb9.fr fr5 id
  have hb10 := hb10.fr fr5 id
  have e1 := hc4.cell 1
  have g0 := hc5.cell 0
  simp at e1 g0
  have hbx := Blk.new W4 74 #[.bool true, .int .i64 st, .slice A n c]
  have fr05 := fr04.trans fr5 (fun _ h _ => h.elim)
  have hs04 := fr04.size
  have hlk2 := lookup_hit (P := Try.prog) hm4 (t := 77) (kt := 43) (et := 74) Try.underlying77 Try.underlying43 true
  have hbxd := hbx.drew
  have ht5d : Blk (W4.alloc (.cells #[.bool true, .int .i64 st, .slice A n c] 74)).drew bt _ _ := ht5
  have hs5d : Mp (W4.alloc (.cells #[.bool true, .int .i64 st, .slice A n c] 74)).drew bs _ _ := hs5
  have hc5d : Blk (W4.alloc (.cells #[.bool true, .int .i64 st, .slice A n c] 74)).drew bc _ _ := hc5
  have hm5d : Mp (W4.alloc (.cells #[.bool true, .int .i64 st, .slice A n c] 74)).drew bm _ _ := hm5
  have hb10d : Blk (W4.alloc (.cells #[.bool true, .int .i64 st, .slice A n c] 74)).drew (w.heap.size + 1) _ _ := hb10
  have fr05d := fr05.drew
  go_wp2_with fail
  refine start_ (n := 7) (S := fun w' => Blk w' W4.heap.size 74 #[.bool true, .int .i64 st, .slice A n c]) (ds := [6]) #[false, false, false, false, false, false, false] (by kernel_rfl) rfl rfl hbxd (fun hHeld => ?_)
  refine with_tabW F33.tab12 F33.bits12 (fun HT_ HW_ => ?_)
  generalize (W4.alloc (.cells #[.bool true, .int .i64 st, .slice A n c] 74)).drew = W5 at *
  refine pure_ (i := 0) (N := some 72) (v := ?_) (a' := ?_) #[true, false, false, false, false, false, false] rfl rfl (any_of HT_.out (by kernel_rfl)) (fun _ _ _ h => h) (Or.inl ⟨by rfl, ?_⟩) ?_ ?_
  rotate_left
  · intro w'
    go_simp
    with_reducible rfl
  rotate_left
  · simp only [Act.put, List.setIfInBounds_toArray, List.set_cons_zero, List.set_cons_succ, i64_w, i32_w]
    rfl
  refine pure_ (i := 2) (N := some 74) (v := ?_) (a' := ?_) #[true, false, true, false, false, false, false] rfl rfl (any_of HT_.out (by kernel_rfl)) (fun _ _ _ h => h) (Or.inl ⟨by rfl, ?_⟩) ?_ ?_
  rotate_left
  · intro w'
    go_simp
    with_reducible rfl
  rotate_left
  · simp only [Act.put, List.setIfInBounds_toArray, List.set_cons_zero, List.set_cons_succ, i64_w, i32_w]
    rfl
  refine take_ (i := 1) (N := some 73) (v := ?_) (a' := ?_) #[true, true, true, false, false, false, false] rfl rfl (take_ofW HT_.out HW_.out (by kernel_rfl)) (fun _ _ _ h => h) (Or.inl ⟨by rfl, ?_⟩) hHeld ?_ ?_
  rotate_left
  · intro w' hS
    have s0 := hS.cell 0
    have s1 := hS.cell 1
    have s2 := hS.cell 2
    simp at s0 s1 s2
    go_simp
    with_reducible rfl
  rotate_left
  · simp only [Act.put, List.setIfInBounds_toArray, List.set_cons_zero, List.set_cons_succ, i64_w, i32_w]
    rfl
  refine take_ (i := 3) (N := some 75) (v := ?_) (a' := ?_) #[true, true, true, true, false, false, false] rfl rfl (take_ofW HT_.out HW_.out (by kernel_rfl)) (fun _ _ _ h => h) (Or.inl ⟨by rfl, ?_⟩) hHeld ?_ ?_
  rotate_left
  · intro w' hS
    have s0 := hS.cell 0
    have s1 := hS.cell 1
    have s2 := hS.cell 2
    simp at s0 s1 s2
    go_simp
    with_reducible rfl
  rotate_left
  · simp only [Act.put, List.setIfInBounds_toArray, List.set_cons_zero, List.set_cons_succ, i64_w, i32_w]
    rfl
  refine one_ (i := 4) (N := some 76) #[true, true, true, true, true, false, false] rfl rfl (one_of HT_.out (by kernel_rfl)) (by decide) (fun K hK => ?_)
  refine goes_ Try.func34 (by kernel_rfl) rfl #[.slice A n c] (by rfl) rfl rfl (by (try simp only [List.map_toArray, List.map_cons, List.map_nil]); first | done | rfl) ?_
  refine (clone_any ok A n c xs W5 hA (hr.fr fr05d hok) h1 hn).mono ?_
  rintro e W6 ⟨v, rfl, hv, fr6⟩
  obtain ⟨A', c', rfl, hc', _⟩ := own_slice hv
  have hx0 := (hb10d.fr fr6 id).cell 0
  have hx1 := (hb10d.fr fr6 id).cell 1
  have hx2 := (hb10d.fr fr6 id).cell 2
  have hf0 := (hb10d.fr fr6 id).frozen 0
  have hf1 := (hb10d.fr fr6 id).frozen 1
  have hf2 := (hb10d.fr fr6 id).frozen 2
  simp at hx0 hx1 hx2
  refine ⟨_, rfl, ?_⟩
  refine hK.out _ _ (hHeld.fr fr6 id) (fun hHeld => ?_)
  clear hK K
  refine norm_ (a' := ?_) ?_ ?_
  rotate_left
  · show Act.put _ (some 76) _ = _
    simp only [Act.put, List.setIfInBounds_toArray, List.set_cons_zero, List.set_cons_succ, i64_w, i32_w]
    rfl
  refine pure_ (i := 5) (N := some 77) (v := ?_) (a' := ?_) #[true, true, true, true, true, true, false] rfl rfl (any_of HT_.out (by kernel_rfl)) (fun _ _ _ h => h) (Or.inl ⟨by rfl, ?_⟩) ?_ ?_
  rotate_left
  · intro w'
    go_simp
    with_reducible rfl
  rotate_left
  · simp only [Act.put, List.setIfInBounds_toArray, List.set_cons_zero, List.set_cons_succ, i64_w, i32_w]
    rfl
  refine last_ (i := 6) (N := none) #[true, true, true, true, true, true, true] rfl rfl (one_of HT_.out (by kernel_rfl)) (by decide) (fun K hK => ?_)
  refine skip_ (w1 := ?_) (by rfl) rfl ?_ ?_
  rotate_left
  · go_simp
    rfl
  refine hK.out _ _ ?_
  clear hK K
  refine done_ (done_of HT_.out (by kernel_rfl)) ?_
  go_wp2_with fail
  have hb10 := hb10d.fr fr6 id
  have hB := ((hb10.set_ 0 (.int .i64 3)).set_ 1 (.int .i64 st)).set_ 2 (.slice A' n c')
  have frB : Fr (OneB (w.heap.size + 1)) W6 (((W6.setCell ⟨w.heap.size + 1, 0, none⟩ (.int .i64 3)).setCell ⟨w.heap.size + 1, 1, none⟩ (.int .i64 st)).setCell ⟨w.heap.size + 1, 2, none⟩ (.slice A' n c')) :=
    (((Fr.refl (OneB (w.heap.size + 1)) W6).setCell (p := ⟨w.heap.size + 1, 0, none⟩) (fun _ => rfl) _).setCell (p := ⟨w.heap.size + 1, 1, none⟩) (fun _ => rfl) _).setCell (p := ⟨w.heap.size + 1, 2, none⟩) (fun _ => rfl) _
  simp at hB
  
  refine bodyPost_ret (results_verdict rfl _ _ (w.heap.size + 1) (by rfl) hB) rfl ⟨_, rfl, ⟨(ht5d.fr fr6 id).fr frB (fun e => by have : bt = w.heap.size + 1 := e; omega), (hs5d.fr fr6 id).fr frB (fun e => by have : bs = w.heap.size + 1 := e; omega), (hc5d.fr fr6 id).fr frB (fun e => by have : bc = w.heap.size + 1 := e; omega), hbk, hst, hss, hsc, hsm, hcm, hsn⟩,
    (hm5d.fr fr6 id).fr frB (fun e => by have : bm = w.heap.size + 1 := e; omega), ?_, (fr05d.trans fr6 (fun _ h _ => h.elim)).trans frB (fun b hb hl => by have : b = w.heap.size + 1 := hb; omega)⟩
  exact own_fr (own_low hv (by have := fr05d.size; omega)) frB (fun g hg e => by have h1 := (hv.lt g hg).1; have h2 := hb10d.lt; have : g = w.heap.size + 1 := e; omega)


set_option maxHeartbeats 4000000 in
set_option maxRecDepth 100000 in
theorem offer_up {w : World} {S : Nat → Prop} {bt bs bc bm bo ck k b n c : Nat} {num f tok0 st : Int} {d : Bool} {A : Option Addr} (tok fl : Int) (h : Tab1 w S bt bs bc bm num f bo ck)
    (hm : Mp w bm #[⟨.int .u64 tok0, .agg #[.bool d, .int .i64 st, .slice A n c], b⟩] k) (hb : b < k) (hmn : (if tok < fl then tok else fl) = fl) (hmx : (if f < fl then fl else f) = fl) (hd : d = true) (hlt : tok0 < tok) (hft : tok = fl) :
    Calls Try.prog 33 #[.pointer (some ⟨bt, 0, none⟩), .int .i64 num, .int .u64 tok, .int .u64 fl, .agg #[.bool false, .int .i64 0, .slice none 0 0]] w fun e w' => e = .returned (.agg #[.int .i64 1, .int .i64 0, .slice none 0 0]) ∧ Tab1 w' S bt bs bc bm num tok bo ck ∧ Mp w' bm #[⟨.int .u64 tok, .agg #[.bool false, .int .i64 0, .slice none 0 0], k⟩] (k + 1) ∧ Fr (fun k => k = bc ∨ k = bm ∨ k = bs) w w' := by
  subst hd
  subst hft
  have fr2 := ((Fr.refl NoB w).alloc (.cells #[.bool false, .int .i64 0, .slice none 0 0] 74)).alloc (.cells #[.int .i64 0, .int .i64 0, .slice none 0 0] 47)
  have hbl := h.c.lt
  have hml := hm.lt
  have htl := h.t.lt
  have hsl := h.s.lt
  have h2 := h.fr fr2 id id id
  have d0 := h2.t.cell 0
  have c0 := h2.c.cell 0
  have c0f := h2.c.frozen 0
  simp at d0 c0
  have hlk := lookup_hit (P := Try.prog) h2.s (t := 69) (kt := 3) (et := 75) Try.underlying69 Try.underlying3 true
  have hcm := h.cm
  have fr3 : Fr (OneB bc) w (w.setCell ⟨bc, 0, none⟩ (.int .u64 tok)) := (Fr.refl (OneB bc) w).setCell (p := ⟨bc, 0, none⟩) (fun _ => rfl) _
  have hc3 := h.c.set_ 0 (.int .u64 tok)
  simp at hc3
  have hbt : bt ≠ bc := h.t.ne_ h.c (by decide)
  have hbs : bs ≠ bc := fun e => by have h1 := h.s; rw [e] at h1; have h2' := h.c; unfold Mp at h1; unfold Blk at h2'; rw [h1] at h2'; cases h2'
  have hbtm : bt ≠ bm := fun e => by have h1 := hm; rw [← e] at h1; have h2' := h.t; unfold Mp at h1; unfold Blk at h2'; rw [h1] at h2'; cases h2'
  have hbts : bt ≠ bs := fun e => by have h1 := h.s; rw [← e] at h1; have h2' := h.t; unfold Mp at h1; unfold Blk at h2'; rw [h1] at h2'; cases h2'
  have fra : Fr NoB (w.setCell ⟨bc, 0, none⟩ (.int .u64 tok)) (((w.setCell ⟨bc, 0, none⟩ (.int .u64 tok)).alloc (.cells #[.bool false, .int .i64 0, .slice none 0 0] 74)).alloc (.cells #[.int .i64 0, .int .i64 0, .slice none 0 0] 47)) := ((Fr.refl NoB _).alloc _).alloc _
  have hz : (w.setCell ⟨bc, 0, none⟩ (.int .u64 tok)).heap.size = w.heap.size := by simp [World.setCell]
  have hc3 := hc3.fr fra id
  have hm3 := (hm.fr fr3 (fun e => hcm (show bm = bc from e).symm)).fr fra id
  have ht3 := (h.t.fr fr3 hbt).fr fra id
  have hs3 := (h.s.fr fr3 hbs).fr fra id
  have hb9 := (Blk.new (w.setCell ⟨bc, 0, none⟩ (.int .u64 tok)) 74 #[.bool false, .int .i64 0, .slice none 0 0]).alloc (.cells #[.int .i64 0, .int .i64 0, .slice none 0 0] 47)
  rw [hz] at hb9
  have hb10 := Blk.new ((w.setCell ⟨bc, 0, none⟩ (.int .u64 tok)).alloc (.cells #[.bool false, .int .i64 0, .slice none 0 0] 74)) 47 #[.int .i64 0, .int .i64 0, .slice none 0 0]
  rw [show ((w.setCell ⟨bc, 0, none⟩ (.int .u64 tok)).alloc (.cells #[.bool false, .int .i64 0, .slice none 0 0] 74)).heap.size = w.heap.size + 1 by simp [hz]] at hb10
  have hsw := sweep_one _ bc bm k _ st tok _ A n c b hc3 hm3 hb
  have fr03 := fr3.trans fra (fun _ h _ => h.elim)
  have hst := h.st
  have hss := h.ss
  have hsc := h.sc
  have hsm := h.sm
  have hsn := h.sn
  have hbk := h.bk
  go_enter Try.func33, Try.ntmps33
  go_wp2_with fail
  clear h hm fr2 h2 d0 c0 c0f hlk fr3 fra
  generalize (((w.setCell ⟨bc, 0, none⟩ (.int .u64 tok)).alloc (.cells #[.bool false, .int .i64 0, .slice none 0 0] 74)).alloc (.cells #[.int .i64 0, .int .i64 0, .slice none 0 0] 47)) = W3 at *
  refine hsw.mono ?_
  rintro e W4 ⟨⟨v, rfl⟩, hs1, hs2⟩
  obtain ⟨hm4, fr4⟩ := hs1 (by rw [decide_eq_true hlt]; rfl)
  have hc4 := hc3.fr fr4 hcm
  have ht4 := ht3.fr fr4 hbtm
  have hs4 := hs3.fr fr4 hsn
  have hb9 := hb9.fr fr4 (fun e => by have : w.heap.size = bm := e; omega)
  have hb10 := hb10.fr fr4 (fun e => by have : w.heap.size + 1 = bm := e; omega)
  have fr04 := (fr03.mono (S' := fun k => k = bc ∨ k = bm ∨ k = bs) (fun b h _ => .inl h)).trans fr4 (fun _ h _ => .inr (.inl h))
  clear hsw hs1 hs2 hc3 hm3 ht3 hs3 fr03 fr4
  have fr5 := (Fr.refl NoB W4).alloc (.cells #[.bool false, .int .i64 0, .slice none 0 0] 74)
  have hc5 := hc4.fr fr5 id
  have hm5 := hm4.fr fr5 id
  have ht5 := ht4.fr fr5 id
  have hs5 := hs4.fr fr5 id
  have hb9 := hb9.fr fr5 id
  have hb10 := hb10.fr fr5 id
  have e1 := hc4.cell 1
  have g0 := hc5.cell 0
  simp at e1 g0
  have hbx := Blk.new W4 74 #[.bool false, .int .i64 0, .slice none 0 0]
  have fr05 := fr04.trans fr5 (fun _ h _ => h.elim)
  have hs04 := fr04.size
  have hlk2 := lookup_empty (P := Try.prog) (t := 77) (kt := 43) (et := 74) hm4 Try.underlying77 Try.underlying43 _ zero74 tok true
  have hL := Len_1 _ (⟨ht5, hs5, hc5, hbk, hst, hss, hsc, hsm, hcm, hsn⟩ : Tab1 _ S bt bs bc bm num tok bo ck) hm5 (by simp)
  have hwr : IntKind.u64.wrap (tok - tok) = 0 := by rw [Int.sub_self]; rfl
  have hwr0 : IntKind.u64.wrap 0 = 0 := rfl
  go_wp2_with fail
  generalize (W4.alloc (.cells #[.bool false, .int .i64 0, .slice none 0 0] 74)) = W5 at *
  refine hL.mono ?_
  rintro e W6 ⟨rfl, fr6⟩
  have fr06 := fr05.trans fr6 (fun _ h _ => h.elim)
  have hb9 := hb9.fr fr6 id
  have hb10 := hb10.fr fr6 id
  have hm6 := hm5.fr fr6 id
  have hc6 := hc5.fr fr6 id
  have ht6 := ht5.fr fr6 id
  have hs6 := hs5.fr fr6 id
  clear hL hlk2 fr5 e1 g0 fr05 fr6 hbx hm5 hc5 ht5 hs5 hm4 hc4 ht4 hs4 fr04
  have e1 := hc6.cell 1
  have c0 := hb9.cell 0
  have c1 := hb9.cell 1
  have c2 := hb9.cell 2
  simp at e1 c0 c1 c2
  have hup := update_empty (P := Try.prog) (t := 77) (kt := 43) (et := 74) (show Mp W6.drew bm #[] k from hm6) Try.underlying77 Try.underlying43 tok (.agg #[.bool false, .int .i64 0, .slice none 0 0])
  have fr7 : Fr (OneB bm) W6 (setBlock W6.drew bm (.map #[⟨.int .u64 tok, .agg #[.bool false, .int .i64 0, .slice none 0 0], k⟩] (k + 1))) := ((Fr.refl (OneB bm) W6).drew).setBlock (fun _ => (show OneB bm bm from rfl)) _
  have hm7 : Mp (setBlock W6.drew bm (.map #[⟨.int .u64 tok, .agg #[.bool false, .int .i64 0, .slice none 0 0], k⟩] (k + 1))) bm _ (k + 1) := (show Mp W6.drew bm #[] k from hm6).set_ _ _
  have hb10 := hb10.fr fr7 (fun e => by have : w.heap.size + 1 = bm := e; omega)
  have hc7 := hc6.fr fr7 hcm
  have ht7 := ht6.fr fr7 hbtm
  have hs7 := hs6.fr fr7 hsn
  have fr07 := fr06.trans fr7 (fun _ h _ => .inr (.inl h))
  go_wp2
  go_region
  generalize (setBlock W6.drew bm (.map #[⟨.int .u64 tok, .agg #[.bool false, .int .i64 0, .slice none 0 0], k⟩] (k + 1))) = W7 at *
  clear hup hb9 c0 c1 c2 e1
  have d0 := ht7.cell 0
  simp at d0
  have hem := eq_map_some W7 bs
  have hu := update_hit (P := Try.prog) hs7 (t := 69) (kt := 3) (et := 75) Try.underlying69 Try.underlying3 (.pointer (some ⟨bc, 0, none⟩))
  have fr8 : Fr (OneB bs) W7 (setBlock W7 bs (.map #[⟨.int .i64 num, .pointer (some ⟨bc, 0, none⟩), bo⟩] ck)) := (Fr.refl (OneB bs) W7).setBlock (fun _ => (show OneB bs bs from rfl)) _
  have hs8 := hs7.set_ #[⟨.int .i64 num, .pointer (some ⟨bc, 0, none⟩), bo⟩] ck
  have hb10 := hb10.fr fr8 (fun e => by have : w.heap.size + 1 = bs := e; omega)
  have hc8 := hc7.fr fr8 (fun e => hbs (show bc = bs from e).symm)
  have ht8 := ht7.fr fr8 hbts
  have hm8 := hm7.fr fr8 (fun e => hsn (show bm = bs from e).symm)
  have fr08 := fr07.trans fr8 (fun _ h _ => .inr (.inr h))
  have z0 := hb10.cell 0
  have z1 := hb10.cell 1
  have z2 := hb10.cell 2
  have y0 := hb10.frozen 0
  have y1 := hb10.frozen 1
  have y2 := hb10.frozen 2
  simp at z0 z1 z2
  go_wp2_with fail
  generalize (setBlock W7 bs (.map #[⟨.int .i64 num, .pointer (some ⟨bc, 0, none⟩), bo⟩] ck)) = W8 at *
  have hB := ((hb10.set_ 0 (.int .i64 1)).set_ 1 (.int .i64 0)).set_ 2 (.slice none 0 0)
  have frB : Fr (OneB (w.heap.size + 1)) W8 (((W8.setCell ⟨w.heap.size + 1, 0, none⟩ (.int .i64 1)).setCell ⟨w.heap.size + 1, 1, none⟩ (.int .i64 0)).setCell ⟨w.heap.size + 1, 2, none⟩ (.slice none 0 0)) :=
    (((Fr.refl (OneB (w.heap.size + 1)) W8).setCell (p := ⟨w.heap.size + 1, 0, none⟩) (fun _ => rfl) _).setCell (p := ⟨w.heap.size + 1, 1, none⟩) (fun _ => rfl) _).setCell (p := ⟨w.heap.size + 1, 2, none⟩) (fun _ => rfl) _
  simp at hB
  refine bodyPost_ret (results_verdict rfl _ _ (w.heap.size + 1) (by rfl) hB) rfl ⟨rfl, ⟨ht8.fr frB (fun e => by have : bt = w.heap.size + 1 := e; omega), hs8.fr frB (fun e => by have : bs = w.heap.size + 1 := e; omega), hc8.fr frB (fun e => by have : bc = w.heap.size + 1 := e; omega), hbk, hst, hss, hsc, hsm, hcm, hsn⟩,
    hm8.fr frB (fun e => by have : bm = w.heap.size + 1 := e; omega), fr08.trans frB (fun b hb hl => by have : b = w.heap.size + 1 := hb; omega)⟩

end Go.Proofs.Ytdfdmjnhekdpjaa
