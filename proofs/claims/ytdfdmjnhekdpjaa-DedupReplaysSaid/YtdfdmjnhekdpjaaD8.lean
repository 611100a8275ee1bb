import Derived.Test.YtdfdmjnhekdpjaaD7
namespace Go.Proofs.Ytdfdmjnhekdpjaa
set_option linter.unusedVariables false
set_option linter.unusedSimpArgs false
open Go.RowKit Go.Proofs.YtdfdmjnhekdpjaaW.PrintWords Go.Proofs.YtdfdmjnhekdpjaaW.PrintLast
open Go.ChangeMaps (setBlock)

def F16.T7 : Bool × List (List Nat × List Nat) := (true, [([], []), ([0], [0]), ([1], [1]), ([2], [2]), ([], []), ([], []), ([], []), ([6], [6]), ([5, 7], [5, 7]), ([3, 4, 8, 7, 0, 1, 2, 3, 4, 5, 6, 7, 8], [3, 4, 8])])
def F16.B7 : List Nat := [0, 1, 3, 7, 0, 0, 0, 64, 224, 511]
theorem F16.tab7 : rtab .any (opsOf Try.f16 7) = F16.T7 := by kernel_rfl
theorem F16.bits7 : waitsOk F16.T7.2 F16.B7 = true := by kernel_rfl

set_option maxHeartbeats 4000000 in
set_option maxRecDepth 100000 in
theorem finish_any {w : World} {S : Nat → Prop} {bt bs bc bm bo ck k b n0 c0 n c : Nat} {num f st : Int} {A0 A : Option Addr} (tok status : Int) (h : Tab1 w S bt bs bc bm num f bo ck)
    (hm : Mp w bm #[⟨.int .u64 tok, .agg #[.bool false, .int .i64 st, .slice A0 n0 c0], b⟩] k) (hb : b < k) (hk : decide (tok < f) = false) (ok : Nat → Prop) (xs : List Value) (hA : A = none → c = 0) (hr : Rd w ok 1 A n xs) (h1 : ∀ u ∈ xs, u.oneCell' = true) (hn : n ≤ 140737488355328) :
    Calls Try.prog 16 #[.pointer (some ⟨bt, 0, none⟩), .int .i64 num, .int .u64 tok, .int .i64 status, .slice A n c] w fun e w' => e = .returned (.bool true) ∧ ∃ A' c', Tab1 w' S bt bs bc bm num f bo ck ∧
      Mp w' bm #[⟨.int .u64 tok, .agg #[.bool true, .int .i64 status, .slice A' n c'], b⟩] k ∧ w'.ownsRow w.heap.size 5 1 (.slice A' n c') n xs ∧ Fr (OneB bm) w w' := by
  have hbtm : bt ≠ bm := fun e => by have h1 := hm; rw [← e] at h1; have h2' := h.t; unfold Mp at h1; unfold Blk at h2'; rw [h1] at h2'; cases h2'
  have hcm := h.cm
  have hsn := h.sn
  have hml := hm.lt
  have d0 := h.t.cell 0
  have e1 := h.c.cell 1
  simp at d0 e1
  have hlk := lookup_hit (P := Try.prog) h.s (t := 69) (kt := 3) (et := 75) Try.underlying69 Try.underlying3 false
  have hlk2 := lookup_hit (P := Try.prog) hm (t := 77) (kt := 43) (et := 74) Try.underlying77 Try.underlying43 true
  have fr5 := (Fr.refl NoB w).alloc (.cells #[.bool false, .int .i64 st, .slice A0 n0 c0] 74)
  have fr05d := fr5.drew
  have hT5 := h.fr fr05d id id id
  have hm5 := hm.fr fr05d id
  go_enter Try.func16, Try.ntmps16
  go_wp2_with fail
  refine start_ (n := 10) (S := fun w' => Blk w' bc 79 #[.int .u64 f, .map (some bm)]) (ds := [9]) #[false, false, false, false, false, false, false, false, false, false] (by kernel_rfl) rfl rfl hT5.c (fun hHeld => ?_)
  refine with_tabW F16.tab7 F16.bits7 (fun HT_ HW_ => ?_)
  generalize (w.alloc (.cells #[.bool false, .int .i64 st, .slice A0 n0 c0] 74)).drew = W5 at *
  refine pure_ (i := 0) (N := some 46) (v := ?_) (a' := ?_) #[true, false, false, false, false, false, false, false, false, false] rfl rfl (any_of HT_.out (by kernel_rfl)) (fun _ _ _ h => h) (Or.inl ⟨by rfl, ?_⟩) ?_ ?_
  rotate_left
  · intro w'
    go_simp
    with_reducible rfl
  rotate_left
  · simp only [Act.put, List.setIfInBounds_toArray, List.set_cons_zero, List.set_cons_succ, i64_w, i32_w]
    rfl
  refine pure_ (i := 1) (N := some 47) (v := ?_) (a' := ?_) #[true, true, false, false, false, false, false, false, false, false] rfl rfl (any_of HT_.out (by kernel_rfl)) (fun _ _ _ h => h) (Or.inl ⟨by rfl, ?_⟩) ?_ ?_
  rotate_left
  · intro w'
    go_simp
    with_reducible rfl
  rotate_left
  · simp only [Act.put, List.setIfInBounds_toArray, List.set_cons_zero, List.set_cons_succ, i64_w, i32_w]
    rfl
  refine pure_ (i := 2) (N := some 48) (v := ?_) (a' := ?_) #[true, true, true, false, false, false, false, false, false, false] rfl rfl (any_of HT_.out (by kernel_rfl)) (fun _ _ _ h => h) (Or.inl ⟨by rfl, ?_⟩) ?_ ?_
  rotate_left
  · intro w'
    go_simp
    with_reducible rfl
  rotate_left
  · simp only [Act.put, List.setIfInBounds_toArray, List.set_cons_zero, List.set_cons_succ, i64_w, i32_w]
    rfl
  refine pure_ (i := 4) (N := some 50) (v := ?_) (a' := ?_) #[true, true, true, false, true, false, false, false, false, false] rfl rfl (any_of HT_.out (by kernel_rfl)) (fun _ _ _ h => h) (Or.inl ⟨by rfl, ?_⟩) ?_ ?_
  rotate_left
  · intro w'
    go_simp
    with_reducible rfl
  rotate_left
  · simp only [Act.put, List.setIfInBounds_toArray, List.set_cons_zero, List.set_cons_succ, i64_w, i32_w]
    rfl
  refine pure_ (i := 5) (N := some 51) (v := ?_) (a' := ?_) #[true, true, true, false, true, true, false, false, false, false] rfl rfl (any_of HT_.out (by kernel_rfl)) (fun _ _ _ h => h) (Or.inl ⟨by rfl, ?_⟩) ?_ ?_
  rotate_left
  · intro w'
    go_simp
    with_reducible rfl
  rotate_left
  · simp only [Act.put, List.setIfInBounds_toArray, List.set_cons_zero, List.set_cons_succ, i64_w, i32_w]
    rfl
  refine pure_ (i := 6) (N := some 52) (v := ?_) (a' := ?_) #[true, true, true, false, true, true, true, false, false, false] rfl rfl (any_of HT_.out (by kernel_rfl)) (fun _ _ _ h => h) (Or.inl ⟨by rfl, ?_⟩) ?_ ?_
  rotate_left
  · intro w'
    go_simp
    with_reducible rfl
  rotate_left
  · simp only [Act.put, List.setIfInBounds_toArray, List.set_cons_zero, List.set_cons_succ, i64_w, i32_w]
    rfl
  refine take_ (i := 3) (N := some 49) (v := ?_) (a' := ?_) #[true, true, true, true, true, true, true, false, false, false] rfl rfl (take_ofW HT_.out HW_.out (by kernel_rfl)) (fun _ _ _ h => h) (Or.inl ⟨by rfl, ?_⟩) hHeld ?_ ?_
  rotate_left
  · intro w' hS
    have s1 := hS.cell 1
    simp at s1
    go_simp
    with_reducible rfl
  rotate_left
  · simp only [Act.put, List.setIfInBounds_toArray, List.set_cons_zero, List.set_cons_succ, i64_w, i32_w]
    rfl
  refine one_ (i := 7) (N := some 53) #[true, true, true, true, true, true, true, true, false, false] rfl rfl (one_of HT_.out (by kernel_rfl)) (by decide) (fun K hK => ?_)
  refine goes_ Try.func34 (by kernel_rfl) rfl #[.slice A n c] (by rfl) rfl rfl (by (try simp only [List.map_toArray, List.map_cons, List.map_nil]); first | done | rfl) ?_
  refine (clone_any ok A n c xs W5 hA (hr.fr fr05d (fun _ _ _ => id)) h1 hn).mono ?_
  rintro e W6 ⟨v, rfl, hv, fr6⟩
  obtain ⟨A', c', rfl, hc', _⟩ := own_slice hv
  have hm6 := hm5.fr fr6 id
  have hup := update_hit (P := Try.prog) hm6 (t := 77) (kt := 43) (et := 74) Try.underlying77 Try.underlying43 (.agg #[.bool true, .int .i64 status, .slice A' n c'])
  refine ⟨_, rfl, ?_⟩
  refine hK.out _ _ (hHeld.fr fr6 id) (fun hHeld => ?_)
  clear hK K
  refine norm_ (a' := ?_) ?_ ?_
  rotate_left
  · show Act.put _ (some 53) _ = _
    simp only [Act.put, List.setIfInBounds_toArray, List.set_cons_zero, List.set_cons_succ, i64_w, i32_w]
    rfl
  refine pure_ (i := 8) (N := some 54) (v := ?_) (a' := ?_) #[true, true, true, true, true, true, true, true, true, false] rfl rfl (any_of HT_.out (by kernel_rfl)) (fun _ _ _ h => h) (Or.inl ⟨by rfl, ?_⟩) ?_ ?_
  rotate_left
  · intro w'
    go_simp
    with_reducible rfl
  rotate_left
  · simp only [Act.put, List.setIfInBounds_toArray, List.set_cons_zero, List.set_cons_succ, i64_w, i32_w]
    rfl
  refine last_ (i := 9) (N := none) #[true, true, true, true, true, true, true, true, true, true] rfl rfl (one_of HT_.out (by kernel_rfl)) (by decide) (fun K hK => ?_)
  refine skip_ (w1 := ?_) (by rfl) rfl ?_ ?_
  rotate_left
  · go_simp
    rfl
  refine hK.out _ _ ?_
  clear hK K
  refine done_ (done_of HT_.out (by kernel_rfl)) ?_
  have fr06 := fr05d.trans fr6 (fun _ h _ => h)
  have fr7 : Fr (OneB bm) W6 (setBlock W6 bm (.map #[⟨.int .u64 tok, .agg #[.bool true, .int .i64 status, .slice A' n c'], b⟩] k)) := (Fr.refl (OneB bm) W6).setBlock (fun _ => (show OneB bm bm from rfl)) _
  have hm7 := hm6.set_ #[⟨.int .u64 tok, .agg #[.bool true, .int .i64 status, .slice A' n c'], b⟩] k
  have hT7 := ((hT5.fr fr6 id id id).fr fr7 hbtm hsn hcm)
  have hv7 := own_fr hv fr7 (fun g hg e => by have h1 := (hv.lt g hg).1; have h2 := fr05d.size; have : g = bm := e; omega)
  have fr07 := (fr06.mono (S' := OneB bm) (fun _ h _ => h.elim)).trans fr7 (fun _ h _ => h)
  have hsw := Lib.hid (sweep_one _ bc bm k tok status f true A' n c' b hT7.c hm7 hb)
  generalize (setBlock W6 bm (.map #[⟨.int .u64 tok, .agg #[.bool true, .int .i64 status, .slice A' n c'], b⟩] k)) = W7 at *
  go_wp2_with fail
  refine hsw.out.mono ?_
  rintro e W8 ⟨⟨u, rfl⟩, _, hs2⟩
  have fr8 := hs2 (by rw [hk]; rfl)
  go_wp2
  go_ret
  exact ⟨rfl, A', c', hT7.fr fr8 id id id, hm7.fr fr8 id, own_fr (own_low hv7 fr05d.size) fr8 (fun _ _ => id), fr07.trans fr8 (fun _ h _ => h.elim)⟩
end Go.Proofs.Ytdfdmjnhekdpjaa
