/- Theirs: the value of a node, in memory of its own. -/
import Derived.Test.YtcfmcgkngjpdbaaDoorV2
import Derived.Test.YtcfmcgkngjpdbaaDoorWLast
import Derived.Test.YtcfmcgkngjpdbaaDoorWTab
import Derived.StillTailTactics
import Derived.Deep.QuietTactic
import Derived.BigQuiet
import Derived.Deep.DeepCutAuto
namespace Go.Proofs.YtcfmcgkngjpdbaaDoor
set_option linter.unusedVariables false
set_option linter.unusedSimpArgs false
open Go.RowKit Go.Proofs.YtcfmcgkngjpdbaaDoorW.PrintWords Go.Proofs.YtcfmcgkngjpdbaaDoorW.PrintLast
def F8.T23 : Bool × List (List Nat × List Nat) := (true, [([], []), ([0], [0]), ([], []), ([2], [2]), ([], []), ([3, 4], [3, 4]), ([5], [5]), ([6], [6]), ([], []), ([7, 8], [7, 8]), ([9], [9]), ([10], [10]), ([11], [11]), ([1, 12, 11], [1, 12]), ([0, 1, 2, 3, 4, 5, 6, 7, 8, 9, 10, 11, 12, 13], []), ([14, 13, 13, 0, 1, 2, 3, 4, 5, 6, 7, 8, 9, 10, 11, 12, 13], [13, 14])])
def F8.B23 : List Nat := [0, 1, 0, 4, 0, 28, 60, 124, 0, 508, 1020, 2044, 4092, 8191, 16383, 32767]
theorem F8.tab23 : rtab .any (opsOf Tryd.f8 23) = F8.T23 := by kernel_rfl
theorem F8.bits23 : waitsOk F8.T23.2 F8.B23 = true := by kernel_rfl
theorem infoV : (Tryd.prog.info? 34).map (fun i => (i.zero, i.size, i.bytes)) = some (some .nilIface, 1, 16) := by kernel_rfl
theorem infoF : (Tryd.prog.info? 78).map (fun i => (i.zero, i.size, i.bytes)) = some (some (.agg #[.int .i64 0, .slice none 0 0]), 2, 32) := by kernel_rfl

def TheirsR (d : Nat) (x : Nd d) (w : World) (e : Ending) (w' : World) : Prop := ∃ v, e = .returned v ∧ ValAt d w' (fun b => w.heap.size ≤ b) x v ∧ Fr NoB w w'

set_option maxHeartbeats 1000000 in
set_option maxRecDepth 100000 in
/-- A node that is no message. -/
theorem theirs_flat (d : Nat) (x : Rec (Nd d)) (cs : List Value) (ok : Nat → Prop) (w : World) (h : NodeAt (d + 1) w ok x cs) (h7 : x.k ≠ 7) :
    Calls Tryd.prog 8 #[.agg cs.toArray] w (TheirsR (d + 1) x w) := by
  obtain ⟨hw, A, c, rfl, hc, h0, hr⟩ := h
  have q7 : (x.k == 7) = false := beq_eq_false_iff_ne.2 h7
  by_cases h1 : x.k = 1
  · have q1 : (x.k == 1) = true := beq_iff_eq.2 h1
    go_enter Tryd.func8, Tryd.ntmps8
    go_wp2_with fail
    go_ret
    exact ⟨_, rfl, ⟨hw, .inl ⟨h1, rfl⟩⟩, (Fr.refl NoB w).alloc _⟩
  have q1 : (x.k == 1) = false := beq_eq_false_iff_ne.2 h1
  by_cases h2 : x.k = 2
  · have q2 : (x.k == 2) = true := beq_iff_eq.2 h2
    go_enter Tryd.func8, Tryd.ntmps8
    go_wp2_with fail
    go_ret
    exact ⟨_, rfl, ⟨hw, .inr (.inl ⟨h2, rfl⟩)⟩, (Fr.refl NoB w).alloc _⟩
  have q2 : (x.k == 2) = false := beq_eq_false_iff_ne.2 h2
  by_cases h3 : x.k = 3
  · have q3 : (x.k == 3) = true := beq_iff_eq.2 h3
    go_enter Tryd.func8, Tryd.ntmps8
    go_wp2_with fail
    go_ret
    exact ⟨_, rfl, ⟨hw, .inr (.inr (.inl ⟨h3, rfl⟩))⟩, (Fr.refl NoB w).alloc _⟩
  have q3 : (x.k == 3) = false := beq_eq_false_iff_ne.2 h3
  by_cases h4 : x.k = 4
  · have q4 : (x.k == 4) = true := beq_iff_eq.2 h4
    go_enter Tryd.func8, Tryd.ntmps8
    go_wp2_with fail
    go_ret
    exact ⟨_, rfl, ⟨hw, .inr (.inr (.inr (.inl ⟨h4, rfl⟩)))⟩, (Fr.refl NoB w).alloc _⟩
  have q4 : (x.k == 4) = false := beq_eq_false_iff_ne.2 h4
  by_cases h5 : x.k = 5
  · have q5 : (x.k == 5) = true := beq_iff_eq.2 h5
    go_enter Tryd.func8, Tryd.ntmps8
    go_wp2_with fail
    go_ret
    exact ⟨_, rfl, ⟨hw, .inr (.inr (.inr (.inr (.inl ⟨h5, rfl⟩))))⟩, (Fr.refl NoB w).alloc _⟩
  have q5 : (x.k == 5) = false := beq_eq_false_iff_ne.2 h5
  by_cases h6 : x.k = 6
  · have q6 : (x.k == 6) = true := beq_iff_eq.2 h6
    go_enter Tryd.func8, Tryd.ntmps8
    go_wp2_with fail
    go_ret
    exact ⟨_, rfl, ⟨hw, .inr (.inr (.inr (.inr (.inr (.inl ⟨h6, rfl⟩)))))⟩, (Fr.refl NoB w).alloc _⟩
  have q6 : (x.k == 6) = false := beq_eq_false_iff_ne.2 h6
  go_enter Tryd.func8, Tryd.ntmps8
  go_wp2_with fail
  go_ret
  exact ⟨_, rfl, ⟨hw, .inr (.inr (.inr (.inr (.inr (.inr (.inr ⟨by omega, rfl⟩))))))⟩, (Fr.refl NoB w).alloc _⟩

set_option maxHeartbeats 4000000 in
set_option maxRecDepth 100000 in
theorem theirs_any : ∀ (d : Nat) (x : Nd d) (cs : List Value) (ok : Nat → Prop) (w : World), NodeAt d w ok x cs → Fine d x →
    Calls Tryd.prog 8 #[.agg cs.toArray] w (TheirsR d x w) := by
  intro d
  induction d with
  | zero => exact fun x => x.elim
  | succ d ih =>
    intro (x : Rec (Nd d)) cs ok w h hfine
    by_cases h7 : x.k = 7
    case neg => exact theirs_flat d x cs ok w h h7
    obtain ⟨hw, A, c, rfl, hc, h0, hr⟩ := h
    obtain ⟨hfl, hfn⟩ := hfine
    have q1 : (x.k == 1) = false := beq_eq_false_iff_ne.2 (by omega)
    have q2 : (x.k == 2) = false := beq_eq_false_iff_ne.2 (by omega)
    have q3 : (x.k == 3) = false := beq_eq_false_iff_ne.2 (by omega)
    have q4 : (x.k == 4) = false := beq_eq_false_iff_ne.2 (by omega)
    have q5 : (x.k == 5) = false := beq_eq_false_iff_ne.2 (by omega)
    have q6 : (x.k == 6) = false := beq_eq_false_iff_ne.2 (by omega)
    have q7 : (x.k == 7) = true := beq_iff_eq.2 h7
    have H7 := Lib.hid h7
    clear h7
    have hfr1 : Fr NoB w (w.alloc (.cells #[.int .i64 x.k, .int .i64 x.n, .int .u64 x.u, .bool x.b, .string x.s, .int .i64 x.t, .slice A x.fs.length c] 25)) := (Fr.refl NoB w).alloc _
    have hbx := Blk.new w 25 #[.int .i64 x.k, .int .i64 x.n, .int .u64 x.u, .bool x.b, .string x.s, .int .i64 x.t, .slice A x.fs.length c]
    go_enter Tryd.func8, Tryd.ntmps8
    go_wp2_with fail
    have hz1 : (w.alloc (.cells #[.int .i64 x.k, .int .i64 x.n, .int .u64 x.u, .bool x.b, .string x.s, .int .i64 x.t, .slice A x.fs.length c] 25)).heap.size = w.heap.size + 1 := by simp
    generalize w.alloc (.cells #[.int .i64 x.k, .int .i64 x.n, .int .u64 x.u, .bool x.b, .string x.s, .int .i64 x.t, .slice A x.fs.length c] 25) = w1 at *
    have hfr2 : Fr NoB w1 (w1.alloc (.cells #[.int .i64 x.t, .slice none 0 0, .string x.s] 30)) := (Fr.refl NoB w1).alloc _
    have hbm := Blk.new w1 30 #[.int .i64 x.t, .slice none 0 0, .string x.s]
    have hz2 : (w1.alloc (.cells #[.int .i64 x.t, .slice none 0 0, .string x.s] 30)).heap.size = w1.heap.size + 1 := by simp
    rw [hz1] at hbm
    generalize w1.alloc (.cells #[.int .i64 x.t, .slice none 0 0, .string x.s] 30) = w2 at *
    have Z1 := Lib.hid hz1
    have Z2 := Lib.hid hz2
    clear hz1 hz2
    obtain ⟨i0, hi0, hz0, hz1, hz2⟩ := info_parts infoV
    obtain ⟨i1, hi1, hy0, hy1, hy2⟩ := info_parts infoF
    go_loopw [50] (fun i wr => ∃ (k : Nat) (fv : Value) (xs : List Value), i = .int .i64 k ∧ k ≤ x.fs.length ∧ Blk wr (w.heap.size + 1) 30 #[.int .i64 x.t, fv, .string x.s] ∧ wr.ownsRow w2.heap.size 78 2 fv k xs ∧
      RepL 2 (FieldR d wr (okv w2.heap.size fv)) (x.fs.take k) xs ∧ Fr (OneB (w.heap.size + 1)) w2 wr ∧ Fr NoB w1 wr) (fun i _ => x.fs.length - (intOf i).toNat)
    case atStart => exact ⟨0, _, [], rfl, by omega, hbm, World.ownsRow_nil _ _ _ _, rfl, Fr.refl _ _, hfr2⟩
    case round =>
      obtain ⟨wo, rfl⟩ : ∃ wo : World, wo = wr := ⟨_, rfl⟩
      obtain ⟨k, fv, xs, rfl, hk, hbm2, hown, hrepF, hfm, hf1⟩ := hrel
      have hbx2 := hbx.fr hf1 id
      have b6 := hbx2.cell 6
      simp at b6
      have hfw := hfr1.trans hf1 (fun _ h _ => h)
      by_cases hlt : k < x.fs.length
      · have p1 : (k : Int) < (x.fs.length : Int) := by omega
        have p0 : (0 : Int) ≤ (k : Int) := by omega
        obtain ⟨b, o, cs, rfl, _, hbl, _, ⟨A1, c1, rfl, hc1, h01, hr1⟩, hcell⟩ := hr.at_ k x.fs[k] (List.getElem?_eq_getElem hlt)
        have e0 := hfw.cell_some (hcell 0 _ rfl) id
        have e1 := hfw.cell_some (hcell 1 _ rfl) id
        simp only [Nat.add_zero] at e0
        obtain ⟨hfl2, hfn2⟩ := hfn _ (List.getElem_mem hlt)
        have hfa : Fr NoB wo (wo.alloc (.cells #[.int .i64 x.fs[k].1, .slice none 0 0] 78)) := (Fr.refl NoB wo).alloc _
        have b6' := hfa.cell_some b6 id
        have e1' := hfa.cell_some e1 id
        go_wp2_with fail
        have hbf := Blk.new wo 78 #[.int .i64 x.fs[k].1, .slice none 0 0]
        have hz3 : (wo.alloc (.cells #[.int .i64 x.fs[k].1, .slice none 0 0] 78)).heap.size = wo.heap.size + 1 := by simp
        generalize hbfe : wo.heap.size = bf at *
        generalize wo.alloc (.cells #[.int .i64 x.fs[k].1, .slice none 0 0] 78) = w3 at *
        have Z3 := Lib.hid hz3
        have ZB := Lib.hid hbfe
        have hbfge : w1.heap.size ≤ bf := by have h := hf1.size; rw [hbfe] at h; exact h
        have hwob : ∀ b, b < wo.heap.size → b < bf := fun b h => by rw [hbfe] at h; exact h
        have hz2w : w2.heap.size ≤ bf := by have h := hfm.size; rw [hbfe] at h; exact h
        clear hz3 hbfe b6 e0 e1
        have hB0 : w1.heap.size ≤ w3.heap.size := Nat.le_trans hf1.size hfa.size
        have hbfl := hbf.lt
        have hbx3 := hbx2.fr hfa id
        have hfw3 := hfw.trans hfa (fun _ h _ => h)
        have hr2 := hr1.mv (Mv.new hfw3) (fun y cs _ hy => NodeAt.mv hy (Mv.new hfw3))
        have hf13 := hf1.trans hfa (fun _ h _ => h)
        go_loopw [67] (fun i wj => ∃ (j : Nat) (vv : Value) (ys : List Value), i = .int .i64 j ∧ j ≤ x.fs[k].2.length ∧ Blk wj bf 78 #[.int .i64 x.fs[k].1, vv] ∧ wj.ownsRow w3.heap.size 34 1 vv j ys ∧
          RepL 1 (ElemR d wj (okv w3.heap.size vv)) (x.fs[k].2.take j) ys ∧ Fr (OneB bf) w3 wj ∧ Fr NoB w1 wj) (fun i _ => x.fs[k].2.length - (intOf i).toNat)
        case atStart => exact ⟨0, _, [], rfl, by omega, hbf, World.ownsRow_nil _ _ _ _, rfl, Fr.refl _ _, hf13⟩
        case round =>
          obtain ⟨j, vv, ys, rfl, hj, hbf2, own, hrep, hF, hS1⟩ := hrel
          have g6 := (hbx.fr hS1 id).cell 6
          simp at g6
          have e1 := (hfr1.trans hS1 (fun _ h _ => h)).cell_some (hcell 1 _ rfl) id
          by_cases hlt2 : j < x.fs[k].2.length
          · have p3 : (j : Int) < (x.fs[k].2.length : Int) := by omega
            have p2 : (0 : Int) ≤ (j : Int) := by omega
            have hfn3 := hfn2 _ (List.getElem_mem hlt2)
            obtain ⟨b2, o2, cs2, rfl, _, hbl2, hcl2, hn2, hcell2⟩ := hr1.at_ j x.fs[k].2[j] (List.getElem?_eq_getElem hlt2)
            obtain ⟨a0, a1, a2, a3, a4, a5, a6, rfl⟩ := len7 hcl2
            have c0 := hfr1.cell_some (hcell2 0 _ rfl) id
            have c1' := hfr1.cell_some (hcell2 1 _ rfl) id
            have c2 := hfr1.cell_some (hcell2 2 _ rfl) id
            have c3 := hfr1.cell_some (hcell2 3 _ rfl) id
            have c4 := hfr1.cell_some (hcell2 4 _ rfl) id
            have c5 := hfr1.cell_some (hcell2 5 _ rfl) id
            have c6 := hfr1.cell_some (hcell2 6 _ rfl) id
            have e1 := hfr1.cell_some (hcell 1 _ rfl) id
            simp only [Nat.add_zero] at c0
            have hn2 := hn2.mv (Mv.new (hfr1.trans hS1 (fun _ h _ => h)))
            have hvl := fun g hg => (own.lt g hg).2
            go_wp2_with fail
            refine start_ (n := 16) (S := fun w' => Blk w' bf 78 #[.int .i64 x.fs[k].1, vv] ∧ Fr NoB w1 w') (ds := [15]) #[false, false, false, false, false, false, false, false, false, false, false, false, false, false, false, false] (by kernel_rfl) rfl rfl ⟨hbf2.drew, hS1.drew⟩ (fun hHeld => ?_)
            refine with_tabW F8.tab23 F8.bits23 (fun HT_ HW_ => ?_)
            have hT0 : Fr NoB wr wr.drew := (Fr.refl NoB wr).drew
            have hz0' := Nat.le_trans hF.size hT0.size
            have hvl := fun g hg => Nat.lt_of_lt_of_le (hvl g hg) hT0.size
            have own := own_fr own hT0 (fun _ _ => id)
            have hrep := hrep.mono (R' := ElemR d wr.drew (okv w3.heap.size vv)) (fun y cs _ hy => hy.mv (Mv.new hT0))
            have hF := hF.trans hT0 (fun _ h _ => h.elim)
            have hn2 := hn2.mv (Mv.new hT0)
            generalize wr.drew = W0 at *
            refine pure_ (i := 0) (N := some 70) (v := ?_) (a' := ?_) #[true, false, false, false, false, false, false, false, false, false, false, false, false, false, false, false] rfl rfl (any_of HT_.out (by kernel_rfl)) (fun _ _ _ h => h) (Or.inl ⟨by rfl, ?_⟩) ?_ ?_
            rotate_left
            · intro w'
              go_simp
              with_reducible rfl
            rotate_left
            · simp only [Act.put, List.setIfInBounds_toArray, List.set_cons_zero, List.set_cons_succ, i64_w, i32_w]
              rfl
            refine pure_ (i := 2) (N := some 72) (v := ?_) (a' := ?_) #[true, false, true, false, false, false, false, false, false, false, false, false, false, false, false, false] rfl rfl (any_of HT_.out (by kernel_rfl)) (fun _ _ _ h => h) (Or.inl ⟨by rfl, ?_⟩) ?_ ?_
            rotate_left
            · intro w'
              go_simp
              with_reducible rfl
            rotate_left
            · simp only [Act.put, List.setIfInBounds_toArray, List.set_cons_zero, List.set_cons_succ, i64_w, i32_w]
              rfl
            refine pure_ (i := 4) (N := some 74) (v := ?_) (a' := ?_) #[true, false, true, false, true, false, false, false, false, false, false, false, false, false, false, false] rfl rfl (any_of HT_.out (by kernel_rfl)) (fun _ _ _ h => h) (Or.inl ⟨by rfl, ?_⟩) ?_ ?_
            rotate_left
            · intro w'
              go_simp
              with_reducible rfl
            rotate_left
            · simp only [Act.put, List.setIfInBounds_toArray, List.set_cons_zero, List.set_cons_succ, i64_w, i32_w]
              rfl
            refine pure_ (i := 8) (N := some 78) (v := ?_) (a' := ?_) #[true, false, true, false, true, false, false, false, true, false, false, false, false, false, false, false] rfl rfl (any_of HT_.out (by kernel_rfl)) (fun _ _ _ h => h) (Or.inl ⟨by rfl, ?_⟩) ?_ ?_
            rotate_left
            · intro w'
              go_simp
              with_reducible rfl
            rotate_left
            · simp only [Act.put, List.setIfInBounds_toArray, List.set_cons_zero, List.set_cons_succ, i64_w, i32_w]
              rfl
            refine take_ (i := 1) (N := some 71) (v := ?_) (a' := ?_) #[true, true, true, false, true, false, false, false, true, false, false, false, false, false, false, false] rfl rfl (take_ofW HT_.out HW_.out (by kernel_rfl)) (fun _ _ _ h => h) (Or.inl ⟨by rfl, ?_⟩) hHeld ?_ ?_
            rotate_left
            · intro w' hS
              have s1 := hS.1.cell 1
              simp at s1
              have b6 := (hbx.fr hS.2 id).cell 6
              simp at b6
              have s2 := hS.2.cell_some e1 id
              have q0 := hS.2.cell_some c0 id
              have q1 := hS.2.cell_some c1' id
              have q2 := hS.2.cell_some c2 id
              have q3 := hS.2.cell_some c3 id
              have q4 := hS.2.cell_some c4 id
              have q5 := hS.2.cell_some c5 id
              have q6 := hS.2.cell_some c6 id
              go_simp
              with_reducible rfl
            rotate_left
            · simp only [Act.put, List.setIfInBounds_toArray, List.set_cons_zero, List.set_cons_succ, i64_w, i32_w]
              rfl
            refine take_ (i := 3) (N := some 73) (v := ?_) (a' := ?_) #[true, true, true, true, true, false, false, false, true, false, false, false, false, false, false, false] rfl rfl (take_ofW HT_.out HW_.out (by kernel_rfl)) (fun _ _ _ h => h) (Or.inl ⟨by rfl, ?_⟩) hHeld ?_ ?_
            rotate_left
            · intro w' hS
              have s1 := hS.1.cell 1
              simp at s1
              have b6 := (hbx.fr hS.2 id).cell 6
              simp at b6
              have s2 := hS.2.cell_some e1 id
              have q0 := hS.2.cell_some c0 id
              have q1 := hS.2.cell_some c1' id
              have q2 := hS.2.cell_some c2 id
              have q3 := hS.2.cell_some c3 id
              have q4 := hS.2.cell_some c4 id
              have q5 := hS.2.cell_some c5 id
              have q6 := hS.2.cell_some c6 id
              go_simp
              with_reducible rfl
            rotate_left
            · simp only [Act.put, List.setIfInBounds_toArray, List.set_cons_zero, List.set_cons_succ, i64_w, i32_w]
              rfl
            refine pure_ (i := 5) (N := some 75) (v := ?_) (a' := ?_) #[true, true, true, true, true, true, false, false, true, false, false, false, false, false, false, false] rfl rfl (any_of HT_.out (by kernel_rfl)) (fun _ _ _ h => h) (Or.inl ⟨by rfl, ?_⟩) ?_ ?_
            rotate_left
            · intro w'
              go_simp
              with_reducible rfl
            rotate_left
            · simp only [Act.put, List.setIfInBounds_toArray, List.set_cons_zero, List.set_cons_succ, i64_w, i32_w]
              rfl
            refine pure_ (i := 6) (N := some 76) (v := ?_) (a' := ?_) #[true, true, true, true, true, true, true, false, true, false, false, false, false, false, false, false] rfl rfl (any_of HT_.out (by kernel_rfl)) (fun _ _ _ h => h) (Or.inl ⟨by rfl, ?_⟩) ?_ ?_
            rotate_left
            · intro w'
              go_simp
              with_reducible rfl
            rotate_left
            · simp only [Act.put, List.setIfInBounds_toArray, List.set_cons_zero, List.set_cons_succ, i64_w, i32_w]
              rfl
            refine take_ (i := 7) (N := some 77) (v := ?_) (a' := ?_) #[true, true, true, true, true, true, true, true, true, false, false, false, false, false, false, false] rfl rfl (take_ofW HT_.out HW_.out (by kernel_rfl)) (fun _ _ _ h => h) (Or.inl ⟨by rfl, ?_⟩) hHeld ?_ ?_
            rotate_left
            · intro w' hS
              have s1 := hS.1.cell 1
              simp at s1
              have b6 := (hbx.fr hS.2 id).cell 6
              simp at b6
              have s2 := hS.2.cell_some e1 id
              have q0 := hS.2.cell_some c0 id
              have q1 := hS.2.cell_some c1' id
              have q2 := hS.2.cell_some c2 id
              have q3 := hS.2.cell_some c3 id
              have q4 := hS.2.cell_some c4 id
              have q5 := hS.2.cell_some c5 id
              have q6 := hS.2.cell_some c6 id
              go_simp
              with_reducible rfl
            rotate_left
            · simp only [Act.put, List.setIfInBounds_toArray, List.set_cons_zero, List.set_cons_succ, i64_w, i32_w]
              rfl
            refine pure_ (i := 9) (N := some 79) (v := ?_) (a' := ?_) #[true, true, true, true, true, true, true, true, true, true, false, false, false, false, false, false] rfl rfl (any_of HT_.out (by kernel_rfl)) (fun _ _ _ h => h) (Or.inl ⟨by rfl, ?_⟩) ?_ ?_
            rotate_left
            · intro w'
              go_simp
              with_reducible rfl
            rotate_left
            · simp only [Act.put, List.setIfInBounds_toArray, List.set_cons_zero, List.set_cons_succ, i64_w, i32_w]
              rfl
            refine take_ (i := 10) (N := some 80) (v := ?_) (a' := ?_) #[true, true, true, true, true, true, true, true, true, true, true, false, false, false, false, false] rfl rfl (take_ofW HT_.out HW_.out (by kernel_rfl)) (fun _ _ _ h => h) (Or.inl ⟨by rfl, ?_⟩) hHeld ?_ ?_
            rotate_left
            · intro w' hS
              have s1 := hS.1.cell 1
              simp at s1
              have b6 := (hbx.fr hS.2 id).cell 6
              simp at b6
              have s2 := hS.2.cell_some e1 id
              have q0 := hS.2.cell_some c0 id
              have q1 := hS.2.cell_some c1' id
              have q2 := hS.2.cell_some c2 id
              have q3 := hS.2.cell_some c3 id
              have q4 := hS.2.cell_some c4 id
              have q5 := hS.2.cell_some c5 id
              have q6 := hS.2.cell_some c6 id
              go_simp
              with_reducible rfl
            rotate_left
            · simp only [Act.put, List.setIfInBounds_toArray, List.set_cons_zero, List.set_cons_succ, i64_w, i32_w]
              rfl
            refine one_ (i := 11) (N := some 81) #[true, true, true, true, true, true, true, true, true, true, true, true, false, false, false, false] rfl rfl (one_of HT_.out (by kernel_rfl)) (by decide) (fun K hK => ?_)
            refine goes_ Tryd.func8 (by kernel_rfl) rfl #[.agg #[a0, a1, a2, a3, a4, a5, a6]] (by rfl) rfl rfl (by (try simp only [List.map_toArray, List.map_cons, List.map_nil]); first | done | rfl) ?_
            refine (ih x.fs[k].2[j] [a0, a1, a2, a3, a4, a5, a6] ok W0 hn2 hfn3).mono ?_
            rintro e W1 ⟨v, rfl, hv, hT⟩
            have hS2 : Blk W1 bf 78 #[.int .i64 x.fs[k].1, vv] ∧ Fr NoB w1 W1 := ⟨hHeld.1.fr hT id, hHeld.2.trans hT (fun _ h _ => h)⟩
            have own := own_fr own hT (fun _ _ => id)
            have hrep := hrep.mono (R' := ElemR d W1 (okv w3.heap.size vv)) (fun y cs _ hy => hy.mv (Mv.new hT))
            have hv := hv.mv (Mv.mono W1 (ok' := okv w3.heap.size vv) (fun b hb hl => ⟨Nat.le_trans hz0' hb, fun e => Nat.lt_irrefl _ (Nat.lt_of_lt_of_le (hvl b e) hb)⟩))
            have hF := hF.trans hT (fun _ h _ => h.elim)
            have hz1' := Nat.le_trans hz0' hT.size
            refine ⟨_, rfl, ?_⟩
            refine hK.out _ _ hS2 (fun hHeld => ?_)
            clear hK K
            refine norm_ (a' := ?_) ?_ ?_
            rotate_left
            · show Act.put _ (some 81) _ = _
              simp only [Act.put, List.setIfInBounds_toArray, List.set_cons_zero, List.set_cons_succ, i64_w, i32_w]
              rfl
            refine one_ (i := 12) (N := some 82) #[true, true, true, true, true, true, true, true, true, true, true, true, true, false, false, false] rfl rfl (one_of HT_.out (by kernel_rfl)) (by decide) (fun K hK => ?_)
            refine step_value rfl (.slice (some ⟨W1.heap.size, 0, none⟩) 1 1) (W1.alloc (.cells #[v] 34)) (by rcases hv.shape with hsh | ⟨t9, u9, hsh⟩ <;> (rw [hsh]; first | (go_simp; done) | (go_simp; rfl))) ?_
            have hT : Fr NoB W1 (W1.alloc (.cells #[v] 34)) := (Fr.refl NoB W1).alloc _
            have hbv : Blk (W1.alloc (.cells #[v] 34)) W1.heap.size 34 #[v] := Blk.new _ _ _
            generalize (W1.alloc (.cells #[v] 34)) = W2 at *
            have own := own_fr own hT (fun _ _ => id)
            have hrep := hrep.mono (R' := ElemR d W2 (okv w3.heap.size vv)) (fun y cs _ hy => hy.mv (Mv.new hT))
            have hv := hv.mv (Mv.new hT)
            have hone := hv.one
            have hF := hF.trans hT (fun _ h _ => h.elim)
            have hz2' := Nat.le_trans hz1' hT.size
            have hS2 : Blk W2 bf 78 #[.int .i64 x.fs[k].1, vv] ∧ Fr NoB w1 W2 := ⟨hHeld.1.fr hT id, hHeld.2.trans hT (fun _ h _ => h)⟩
            refine hK.out _ _ hS2 (fun hHeld => ?_)
            clear hK K
            refine norm_ (a' := ?_) ?_ ?_
            rotate_left
            · show Act.put _ (some 82) _ = _
              simp only [Act.put, List.setIfInBounds_toArray, List.set_cons_zero, List.set_cons_succ, i64_w, i32_w]
              rfl
            refine one_ (i := 13) (N := some 83) #[true, true, true, true, true, true, true, true, true, true, true, true, true, true, false, false] rfl rfl (one_of HT_.out (by kernel_rfl)) (by decide) (fun K hK => ?_)
            refine step_app _ rfl (.tmp 71) (.tmp 82) 39 rfl w3.heap.size 34 i0 _ 1 16 Tryd.underlying39 hi0 hz0 hz1 hz2 rfl (by omega) vv j ys rfl own (fun _ => True) (some ⟨W1.heap.size, 0, none⟩) 1 1 (fun h => by cases h) [v] rfl (Rd.of_blk _ hbv rfl trivial) (fun u hu => by rw [List.mem_singleton.1 hu]; exact hone) (by simp only [maxLen]; omega) (by omega) hz2' ?_
            intro vv' W3 own3 hg3 hat3
            have hT := Fr.of_grown (S := fun k => vv.ownBlock = some k) hg3 (fun k hk _ => hk)
            have hm := Mv.app (B := w3.heap.size) hg3 hat3
            have hrep3 := (hrep.snoc (cs := [v]) rfl ⟨v, rfl, hv⟩).mono (R' := ElemR d W3 (okv w3.heap.size vv')) (fun y cs _ hy => hy.mv hm)
            have hF := hF.trans hT (fun b hb hl => absurd hl (Nat.not_lt.2 (own.lt b hb).1))
            have hS3 : Blk W3 bf 78 #[.int .i64 x.fs[k].1, vv] ∧ Fr NoB w1 W3 := ⟨hHeld.1.fr hT (fun e => own_blk_ne own hHeld.1 (by decide) e), hHeld.2.trans hT (fun b hb hl => absurd hl (Nat.not_lt.2 (Nat.le_trans hB0 (own.lt b hb).1)))⟩
            obtain ⟨A7, c7, rfl, hs7⟩ := own_slice own3
            refine hK.out _ _ hS3 (fun hHeld => ?_)
            clear hK K
            refine norm_ (a' := ?_) ?_ ?_
            rotate_left
            · show Act.put _ (some 83) _ = _
              simp only [Act.put, List.setIfInBounds_toArray, List.set_cons_zero, List.set_cons_succ, i64_w, i32_w]
              rfl
            refine pure_ (i := 14) (N := some 84) (v := ?_) (a' := ?_) #[true, true, true, true, true, true, true, true, true, true, true, true, true, true, true, false] rfl rfl (any_of HT_.out (by kernel_rfl)) (fun _ _ _ h => h) (Or.inl ⟨by rfl, ?_⟩) ?_ ?_
            rotate_left
            · intro w'
              go_simp
              with_reducible rfl
            rotate_left
            · simp only [Act.put, List.setIfInBounds_toArray, List.set_cons_zero, List.set_cons_succ, i64_w, i32_w]
              rfl
            refine last_ (i := 15) (N := none) #[true, true, true, true, true, true, true, true, true, true, true, true, true, true, true, true] rfl rfl (one_of HT_.out (by kernel_rfl)) (by decide) (fun K hK => ?_)
            have q0 := hHeld.1.cell 1
            have q1 := hHeld.1.frozen 1
            simp at q0
            refine skip_ (w1 := ?_) (by rfl) rfl ?_ ?_
            rotate_left
            · go_simp
              rfl
            refine hK.out _ _ ?_
            clear hK K
            refine done_ (done_of HT_.out (by kernel_rfl)) ?_
            go_wp2_with fail
            have hT4 : Fr (OneB bf) W3 (W3.setCell ⟨bf, 1, none⟩ (.slice A7 (j + 1) c7)) := (Fr.refl (OneB bf) W3).setCell (p := ⟨bf, 1, none⟩) (fun _ => rfl) _
            have hb4 := hHeld.1.set_ 1 (.slice A7 (j + 1) c7)
            have hown4 := own_fr own3 hT4 (fun g hg e => own_blk_ne own3 hHeld.1 (by decide) (by rw [hg, show g = bf from e]))
            have hm4 : Mv (okv w3.heap.size (.slice A7 (j + 1) c7)) (okv w3.heap.size (.slice A7 (j + 1) c7)) W3 (W3.setCell ⟨bf, 1, none⟩ (.slice A7 (j + 1) c7)) := Mv.fr hT4 (fun b hb _ e => by have : b = bf := e; have := hb.1; omega)
            go_roundw
            case rel =>
              refine ⟨j + 1, _, _, by go_num, by omega, hb4, hown4, ?_, hF.trans hT4 (fun _ h _ => h), hHeld.2.setNew hbfge _⟩
              rw [List.take_succ_eq_append_getElem hlt2]
              exact hrep3.mono (fun y cs _ hy => hy.mv hm4)
            case measure => simp [intOf]; omega
          · have hjj : j = x.fs[k].2.length := by omega
            subst hjj
            rw [List.take_length] at hrep
            obtain ⟨A8, c8, rfl, hc8, _, h08, _⟩ := own_slice own
            have n0 := hbf2.cell 0
            have n1 := hbf2.cell 1
            simp at n0 n1
            have hFo : Fr (OneB bf) wo wr := (hfa.mono (fun _ h _ => h.elim)).trans hF (fun _ h _ => h)
            have hz := Z1.out
            have hz' := Z2.out
            have hbmI := hbm2.fr hFo (fun e => by have : w.heap.size + 1 = bf := e; omega)
            have m1 := hbmI.cell 1
            simp at m1
            have ownI := own_fr hown hFo (fun g hg e => by have h1 := hwob g (hown.lt g hg).2; have : g = bf := e; omega)
            have hrepI := hrepF.mono (R' := FieldR d wr (okv w2.heap.size fv)) (fun p cs _ hp => hp.mv (Mv.fr hFo (fun b _ hl e => by have h1 := hwob b hl; have : b = bf := e; omega)))
            have hlow : ∀ b, w3.heap.size ≤ b → okv w2.heap.size fv b := fun b hb => ⟨by omega, fun e => by have h1 := hwob b (hown.lt b e).2; omega⟩
            have hnew : FieldR d wr (okv w2.heap.size fv) x.fs[k] [.int .i64 x.fs[k].1, .slice A8 x.fs[k].2.length c8] :=
              ⟨A8, c8, rfl, hc8, h08, Row.of_own own (hrep.mono (fun y cs _ hy => hy.mv (Mv.mono wr (fun b hb _ => hlow b hb.1)))) rfl (fun g hg => hlow g (own.lt g hg).1)⟩
            have hfA : Fr NoB wr (wr.alloc (.cells #[.int .i64 x.fs[k].1, .slice A8 x.fs[k].2.length c8] 78)) := (Fr.refl NoB wr).alloc _
            have ownA := own_fr ownI hfA (fun _ _ => id)
            have hbmA := hbmI.fr hfA id
            have hszA : w2.heap.size ≤ (wr.alloc (.cells #[.int .i64 x.fs[k].1, .slice A8 x.fs[k].2.length c8] 78)).heap.size := by have h1 := hF.size; have h2 := hfA.size; omega
            have hmA : Mv (okv w2.heap.size fv) (okv w2.heap.size fv) wr (wr.alloc (.cells #[.int .i64 x.fs[k].1, .slice A8 x.fs[k].2.length c8] 78)) := Mv.new hfA
            clear hz hz'
            have hone2 : ∀ u ∈ [Value.int .i64 x.fs[k].1, .slice A8 x.fs[k].2.length c8], u.oneCell' = true := fun u hu => by
              rcases List.mem_cons.1 hu with rfl | hu
              · rfl
              · rw [List.mem_singleton.1 hu]; rfl
            go_wp2_with (at_builtin; refine wpList_app _ rfl (.tmp 87) (.tmp 89) 28 rfl w2.heap.size 78 i1 _ 2 32 Tryd.underlying28 hi1 hy0 hy1 hy2 rfl (by omega) fv k xs rfl ownA (fun _ => True) (some ⟨wr.heap.size, 0, none⟩) 1 1 (fun h => by cases h) [.int .i64 x.fs[k].1, .slice A8 x.fs[k].2.length c8] rfl (Rd.lit wr (fun _ => True) 78 2 1 [.int .i64 x.fs[k].1, .slice A8 x.fs[k].2.length c8] rfl trivial) hone2 (by simp only [maxLen]; omega) (by omega) hszA ?_; intro v9 w9 own9 hg9 hat9; have hm9 := Mv.app (B := w2.heap.size) hg9 hat9; obtain ⟨A9, c9, rfl, _⟩ := own_slice own9; have hbm9 := hbmA.grown hg9 (fun e => own_blk_ne ownA hbmA (by decide) e.symm); have k1 := hbm9.cell 1; have k2 := hbm9.frozen 1; simp at k1)
            have hz := Z1.out
            have hz' := Z2.out
            have hT5 : Fr (OneB (w.heap.size + 1)) w9 (w9.setCell ⟨w.heap.size + 1, 1, none⟩ (.slice A9 (k + 1) c9)) := (Fr.refl (OneB (w.heap.size + 1)) w9).setCell (p := ⟨w.heap.size + 1, 1, none⟩) (fun _ => rfl) _
            have hb5 := hbm9.set_ 1 (.slice A9 (k + 1) c9)
            have own5 := own_fr own9 hT5 (fun g hg e => own_blk_ne own9 hbm9 (by decide) (by rw [hg, show g = w.heap.size + 1 from e]))
            have hm5 : Mv (okv w2.heap.size (.slice A9 (k + 1) c9)) (okv w2.heap.size (.slice A9 (k + 1) c9)) w9 (w9.setCell ⟨w.heap.size + 1, 1, none⟩ (.slice A9 (k + 1) c9)) := Mv.fr hT5 (fun b hb _ e => by have : b = w.heap.size + 1 := e; have := hb.1; omega)
            have hrep5 := (((hrepI.snoc (cs := [.int .i64 x.fs[k].1, .slice A8 x.fs[k].2.length c8]) rfl hnew).mono (fun p cs _ hp => hp.mv hmA)).mono (fun p cs _ hp => hp.mv hm9)).mono (fun p cs _ hp => hp.mv hm5)
            have hfg : Fr (fun b => fv.ownBlock = some b) _ w9 := Fr.of_grown hg9 (fun k hk _ => hk)
            have hfm5 := (((hfm.trans hFo (fun b hb hl => by have : b = bf := hb; omega)).trans hfA (fun _ h _ => h.elim)).trans hfg (fun b hb hl => absurd hl (Nat.not_lt.2 (ownA.lt b hb).1))).trans hT5 (fun _ h _ => h)
            have hf15 := ((hS1.trans hfA (fun _ h _ => h)).trans hfg (fun b hb hl => by have := (ownA.lt b hb).1; omega)).setNew (p := ⟨w.heap.size + 1, 1, none⟩) (by show w1.heap.size ≤ w.heap.size + 1; omega) (.slice A9 (k + 1) c9)
            go_roundw
            case rel => exact ⟨k + 1, _, _, by go_num, by omega, hb5, own5, by rw [List.take_succ_eq_append_getElem hlt]; exact hrep5, hfm5, hf15⟩
            case measure => simp [intOf]; omega
      · have m0 := hbm2.cell 0
        have m1 := hbm2.cell 1
        have m2 := hbm2.cell 2
        simp at m0 m1 m2
        obtain ⟨A9, c9, rfl, hc9, _, h09, _⟩ := own_slice hown
        go_wp2_with fail
        go_ret
        have hkk : k = x.fs.length := by omega
        subst hkk
        rw [List.take_length] at hrepF
        have hz := Z1.out
        have hz' := Z2.out
        have hm : Mv (okv w2.heap.size (.slice A9 x.fs.length c9)) (fun b => w.heap.size ≤ b) wo wo := Mv.mono wo (fun b hb _ => by have := hb.1; omega)
        refine ⟨_, rfl, ⟨hw, .inr (.inr (.inr (.inr (.inr (.inr (.inl ⟨H7.out, A9, c9, rfl, hc9, h09, FieldsAt.of ?_⟩))))))⟩, hfw⟩
        exact Row.of_own hown (hrepF.mono (fun p cs _ hp => hp.mv hm)) rfl (fun g hg => by have := (hown.lt g hg).1; omega)
end Go.Proofs.YtcfmcgkngjpdbaaDoor
