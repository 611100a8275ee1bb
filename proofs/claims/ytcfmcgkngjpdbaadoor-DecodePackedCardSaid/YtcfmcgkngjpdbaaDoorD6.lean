/- decode.message of one field of varints: the fields are gathered. -/
import Derived.Test.YtcfmcgkngjpdbaaDoorDL
namespace Go.Proofs.YtcfmcgkngjpdbaaDoor
set_option linter.unusedVariables false
set_option linter.unusedSimpArgs false
open Go.RowKit Go.Proofs.YtcfmcgkngjpdbaaDoorW.PrintWords Go.Proofs.YtcfmcgkngjpdbaaDoorW.PrintLast
open Go.ChangeMaps (setBlock)
def F26.T13 : Bool × List (List Nat × List Nat) := (true, [([], []), ([], []), ([1], [1]), ([], []), ([], []), ([4], [4]), ([3, 5], [3, 5]), ([], []), ([7], [7]), ([6, 8], [6, 8]), ([0, 2, 9, 9, 0, 1, 2, 3, 4, 5, 6, 7, 8, 9], [0, 2, 9])])
def F26.B13 : List Nat := [0, 0, 2, 0, 0, 16, 56, 0, 128, 504, 1023]
theorem F26.tab13 : rtab .any (opsOf Tryd.f26 13) = F26.T13 := by kernel_rfl
theorem F26.bits13 : waitsOk F26.T13.2 F26.B13 = true := by kernel_rfl

/-- The map of the known fields, of one number. -/
def ents (num : Int) (k : Nat) (v : Value) (cb : Nat) : Array MapEntry := if k = 0 then #[] else #[⟨.int .i64 num, v, cb⟩]
theorem ents_lookup {w : World} {g clk k cb : Nat} {num : Int} {v : Value} (hm : Mp w g (ents num k v cb) clk) (h0 : k = 0 → v = .slice none 0 0) :
    (Instr.lookup 113 (.map (some g)) (.int .i64 num) false).run Tryd.prog w = .ok v w := by
  unfold ents at hm
  split at hm
  · rename_i hk
    rw [h0 hk]
    exact lookup_empty hm Tryd.underlying113 Tryd.underlying3 (.slice none 0 0) (fun _ => by kernel_rfl) num false
  · exact lookup_hit hm Tryd.underlying113 Tryd.underlying3 false
theorem ents_update {w : World} {g clk k cb : Nat} {num : Int} {v : Value} (hm : Mp w g (ents num k v cb) clk) (v' : Value) :
    ∃ cb' clk', (Instr.mapUpdate 113 (.map (some g)) (.int .i64 num) v').run Tryd.prog w = .ok () (setBlock w g (.map (ents num (k + 1) v' cb') clk')) := by
  unfold ents at hm ⊢
  split at hm
  · exact ⟨clk, clk + 1, update_empty hm Tryd.underlying113 Tryd.underlying3 num v'⟩
  · exact ⟨cb, clk, update_hit hm Tryd.underlying113 Tryd.underlying3 v'⟩

set_option maxHeartbeats 4000000 in
set_option maxRecDepth 100000 in
theorem message_one (vs : List Nat) (A1 : Option Addr) (c1 : Nat) (m : MD) (f : FD) (A : Option Addr) (c : Nat) (l : List UInt8) (ok : Nat → Prop) (w : World) (hm : Row 2 (MsgIn w) w (fun _ => True) A1 [m]) (hmf : m.fields = [f]) (hkd : wireP f.kind = 0)
    (hA : A = none → c = 0) (hc : l.length ≤ c) (hr : Bys w ok A l) (hn : l.length ≤ 1000000) (r : List (WF × List UInt8)) (h : splitP l.length l = some r) (hrl : r.length ≤ 1000000)
    (hkn : ∀ p ∈ r, p.1.n = f.num ∧ knownB [f] p.1.n p.1.t = true) (hvs : valsP (ownP f.rep (r.map (·.1))) = some vs) (hvl : vs.length ≤ 1000000) (hdl : ∀ x ∈ ownP f.rep (r.map (·.1)), x.d.length ≤ 1000000) (hLl : (ownP f.rep (r.map (·.1))).length ≤ 1000000) (hzz : f.rep = true ∨ (f.rep = false ∧ f.kind = 1 ∧ ∀ n ∈ vs, (wrap64 n == 0) = false)) (hfn : (Lit.int .i64 f.num).wf = true) (h9 : f.kind ≠ 9) (hvb : ∀ n ∈ vs, n < 2 ^ 64) :
    Calls Tryd.prog 26 #[.agg #[.slice A1 1 c1, .slice none 0 0, .slice none 0 0], .int .i64 0, .slice A l.length c, .int .i64 1] w (MsgR (msgTree f vs) w) := by
  have hS := Lib.hid (fun w2 (hf : Fr NoB w w2) => split_any A c l ok w2 hA hc (Rd.fr hr hf (fun _ _ _ => id)) hn r h)
  obtain ⟨b, o, cs, rfl, _, _, _, ⟨Af, cf, rfl, hcf, h0f, hr1⟩, hcell⟩ := hm.at_ 0 m rfl
  have q0 := hcell 0 _ rfl
  have q1 := hcell 1 _ rfl
  rw [hmf] at q1 hr1
  simp at q0 q1
  have hfa : Fr NoB w (w.alloc (.cells #[.slice (some ⟨b, o, none⟩) 1 c1, .slice none 0 0, .slice none 0 0] 56)) := (Fr.refl NoB w).alloc _
  have hbs := Blk.new w 56 #[.slice (some ⟨b, o, none⟩) 1 c1, .slice none 0 0, .slice none 0 0]
  have hmm := @run_makeMap Tryd.prog
  obtain ⟨i0, hi0, hz0, hz1, hz2⟩ := info_parts infoW
  go_enter Tryd.func26, Tryd.ntmps26
  go_wp2_with fail
  refine (hS.out _ hfa).mono ?_
  rintro e w2 ⟨A2, c2, A3, c3, rfl, h2, h3, hc2, hc3, hr2, hr3, hf2⟩
  have s0 := (hbs.fr hf2 id).cell 0
  simp at s0
  have hf02 := hfa.trans hf2 (fun _ h _ => h)
  have q0 := hf02.cell_some q0 id
  have q1 := hf02.cell_some q1 id
  have hfm : Fr NoB w2 (((w2.alloc (.cells #[.string m.name, .slice Af 1 cf] 51)).alloc (.cells #[.int .i64 0, .slice none 0 0, .string ⟨#[]⟩] 30)).alloc (.map #[] 0)) := (((Fr.refl NoB w2).alloc _).alloc _).alloc _
  have hbd := ((Blk.new w2 51 #[.string m.name, .slice Af 1 cf]).alloc (.cells #[.int .i64 0, .slice none 0 0, .string ⟨#[]⟩] 30)).alloc (.map #[] 0)
  have hbm := (Blk.second w2 (.cells #[.string m.name, .slice Af 1 cf] 51) 30 #[.int .i64 0, .slice none 0 0, .string ⟨#[]⟩]).alloc (.map #[] 0)
  have hmp : Mp (((w2.alloc (.cells #[.string m.name, .slice Af 1 cf] 51)).alloc (.cells #[.int .i64 0, .slice none 0 0, .string ⟨#[]⟩] 30)).alloc (.map #[] 0)) (w2.heap.size + 1 + 1) (ents f.num 0 (.slice none 0 0) 0) 0 := by
    have h := Mp.new ((w2.alloc (.cells #[.string m.name, .slice Af 1 cf] 51)).alloc (.cells #[.int .i64 0, .slice none 0 0, .string ⟨#[]⟩] 30)) #[] 0
    have e : ((w2.alloc (.cells #[.string m.name, .slice Af 1 cf] 51)).alloc (.cells #[.int .i64 0, .slice none 0 0, .string ⟨#[]⟩] 30)).heap.size = w2.heap.size + 1 + 1 := by simp
    rw [e] at h
    exact h
  go_wp2_with fail
  generalize (((w2.alloc (.cells #[.string m.name, .slice Af 1 cf] 51)).alloc (.cells #[.int .i64 0, .slice none 0 0, .string ⟨#[]⟩] 30)).alloc (.map #[] 0)) = wL at *
  have hr2w : Row 4 (WfIn w2 (fun b => b < w2.heap.size)) w2 (fun b => b < w2.heap.size) A2 (r.map (·.1)) := hr2.mv ⟨Nat.le_refl _, fun b _ hl => hl, fun _ _ _ => rfl⟩ (fun _ _ _ h => h.mv ⟨Nat.le_refl _, fun b _ hl => hl, fun _ _ _ => rfl⟩)
  have hgl := hmp.lt
  go_loopw [45] (fun iv wr => ∃ (k : Nat) (v : Value) (cb clk : Nat) (xs : List Value), iv = .int .i64 k ∧ k ≤ r.length ∧ (k = 0 → v = .slice none 0 0) ∧ Mp wr (w2.heap.size + 1 + 1) (ents f.num k v cb) clk ∧ wr.ownsRow wL.heap.size 114 4 v k xs ∧
      RepL 4 (WfIn w2 (fun b => b < w2.heap.size)) ((r.map (·.1)).take k) xs ∧ Fr (OneB (w2.heap.size + 1 + 1)) wL wr) (fun iv _ => r.length - (intOf iv).toNat)
  case atStart => exact ⟨0, _, 0, 0, [], rfl, by omega, fun _ => rfl, hmp, World.ownsRow_nil _ _ _ _, rfl, Fr.refl _ _⟩
  case round =>
    obtain ⟨k, v, cb, clk, xs, rfl, hk, hv0, hmk, hown, hrep, hfk⟩ := hrel
    by_cases hlt : k < r.length
    · have hlt' : k < (r.map (·.1)).length := by simpa using hlt
      obtain ⟨hpn, hpk⟩ := hkn r[k] (List.getElem_mem hlt)
      have hget : (r.map (·.1))[k] = r[k].1 := List.getElem_map ..
      obtain ⟨b2, o2, cs2, rfl, hb2, hb2l, _, hwf, hcell2⟩ := hr2w.at_ k (r.map (·.1))[k] (List.getElem?_eq_getElem hlt')
      rw [hget] at hwf
      have hts : (r.map (·.1)).take (k + 1) = (r.map (·.1)).take k ++ [r[k].1] := by rw [List.take_succ_eq_append_getElem hlt', hget]
      have HT := Lib.hid hts
      clear hts hget
      generalize r[k].1 = x at *
      rw [← hpn] at hmk
      have HPN := Lib.hid hpn
      clear hpn
      have hwf0 := hwf
      obtain ⟨Ad, cd, rfl, hAd, hcd, hBd⟩ := hwf
      have hfw : Fr (OneB (w2.heap.size + 1 + 1)) w2 wr := (hfm.mono (fun _ h _ => h.elim)).trans hfk (fun _ h _ => h)
      have hne2 : ∀ b, b < w2.heap.size → ¬ OneB (w2.heap.size + 1 + 1) b := fun b hb e => by have : b = w2.heap.size + 1 + 1 := e; omega
      have r0 := hfw.cell_some (hcell2 0 _ rfl) (hne2 _ hb2l)
      have r1 := hfw.cell_some (hcell2 1 _ rfl) (hne2 _ hb2l)
      have r2 := hfw.cell_some (hcell2 2 _ rfl) (hne2 _ hb2l)
      have r3 := hfw.cell_some (hcell2 3 _ rfl) (hne2 _ hb2l)
      simp only [Nat.add_zero] at r0
      have hd := hbd.fr hfk (fun e => by have : w2.heap.size = w2.heap.size + 1 + 1 := e; omega)
      have p1 : (k : Int) < (r.length : Int) := by omega
      have p0 : (0 : Int) ≤ (k : Int) := by omega
      have hbx := Blk.new wr 114 #[.int .i64 x.n, .int .i64 x.t, .int .u64 x.u, .slice Ad x.d.length cd]
      have hfx : Fr NoB wr (wr.alloc (.cells #[.int .i64 x.n, .int .i64 x.t, .int .u64 x.u, .slice Ad x.d.length cd] 114)) := (Fr.refl NoB wr).alloc _
      have hdx := hd.fr hfx id
      have d0 := hdx.cell 0
      have d1 := hdx.cell 1
      simp at d0 d1
      have hKn := Lib.hid (fun w3 (hf : Fr (OneB (w2.heap.size + 1 + 1)) w2 w3) => known_any m.name Af [f] cf x.n x.t w3 (hr1.mv (Mv.fr (hf02.mono (fun _ h _ => h.elim) |>.trans hf (fun _ h _ => h)) (fun b _ hl e => by have : b = w2.heap.size + 1 + 1 := e; have := hf02.size; omega)) (fun _ _ _ h => h)) (by simp))
      rw [hpk] at hKn
      go_wp2_with fail
      refine (hKn.out _ (hfw.trans hfx (fun _ h _ => h.elim))).mono ?_
      rintro e w4 ⟨rfl, hf4⟩
      have hT := hfx.trans hf4 (fun _ h _ => h)
      have hmk := hmk.fr hT id
      have own_lt0 := fun q hq => (hown.lt q hq).2
      have hown := own_fr hown hT (fun _ _ => id)
      have hbx := hbx.fr hf4 id
      have hfk := hfk.trans hT (fun _ h _ => h.elim)
      have hx1 : ∀ u ∈ [Value.int .i64 x.n, .int .i64 x.t, .int .u64 x.u, .slice Ad x.d.length cd], u.oneCell' = true := fun u hu => by
        simp only [List.mem_cons, List.not_mem_nil, or_false] at hu
        rcases hu with rfl | rfl | rfl | rfl <;> rfl
      have HV0 := Lib.hid hv0
      clear hT hKn hd hdx d0 d1 r0 r1 r2 r3 hv0 hfx hBd
      go_wp2_with fail
      refine start_ (n := 11) (S := fun w' => Mp w' (w2.heap.size + 1 + 1) (ents x.n k v cb) clk ∧ Blk w' wr.heap.size 114 #[.int .i64 x.n, .int .i64 x.t, .int .u64 x.u, .slice Ad x.d.length cd]) (ds := [10]) #[false, false, false, false, false, false, false, false, false, false, false] (by kernel_rfl) rfl rfl ⟨hmk, hbx.drew⟩ (fun hHeld => ?_)
      refine with_tabW F26.tab13 F26.bits13 (fun HT_ HW_ => ?_)
      have hT : Fr NoB w4 w4.drew := (Fr.refl NoB w4).drew
      have hlt0 := fun q hq => (own_lt0 q hq)
      have hown := own_fr hown hT (fun _ _ => id)
      have hfk := hfk.trans hT (fun _ h _ => h.elim)
      generalize w4.drew = W0 at *
      refine pure_ (i := 0) (N := some 56) (v := ?_) (a' := ?_) #[true, false, false, false, false, false, false, false, false, false, false] rfl rfl (any_of HT_.out (by kernel_rfl)) (fun _ _ _ h => h) (Or.inl ⟨by rfl, ?_⟩) ?_ ?_
      rotate_left
      · intro w'
        go_simp
        with_reducible rfl
      rotate_left
      · simp only [Act.put, List.setIfInBounds_toArray, List.set_cons_zero, List.set_cons_succ, i64_w, i32_w]
        rfl
      refine pure_ (i := 1) (N := some 57) (v := ?_) (a' := ?_) #[true, true, false, false, false, false, false, false, false, false, false] rfl rfl (any_of HT_.out (by kernel_rfl)) (fun _ _ _ h => h) (Or.inl ⟨by rfl, ?_⟩) ?_ ?_
      rotate_left
      · intro w'
        go_simp
        with_reducible rfl
      rotate_left
      · simp only [Act.put, List.setIfInBounds_toArray, List.set_cons_zero, List.set_cons_succ, i64_w, i32_w]
        rfl
      refine pure_ (i := 3) (N := some 59) (v := ?_) (a' := ?_) #[true, true, false, true, false, false, false, false, false, false, false] rfl rfl (any_of HT_.out (by kernel_rfl)) (fun _ _ _ h => h) (Or.inl ⟨by rfl, ?_⟩) ?_ ?_
      rotate_left
      · intro w'
        go_simp
        with_reducible rfl
      rotate_left
      · simp only [Act.put, List.setIfInBounds_toArray, List.set_cons_zero, List.set_cons_succ, i64_w, i32_w]
        rfl
      refine pure_ (i := 4) (N := some 60) (v := ?_) (a' := ?_) #[true, true, false, true, true, false, false, false, false, false, false] rfl rfl (any_of HT_.out (by kernel_rfl)) (fun _ _ _ h => h) (Or.inl ⟨by rfl, ?_⟩) ?_ ?_
      rotate_left
      · intro w'
        go_simp
        with_reducible rfl
      rotate_left
      · simp only [Act.put, List.setIfInBounds_toArray, List.set_cons_zero, List.set_cons_succ, i64_w, i32_w]
        rfl
      refine take_ (i := 2) (N := some 58) (v := ?_) (a' := ?_) #[true, true, true, true, true, false, false, false, false, false, false] rfl rfl (take_ofW HT_.out HW_.out (by kernel_rfl)) (fun _ _ _ h => h) (Or.inl ⟨by rfl, ?_⟩) hHeld ?_ ?_
      rotate_left
      · intro w' hS
        have s0 := hS.2.cell 0
        have s1 := hS.2.cell 1
        have s2 := hS.2.cell 2
        have s3 := hS.2.cell 3
        simp at s0 s1 s2 s3
        have hlk := ents_lookup hS.1 HV0.out
        go_simp
        with_reducible rfl
      rotate_left
      · simp only [Act.put, List.setIfInBounds_toArray, List.set_cons_zero, List.set_cons_succ, i64_w, i32_w]
        rfl
      refine take_ (i := 5) (N := some 61) (v := ?_) (a' := ?_) #[true, true, true, true, true, true, false, false, false, false, false] rfl rfl (take_ofW HT_.out HW_.out (by kernel_rfl)) (fun _ _ _ h => h) (Or.inl ⟨by rfl, ?_⟩) hHeld ?_ ?_
      rotate_left
      · intro w' hS
        have s0 := hS.2.cell 0
        have s1 := hS.2.cell 1
        have s2 := hS.2.cell 2
        have s3 := hS.2.cell 3
        simp at s0 s1 s2 s3
        have hlk := ents_lookup hS.1 HV0.out
        go_simp
        with_reducible rfl
      rotate_left
      · simp only [Act.put, List.setIfInBounds_toArray, List.set_cons_zero, List.set_cons_succ, i64_w, i32_w]
        rfl
      refine take_ (i := 6) (N := some 62) (v := ?_) (a' := ?_) #[true, true, true, true, true, true, true, false, false, false, false] rfl rfl (take_ofW HT_.out HW_.out (by kernel_rfl)) (fun _ _ _ h => h) (Or.inl ⟨by rfl, ?_⟩) hHeld ?_ ?_
      rotate_left
      · intro w' hS
        have s0 := hS.2.cell 0
        have s1 := hS.2.cell 1
        have s2 := hS.2.cell 2
        have s3 := hS.2.cell 3
        simp at s0 s1 s2 s3
        have hlk := ents_lookup hS.1 HV0.out
        go_simp
        with_reducible rfl
      rotate_left
      · simp only [Act.put, List.setIfInBounds_toArray, List.set_cons_zero, List.set_cons_succ, i64_w, i32_w]
        rfl
      refine take_ (i := 7) (N := some 63) (v := ?_) (a' := ?_) #[true, true, true, true, true, true, true, true, false, false, false] rfl rfl (take_ofW HT_.out HW_.out (by kernel_rfl)) (fun _ _ _ h => h) (Or.inl ⟨by rfl, ?_⟩) hHeld ?_ ?_
      rotate_left
      · intro w' hS
        have s0 := hS.2.cell 0
        have s1 := hS.2.cell 1
        have s2 := hS.2.cell 2
        have s3 := hS.2.cell 3
        simp at s0 s1 s2 s3
        have hlk := ents_lookup hS.1 HV0.out
        go_simp
        with_reducible rfl
      rotate_left
      · simp only [Act.put, List.setIfInBounds_toArray, List.set_cons_zero, List.set_cons_succ, i64_w, i32_w]
        rfl
      refine one_ (i := 8) (N := some 64) #[true, true, true, true, true, true, true, true, true, false, false] rfl rfl (one_of HT_.out (by kernel_rfl)) (by decide) (fun K hK => ?_)
      refine step_value rfl (.slice (some ⟨W0.heap.size, 0, none⟩) 1 1) (W0.alloc (.cells #[.int .i64 x.n, .int .i64 x.t, .int .u64 x.u, .slice Ad x.d.length cd] 114)) (by go_simp; first | done | rfl) ?_
      have hT : Fr NoB W0 (W0.alloc (.cells #[.int .i64 x.n, .int .i64 x.t, .int .u64 x.u, .slice Ad x.d.length cd] 114)) := (Fr.refl NoB W0).alloc _
      have hbv : Blk (W0.alloc (.cells #[.int .i64 x.n, .int .i64 x.t, .int .u64 x.u, .slice Ad x.d.length cd] 114)) W0.heap.size 114 #[.int .i64 x.n, .int .i64 x.t, .int .u64 x.u, .slice Ad x.d.length cd] := Blk.new _ _ _
      generalize (W0.alloc (.cells #[.int .i64 x.n, .int .i64 x.t, .int .u64 x.u, .slice Ad x.d.length cd] 114)) = W1 at *
      have hown := own_fr hown hT (fun _ _ => id)
      have hfk := hfk.trans hT (fun _ h _ => h.elim)
      have hSn := And.intro (hHeld.1.fr hT id) (hHeld.2.fr hT id)
      refine hK.out _ _ hSn (fun hHeld => ?_)
      clear hK K
      refine norm_ (a' := ?_) ?_ ?_
      rotate_left
      · show Act.put _ (some 64) _ = _
        simp only [Act.put, List.setIfInBounds_toArray, List.set_cons_zero, List.set_cons_succ, i64_w, i32_w]
        rfl
      refine one_ (i := 9) (N := some 65) #[true, true, true, true, true, true, true, true, true, true, false] rfl rfl (one_of HT_.out (by kernel_rfl)) (by decide) (fun K hK => ?_)
      have hbase := hfk.size
      refine step_app _ rfl (.tmp 62) (.tmp 64) 109 rfl wL.heap.size 114 i0 _ 4 48 Tryd.underlying109 hi0 hz0 hz1 hz2 rfl (by omega) v k xs rfl hown (fun _ => True) (some ⟨W0.heap.size, 0, none⟩) 1 1 (fun h => by cases h) [.int .i64 x.n, .int .i64 x.t, .int .u64 x.u, .slice Ad x.d.length cd] rfl (Rd.of_blk _ hbv rfl trivial) hx1 (by simp only [maxLen]; omega) (by omega) hbase ?_
      intro v' W2 own1' hg hat
      have hT := Fr.of_grown (S := fun k => v.ownBlock = some k) hg (fun k hk _ => hk)
      have hge := fun g hg => (hown.lt g hg).1
      have hSn := And.intro (hHeld.1.fr hT (fun e => by have := hge _ e; omega)) (hHeld.2.fr hT (fun e => Nat.lt_irrefl _ (Nat.lt_of_lt_of_le (hlt0 _ e) (Nat.le_refl _))))
      have hfk := hfk.trans hT (fun b hb hl => by have := hge b hb; omega)
      have hrep' := hrep.snoc (cs := [.int .i64 x.n, .int .i64 x.t, .int .u64 x.u, .slice Ad x.d.length cd]) rfl hwf0
      clear hown hbv
      refine hK.out _ _ hSn (fun hHeld => ?_)
      clear hK K
      refine norm_ (a' := ?_) ?_ ?_
      rotate_left
      · show Act.put _ (some 65) _ = _
        simp only [Act.put, List.setIfInBounds_toArray, List.set_cons_zero, List.set_cons_succ, i64_w, i32_w]
        rfl
      refine last_ (i := 10) (N := none) #[true, true, true, true, true, true, true, true, true, true, true] rfl rfl (one_of HT_.out (by kernel_rfl)) (by decide) (fun K hK => ?_)
      obtain ⟨cb', clk', hup⟩ := ents_update hHeld.1 v'
      refine skip_ (w1 := ?_) (by rfl) rfl ?_ ?_
      rotate_left
      · go_simp
        rfl
      have hT : Fr (OneB (w2.heap.size + 1 + 1)) W2 (setBlock W2 (w2.heap.size + 1 + 1) (.map (ents x.n (k + 1) v' cb') clk')) := (Fr.refl (OneB (w2.heap.size + 1 + 1)) W2).setBlock (b := (w2.heap.size + 1 + 1)) (fun _ => rfl) _
      have hmk' := hHeld.1.set_ (ents x.n (k + 1) v' cb') clk'
      have own1' := own_fr own1' hT (fun q hq e => by have h1 := (own1'.lt q hq).1; have : q = (w2.heap.size + 1 + 1) := e; omega)
      have hfk := hfk.trans hT (fun _ h _ => h)
      refine hK.out _ _ ?_
      clear hK K
      refine done_ (done_of HT_.out (by kernel_rfl)) ?_
      have hdn : ((r.map (·.1)).take (k + 1)).length = k + 1 := by rw [List.length_take]; simp; omega
      go_wp2_with fail
      refine ⟨⟨k + 1, v', cb', clk', _, by go_num, by omega, (fun h => by omega), by rw [← HPN.out]; exact hmk', own1', by rw [HT.out]; exact hrep', hfk⟩, by simp [intOf]; omega⟩
    · have hkk : k = r.length := by omega
      subst hkk
      rw [List.take_of_length_le (by simp)] at hrep
      obtain ⟨Av, cv, rfl, hcv, _, h0v, _⟩ := own_slice hown
      have hfw : Fr (OneB (w2.heap.size + 1 + 1)) w2 wr := (hfm.mono (fun _ h _ => h.elim)).trans hfk (fun _ h _ => h)
      have hfw0 : Fr (OneB (w2.heap.size + 1 + 1)) w wr := (hf02.mono (fun _ h _ => h.elim)).trans hfw (fun _ h _ => h)
      have hs02 := hf02.size
      have hfN : Fr NoB w wr := hfw0.mono (fun b hb hl => by have : b = w2.heap.size + 1 + 1 := hb; omega)
      obtain ⟨b3, o3, cs3, rfl, _, hb3l, _, hR3, hcell3⟩ := hr1.at_ 0 f rfl
      subst hR3
      have hne3 : ¬ OneB (w2.heap.size + 1 + 1) b3 := fun e => by have : b3 = w2.heap.size + 1 + 1 := e; omega
      have f0 := hfw0.cell_some (hcell3 0 _ rfl) hne3
      have f1 := hfw0.cell_some (hcell3 1 _ rfl) hne3
      have f2 := hfw0.cell_some (hcell3 2 _ rfl) hne3
      have f3 := hfw0.cell_some (hcell3 3 _ rfl) hne3
      have f4 := hfw0.cell_some (hcell3 4 _ rfl) hne3
      simp at f0 f1 f2 f3 f4
      have hd := hbd.fr hfk (fun e => by have : w2.heap.size = w2.heap.size + 1 + 1 := e; omega)
      have hmb := hbm.fr hfk (fun e => by have : w2.heap.size + 1 = w2.heap.size + 1 + 1 := e; omega)
      have d1 := hd.cell 1
      simp at d1
      have hsr : Blk wr w.heap.size 56 #[.slice (some ⟨b, o, none⟩) 1 c1, .slice none 0 0, .slice none 0 0] := by
        have hl := hbs.lt
        have hz : (w.alloc (.cells #[.slice (some ⟨b, o, none⟩) 1 c1, .slice none 0 0, .slice none 0 0] 56)).heap.size = w.heap.size + 1 := by simp
        have h1 := hf2.size
        exact (hbs.fr hf2 id).fr hfw (fun e => by have : w.heap.size = w2.heap.size + 1 + 1 := e; omega)
      have p1 : ¬ (r.length : Int) < (r.length : Int) := by omega
      have hbf := Blk.new wr 48 #[.int .i64 f.num, .string f.name, .int .i64 f.kind, .bool f.rep, .int .i64 f.typ]
      have hff : Fr NoB wr (wr.alloc (.cells #[.int .i64 f.num, .string f.name, .int .i64 f.kind, .bool f.rep, .int .i64 f.typ] 48)) := (Fr.refl NoB wr).alloc _
      have hmk5 := hmk.fr hff id
      have hlk := ents_lookup hmk5 hv0
      have hL : Row 4 (WfIn wr (fun _ => True)) wr (fun _ => True) Av (r.map (·.1)) := by
        have hmv : Mv (fun b => b < w2.heap.size) (fun _ => True) w2 wr := Mv.of_fr hfw (fun b hb _ e => by have : b = w2.heap.size + 1 + 1 := e; omega) (fun _ _ _ => trivial)
        exact Row.of_own hown (hrep.mono (fun _ _ _ h => h.mv hmv)) (by simp) (fun _ _ => trivial)
      have hO := Lib.hid (fun w3 (hf : Fr NoB wr w3) => own_any f Av (r.map (·.1)) cv w3 (beq_eq_false_iff_ne.2 (fun h => by rw [h] at hkd; simp [wireP] at hkd)) (hL.mv (Mv.new hf) (fun _ _ _ h => h.mv (Mv.new hf))) (by simpa using hrl))
      unfold FD.cells at hO
      simp only [List.length_map] at hO
      go_wp2_with fail
      refine wp_loop_rounds 2 ?_
      rw [rounds_succ]
      go_wp2_with fail
      refine (hO.out _ hff).mono ?_
      rintro e w5 ⟨A4, c4, rfl, hr4, hf5⟩
      generalize ownP f.rep (r.map (·.1)) = L at *
      have hfN5 := (hfN.trans hff (fun _ h _ => h)).trans hf5 (fun _ h _ => h)
      have hmb5 := (hmb.fr hff id).fr hf5 id
      have hbf5 := hbf.fr hf5 id
      have hsr5 := (hsr.fr hff id).fr hf5 id
      have hr4' := hr4
      have e1 := (hd.fr hff id).fr hf5 id
      have d1 := e1.cell 1
      simp at d1
      obtain ⟨j0, hj0, hw0, hw1, hw2⟩ := info_parts infoV
      clear hO hlk hS hL hmk hmk5 hrep hown f0 f1 f2 f3 f4 hcell3
      go_wp2_with fail
      go_loopw [90, 20] (fun iv lv wr2 => ∃ (j : Nat) (acc td : List Nat) (xs : List Value), iv = .int .i64 j ∧ j ≤ L.length ∧ valsP (L.drop j) = some td ∧ vs = acc ++ td ∧ wr2.ownsRow w5.heap.size 34 1 lv acc.length xs ∧ RepL 1 (NumIn f.kind) acc xs ∧ Fr NoB w5 wr2) (fun iv _ _ => L.length - (intOf iv).toNat)
      case atStart => exact ⟨0, [], vs, [], rfl, by omega, hvs, rfl, World.ownsRow_nil _ _ _ _, rfl, Fr.refl _ _⟩
      case round =>
        obtain ⟨j, acc, td, ys, rfl, hj, htd, hva, own6, rep6, hf6⟩ := hrel
        have hg6 := hbf5.fr hf6 id
        have hs6 := hsr5.fr hf6 id
        have hm6 := hmb5.fr hf6 id
        by_cases hlt : j < L.length
        · have hdr : L.drop j = L[j] :: L.drop (j + 1) := List.drop_eq_getElem_cons hlt
          rw [hdr] at htd
          have hd6 := hdl _ (List.getElem_mem hlt)
          obtain ⟨b6, o6, cs6, rfl, _, hb6l, _, hwf6, hcell6⟩ := hr4.at_ j L[j] (List.getElem?_eq_getElem hlt)
          generalize L[j] = x at *
          have hwf6' := hwf6
          obtain ⟨Ad, cd, rfl, hAd, hcd, hBd⟩ := hwf6
          have r0 := hf6.cell_some (hcell6 0 _ rfl) id
          have r1 := hf6.cell_some (hcell6 1 _ rfl) id
          have r2 := hf6.cell_some (hcell6 2 _ rfl) id
          have r3 := hf6.cell_some (hcell6 3 _ rfl) id
          simp only [Nat.add_zero] at r0
          have q1 : (j : Int) < (L.length : Int) := by omega
          have q0 : (0 : Int) ≤ (j : Int) := by omega
          cases hvx : valuesP x with
          | none => simp only [valsP, hvx] at htd; cases htd
          | some nx =>
            simp only [valsP, hvx] at htd
            obtain ⟨td', htd', rfl⟩ := Option.map_eq_some_iff.1 htd
            have hV := Lib.hid (fun w7 (hf : Fr NoB w5 w7) => values_any (some ⟨b, o, none⟩) none none 1 c1 0 0 0 0 f x _ _ 1 w7 hkd (hwf6'.mv (Mv.new hf)) hd6 nx hvx)
            unfold FD.cells at hV
            have hfx : Fr NoB wr (wr.alloc (.cells #[.int .i64 x.n, .int .i64 x.t, .int .u64 x.u, .slice Ad x.d.length cd] 114)) := (Fr.refl NoB wr).alloc _
            have hg7 := hg6.fr hfx id
            have hs7 := hs6.fr hfx id
            have g0 := hg7.cell 0
            have g1 := hg7.cell 1
            have g2 := hg7.cell 2
            have g3 := hg7.cell 3
            have g4 := hg7.cell 4
            have t0 := hs7.cell 0
            have t1 := hs7.cell 1
            have t2 := hs7.cell 2
            simp at g0 g1 g2 g3 g4 t0 t1 t2
            go_wp2_with fail
            refine (hV.out _ (hf6.trans hfx (fun _ h _ => h))).mono ?_
            rintro e w8 ⟨A8, c8, rfl, hA8, hc8, ⟨zs, rep8, rd8⟩, hf8⟩
            have hT := hfx.trans hf8 (fun _ h _ => h)
            have own8 := own_fr own6 hT (fun _ _ => id)
            have hf68 := hf6.trans hT (fun _ h _ => h)
            have hone8 : ∀ u ∈ zs, u.oneCell' = true := rep8.all (fun n cs _ h u hu => by
              have h : cs = [numV f.kind n] := h
              subst h
              rw [List.mem_singleton.1 hu]
              exact numV_one _ _)
            have hvl2 : acc.length + nx.length ≤ 1000000 := by
              rw [hva, List.length_append, List.length_append] at hvl
              omega
            have hbase := hf68.size
            have HTD := Lib.hid htd'
            have HVA := Lib.hid hva
            clear hV hT own6 hva htd' g0 g1 g2 g3 g4 t0 t1 t2 r0 r1 r2 r3 hg7 hs7 hg6 hs6 hm6
            go_wp2_with (at_builtin; refine wpList_app _ rfl (.tmp 105) (.tmp 106) 39 rfl w5.heap.size 34 j0 _ 1 16 Tryd.underlying39 hj0 hw0 hw1 hw2 rfl (by omega) u20 acc.length ys rfl own8 _ A8 nx.length c8 hA8 zs rfl rd8 hone8 (by simp only [maxLen]; omega) (by omega) hbase ?_; intro v9 w9 own9 hg9 hat9)
            have hal : (acc ++ nx).length = acc.length + nx.length := List.length_append
            rw [← hal] at own9
            have hT := Fr.of_grown (S := fun k => (u20 : Value).ownBlock = some k) hg9 (fun k hk _ => hk)
            go_roundw
            case rel => exact ⟨j + 1, acc ++ nx, td', _, by go_num, by omega, HTD.out, by rw [List.append_assoc]; exact HVA.out, own9, rep6.append rep8, hf68.trans hT (fun b hb hl => absurd hl (Nat.not_lt.2 (own8.lt b hb).1))⟩
            case measure => simp [intOf]; omega
        · have hjj : j = L.length := by omega
          rw [hjj, List.drop_length] at htd
          have htd0 : td = [] := by simpa [valsP] using htd.symm
          rw [htd0, List.append_nil] at hva
          subst hva
          obtain ⟨A9, c9, rfl, hc9, _, h09, _⟩ := own_slice own6
          have q1 : ¬ (j : Int) < (L.length : Int) := by omega
          have g0 := hg6.cell 0
          have g2 := hg6.cell 2
          have g3 := hg6.cell 3
          have m0 := hm6.cell 0
          have m1 := hm6.cell 1
          have m2 := hm6.cell 2
          simp at g0 g2 g3 m0 m1 m2
          have n1 := hm6.frozen 1
          clear hjj
          by_cases hemp : vs.length = 0
          · have z1 : ¬ (0 : Int) < (vs.length : Int) := by omega
            go_wp2_with fail
            rw [rounds_succ]
            go_wp2_with fail
            go_ret2
            have hvn : vs = [] := List.length_eq_zero_iff.1 hemp
            rw [hvn]
            exact ⟨_, rfl, msg_empty f _ _ hfn, hfN5.trans hf6 (fun _ h _ => h)⟩
          · have z1 : (0 : Int) < (vs.length : Int) := by omega
            obtain ⟨k0, hk0, ha0, ha1, ha2⟩ := info_parts infoF
            rcases hzz with hrp | ⟨hrp, hk1, hnz⟩
            · rw [hrp] at g3
              have hnf : Blk (wr.alloc (.cells #[.int .i64 f.num, .slice A9 vs.length c9] 78)) wr.heap.size 78 #[.int .i64 f.num, .slice A9 vs.length c9] := Blk.new _ _ _
              have hT := (Fr.refl NoB wr).alloc (.cells #[.int .i64 f.num, .slice A9 vs.length c9] 78)
              have hmz := hm6.fr hT id
              have hone9 : ∀ u ∈ [Value.int .i64 f.num, .slice A9 vs.length c9], u.oneCell' = true := fun u hu => by
                rcases List.mem_cons.1 hu with rfl | hu
                · rfl
                · rw [List.mem_singleton.1 hu]; rfl
              go_wp2_with (at_builtin; refine wpList_app _ rfl (.tmp 129) (.tmp 134) 28 rfl wr.heap.size 78 k0 _ 2 32 Tryd.underlying28 hk0 ha0 ha1 ha2 rfl (by omega) (.slice none 0 0) 0 [] rfl (World.ownsRow_nil _ _ _ _) (fun b => wr.heap.size ≤ b) (some ⟨wr.heap.size, 0, none⟩) 1 1 (fun h => by cases h) [.int .i64 f.num, .slice A9 vs.length c9] rfl (Rd.of_blk (n := 1) (size := 2) _ hnf rfl (Nat.le_refl _)) hone9 (by decide) (by decide) hT.size ?_; intro v9 w9 own9 hg9 hat9; have hmy := hmz.grown hg9 (fun e => by cases e); have n1 := hmy.frozen 1; have m0 := hmy.cell 0; have m1 := hmy.cell 1; have m2 := hmy.cell 2; simp at m0 m1 m2; obtain ⟨A10, c10, rfl, hc10, _, h10, _⟩ := own_slice own9)
              rw [rounds_succ]
              go_wp2_with fail
              go_ret2
              have hvne : vs ≠ [] := fun h => hemp (by rw [h]; rfl)
              have hlm := hmb5.lt
              have h56 := hf6.size
              have hTg : Fr NoB _ w9 := Fr.of_grown hg9 (fun k hk => by cases hk)
              have hset : Fr (OneB (w2.heap.size + 1)) w9 (w9.setCell ⟨w2.heap.size + 1, 1, none⟩ (.slice A10 1 c10)) := (Fr.refl (OneB (w2.heap.size + 1)) w9).setCell (p := ⟨w2.heap.size + 1, 1, none⟩) (fun _ => rfl) _
              have hinner := ((((Rd.of_own (ok := fun b => w5.heap.size ≤ b) own6 (fun k hk => (own6.lt k hk).1)).fr hT (fun _ _ _ => id)).fr hTg (fun _ _ _ => id)).fr hset (fun b hb _ e => by have : b = w2.heap.size + 1 := e; have : w5.heap.size ≤ b := hb; omega)).mono (ok' := fun b => w.heap.size ≤ b) (fun b hb _ => Nat.le_trans hfN5.size hb)
              have houter := ((Rd.of_own (ok := fun b => w5.heap.size ≤ b) own9 (fun k hk => Nat.le_trans h56 (own9.lt k hk).1)).fr hset (fun b hb _ e => by have : b = w2.heap.size + 1 := e; have : w5.heap.size ≤ b := hb; omega)).mono (ok' := fun b => w.heap.size ≤ b) (fun b hb _ => Nat.le_trans hfN5.size hb)
              exact ⟨_, rfl, msg_full f vs _ _ hfn hvl hvne h9 hvb A10 A9 c10 c9 ys (by simpa using hc10) h10 houter hc9 h09 hinner rep6, ((((hfN5.trans hf6 (fun _ h _ => h)).trans hT (fun _ h _ => h)).trans hTg (fun _ h _ => h)).setNew (p := ⟨w2.heap.size + 1, 1, none⟩) (by have := hf02.size; show w.heap.size ≤ w2.heap.size + 1; omega) _)⟩
            · rw [hrp] at g3
              have hpos : 0 < vs.length := by omega
              obtain ⟨cs0, hcs0, hnum0, hcell0⟩ := rep6.at_ 0 vs[0] (List.getElem?_eq_getElem hpos)
              have hz0 := hnz _ (List.getElem_mem hpos)
              have hnum0 : cs0 = [numV f.kind vs[0]] := hnum0
              have hnv : numV f.kind vs[0] = .iface 72 (.int .i64 (wrap64 vs[0])) := if_pos hk1
              rw [hnv] at hnum0
              subst hnum0
              obtain ⟨b9, o9, rfl, _, _, hc99⟩ := (Rd.of_own (ok := fun _ => True) own6 (fun _ _ => trivial)).2 hpos
              have v0 := hc99 0 _ (hcell0 0 _ rfl)
              simp only [Nat.add_zero] at v0
              generalize wrap64 vs[0] = z0 at *
              have hg10 : f.kind = 10 → False := fun h => by rw [hk1] at h; cases h
              rw [hk1] at g2
              go_wp2_with fail
              refine (zero_int _ _).mono ?_
              rintro e w7 ⟨rfl, hf7⟩
              rw [hz0]
              have hf67 := hf6.trans hf7 (fun _ h _ => h)
              have own7 := own_fr own6 hf7 (fun _ _ => id)
              have hm7 := hm6.fr hf7 id
              have hg7 := hg6.fr hf7 id
              clear g0 g2 g3 m0 m1 m2 n1 v0
              have g0 := hg7.cell 0
              have m0 := hm7.cell 0
              have m1 := hm7.cell 1
              have m2 := hm7.cell 2
              simp at g0 m0 m1 m2
              have n1 := hm7.frozen 1
              have hnf : Blk (w7.alloc (.cells #[.int .i64 f.num, .slice (some ⟨b9, o9, none⟩) vs.length c9] 78)) w7.heap.size 78 #[.int .i64 f.num, .slice (some ⟨b9, o9, none⟩) vs.length c9] := Blk.new _ _ _
              have hT := (Fr.refl NoB w7).alloc (.cells #[.int .i64 f.num, .slice (some ⟨b9, o9, none⟩) vs.length c9] 78)
              have hmz := hm7.fr hT id
              have hone9 : ∀ u ∈ [Value.int .i64 f.num, .slice (some ⟨b9, o9, none⟩) vs.length c9], u.oneCell' = true := fun u hu => by
                rcases List.mem_cons.1 hu with rfl | hu
                · rfl
                · rw [List.mem_singleton.1 hu]; rfl
              go_wp2_with (at_builtin; refine wpList_app _ rfl (.tmp 129) (.tmp 134) 28 rfl w7.heap.size 78 k0 _ 2 32 Tryd.underlying28 hk0 ha0 ha1 ha2 rfl (by omega) (.slice none 0 0) 0 [] rfl (World.ownsRow_nil _ _ _ _) (fun b => w7.heap.size ≤ b) (some ⟨w7.heap.size, 0, none⟩) 1 1 (fun h => by cases h) [.int .i64 f.num, .slice (some ⟨b9, o9, none⟩) vs.length c9] rfl (Rd.of_blk (n := 1) (size := 2) _ hnf rfl (Nat.le_refl _)) hone9 (by decide) (by decide) hT.size ?_; intro v9 w9 own9 hg9 hat9; have hmy := hmz.grown hg9 (fun e => by cases e); have n1 := hmy.frozen 1; have m0 := hmy.cell 0; have m1 := hmy.cell 1; have m2 := hmy.cell 2; simp at m0 m1 m2; obtain ⟨A10, c10, rfl, hc10, _, h10, _⟩ := own_slice own9)
              rw [rounds_succ]
              go_wp2_with fail
              go_ret2
              have hvne : vs ≠ [] := fun h => hemp (by rw [h]; rfl)
              have hlm := hmb5.lt
              have h56 := hf67.size
              have hTg : Fr NoB _ w9 := Fr.of_grown hg9 (fun k hk => by cases hk)
              have hset : Fr (OneB (w2.heap.size + 1)) w9 (w9.setCell ⟨w2.heap.size + 1, 1, none⟩ (.slice A10 1 c10)) := (Fr.refl (OneB (w2.heap.size + 1)) w9).setCell (p := ⟨w2.heap.size + 1, 1, none⟩) (fun _ => rfl) _
              have hinner := ((((Rd.of_own (ok := fun b => w5.heap.size ≤ b) own7 (fun k hk => (own7.lt k hk).1)).fr hT (fun _ _ _ => id)).fr hTg (fun _ _ _ => id)).fr hset (fun b hb _ e => by have : b = w2.heap.size + 1 := e; have : w5.heap.size ≤ b := hb; omega)).mono (ok' := fun b => w.heap.size ≤ b) (fun b hb _ => Nat.le_trans hfN5.size hb)
              have houter := ((Rd.of_own (ok := fun b => w5.heap.size ≤ b) own9 (fun k hk => Nat.le_trans h56 (own9.lt k hk).1)).fr hset (fun b hb _ e => by have : b = w2.heap.size + 1 := e; have : w5.heap.size ≤ b := hb; omega)).mono (ok' := fun b => w.heap.size ≤ b) (fun b hb _ => Nat.le_trans hfN5.size hb)
              exact ⟨_, rfl, msg_full f vs _ _ hfn hvl hvne h9 hvb A10 (some ⟨b9, o9, none⟩) c10 c9 ys (by simpa using hc10) h10 houter hc9 h09 hinner rep6, ((((hfN5.trans hf67 (fun _ h _ => h)).trans hT (fun _ h _ => h)).trans hTg (fun _ h _ => h)).setNew (p := ⟨w2.heap.size + 1, 1, none⟩) (by have := hf02.size; show w.heap.size ≤ w2.heap.size + 1; omega) _)⟩
end Go.Proofs.YtcfmcgkngjpdbaaDoor
