/- wire.Split. -/
import Derived.Test.YtcfmcgkngjpdbaaDoorD1
import Derived.Test.YtcfmcgkngjpdbaaDoorWLast
import Derived.Test.YtcfmcgkngjpdbaaDoorWTab
import Derived.Deep.DeepCutAuto
namespace Go.Proofs.YtcfmcgkngjpdbaaDoor
set_option linter.unusedVariables false
set_option linter.unusedSimpArgs false
open Go.RowKit Go.Proofs.YtcfmcgkngjpdbaaDoorW.PrintWords Go.Proofs.YtcfmcgkngjpdbaaDoorW.PrintLast
def F46.T5 : Bool × List (List Nat × List Nat) := (true, [([], []), ([], []), ([1], [1]), ([0, 2], [0, 2]), ([], []), ([], []), ([], []), ([5, 6], [5, 6]), ([7, 3], [7]), ([8], [8]), ([4, 9, 8], [4, 9]), ([3, 10, 0, 1, 2, 3], [0, 3]), ([10, 11, 0, 1, 2, 3, 4, 5, 6, 7, 8, 9, 10, 11], [4, 10])])
def F46.B5 : List Nat := [0, 0, 2, 7, 0, 0, 0, 96, 239, 495, 1023, 2047, 4095]
theorem F46.tab5 : rtab .any (opsOf Tryd.f46 5) = F46.T5 := by kernel_rfl
theorem F46.bits5 : waitsOk F46.T5.2 F46.B5 = true := by kernel_rfl

def splitP : Nat → List UInt8 → Option (List (WF × List UInt8))
  | _, [] => some []
  | 0, _ :: _ => none
  | n + 1, c :: r => match wtakeP (c :: r) with
    | none => none
    | some (f, k) => (splitP n ((c :: r).drop k)).map ((f, (c :: r).take k) :: ·)
theorem wtakeP_bounds {l : List UInt8} {f : WF} {k : Nat} (h : wtakeP l = some (f, k)) : 1 ≤ k ∧ k ≤ l.length := by
  unfold wtakeP at h
  have h1 := takeN_at l 0 0
  generalize takeN 0 0 l = a at *
  obtain ⟨a1, a2, a3⟩ := a
  dsimp only at h h1
  split at h
  · cases h
  rename_i h0
  have h1 := h1 (by omega)
  split at h
  · cases h
  have h2 := takeN_at (l.drop a2) 0 0
  generalize takeN 0 0 (l.drop a2) = b at *
  obtain ⟨b1, b2, b3⟩ := b
  dsimp only at h h2
  rw [List.length_drop] at h2
  split at h
  · split at h
    · cases h
    · rename_i h3
      have h2 := h2 (by omega)
      simp only [Option.some.injEq, Prod.mk.injEq] at h
      omega
  · split at h
    · split at h
      · cases h
      · rename_i h3
        have h2 := h2 (by omega)
        simp only [List.length_drop] at h3
        simp only [Option.some.injEq, Prod.mk.injEq] at h
        omega
    · cases h
def RawIn (w : World) (ok : Nat → Prop) (l : List UInt8) (cs : List Value) : Prop := ∃ A c, cs = [.slice A l.length c] ∧ (A = none → c = 0) ∧ l.length ≤ c ∧ Bys w ok A l
theorem WfIn.mv {w w' : World} {ok ok' : Nat → Prop} {f : WF} {cs : List Value} (h : WfIn w ok f cs) (hm : Mv ok ok' w w') : WfIn w' ok' f cs := by
  obtain ⟨A, c, rfl, h1, h2, h3⟩ := h
  exact ⟨A, c, rfl, h1, h2, Rd.mv h3 hm⟩
theorem RawIn.mv {w w' : World} {ok ok' : Nat → Prop} {f : List UInt8} {cs : List Value} (h : RawIn w ok f cs) (hm : Mv ok ok' w w') : RawIn w' ok' f cs := by
  obtain ⟨A, c, rfl, h1, h2, h3⟩ := h
  exact ⟨A, c, rfl, h1, h2, Rd.mv h3 hm⟩
def SplitR (r : List (WF × List UInt8)) (w : World) (e : Ending) (w' : World) : Prop :=
  ∃ A1 c1 A2 c2, e = .returned (.tuple #[.slice A1 r.length c1, .slice A2 r.length c2, .int .i64 0]) ∧ (A1 = none → c1 = 0) ∧ (A2 = none → c2 = 0) ∧ r.length ≤ c1 ∧ r.length ≤ c2 ∧
    Row 4 (WfIn w' (fun b => w.heap.size ≤ b)) w' (fun b => w.heap.size ≤ b) A1 (r.map (·.1)) ∧ Row 1 (RawIn w' (fun b => w.heap.size ≤ b)) w' (fun b => w.heap.size ≤ b) A2 (r.map (·.2)) ∧ Fr NoB w w'
theorem infoW : (Tryd.prog.info? 114).map (fun i => (i.zero, i.size, i.bytes)) = some (some (.agg #[.int .i64 0, .int .i64 0, .int .u64 0, .slice none 0 0]), 4, 48) := by kernel_rfl
theorem infoBs : (Tryd.prog.info? 57).map (fun i => (i.zero, i.size, i.bytes)) = some (some (.slice none 0 0), 1, 24) := by kernel_rfl
/-- What is free of two rows. -/
def ok2 (B : Nat) (v u : Value) : Nat → Prop := fun b => B ≤ b ∧ v.ownBlock ≠ some b ∧ u.ownBlock ≠ some b
theorem Mv.app1 {w w' : World} {v v' u : Value} {B : Nat} (hg : w.grownBy w' v.ownBlock) (hat : v'.ownBlock = v.ownBlock ∨ v'.ownBlock = some w.heap.size) : Mv (ok2 B v u) (ok2 B v' u) w w' := by
  have h := Mv.app (B := B) hg hat
  exact ⟨h.size, fun b hb hl => ⟨hb.1, (h.lets b ⟨hb.1, hb.2.1⟩ hl).2, hb.2.2⟩, fun b hb hl => h.block b ⟨hb.1, hb.2.1⟩ hl⟩
theorem Mv.app2 {w w' : World} {v v' u : Value} {B : Nat} (hg : w.grownBy w' v.ownBlock) (hat : v'.ownBlock = v.ownBlock ∨ v'.ownBlock = some w.heap.size) : Mv (ok2 B u v) (ok2 B u v') w w' := by
  have h := Mv.app (B := B) hg hat
  exact ⟨h.size, fun b hb hl => ⟨hb.1, hb.2.1, (h.lets b ⟨hb.1, hb.2.2⟩ hl).2⟩, fun b hb hl => h.block b ⟨hb.1, hb.2.2⟩ hl⟩
def lenOf : Value → Nat
  | .slice _ n _ => n
  | _ => 0

set_option maxHeartbeats 4000000 in
set_option maxRecDepth 100000 in
theorem split_any (A : Option Addr) (c : Nat) (l : List UInt8) (ok : Nat → Prop) (w : World) (hA : A = none → c = 0) (hc : l.length ≤ c) (hr : Bys w ok A l) (hn : l.length ≤ 1000000) (r : List (WF × List UInt8)) (h : splitP l.length l = some r) :
    Calls Tryd.prog 46 #[.slice A l.length c] w (SplitR r w) := by
  obtain ⟨i0, hi0, hz0, hz1, hz2⟩ := info_parts infoW
  obtain ⟨i1, hi1, hy0, hy1, hy2⟩ := info_parts infoBs
  go_enter Tryd.func46, Tryd.ntmps46
  go_wp2_with fail
  go_loopw [0, 2, 3] (fun bv fv rv wr => ∃ (dn td : List (WF × List UInt8)) (m : Nat) (rest : List UInt8) (A' : Option Addr) (c' : Nat) (xs ys : List Value), bv = .slice A' rest.length c' ∧ (A' = none → c' = 0) ∧ rest.length ≤ c' ∧ Bys w ok A' rest ∧
      splitP m rest = some td ∧ r = dn ++ td ∧ dn.length + rest.length ≤ l.length ∧ wr.ownsRow w.heap.size 114 4 fv dn.length xs ∧ wr.ownsRow w.heap.size 57 1 rv dn.length ys ∧
      RepL 4 (WfIn wr (ok2 w.heap.size fv rv)) (dn.map (·.1)) xs ∧ RepL 1 (RawIn wr (ok2 w.heap.size fv rv)) (dn.map (·.2)) ys ∧ Fr NoB w wr) (fun bv _ _ _ => lenOf bv)
  case atStart => exact ⟨[], r, l.length, l, A, c, [], [], rfl, hA, hc, hr, h, rfl, by simp, World.ownsRow_nil _ _ _ _, World.ownsRow_nil _ _ _ _, rfl, rfl, Fr.refl _ _⟩
  case round =>
    obtain ⟨dn, td, m, rest, A', c', xs, ys, rfl, hA', hc', hr', hsp, hrr, hlen, own1, own2, rep1, rep2, hf⟩ := hrel
    match rest, m, hsp with
    | [], m, hsp =>
      have htd : td = [] := by
        cases m <;> simpa [splitP] using hsp.symm
      rw [htd, List.append_nil] at hrr
      subst hrr
      obtain ⟨A8, c8, rfl, hc8, _, h08, _⟩ := own_slice own1
      obtain ⟨A9, c9, rfl, hc9, _, h09, _⟩ := own_slice own2
      have hl0 : (([] : List UInt8).length : Int) = 0 := rfl
      go_wp2_with fail
      go_ret3
      have hm1 : Mv (ok2 w.heap.size (.slice A8 r.length c8) (.slice A9 r.length c9)) (fun b => w.heap.size ≤ b) wr wr := Mv.mono wr (fun b hb _ => hb.1)
      exact ⟨A8, c8, A9, c9, rfl, h08, h09, hc8, hc9, Row.of_own own1 (rep1.mono (fun _ _ _ h => h.mv hm1)) (by simp) (fun k hk => (own1.lt k hk).1), Row.of_own own2 (rep2.mono (fun _ _ _ h => h.mv hm1)) (by simp) (fun k hk => (own2.lt k hk).1), hf⟩
    | c0 :: r0, m + 1, hsp =>
      unfold splitP at hsp
      generalize hrs : c0 :: r0 = rest at *
      have hpos : 0 < rest.length := by rw [← hrs]; simp
      clear hrs
      cases htk : wtakeP rest with
      | none => rw [htk] at hsp; cases hsp
      | some fk =>
        obtain ⟨f, k⟩ := fk
        rw [htk] at hsp
        dsimp only at hsp
        obtain ⟨td', htd', rfl⟩ := Option.map_eq_some_iff.1 hsp
        obtain ⟨hk1, hk2⟩ := wtakeP_bounds htk
        obtain ⟨b, o, rfl, _⟩ := hr'.2 hpos
        have hrw := Rd.fr hr' hf (fun _ _ _ => id)
        have hT := Lib.hid (fun w2 hf2 => wtake_any (some ⟨b, o, none⟩) c' rest ok w2 hA' hc' (Rd.fr hrw (S := NoB) (w' := w2) hf2 (fun _ _ _ => id)) (by omega) f k htk)
        have p1 : (0 : Int) < (rest.length : Int) := by omega
        go_wp2_with fail
        refine (hT.out _ (Fr.refl NoB wr)).mono ?_
        rintro e w3 ⟨fcs, rfl, ⟨Af, cf, rfl, hAf, hcf, hBf⟩, hf3⟩
        go_wp2_with fail
        have hF0 : WfIn w3 (fun b => wr.heap.size ≤ b) f [.int .i64 f.n, .int .i64 f.t, .int .u64 f.u, .slice Af f.d.length cf] := ⟨Af, cf, rfl, hAf, hcf, hBf⟩
        have hF := hF0.mv (Mv.mono w3 (ok' := ok2 w.heap.size u2 u3) (fun b hb _ => ⟨Nat.le_trans hf.size hb, fun e => Nat.lt_irrefl _ (Nat.lt_of_lt_of_le (own1.lt b e).2 hb), fun e => Nat.lt_irrefl _ (Nat.lt_of_lt_of_le (own2.lt b e).2 hb)⟩))
        have own1lt := fun g hg => Nat.lt_of_lt_of_le (own1.lt g hg).2 hf3.size
        have hT4 : Fr NoB w3 (w3.alloc (.cells #[.int .i64 f.n, .int .i64 f.t, .int .u64 f.u, .slice Af f.d.length cf] 114)) := (Fr.refl NoB w3).alloc _
        have hb4 := Blk.new w3 114 #[.int .i64 f.n, .int .i64 f.t, .int .u64 f.u, .slice Af f.d.length cf]
        generalize (w3.alloc (.cells #[.int .i64 f.n, .int .i64 f.t, .int .u64 f.u, .slice Af f.d.length cf] 114)) = w4 at *
        have hT := hf3.trans hT4 (fun _ h _ => h)
        have own1 := own_fr own1 hT (fun _ _ => id)
        have own2 := own_fr own2 hT (fun _ _ => id)
        have rep1 := rep1.mono (R' := WfIn w4 (ok2 w.heap.size u2 u3)) (fun _ _ _ h => h.mv (Mv.new hT))
        have rep2 := rep2.mono (R' := RawIn w4 (ok2 w.heap.size u2 u3)) (fun _ _ _ h => h.mv (Mv.new hT))
        have hf := hf.trans hT (fun _ h _ => h)
        have hrw : Bys w4 (fun b => ok b ∧ b < w.heap.size) (some ⟨b, o, none⟩) rest := Rd.fr (Rd.mono hr' (fun b hb hl => ⟨hb, hl⟩)) hf (fun _ _ _ => id)
        have hF := hF.mv (Mv.new hT4)
        have hkc : k ≤ c' := by omega
        have hkl : (rest.take k).length = k := by rw [List.length_take]; omega
        have hF1 : ∀ u ∈ [Value.int .i64 f.n, .int .i64 f.t, .int .u64 f.u, .slice Af f.d.length cf], u.oneCell' = true := fun u hu => by
          simp only [List.mem_cons, List.not_mem_nil, or_false] at hu
          rcases hu with rfl | rfl | rfl | rfl <;> rfl
        have HR := Lib.hid hr'
        have HTD := Lib.hid htd'
        clear hF0 hT hT4 hBf hr' htd'
        refine start_ (n := 13) (S := fun w' => Blk w' w3.heap.size 114 #[.int .i64 f.n, .int .i64 f.t, .int .u64 f.u, .slice Af f.d.length cf]) (ds := [10]) #[false, false, false, false, false, false, false, false, false, false, false, false, false] (by kernel_rfl) rfl rfl (hb4.drew) (fun hHeld => ?_)
        refine with_tabW F46.tab5 F46.bits5 (fun HT_ HW_ => ?_)
        have hT : Fr NoB w4 w4.drew := (Fr.refl NoB w4).drew
        have own1 := own_fr own1 hT (fun _ _ => id)
        have own2 := own_fr own2 hT (fun _ _ => id)
        have rep1 := rep1.mono (R' := WfIn w4.drew (ok2 w.heap.size u2 u3)) (fun _ _ _ h => h.mv (Mv.new hT))
        have rep2 := rep2.mono (R' := RawIn w4.drew (ok2 w.heap.size u2 u3)) (fun _ _ _ h => h.mv (Mv.new hT))
        have hf := hf.trans hT (fun _ h _ => h)
        have hrw := Rd.fr hrw hT (fun _ _ _ => id)
        have hF := hF.mv (Mv.new hT)
        generalize w4.drew = W0 at *
        refine pure_ (i := 0) (N := some 19) (v := ?_) (a' := ?_) #[true, false, false, false, false, false, false, false, false, false, false, false, false] rfl rfl (any_of HT_.out (by kernel_rfl)) (fun _ _ _ h => h) (Or.inl ⟨by rfl, ?_⟩) ?_ ?_
        rotate_left
        · intro w'
          go_simp
          with_reducible rfl
        rotate_left
        · simp only [Act.put, List.setIfInBounds_toArray, List.set_cons_zero, List.set_cons_succ, i64_w, i32_w]
          rfl
        refine pure_ (i := 4) (N := some 23) (v := ?_) (a' := ?_) #[true, false, false, false, true, false, false, false, false, false, false, false, false] rfl rfl (any_of HT_.out (by kernel_rfl)) (fun _ _ _ h => h) (Or.inl ⟨by rfl, ?_⟩) ?_ ?_
        rotate_left
        · intro w'
          go_simp
          with_reducible rfl
        rotate_left
        · simp only [Act.put, List.setIfInBounds_toArray, List.set_cons_zero, List.set_cons_succ, i64_w, i32_w]
          rfl
        refine pure_ (i := 5) (N := some 24) (v := ?_) (a' := ?_) #[true, false, false, false, true, true, false, false, false, false, false, false, false] rfl rfl (any_of HT_.out (by kernel_rfl)) (fun _ _ _ h => h) (Or.inl ⟨by rfl, ?_⟩) ?_ ?_
        rotate_left
        · intro w'
          go_simp
          with_reducible rfl
        rotate_left
        · simp only [Act.put, List.setIfInBounds_toArray, List.set_cons_zero, List.set_cons_succ, i64_w, i32_w]
          rfl
        refine pure_ (i := 6) (N := some 25) (v := ?_) (a' := ?_) #[true, false, false, false, true, true, true, false, false, false, false, false, false] rfl rfl (any_of HT_.out (by kernel_rfl)) (fun _ _ _ h => h) (Or.inl ⟨by rfl, ?_⟩) ?_ ?_
        rotate_left
        · intro w'
          go_simp
          with_reducible rfl
        rotate_left
        · simp only [Act.put, List.setIfInBounds_toArray, List.set_cons_zero, List.set_cons_succ, i64_w, i32_w]
          rfl
        refine pure_ (i := 7) (N := some 26) (v := ?_) (a' := ?_) #[true, false, false, false, true, true, true, true, false, false, false, false, false] rfl rfl (any_of HT_.out (by kernel_rfl)) (fun _ _ _ h => h) (Or.inl ⟨by rfl, ?_⟩) ?_ ?_
        rotate_left
        · intro w'
          go_simp
          with_reducible rfl
        rotate_left
        · simp only [Act.put, List.setIfInBounds_toArray, List.set_cons_zero, List.set_cons_succ, i64_w, i32_w]
          rfl
        refine take_ (i := 1) (N := some 20) (v := ?_) (a' := ?_) #[true, true, false, false, true, true, true, true, false, false, false, false, false] rfl rfl (take_ofW HT_.out HW_.out (by kernel_rfl)) (fun _ _ _ h => h) (Or.inl ⟨by rfl, ?_⟩) hHeld ?_ ?_
        rotate_left
        · intro w' hS
          have s0 := hS.cell 0
          have s1 := hS.cell 1
          have s2 := hS.cell 2
          have s3 := hS.cell 3
          simp at s0 s1 s2 s3
          go_simp
          with_reducible rfl
        rotate_left
        · simp only [Act.put, List.setIfInBounds_toArray, List.set_cons_zero, List.set_cons_succ, i64_w, i32_w]
          rfl
        refine one_ (i := 2) (N := some 21) #[true, true, true, false, true, true, true, true, false, false, false, false, false] rfl rfl (one_of HT_.out (by kernel_rfl)) (by decide) (fun K hK => ?_)
        refine step_value rfl (.slice (some ⟨W0.heap.size, 0, none⟩) 1 1) (W0.alloc (.cells #[.int .i64 f.n, .int .i64 f.t, .int .u64 f.u, .slice Af f.d.length cf] 114)) (by go_simp; first | done | rfl) ?_
        have hT : Fr NoB W0 (W0.alloc (.cells #[.int .i64 f.n, .int .i64 f.t, .int .u64 f.u, .slice Af f.d.length cf] 114)) := (Fr.refl NoB W0).alloc _
        have hbv : Blk (W0.alloc (.cells #[.int .i64 f.n, .int .i64 f.t, .int .u64 f.u, .slice Af f.d.length cf] 114)) W0.heap.size 114 #[.int .i64 f.n, .int .i64 f.t, .int .u64 f.u, .slice Af f.d.length cf] := Blk.new _ _ _
        generalize (W0.alloc (.cells #[.int .i64 f.n, .int .i64 f.t, .int .u64 f.u, .slice Af f.d.length cf] 114)) = W1 at *
        have own1 := own_fr own1 hT (fun _ _ => id)
        have own2 := own_fr own2 hT (fun _ _ => id)
        have rep1 := rep1.mono (R' := WfIn W1 (ok2 w.heap.size u2 u3)) (fun _ _ _ h => h.mv (Mv.new hT))
        have rep2 := rep2.mono (R' := RawIn W1 (ok2 w.heap.size u2 u3)) (fun _ _ _ h => h.mv (Mv.new hT))
        have hf := hf.trans hT (fun _ h _ => h)
        have hrw := Rd.fr hrw hT (fun _ _ _ => id)
        have hSn := hHeld.fr hT id
        have hF := hF.mv (Mv.new hT)
        refine hK.out _ _ hSn (fun hHeld => ?_)
        clear hK K
        refine norm_ (a' := ?_) ?_ ?_
        rotate_left
        · show Act.put _ (some 21) _ = _
          simp only [Act.put, List.setIfInBounds_toArray, List.set_cons_zero, List.set_cons_succ, i64_w, i32_w]
          rfl
        refine one_ (i := 3) (N := some 22) #[true, true, true, true, true, true, true, true, false, false, false, false, false] rfl rfl (one_of HT_.out (by kernel_rfl)) (by decide) (fun K hK => ?_)
        have hbase := hf.size
        refine step_app _ rfl (.tmp 19) (.tmp 21) 109 rfl w.heap.size 114 i0 _ 4 48 Tryd.underlying109 hi0 hz0 hz1 hz2 rfl (by omega) u2 dn.length xs rfl own1 (fun _ => True) (some ⟨W0.heap.size, 0, none⟩) 1 1 (fun h => by cases h) [.int .i64 f.n, .int .i64 f.t, .int .u64 f.u, .slice Af f.d.length cf] rfl (Rd.of_blk _ hbv rfl trivial) hF1 (by simp only [maxLen]; omega) (by omega) hbase ?_
        intro fv' W2 own1' hg hat
        have hT := Fr.of_grown (S := fun k => u2.ownBlock = some k) hg (fun k hk _ => hk)
        have hm := Mv.app1 (u := u3) (B := w.heap.size) hg hat
        have rep1 := (rep1.snoc (cs := [.int .i64 f.n, .int .i64 f.t, .int .u64 f.u, .slice Af f.d.length cf]) rfl hF).mono (R' := WfIn W2 (ok2 w.heap.size fv' u3)) (fun _ _ _ h => h.mv hm)
        have rep2 := rep2.mono (R' := RawIn W2 (ok2 w.heap.size fv' u3)) (fun _ _ _ h => h.mv hm)
        have own2 := own_fr own2 hT (fun k hk he => own_own_ne own1 own2 (by decide) k he hk)
        have hfS := hf.trans hT (fun b hb hl => absurd hl (Nat.not_lt.2 (own1.lt b hb).1))
        have hrw := hrw.fr hT (fun b hb _ he => absurd hb.2 (Nat.not_lt.2 (own1.lt b he).1))
        have hSn := hHeld.fr hT (fun e => Nat.lt_irrefl _ (Nat.lt_of_lt_of_le (own1lt _ e) (Nat.le_refl _)))
        have hf := hfS
        have own1 := own1'
        clear own1' hbv hF
        refine hK.out _ _ hSn (fun hHeld => ?_)
        clear hK K
        refine norm_ (a' := ?_) ?_ ?_
        rotate_left
        · show Act.put _ (some 22) _ = _
          simp only [Act.put, List.setIfInBounds_toArray, List.set_cons_zero, List.set_cons_succ, i64_w, i32_w]
          rfl
        refine one_ (i := 8) (N := some 27) #[true, true, true, true, true, true, true, true, true, false, false, false, false] rfl rfl (one_of HT_.out (by kernel_rfl)) (by decide) (fun K hK => ?_)
        refine goes_ Tryd.func71 (by kernel_rfl) rfl #[.slice (some ⟨b, o, none⟩) k c'] (by rfl) rfl rfl (by (try simp only [List.map_toArray, List.map_cons, List.map_nil]); first | done | rfl) ?_
        have hCl := cloneB_any _ (some ⟨b, o, none⟩) c' (rest.take k) W2 (fun h => by cases h) (Bys.take hrw k) (by omega)
        rw [hkl] at hCl
        refine hCl.mono ?_
        rintro e W3 ⟨A7, c7, rfl, hA7, hc7, hB7, hT⟩
        rw [hkl]
        rw [hkl] at hc7
        have hsz2 := fun g hg => (own1.lt g hg).2
        have hsz3 := fun g hg => (own2.lt g hg).2
        have hbase2 := hf.size
        have own1 := own_fr own1 hT (fun _ _ => id)
        have own2 := own_fr own2 hT (fun _ _ => id)
        have rep1 := rep1.mono (R' := WfIn W3 (ok2 w.heap.size fv' u3)) (fun _ _ _ h => h.mv (Mv.new hT))
        have rep2 := rep2.mono (R' := RawIn W3 (ok2 w.heap.size fv' u3)) (fun _ _ _ h => h.mv (Mv.new hT))
        have hf := hf.trans hT (fun _ h _ => h)
        have hrw := Rd.fr hrw hT (fun _ _ _ => id)
        have hSn := hHeld.fr hT id
        have hR : RawIn W3 (ok2 w.heap.size fv' u3) (rest.take k) [.slice A7 k c7] := ⟨A7, c7, by rw [hkl], hA7, by rw [hkl]; exact hc7, Rd.mono hB7 (fun b hb _ => ⟨Nat.le_trans hbase2 hb, fun e => Nat.lt_irrefl _ (Nat.lt_of_lt_of_le (hsz2 _ e) hb), fun e => Nat.lt_irrefl _ (Nat.lt_of_lt_of_le (hsz3 _ e) hb)⟩)⟩
        refine ⟨_, rfl, ?_⟩
        refine hK.out _ _ hSn (fun hHeld => ?_)
        clear hK K
        refine norm_ (a' := ?_) ?_ ?_
        rotate_left
        · show Act.put _ (some 27) _ = _
          simp only [Act.put, List.setIfInBounds_toArray, List.set_cons_zero, List.set_cons_succ, i64_w, i32_w]
          rfl
        refine one_ (i := 9) (N := some 28) #[true, true, true, true, true, true, true, true, true, true, false, false, false] rfl rfl (one_of HT_.out (by kernel_rfl)) (by decide) (fun K hK => ?_)
        refine step_value rfl (.slice (some ⟨W3.heap.size, 0, none⟩) 1 1) (W3.alloc (.cells #[.slice A7 k c7] 57)) (by go_simp; first | done | rfl) ?_
        have hT : Fr NoB W3 (W3.alloc (.cells #[.slice A7 k c7] 57)) := (Fr.refl NoB W3).alloc _
        have hbv : Blk (W3.alloc (.cells #[.slice A7 k c7] 57)) W3.heap.size 57 #[.slice A7 k c7] := Blk.new _ _ _
        generalize (W3.alloc (.cells #[.slice A7 k c7] 57)) = W4 at *
        have own1 := own_fr own1 hT (fun _ _ => id)
        have own2 := own_fr own2 hT (fun _ _ => id)
        have rep1 := rep1.mono (R' := WfIn W4 (ok2 w.heap.size fv' u3)) (fun _ _ _ h => h.mv (Mv.new hT))
        have rep2 := rep2.mono (R' := RawIn W4 (ok2 w.heap.size fv' u3)) (fun _ _ _ h => h.mv (Mv.new hT))
        have hf := hf.trans hT (fun _ h _ => h)
        have hrw := Rd.fr hrw hT (fun _ _ _ => id)
        have hSn := hHeld.fr hT id
        have hR := hR.mv (Mv.new hT)
        refine hK.out _ _ hSn (fun hHeld => ?_)
        clear hK K
        refine norm_ (a' := ?_) ?_ ?_
        rotate_left
        · show Act.put _ (some 28) _ = _
          simp only [Act.put, List.setIfInBounds_toArray, List.set_cons_zero, List.set_cons_succ, i64_w, i32_w]
          rfl
        refine last_ (i := 10) (N := some 29) #[true, true, true, true, true, true, true, true, true, true, true, false, false] rfl rfl (one_of HT_.out (by kernel_rfl)) (by decide) (fun K hK => ?_)
        have hbase := hf.size
        refine step_app _ rfl (.tmp 23) (.tmp 28) 110 rfl w.heap.size 57 i1 _ 1 24 Tryd.underlying110 hi1 hy0 hy1 hy2 rfl (by omega) u3 dn.length ys rfl own2 (fun _ => True) (some ⟨W3.heap.size, 0, none⟩) 1 1 (fun h => by cases h) [.slice A7 k c7] rfl (Rd.of_blk _ hbv rfl trivial) (fun u hu => by rw [List.mem_singleton.1 hu]; rfl) (by simp only [maxLen]; omega) (by omega) hbase ?_
        intro rv' W5 own2' hg hat
        have hT := Fr.of_grown (S := fun k => u3.ownBlock = some k) hg (fun k hk _ => hk)
        have hm := Mv.app2 (u := fv') (B := w.heap.size) hg hat
        have rep2 := (rep2.snoc (cs := [.slice A7 k c7]) rfl hR).mono (R' := RawIn W5 (ok2 w.heap.size fv' rv')) (fun _ _ _ h => h.mv hm)
        have rep1 := rep1.mono (R' := WfIn W5 (ok2 w.heap.size fv' rv')) (fun _ _ _ h => h.mv hm)
        have own1' := own_fr own1 hT (fun k hk he => own_own_ne own2 own1 (by decide) k he hk)
        have hf := hf.trans hT (fun b hb hl => absurd hl (Nat.not_lt.2 (own2.lt b hb).1))
        refine hK.out _ _ ?_
        clear hK K
        refine norm_ (a' := ?_) ?_ ?_
        rotate_left
        · show Act.put _ (some 29) _ = _
          simp only [Act.put, List.setIfInBounds_toArray, List.set_cons_zero, List.set_cons_succ, i64_w, i32_w]
          rfl
        refine pure_ (i := 11) (N := some 2) (v := ?_) (a' := ?_) #[true, true, true, true, true, true, true, true, true, true, true, true, false] rfl rfl (any_of HT_.out (by kernel_rfl)) (fun _ _ _ h => h) (Or.inl ⟨by rfl, ?_⟩) ?_ ?_
        rotate_left
        · intro w'
          go_simp
          with_reducible rfl
        rotate_left
        · simp only [Act.put, List.setIfInBounds_toArray, List.set_cons_zero, List.set_cons_succ, i64_w, i32_w]
          rfl
        refine pure_ (i := 12) (N := some 3) (v := ?_) (a' := ?_) #[true, true, true, true, true, true, true, true, true, true, true, true, true] rfl rfl (any_of HT_.out (by kernel_rfl)) (fun _ _ _ h => h) (Or.inl ⟨by rfl, ?_⟩) ?_ ?_
        rotate_left
        · intro w'
          go_simp
          with_reducible rfl
        rotate_left
        · simp only [Act.put, List.setIfInBounds_toArray, List.set_cons_zero, List.set_cons_succ, i64_w, i32_w]
          rfl
        refine done_ (done_of HT_.out (by kernel_rfl)) ?_
        have hdl : (rest.drop k).length = rest.length - k := List.length_drop ..
        have hdn : (dn ++ [(f, rest.take k)]).length = dn.length + 1 := by simp
        rw [← hdn] at own1' own2'
        have hd1 : (dn ++ [(f, rest.take k)]).map (·.1) = dn.map (·.1) ++ [f] := by simp
        have hd2 : (dn ++ [(f, rest.take k)]).map (·.2) = dn.map (·.2) ++ [rest.take k] := by simp
        have HD1 := Lib.hid hd1
        have HD2 := Lib.hid hd2
        have HDL := Lib.hid hdl
        clear hd1 hd2 hdl hdn
        by_cases hck : c' = k
        · have hck' : (c' : Int) = (k : Int) := by omega
          go_wp2_with fail
          refine ⟨?_, by simp only [lenOf]; omega⟩
          have hnil : rest.drop k = [] := List.drop_eq_nil_of_le (by omega)
          exact ⟨dn ++ [(f, rest.take k)], td', m, rest.drop k, _, _, _, _, by rw [HDL.out], (fun h => (by cases h)), by rw [HDL.out]; omega, (by rw [hnil]; exact ⟨rfl, fun h => by simp at h⟩), HTD.out, by rw [List.append_assoc]; exact hrr, by rw [HDL.out, List.length_append]; simp; omega, own1', own2', by rw [HD1.out]; exact rep1, by rw [HD2.out]; exact rep2, hf⟩
        · go_wp2_with fail
          refine ⟨?_, by simp only [lenOf]; omega⟩
          exact ⟨dn ++ [(f, rest.take k)], td', m, rest.drop k, _, _, _, _, by rw [HDL.out], (fun h => (by cases h)), by rw [HDL.out]; omega, Bys.drop HR.out k, HTD.out, by rw [List.append_assoc]; exact hrr, by rw [HDL.out, List.length_append]; simp; omega, own1', own2', by rw [HD1.out]; exact rep1, by rw [HD2.out]; exact rep2, hf⟩
end Go.Proofs.YtcfmcgkngjpdbaaDoor
