import Derived.Test.YtdfdmjnhekdpjaaF3
namespace Go.Proofs.Ytdfdmjnhekdpjaa
set_option linter.unusedVariables false
set_option linter.unusedSimpArgs false
open Go.RowKit

set_option maxRecDepth 100000 in
set_option maxHeartbeats 1000000 in
theorem fdeliver_in (S : Nat → Prop) (bw : Nat) (line : Value) (ps : List Pk) (last : Int) (i : Nat) (p : Pk) (w : World) (h : FNet w S bw line ps last) (hi : ps[i]? = some p) :
    Calls Try.prog 26 #[.pointer (some ⟨bw, 0, none⟩), .int .i64 i] w fun e w' => ∃ line', e = .returned (.tuple #[.agg #[.int .i64 p.n, .int .i64 p.f, .int .i64 p.t, p.v], .bool true]) ∧
      FNet w' (fun k => S k ∨ w.heap.size ≤ k) bw line' (ps.eraseIdx i) last ∧ Fr (OneB bw) w w' := by
  have hin := (List.getElem?_eq_some_iff.1 hi).1
  have hpm := List.mem_of_getElem? hi
  obtain ⟨g, cap, L, rfl, hb, hL, hc, hm, ht, hgb, c0, c1, c2, c3⟩ := h.at_ hi
  obtain ⟨A, c, hv, hA, hrd⟩ := h.rd hpm
  rw [hv] at c3 ⊢
  have d0 := h.blk.cell 0
  simp at d0
  have hgl := hb.lt
  have hbl := h.blk.lt
  have hii : (i : Int) < (ps.length : Int) := by omega
  have hi0 : (0 : Int) ≤ (i : Int) := by omega
  have hR := h.tight.far (((Fr.refl NoB w).alloc (.cells #[.int .i64 0, .int .i64 0, .int .i64 0, .slice none 0 0] 63)).alloc (.cells #[.int .i64 p.n, .int .i64 p.f, .int .i64 p.t, .slice A p.bs.length c] 63)) (fun _ _ _ => id)
  have hk0 := (Blk.new w 63 #[.int .i64 0, .int .i64 0, .int .i64 0, .slice none 0 0]).alloc (.cells #[.int .i64 p.n, .int .i64 p.f, .int .i64 p.t, .slice A p.bs.length c] 63)
  have hk1 := Blk.new (w.alloc (.cells #[.int .i64 0, .int .i64 0, .int .i64 0, .slice none 0 0] 63)) 63 #[.int .i64 p.n, .int .i64 p.f, .int .i64 p.t, .slice A p.bs.length c]
  have hz : (w.alloc (.cells #[.int .i64 0, .int .i64 0, .int .i64 0, .slice none 0 0] 63)).heap.size = w.heap.size + 1 := by simp
  rw [hz] at hk1
  have HR := Lib.hid hR
  have HV := Lib.hid hv
  clear h hA hL ht hv hi hrd hR hz
  go_enter Try.func26, Try.ntmps26
  go_wp2_with fail
  refine (fthere_in bw _ ps.length cap i _ (by rw [World.cell?_alloc_past _ _ _ hbl]; exact d0) hin).mono ?_
  rintro e w' ⟨rfl, rfl⟩
  go_wp2_with fail
  refine (fdrop_in (fun k => S k ∧ k < w.heap.size) bw _ ps last i _ HR.out hin).mono ?_
  rintro e w2 ⟨rfl, line', _, hR2, hf2⟩
  have hk2 := hk0.fr hf2 (fun e => by have : w.heap.size = bw := e; omega)
  have hk3 := hk1.fr hf2 (fun e => by have : w.heap.size + 1 = bw := e; omega)
  have f2 := hk2.frozen
  have a0 := hk2.cell 0; have a1 := hk2.cell 1; have a2 := hk2.cell 2; have a3 := hk2.cell 3
  have b0 := hk3.cell 0; have b1 := hk3.cell 1; have b2 := hk3.cell 2; have b3 := hk3.cell 3
  simp at a0 a1 a2 a3 b0 b1 b2 b3
  go_wp2
  refine bodyPost_ret (v := .tuple #[.agg #[.int .i64 p.n, .int .i64 p.f, .int .i64 p.t, .slice A p.bs.length c], .bool true]) ?_ rfl ⟨line', rfl, ?_, ?_⟩
  · simp [results, Try.results26, go_sem, a0, a1, a2, a3]
  · have hff := ((((Fr.refl (OneB w.heap.size) w2).setCell (p := ⟨w.heap.size, 0, none⟩) (fun _ => rfl) (.int .i64 p.n)).setCell (p := ⟨w.heap.size, 1, none⟩) (fun _ => rfl) (.int .i64 p.f)).setCell (p := ⟨w.heap.size, 2, none⟩) (fun _ => rfl) (.int .i64 p.t)).setCell (p := ⟨w.heap.size, 3, none⟩) (fun _ => rfl) (.slice A p.bs.length c)
    refine (hR2.far hff (fun k hk _ e => ?_)).more (fun k hk => ?_)
    · rw [show k = w.heap.size from e] at hk
      rcases hk with hk | hk
      · have := hk.2
        omega
      · simp only [World.size_alloc] at hk
        omega
    · rcases hk with hk | hk
      · exact .inl hk.1
      · simp at hk
        exact .inr (by omega)
  · have hfb := (((Fr.refl (OneB bw) w).alloc (.cells #[.int .i64 0, .int .i64 0, .int .i64 0, .slice none 0 0] 63)).alloc (.cells #[.int .i64 p.n, .int .i64 p.f, .int .i64 p.t, .slice A p.bs.length c] 63)).trans hf2 (fun b hb _ => hb)
    exact (((hfb.setNew (Nat.le_refl _) _).setNew (Nat.le_refl _) _).setNew (Nat.le_refl _) _).setNew (Nat.le_refl _) _

set_option maxHeartbeats 400000 in
theorem fdeliver_out (bn : Nat) (A : Option Addr) (n c : Nat) (a : Int) (w : World) (h0 : w.cell? ⟨bn, 0, none⟩ = some (.slice A n c)) (ha : a < 0 ∨ (n : Int) ≤ a) (hb : bn < w.heap.size) :
    Calls Try.prog 26 #[.pointer (some ⟨bn, 0, none⟩), .int .i64 a] w fun e w' => e = .returned (.tuple #[.agg #[.int .i64 0, .int .i64 0, .int .i64 0, .slice none 0 0], .bool false]) ∧ Fr NoB w w' := by
  go_enter Try.func26, Try.ntmps26
  go_wp2_with fail
  refine (fthere_out bn A n c a _ (by rw [World.cell?_alloc_past _ _ _ hb]; exact h0) ha).mono ?_
  rintro e w' ⟨rfl, rfl⟩
  go_wp2
  refine bodyPost_ret (v := .tuple #[.agg #[.int .i64 0, .int .i64 0, .int .i64 0, .slice none 0 0], .bool false]) ?_ rfl ⟨rfl, ?_⟩
  · simp [results, Try.results26, go_sem]
  · exact (Fr.refl NoB w).alloc _

theorem flat_set_v {ps : List Pk} {i : Nat} {p : Pk} (q : Pk) (hi : ps[i]? = some p) (hq : q.n = p.n ∧ q.f = p.f ∧ q.t = p.t) : (flat ps).set (i * 4 + 3) q.v = flat (ps.set i q) := by
  obtain ⟨q1, q2, q3⟩ := hq
  induction ps generalizing i with
  | nil => rfl
  | cons a ps ih =>
    have e : flat (a :: ps) = a.cells ++ flat ps := by simp [flat]
    rcases i with _ | i
    · have ha : a = p := by simpa using hi
      subst ha
      rw [e, List.set_append_left _ _ (by simp [Pk.cells])]
      simp [flat, Pk.cells, q1, q2, q3]
    · have := ih (i := i) (by simpa using hi)
      rw [e, List.set_append_right _ _ (by simp [Pk.cells]; omega), List.set_cons_succ, show flat (a :: ps.set i q) = a.cells ++ flat (ps.set i q) by simp [flat], ← this]
      congr 2
      simp [Pk.cells]
      omega

theorem fdamage_end {S : Nat → Prop} {bw g cap i : Nat} {ps : List Pk} {last : Int} {p : Pk} {w W : World} {L xs : List Value} {v : Value} (h : FNet w S bw (.slice (some ⟨g, 0, none⟩) ps.length cap) ps last) (hi : ps[i]? = some p)
    (hb : Blk w g 63 L.toArray) (hL : L.length = cap * 4) (hc : ps.length ≤ cap) (hm : cap ≤ maxLen) (ht : L.take (ps.length * 4) = flat ps)
    (hv : W.ownsRow w.heap.size 5 1 v xs.length xs) (hx : ∀ u ∈ xs, ∃ k : Int, u = .int .u8 k) (hn : xs.length ≤ 20000) (hf : Fr NoB w W) :
    FNet (W.setCell ⟨g, i * 4 + 3, none⟩ v) (fun k => S k ∨ w.heap.size ≤ k) bw (.slice (some ⟨g, 0, none⟩) ps.length cap) (ps.set i ⟨p.n, p.f, p.t, xs, v⟩) last ∧ Fr S w (W.setCell ⟨g, i * 4 + 3, none⟩ v) := by
  have hin := (List.getElem?_eq_some_iff.1 hi).1
  have hgb : g ≠ bw := hb.ne_ h.blk (by decide)
  have hfs : Fr (OneB g) W (W.setCell ⟨g, i * 4 + 3, none⟩ v) := (Fr.refl (OneB g) W).setCell (p := ⟨g, i * 4 + 3, none⟩) (fun _ => rfl) _
  have hfc : Fr (OneB g) w (W.setCell ⟨g, i * 4 + 3, none⟩ v) := (hf.mono (fun b e _ => e.elim)).trans hfs (fun b e _ => e)
  have hgS : S g := h.sl g rfl
  refine ⟨⟨h.blk.fr hfc (fun e => hgb (Eq.symm e)), ?_, ?_, .inl h.sb, fun k hk => .inl (h.sl k hk), ?_, by simpa using h.few⟩, hfc.mono (fun b e _ => by rw [show b = g from e]; exact hgS)⟩
  · rw [List.length_set]
    have hb2 := (hb.fr hf id).set_ (i * 4 + 3) v
    have hb3 : Blk (W.setCell ⟨g, i * 4 + 3, none⟩ v) g 63 (L.set (i * 4 + 3) v).toArray := by simpa using hb2
    refine own_mk hb3 (by rw [List.length_set]; exact hL) hc hm ?_ (Nat.zero_le _)
    rw [← flat_set_v ⟨p.n, p.f, p.t, xs, v⟩ hi ⟨rfl, rfl, rfl⟩, ← ht, List.take_set]
  · intro q hq
    rcases List.mem_or_eq_of_mem_set hq with hq | rfl
    · exact ⟨own_fr (h.pk q hq).1 hfc (fun k hk e => own_blk_ne (h.pk q hq).1 hb (by decide) (e ▸ hk)), (h.pk q hq).2⟩
    · refine ⟨own_low (own_fr hv hfs (fun k hk e => ?_)) (Nat.zero_le _), hx, hn⟩
      have h1 := (hv.lt k hk).1
      have h2 := hb.lt
      rw [show k = g from e] at h1
      omega
  · intro q hq k hk
    rcases List.mem_or_eq_of_mem_set hq with hq | rfl
    · exact .inl (h.sp q hq k hk)
    · exact .inr (hv.lt k hk).1

set_option maxRecDepth 100000 in
set_option maxHeartbeats 1000000 in
theorem fdamage_in (S : Nat → Prop) (bw : Nat) (line : Value) (ps : List Pk) (last : Int) (i j : Nat) (b by_ : Int) (p : Pk) (w : World) (h : FNet w S bw line ps last) (hi : ps[i]? = some p) (hj : p.bs[j]? = some (.int .u8 b)) :
    Calls Try.prog 28 #[.pointer (some ⟨bw, 0, none⟩), .int .i64 i, .int .i64 j, .int .u8 by_] w fun e w' => e = .returned (.bool true) ∧
      ∃ v, FNet w' (fun k => S k ∨ w.heap.size ≤ k) bw line (ps.set i ⟨p.n, p.f, p.t, p.bs.set j (.int .u8 (bits .xor .u8 b by_)), v⟩) last ∧ Fr S w w' := by
  have hin := (List.getElem?_eq_some_iff.1 hi).1
  have hjn := (List.getElem?_eq_some_iff.1 hj).1
  have hpm := List.mem_of_getElem? hi
  obtain ⟨g, cap, L, rfl, hb, hL, hc, hm, ht, hgb, c0, c1, c2, c3⟩ := h.at_ hi
  obtain ⟨A, c, hv, hA, hrd⟩ := h.rd hpm
  have hx := (h.pk p hpm).2
  rw [hv] at c3
  have d0 := h.blk.cell 0
  simp at d0
  have hgl := hb.lt
  have hbl := h.blk.lt
  have hgf := hb.frozen
  have hii : (i : Int) < (ps.length : Int) := by omega
  have hi0 : (0 : Int) ≤ (i : Int) := by omega
  have hjj : (j : Int) < (p.bs.length : Int) := by omega
  have hj0 : ¬ (j : Int) < 0 := by omega
  have hj1 : (0 : Int) ≤ (j : Int) := by omega
  have H := Lib.hid h
  have HA := Lib.hid hA
  have HL := Lib.hid hL
  have HT := Lib.hid ht
  have HI := Lib.hid hi
  have HJ := Lib.hid hj
  have HX := Lib.hid hx
  clear h hL ht hv hi hj hA hx
  have hpos : 0 < p.bs.length := by omega
  have hE : ∀ (M : List Value), M.take (p.bs.length * 1) = p.bs → M[j]? = some (.int .u8 b) := by
    intro M hM
    have h1 := HJ.out
    rw [← hM, List.getElem?_take] at h1
    split at h1
    · exact h1
    · cases h1
  have HE := Lib.hid hE
  clear hE
  obtain ⟨j0, hj0', hy0, hy1, hy2⟩ := info_parts Try.info5
  go_enter Try.func28, Try.ntmps28
  go_wp2_with fail
  refine (fthere_in bw _ _ _ i w d0 hin).mono ?_
  rintro e w' ⟨rfl, rfl⟩
  go_wp2_with (at_builtin; refine wpList_app_new _ rfl (.tmp 31) (.tmp 39) 35 rfl w.heap.size 5 j0 _ 1 1 Try.underlying35 hj0' hy0 hy1 hy2 rfl (by omega) w.heap.size rfl (Nat.le_refl _) (Blk.new w 5 #[]) _ A p.bs.length c HA.out p.bs rfl (hrd.alloc_ _) (by simp only [maxLen]; have := HX.out.2; omega) (by have := HX.out.2; omega) (by simp) ?_; intro v1 w1 hown hf1 hat; have hfa : Fr NoB w w1 := ((Fr.refl NoB w).alloc _).trans hf1 (fun _ h _ => h); obtain ⟨nb, nc, M, rfl, hge, hbM, hML, hMc, hMm, hMt⟩ := own_open hown hpos; have m0 := hbM.cells j _ (HE.out M hMt); have m1 := hbM.frozen j; have d1 := hfa.cell_some (p := ⟨bw, 0, none⟩) d0 id; have k3 := hfa.cell_some (p := ⟨g, i * 4 + 3, none⟩) c3 id; have k4 := (hb.fr hfa id).frozen (i * 4 + 3); have hMT := Lib.hid hMt; have hML' := Lib.hid hML; clear hMt hML)
  go_ret
  have hst := (hown.stored j (.int .u8 (bits .xor .u8 b by_))).1
  have hE := fdamage_end (i := i) (p := p) (v := .slice (some ⟨nb, 0, none⟩) p.bs.length nc) (xs := p.bs.set j (.int .u8 (bits .xor .u8 b by_))) H.out HI.out hb HL.out hc hm HT.out (by rw [List.length_set]; exact hst) (fun u hu => by
    rcases List.mem_or_eq_of_mem_set hu with hu | rfl
    · exact HX.out.1 u hu
    · exact ⟨_, rfl⟩) (by rw [List.length_set]; exact HX.out.2) (hfa.setNew (p := ⟨nb, j, none⟩) hge (.int .u8 (bits .xor .u8 b by_)))
  exact ⟨rfl, _, hE⟩

set_option maxRecDepth 100000 in
set_option maxHeartbeats 1000000 in
theorem fdamage_out (bn : Nat) (A : Option Addr) (n c : Nat) (a : Int) (y z : Value) (w : World) (h0 : w.cell? ⟨bn, 0, none⟩ = some (.slice A n c)) (ha : a < 0 ∨ (n : Int) ≤ a) :
    Calls Try.prog 28 #[.pointer (some ⟨bn, 0, none⟩), .int .i64 a, y, z] w fun e w' => e = .returned (.bool false) ∧ w = w' := by
  go_enter Try.func28, Try.ntmps28
  go_wp2_with (go_at_call 40; refine (fthere_out _ _ _ _ _ _ h0 ha).mono ?_; rintro e w' ⟨rfl, rfl⟩)
  go_ret
  exact ⟨rfl, rfl⟩

set_option maxRecDepth 100000 in
set_option maxHeartbeats 1000000 in
theorem fdamage_place (S : Nat → Prop) (bn : Nat) (line : Value) (ps : List Pk) (last : Int) (i : Nat) (j : Int) (z : Value) (p : Pk) (w : World) (h : FNet w S bn line ps last) (hi : ps[i]? = some p) (hj : j < 0 ∨ (p.bs.length : Int) ≤ j) :
    Calls Try.prog 28 #[.pointer (some ⟨bn, 0, none⟩), .int .i64 i, .int .i64 j, z] w fun e w' => e = .returned (.bool false) ∧ w = w' := by
  have hin := (List.getElem?_eq_some_iff.1 hi).1
  have hpm := List.mem_of_getElem? hi
  obtain ⟨g, cap, L, rfl, hb, hL, hc, hm, ht, hgb, c0, c1, c2, c3⟩ := h.at_ hi
  obtain ⟨A, c, hv, _, _⟩ := h.rd hpm
  rw [hv] at c3
  have d0 := h.blk.cell 0
  simp at d0
  have hii : (i : Int) < (ps.length : Int) := by omega
  have hi0 : (0 : Int) ≤ (i : Int) := by omega
  clear h hL ht hv hi
  by_cases hj0 : j < 0
  · go_enter Try.func28, Try.ntmps28
    go_wp2_with fail
    refine (fthere_in bn _ _ _ i w d0 hin).mono ?_
    rintro e w' ⟨rfl, rfl⟩
    go_wp2_with fail
    go_ret
    exact ⟨rfl, rfl⟩
  · have hj1 : (p.bs.length : Int) ≤ j := by omega
    go_enter Try.func28, Try.ntmps28
    go_wp2_with fail
    refine (fthere_in bn _ _ _ i w d0 hin).mono ?_
    rintro e w' ⟨rfl, rfl⟩
    go_wp2_with fail
    go_ret
    exact ⟨rfl, rfl⟩
end Go.Proofs.Ytdfdmjnhekdpjaa
