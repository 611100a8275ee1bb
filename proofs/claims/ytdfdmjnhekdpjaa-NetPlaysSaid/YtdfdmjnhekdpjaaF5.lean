import Derived.Test.YtdfdmjnhekdpjaaF4
namespace Go.Proofs.Ytdfdmjnhekdpjaa
set_option linter.unusedVariables false
set_option linter.unusedSimpArgs false
open Go.RowKit

theorem own_cut_take {w : World} {base n g c i : Nat} {qs : List Pk} (h : w.ownsRow base 63 4 (.slice (some ⟨g, 0, none⟩) n c) n (flat qs)) (hn : qs.length = n) (hi : i ≤ n) : Rd w (fun k => k = g) 4 (some ⟨g, 0, none⟩) i (flat (qs.take i)) := by
  rcases Nat.eq_zero_or_pos n with h0 | h0
  · obtain rfl : i = 0 := by omega
    exact ⟨by simp [flat], fun h => by omega⟩
  · obtain ⟨g', cap, L, hv, _, hb, hl, hc, hm, ht⟩ := own_open h h0
    injection hv with hv
    injection hv with hv
    injection hv with hv
    subst hv
    exact Rd.cut_take hb ht hn hi rfl
theorem own_cut_drop {w : World} {base n g c i : Nat} {qs : List Pk} (h : w.ownsRow base 63 4 (.slice (some ⟨g, 0, none⟩) n c) n (flat qs)) (hn : qs.length = n) (hi : i ≤ n) : Rd w (fun k => k = g) 4 (if c = i then some ⟨g, 0, none⟩ else some ⟨g, i * 4, none⟩) (n - i) (flat (qs.drop i)) := by
  rcases Nat.eq_zero_or_pos n with h0 | h0
  · obtain rfl : i = 0 := by omega
    subst h0
    have : qs = [] := List.eq_nil_of_length_eq_zero hn
    subst this
    exact ⟨by simp [flat], fun h => by omega⟩
  · obtain ⟨g', cap, L, hv, _, hb, hl, hc, hm, ht⟩ := own_open h h0
    injection hv with hv _ hcc
    injection hv with hv
    injection hv with hv
    subst hv
    subst hcc
    exact Rd.cut_drop hb ht hn hi hc rfl

set_option maxRecDepth 100000 in
set_option maxHeartbeats 4000000 in
theorem fmove_in (S : Nat → Prop) (bw : Nat) (line : Value) (ps : List Pk) (last : Int) (i k : Nat) (x : Pk) (w : World) (h : FNet w S bw line ps last) (hi : ps[i]? = some x) (hk : k < ps.length) :
    Calls Try.prog 30 #[.pointer (some ⟨bw, 0, none⟩), .int .i64 i, .int .i64 k] w fun e w' => e = .returned (.bool true) ∧ ∃ line', FNet w' (fun k => S k ∨ w.heap.size ≤ k) bw line' (moved ps i k x) last ∧ Fr (OneB bw) w w' := by
  have hin := (List.getElem?_eq_some_iff.1 hi).1
  have hpm := List.mem_of_getElem? hi
  obtain ⟨p, hp⟩ : ∃ p, ps.length = p + 1 := ⟨ps.length - 1, by omega⟩
  obtain ⟨g, cap, L, rfl, hb, hL, hc, hm, ht, hgb, c0, c1, c2, c3⟩ := h.at_ hi
  obtain ⟨A, c, hv, hA, hrd⟩ := h.rd hpm
  have hxc : x.cells = [.int .i64 x.n, .int .i64 x.f, .int .i64 x.t, .slice A x.bs.length c] := by simp [Pk.cells, hv]
  rw [hv] at c3
  have d0 := h.blk.cell 0
  simp at d0
  have hgl := hb.lt
  have hbl := h.blk.lt
  have hfew := h.few
  have hone := fflat_one h ((ps.eraseIdx i).take k) (fun q hq => (List.eraseIdx_sublist ps i).subset (List.mem_of_mem_take hq))
  have hone2 := fflat_one h ((ps.eraseIdx i).drop k) (fun q hq => (List.eraseIdx_sublist ps i).subset (List.mem_of_mem_drop hq))
  have hqe : (ps.eraseIdx i).length = p := by rw [List.length_eraseIdx, if_pos (by omega)]; omega
  have hkp : k ≤ p := by omega
  have hkl : p < 200 := by omega
  have hii : (i : Int) < (ps.length : Int) := by omega
  have hi0 : (0 : Int) ≤ (i : Int) := by omega
  have hkI : (k : Int) ≤ (p : Int) := by omega
  have hR := h.far ((Fr.refl NoB w).alloc (.cells #[.int .i64 x.n, .int .i64 x.f, .int .i64 x.t, .slice A x.bs.length c] 63)) (fun _ _ _ => id)
  have hk1 := Blk.new w 63 #[.int .i64 x.n, .int .i64 x.f, .int .i64 x.t, .slice A x.bs.length c]
  have H := Lib.hid h
  have HR := Lib.hid hR
  have HV := Lib.hid hv
  have HX := Lib.hid hxc
  have HI := Lib.hid hi
  have HQ := Lib.hid hqe
  have HP := Lib.hid hp
  have HO := Lib.hid hone
  have HO2 := Lib.hid hone2
  have hpm' := Lib.hid hpm
  clear h hA hL ht hv hi hrd hR hxc hqe hp hone hone2 hpm
  obtain ⟨i0, hi0', hz0, hz1, hz2⟩ := info_parts Try.info63
  go_enter Try.func30, Try.ntmps30
  go_wp2_with fail
  refine (fthere_in bw _ _ _ i w d0 hin).mono ?_
  rintro e w' ⟨rfl, rfl⟩
  go_wp2_with fail
  refine (fthere_in bw _ _ _ k _ d0 hk).mono ?_
  rintro e w' ⟨rfl, rfl⟩
  go_wp2_with fail
  refine (fdrop_in S bw _ ps last i _ HR.out hin).mono ?_
  rintro e w2 ⟨rfl, line', ⟨al, hal⟩, hR2, hf2⟩
  obtain ⟨A', c', rfl, hle, hlm, h0', ha⟩ := own_slice hR2.own
  rcases A' with _ | ⟨g', o', s'⟩
  · simp [Value.ownBlock] at hal
  obtain ⟨rfl, rfl, _⟩ := ha _ rfl
  rw [HQ.out] at hle hR2
  have hk2 := hk1.fr hf2 (fun e => by have : w.heap.size = bw := e; omega)
  have b0 := hk2.cell 0; have b1 := hk2.cell 1; have b2 := hk2.cell 2; have b3 := hk2.cell 3
  have e0 := hR2.blk.cell 0
  simp at b0 b1 b2 b3 e0
  have hkc : k ≤ c' := by omega
  have ownL : w2.ownsRow 0 63 4 (.slice (some ⟨g', 0, none⟩) p c') p (flat (ps.eraseIdx i)) := by have := hR2.own; rwa [HQ.out] at this
  have hgl2 : g' < w2.heap.size := (ownL.lt g' rfl).2
  have hf02 : Fr (OneB bw) w w2 := ((Fr.refl (OneB bw) w).alloc _).trans hf2 (fun b hb _ => hb)
  have hbk2 := hR2.blk
  obtain ⟨B, hB, hBn⟩ : ∃ B : Option Addr, (if c' = k then some (⟨g', 0, none⟩ : Addr) else some ⟨g', k * 4, none⟩) = B ∧ B ≠ none := ⟨_, rfl, by split <;> simp⟩
  have hsz02 := hf02.size
  go_wp2_with (first
    | (at_builtin; refine wpList_app _ rfl (.tmp 29) (.tmp 35) 28 rfl w.heap.size 63 i0 _ 4 48 Try.underlying28 hi0' hz0 hz1 hz2 rfl (by omega) (.slice none 0 0) 0 [] rfl (World.ownsRow_nil _ _ _ _) (fun b => b = g') (some ⟨g', 0, none⟩) k c' (fun h => by cases h) (flat ((ps.eraseIdx i).take k)) rfl (own_cut_take ownL HQ.out hkp) HO.out (by simp only [maxLen]; omega) (by omega) hsz02 ?_
       intro v8 w3 own8 hg8 hat8
       have hf23 : Fr NoB w2 w3 := Fr.of_grown hg8 (fun k hk _ => by simp [Value.ownBlock] at hk)
       have hne8 : ∀ b, v8.ownBlock = some b → b = w2.heap.size := fun b hb => by
         rcases hat8 with e | e <;> rw [e] at hb <;> simp [Value.ownBlock] at hb
         omega
       have hk3 := hk2.fr hf23 id
       have b0 := hk3.cell 0
       have b1 := hk3.cell 1
       have b2 := hk3.cell 2
       have b3 := hk3.cell 3
       have hbk3 := hbk2.fr hf23 id
       have e0 := hbk3.cell 0
       have hsz03 : w.heap.size ≤ w3.heap.size := Nat.le_trans hsz02 hf23.size
       simp at b0 b1 b2 b3 e0)
    | (at_builtin; refine wpList_app _ rfl (.tmp 37) (.tmp 39) 28 rfl w.heap.size 63 i0 _ 4 48 Try.underlying28 hi0' hz0 hz1 hz2 rfl (by omega) v8 (0 + k) ([] ++ flat ((ps.eraseIdx i).take k)) rfl (own8.alloc _) (fun _ => True) (some ⟨w3.heap.size, 0, none⟩) 1 1 (fun h => by cases h) [.int .i64 x.n, .int .i64 x.f, .int .i64 x.t, .slice A x.bs.length c] rfl (Rd.lit w3 _ 63 4 1 _ rfl trivial) (by simp [Value.oneCell']) (by simp only [maxLen]; omega) (by omega) (by simp; omega) ?_
       intro v7 w4 own7 hg7 hat7
       have hf34 : Fr (fun b => v8.ownBlock = some b) w3 w4 := ((Fr.refl _ w3).alloc _).grown hg7 (fun k hk _ => hk)
       have hbk4 := hbk3.fr hf34 (fun e => own_blk_ne own8 hbk3 (by decide) e)
       have e0 := hbk4.cell 0
       have hsz04 : w.heap.size ≤ w4.heap.size := Nat.le_trans hsz03 hf34.size
       have ownL4 := own_fr (own_fr ownL hf23 (fun _ _ => id)) hf34 (fun b hb e => by
         have h1 := hne8 b e
         have h2 : g' = b := by simpa [Value.ownBlock] using hb
         omega)
       have hrd := own_cut_drop ownL4 HQ.out hkp
       rw [hB] at hrd
       simp at e0)
    | (at_builtin; refine wpList_app _ rfl (.tmp 42) (.tmp 48) 28 rfl w.heap.size 63 i0 _ 4 48 Try.underlying28 hi0' hz0 hz1 hz2 rfl (by omega) v7 (0 + k + 1) ([] ++ flat ((ps.eraseIdx i).take k) ++ [.int .i64 x.n, .int .i64 x.f, .int .i64 x.t, .slice A x.bs.length c]) rfl own7 (fun b => b = g') B (p - k) (c' - k) (fun h => absurd h hBn) (flat ((ps.eraseIdx i).drop k)) rfl hrd HO2.out (by simp only [maxLen]; omega) (by omega) hsz04 ?_
       intro v9 w5 own9 hg9 hat9
       have hf45 := Fr.of_grown (S := fun b => v7.ownBlock = some b) hg9 (fun k hk _ => hk)
       have hbk5 := hbk4.fr hf45 (fun e => own_blk_ne own7 hbk4 (by decide) e)
       have r0 := hbk5.cell 0
       have r1 := hbk5.frozen 0
       obtain ⟨L9, c9, rfl, hs9⟩ := own_slice own9
       simp at r0))
  go_ret
  have hf05 : Fr (OneB bw) w w5 := ((hf02.trans hf23 (fun b e _ => e.elim)).trans hf34 (fun b e hlt => absurd hlt (by have := (own8.lt b e).1; omega))).trans hf45 (fun b e hlt => absurd hlt (by have := (own7.lt b e).1; omega))
  have hE := H.out.put (qs := moved ps i k x) (n := 0 + k + 1 + (p - k)) (fun q hq => (moved_perm ps i k x HI.out).subset hq) (by rw [(moved_perm ps i k x HI.out).length_eq, HP.out]; omega) (by omega) hbk5 (by unfold moved; rw [flat_append, show flat (x :: (ps.eraseIdx i).drop k) = x.cells ++ flat ((ps.eraseIdx i).drop k) by simp [flat], HX.out]; simpa using own9) hf05
  exact ⟨rfl, _, hE⟩

set_option maxRecDepth 100000 in
set_option maxHeartbeats 1000000 in
theorem fmove_out (bn : Nat) (A : Option Addr) (n c : Nat) (a b : Int) (w : World) (h0 : w.cell? ⟨bn, 0, none⟩ = some (.slice A n c)) (ha : (a < 0 ∨ (n : Int) ≤ a) ∨ (b < 0 ∨ (n : Int) ≤ b)) :
    Calls Try.prog 30 #[.pointer (some ⟨bn, 0, none⟩), .int .i64 a, .int .i64 b] w fun e w' => e = .returned (.bool false) ∧ w = w' := by
  by_cases hA : a < 0 ∨ (n : Int) ≤ a
  · go_enter Try.func30, Try.ntmps30
    go_wp2_with fail
    refine (fthere_out _ _ _ _ _ _ h0 hA).mono ?_
    rintro e w' ⟨rfl, rfl⟩
    go_wp2
    go_ret
    exact ⟨rfl, rfl⟩
  · have hB := ha.resolve_left hA
    obtain ⟨i, rfl⟩ : ∃ i : Nat, a = i := ⟨a.toNat, by omega⟩
    go_enter Try.func30, Try.ntmps30
    go_wp2_with fail
    refine (fthere_in _ _ _ _ i _ h0 (by omega)).mono ?_
    rintro e w' ⟨rfl, rfl⟩
    go_wp2_with fail
    refine (fthere_out _ _ _ _ _ _ h0 hB).mono ?_
    rintro e w' ⟨rfl, rfl⟩
    go_wp2
    go_ret
    exact ⟨rfl, rfl⟩
set_option maxRecDepth 100000 in
set_option maxHeartbeats 1000000 in
theorem move_out (bn : Nat) (A : Option Addr) (n c : Nat) (a b : Int) (w : World) (h0 : w.cell? ⟨bn, 0, none⟩ = some (.slice A n c)) (ha : (a < 0 ∨ (n : Int) ≤ a) ∨ (b < 0 ∨ (n : Int) ≤ b)) :
    Calls Try.prog 29 #[.pointer (some ⟨bn, 0, none⟩), .int .i64 a, .int .i64 b] w fun e w' => e = .returned (.bool false) ∧ w = w' := by
  by_cases hA : a < 0 ∨ (n : Int) ≤ a
  · go_enter Try.func29, Try.ntmps29
    go_wp2_with fail
    refine (there_out _ _ _ _ _ _ h0 hA).mono ?_
    rintro e w' ⟨rfl, rfl⟩
    go_wp2
    go_ret
    exact ⟨rfl, rfl⟩
  · have hB := ha.resolve_left hA
    obtain ⟨i, rfl⟩ : ∃ i : Nat, a = i := ⟨a.toNat, by omega⟩
    go_enter Try.func29, Try.ntmps29
    go_wp2_with fail
    refine (there_in _ _ _ _ i _ h0 (by omega)).mono ?_
    rintro e w' ⟨rfl, rfl⟩
    go_wp2_with fail
    refine (there_out _ _ _ _ _ _ h0 hB).mono ?_
    rintro e w' ⟨rfl, rfl⟩
    go_wp2
    go_ret
    exact ⟨rfl, rfl⟩
end Go.Proofs.Ytdfdmjnhekdpjaa
