/- slices.Clone of bytes; wire.Take, Split. -/
import Derived.Test.YtcfmcgkngjpdbaaDoorD0
namespace Go.Proofs.YtcfmcgkngjpdbaaDoor
set_option linter.unusedVariables false
set_option linter.unusedSimpArgs false
open Go.RowKit

theorem infoU8 : (Tryd.prog.info? 5).map (fun i => (i.zero, i.size, i.bytes)) = some (some (.int .u8 0), 1, 1) := by kernel_rfl
theorem ub_one (l : List UInt8) : ∀ u ∈ l.map ub, u.oneCell' = true := fun u hu => by
  obtain ⟨b, _, rfl⟩ := List.mem_map.1 hu
  rfl
def ByR (l : List UInt8) (w : World) (e : Ending) (w' : World) : Prop := ∃ A' c', e = .returned (.slice A' l.length c') ∧ (A' = none → c' = 0) ∧ l.length ≤ c' ∧ Bys w' (fun b => w.heap.size ≤ b) A' l ∧ Fr NoB w w'
theorem cloneB_any (ok : Nat → Prop) (A : Option Addr) (c : Nat) (l : List UInt8) (w : World) (hA : A = none → c = 0) (hr : Bys w ok A l) (hn : l.length ≤ 1000000000) :
    Calls Tryd.prog 71 #[.slice A l.length c] w (ByR l w) := by
  obtain ⟨i0, hi0, hz0, hz1, hz2⟩ := info_parts infoU8
  have h1 := ub_one l
  rcases A with _ | a
  · obtain rfl := hA rfl
    have h0 : l = [] := by
      rcases Nat.eq_zero_or_pos l.length with h | h
      · exact List.length_eq_zero_iff.1 h
      · obtain ⟨b, o, h, _⟩ := hr.2 h
        cases h
    subst h0
    have hnil := fun (w : World) => Lib.run_eql_slice_nil (P := Tryd.prog) w 57 5 none 0 0 0 0 Tryd.underlying57
    go_enter Tryd.func71, Tryd.ntmps71
    go_wp2
    go_ret
    exact ⟨none, 0, rfl, fun _ => rfl, Nat.le_refl _, ⟨rfl, fun h => by simp at h⟩, Fr.refl _ _⟩
  · have hnil := fun (w : World) => Lib.run_eql_slice_nil (P := Tryd.prog) w 57 5 (some a) l.length c 0 0 Tryd.underlying57
    go_enter Tryd.func71, Tryd.ntmps71
    go_wp2_with (at_builtin; refine wpList_app _ rfl (.tmp 5) (.tmp 6) 57 rfl w.heap.size 5 i0 _ 1 1 Tryd.underlying57 hi0 hz0 hz1 hz2 rfl (by omega) (.slice (some ⟨w.heap.size, 0, none⟩) 0 0) 0 [] rfl (own_len_zero _ (Nat.le_refl _) (Blk.new w 5 #[])) ok (some a) l.length c (fun h => by cases h) (l.map ub) rfl (hr.fr ((Fr.refl NoB w).alloc _) (fun _ _ _ => id)) h1 (by simp only [maxLen]; omega) (by omega) (by simp) ?_; intro v1 w1 hown hg hat)
    go_ret
    simp only [Nat.zero_add, List.nil_append] at hown
    obtain ⟨A', c', rfl, hc', _, h0', _⟩ := own_slice hown
    exact ⟨A', c', rfl, h0', hc', Rd.of_own hown (fun k hk => (hown.lt k hk).1), ((Fr.refl NoB w).alloc _).grown hg (fun k hk => by simp [Value.ownBlock] at hk; omega)⟩

/-! ### wire.Take -/
theorem takeN_lt : ∀ (l : List UInt8) (k n : Nat), k ≤ 9 → n < 2 ^ (7 * k) → (takeN k n l).1 < 2 ^ 64
  | [], k, n, _, _ => by simp [takeN]
  | c :: r, k, n, hk, hn => by
    have hp : 2 ^ (7 * (k + 1)) = 128 * 2 ^ (7 * k) := by rw [Nat.mul_add, Nat.pow_add, Nat.mul_comm]
    have hm : c.toNat % 128 * 2 ^ (7 * k) ≤ 127 * 2 ^ (7 * k) := Nat.mul_le_mul_right _ (by omega)
    unfold takeN
    split
    · simp
    · rename_i h1
      split
      · show n + c.toNat % 128 * 2 ^ (7 * k) < 2 ^ 64
        by_cases h9 : k = 9
        · subst h9
          have : c.toNat ≤ 1 := by omega
          omega
        · have : 2 ^ (7 * (k + 1)) ≤ 2 ^ 63 := Nat.pow_le_pow_right (by omega) (by omega)
          omega
      · rename_i h2
        by_cases h9 : k = 9
        · subst h9
          omega
        · exact takeN_lt r (k + 1) _ (by omega) (by omega)
theorem takeN_at : ∀ (l : List UInt8) (k n : Nat), (takeN k n l).2.2 = 0 → k + 1 ≤ (takeN k n l).2.1 ∧ (takeN k n l).2.1 ≤ k + l.length
  | [], k, n, h => by simp [takeN] at h
  | c :: r, k, n, h => by
    unfold takeN at h ⊢
    split at h
    · simp at h
    · rename_i h1
      rw [if_neg h1]
      split at h
      · rename_i h2
        rw [if_pos h2]
        simp
      · rename_i h2
        rw [if_neg h2]
        have := takeN_at r (k + 1) _ h
        simp only [List.length_cons]
        omega
theorem and7 (n : Nat) (h : n < 2 ^ 64) : wrap64 (bits .and .u64 (n : Int) 7) = ((n % 8 : Nat) : Int) := by
  have := u64_and_nat n 7 (by omega) (by omega)
  rw [show ((7 : Nat) : Int) = 7 from rfl] at this
  rw [this, show n &&& 7 = n % 8 from Nat.and_two_pow_sub_one_eq_mod n 3]
  exact IntWalk.wrap64_in _ ⟨by omega, by omega⟩
theorem Bys.drop {w : World} {ok : Nat → Prop} {b o : Nat} {l : List UInt8} (h : Bys w ok (some ⟨b, o, none⟩) l) (k : Nat) : Bys w ok (some ⟨b, o + k, none⟩) (l.drop k) := by
  refine ⟨by simp, fun hn => ?_⟩
  rw [List.length_drop] at hn
  obtain ⟨b', o', e, hb, hl, hc⟩ := h.2 (by omega)
  obtain ⟨rfl, rfl⟩ : b = b' ∧ o = o' := by injection e with e; injection e with e1 e2; exact ⟨e1, e2⟩
  refine ⟨b, o + k, rfl, hb, hl, fun j u hu => ?_⟩
  rw [Nat.add_assoc]
  refine hc (k + j) u ?_
  rw [List.map_drop, List.getElem?_drop] at hu
  exact hu
theorem Bys.take {w : World} {ok : Nat → Prop} {A : Option Addr} {l : List UInt8} (h : Bys w ok A l) (k : Nat) : Bys w ok A (l.take k) := by
  refine ⟨by simp, fun hn => ?_⟩
  rw [List.length_take] at hn
  obtain ⟨b, o, e, hb, hl, hc⟩ := h.2 (by omega)
  refine ⟨b, o, e, hb, hl, fun j u hu => hc j u ?_⟩
  rw [List.map_take, List.getElem?_take] at hu
  split at hu
  · exact hu
  · cases hu
structure WF where
  n : Nat
  t : Nat
  u : Nat
  d : List UInt8
def wtakeP (l : List UInt8) : Option (WF × Nat) :=
  let a := takeN 0 0 l
  if a.2.2 ≠ 0 then none else
  let n := min (a.1 / 8) 536870912
  let t := a.1 % 8
  if wireFormed n t 0 0 = false then none else
  let b := takeN 0 0 (l.drop a.2.1)
  if t = 0 then (if b.2.2 ≠ 0 then none else some (⟨n, 0, b.1, []⟩, a.2.1 + b.2.1)) else
  if t = 2 then (if b.2.2 ≠ 0 ∨ ((l.drop a.2.1).drop b.2.1).length < b.1 then none else some (⟨n, 2, 0, ((l.drop a.2.1).drop b.2.1).take b.1⟩, a.2.1 + (b.2.1 + b.1))) else none
def WfIn (w : World) (ok : Nat → Prop) (f : WF) (cs : List Value) : Prop := ∃ A c, cs = [.int .i64 f.n, .int .i64 f.t, .int .u64 f.u, .slice A f.d.length c] ∧ (A = none → c = 0) ∧ f.d.length ≤ c ∧ Bys w ok A f.d
def WtR (f : WF) (k : Nat) (w : World) (e : Ending) (w' : World) : Prop := ∃ cs, e = .returned (.tuple #[.agg cs.toArray, .int .i64 k, .int .i64 0]) ∧ WfIn w' (fun b => w.heap.size ≤ b) f cs ∧ Fr NoB w w'
theorem results_wf {fn : Func} {p u v : Tmp} (h : fn.results = #[.cell p 114, .tmp u, .tmp v]) (tmps : Array Value) (W : World) (b : Nat) (hp : tmps.getD p undef = .pointer (some ⟨b, 0, none⟩)) {x0 x1 x2 : Int} {A : Option Addr} {n c : Nat}
    (hb : Blk W b 114 #[.int .i64 x0, .int .i64 x1, .int .u64 x2, .slice A n c]) : (results fn tmps).run Tryd.prog W = .ok (.tuple #[.agg #[.int .i64 x0, .int .i64 x1, .int .u64 x2, .slice A n c], tmps.getD u undef, tmps.getD v undef]) W := by
  have hp' : tmps[p]?.getD undef = .pointer (some ⟨b, 0, none⟩) := by simpa using hp
  simp [results, h, hp', asAddr, run_loadVar_row (P := Tryd.prog) W b 114 114 _ (0, 0) _ hb Tryd.underlying114 rfl (by kernel_rfl)]
set_option maxHeartbeats 1000000 in
set_option maxRecDepth 100000 in
theorem wtake_any (A : Option Addr) (c : Nat) (l : List UInt8) (ok : Nat → Prop) (w : World) (hA : A = none → c = 0) (hc : l.length ≤ c) (hr : Bys w ok A l) (hn : l.length ≤ 1000000000) (f : WF) (k : Nat) (h : wtakeP l = some (f, k)) :
    Calls Tryd.prog 70 #[.slice A l.length c] w (WtR f k w) := by
  have hfa : Fr NoB w (w.alloc (.cells #[.int .i64 0, .int .i64 0, .int .u64 0, .slice none 0 0] 114)) := (Fr.refl NoB w).alloc _
  have hb := Blk.new w 114 #[.int .i64 0, .int .i64 0, .int .u64 0, .slice none 0 0]
  have hT := Lib.hid (take_any A l c ok _ (hr.fr hfa (fun _ _ _ => id)) hn)
  go_enter Tryd.func70, Tryd.ntmps70
  go_wp2_with fail
  refine hT.out.mono ?_
  rintro e w1 ⟨rfl, hf1⟩
  have hb1 := hb.fr hf1 id
  have hf01 := hfa.trans hf1 (fun _ h _ => h)
  clear hb hfa hT
  have hlt := takeN_lt l 0 0 (by omega) (by decide)
  have hat := takeN_at l 0 0
  unfold wtakeP at h
  generalize takeN 0 0 l = a at *
  obtain ⟨a1, a2, a3⟩ := a
  dsimp only at h hlt hat ⊢
  by_cases h0 : a3 = 0
  · subst h0
    obtain ⟨hat1, hat2⟩ := hat rfl
    have hnz : l.length ≠ 0 := by omega
    obtain ⟨b, o, rfl, _⟩ := hr.2 (by omega)
    have e0 : ((0 : Nat) : Int) = 0 := rfl
    rw [if_neg (by simp)] at h
    have h7 := and7 a1 hlt
    have hmin : min ((a1 : Int) / 8) 536870912 = ((min (a1 / 8) 536870912 : Nat) : Int) := by omega
    generalize min (a1 / 8) 536870912 = nn at *
    have ht8 : a1 % 8 < 8 := by omega
    generalize a1 % 8 = tt at *
    split at h
    · cases h
    rename_i hwf
    have hwf : wireFormed nn tt 0 0 = true := by simpa using hwf
    have hW := fun w => wireFormed_any nn tt 0 none 0 0 w
    rw [hwf] at hW
    have HW := Lib.hid hW
    have HT := Lib.hid (fun w2 hf => take_any (some ⟨b, o + a2, none⟩) (l.drop a2) (c - a2) ok w2 (Rd.fr (Bys.drop (Rd.fr hr hf01 (fun _ _ _ => id)) a2) hf (fun _ _ _ => id)) (by simp; omega))
    have hl2 : (l.drop a2).length = l.length - a2 := List.length_drop ..
    rw [hl2] at HT
    have hat2 := takeN_at (l.drop a2) 0 0
    have c1 : (a2 : Int) ≤ (l.length : Int) := by omega
    have c2 : ¬ (l.length : Int) < (a2 : Int) := by omega
    have c3 : (0 : Int) ≤ (a2 : Int) := by omega
    generalize takeN 0 0 (l.drop a2) = r at *
    obtain ⟨r1, r2, r3⟩ := r
    dsimp only at h hat2 HT
    clear hW hwf
    have hd2 : ((l.drop a2).drop r2).length = l.length - a2 - r2 := by rw [List.length_drop, List.length_drop]
    have hBys := fun w2 hf => (Rd.fr (Bys.drop (Bys.drop (Rd.fr hr hf01 (fun _ _ _ => id)) a2) r2) (S := NoB) (w' := w2) hf (fun _ _ _ => id))
    have HB := Lib.hid hBys
    clear hBys
    by_cases h3 : r3 = 0
    · subst h3
      have hat3 := hat2 rfl
      rw [hl2] at hat3
      have hca : ¬ c = a2 := by omega
      have hca' : a2 < c := by omega
      by_cases t0 : tt = 0
      · subst t0
        rw [if_pos rfl, if_neg (by simp)] at h
        obtain ⟨rfl, rfl⟩ : f = ⟨nn, 0, r1, []⟩ ∧ k = a2 + r2 := by simpa [eq_comm] using h
        go_wp2_with fail
        refine (HW.out _).mono ?_
        rintro e w2 ⟨rfl, hf2⟩
        have hbx := (Blk.new w1 114 #[.int .i64 nn, .int .i64 ((0 : Nat) : Int), .int .u64 0, .slice none 0 0]).fr hf2 id
        have x0 := hbx.cell 0
        have x1 := hbx.cell 1
        have x2 := hbx.cell 2
        have x3 := hbx.cell 3
        simp at x0 x1 x2 x3
        have hf12 : Fr NoB w1 w2 := ((Fr.refl NoB w1).alloc _).trans hf2 (fun _ h _ => h)
        go_wp2_with fail
        refine (HT.out _ hf12).mono ?_
        rintro e w3 ⟨rfl, hf3⟩
        have hby := hbx.fr hf3 id
        clear x0 x1 x2 x3
        have x0 := hby.cell 0
        have x1 := hby.cell 1
        have x2 := hby.cell 2
        have x3 := hby.cell 3
        simp at x0 x1 x2 x3
        have hf13 := hf12.trans hf3 (fun _ h _ => h)
        have hb3 := hb1.fr hf13 id
        have y0 := hb3.cell 0
        have y1 := hb3.cell 1
        have y2 := hb3.cell 2
        have y3 := hb3.cell 3
        simp at y0 y1 y2 y3
        have fx := hby.frozen 2
        have g0 := hb3.frozen 0
        have g1 := hb3.frozen 1
        have g2 := hb3.frozen 2
        have g3 := hb3.frozen 3
        have hne : w.heap.size ≠ w1.heap.size := Nat.ne_of_lt hb1.lt
        have hne' : w1.heap.size ≠ w.heap.size := Nat.ne_of_gt hb1.lt
        go_wp2_with fail
        have hbf := ((((hb3.far (p := ⟨w1.heap.size, 2, none⟩) hne (.int .u64 r1)).set_ 0 (.int .i64 nn)).set_ 1 (.int .i64 0)).set_ 2 (.int .u64 r1)).set_ 3 (.slice none 0 0)
        simp at hbf
        refine bodyPost_ret (results_wf rfl _ _ w.heap.size (by rfl) hbf) rfl ?_
        refine ⟨[.int .i64 nn, .int .i64 0, .int .u64 r1, .slice none 0 0], by first | rfl | (push_cast; rfl), ⟨none, 0, rfl, fun _ => rfl, Nat.le_refl _, ⟨rfl, fun h => by simp at h⟩⟩, ?_⟩
        have hlt1 := hb1.lt
        exact (((((hf01.trans hf13 (fun _ h _ => h)).setNew (by simp; omega) _).setNew (by simp) _).setNew (by simp) _).setNew (by simp) _).setNew (by simp) _
      · rw [if_neg t0] at h
        have q0 : ((tt : Int) == 0) = false := beq_eq_false_iff_ne.2 (by omega)
        split at h
        · rename_i t2
          subst t2
          split at h
          · cases h
          rename_i hsz
          have hsz2 : r1 ≤ l.length - a2 - r2 := by omega
          have hlen : (((l.drop a2).drop r2).take r1).length = r1 := by rw [List.length_take]; omega
          obtain ⟨rfl, rfl⟩ : f = ⟨nn, 2, 0, ((l.drop a2).drop r2).take r1⟩ ∧ k = a2 + (r2 + r1) := by simpa [eq_comm] using h
          have z1 : ¬ ((l.length - a2 : Nat) : Int) < 0 := by omega
          go_wp2_with fail
          refine (HW.out _).mono ?_
          rintro e w2 ⟨rfl, hf2⟩
          have hbx := (Blk.new w1 114 #[.int .i64 nn, .int .i64 ((2 : Nat) : Int), .int .u64 0, .slice none 0 0]).fr hf2 id
          have x0 := hbx.cell 0
          have x1 := hbx.cell 1
          have x2 := hbx.cell 2
          have x3 := hbx.cell 3
          simp at x0 x1 x2 x3
          have hf12 : Fr NoB w1 w2 := ((Fr.refl NoB w1).alloc _).trans hf2 (fun _ h _ => h)
          go_wp2_with fail
          refine (HT.out _ hf12).mono ?_
          rintro e w3 ⟨rfl, hf3⟩
          have hby := hbx.fr hf3 id
          clear x0 x1 x2 x3
          have x0 := hby.cell 0
          have x1 := hby.cell 1
          have x2 := hby.cell 2
          have x3 := hby.cell 3
          simp at x0 x1 x2 x3
          have hf13 := hf12.trans hf3 (fun _ h _ => h)
          have hb3 := hb1.fr hf13 id
          have HC := Lib.hid (fun A c hA hB => cloneB_any ok A c (((l.drop a2).drop r2).take r1) w3 hA hB (by omega))
          rw [hlen] at HC
          go_wp2_with fail
          all_goals refine (HC.out _ _ (fun h => by cases h) ?_).mono ?_
          · have h0 : r1 = 0 := by omega
            subst h0
            exact ⟨rfl, fun h => by simp at h⟩
          rotate_left
          · exact Bys.take (HB.out w3 hf13) r1
          all_goals rintro e w4 ⟨A4, c4, rfl, hA4, hc4, hB4, hf4⟩
          all_goals rw [hlen]
          all_goals rw [hlen] at hc4
          all_goals have hbz := hby.fr hf4 id
          all_goals clear x0 x1 x2 x3
          all_goals have x0 := hbz.cell 0
          all_goals have x1 := hbz.cell 1
          all_goals have x2 := hbz.cell 2
          all_goals have x3 := hbz.cell 3
          all_goals simp at x0 x1 x2 x3
          all_goals have hb4 := hb3.fr hf4 id
          all_goals have y0 := hb4.cell 0
          all_goals have y1 := hb4.cell 1
          all_goals have y2 := hb4.cell 2
          all_goals have y3 := hb4.cell 3
          all_goals simp at y0 y1 y2 y3
          all_goals have fx := hbz.frozen 3
          all_goals have g0 := hb4.frozen 0
          all_goals have g1 := hb4.frozen 1
          all_goals have g2 := hb4.frozen 2
          all_goals have g3 := hb4.frozen 3
          all_goals have hne : w.heap.size ≠ w1.heap.size := Nat.ne_of_lt hb1.lt
          all_goals have hne' : w1.heap.size ≠ w.heap.size := Nat.ne_of_gt hb1.lt
          all_goals go_wp2_with fail
          all_goals have hbf := ((((hb4.far (p := ⟨w1.heap.size, 3, none⟩) hne (.slice A4 r1 c4)).set_ 0 (.int .i64 nn)).set_ 1 (.int .i64 2)).set_ 2 (.int .u64 0)).set_ 3 (.slice A4 r1 c4)
          all_goals simp at hbf
          all_goals refine bodyPost_ret (results_wf rfl _ _ w.heap.size (by rfl) hbf) rfl ?_
          all_goals have l3 := hb3.lt
          all_goals have l3' := hby.lt
          all_goals have hS : Fr (fun b => b < w3.heap.size) w4 (((((w4.setCell ⟨w1.heap.size, 3, none⟩ (.slice A4 r1 c4)).setCell ⟨w.heap.size, 0, none⟩ (.int .i64 nn)).setCell ⟨w.heap.size, 1, none⟩ (.int .i64 2)).setCell ⟨w.heap.size, 2, none⟩ (.int .u64 0)).setCell ⟨w.heap.size, 3, none⟩ (.slice A4 r1 c4)) :=
            (((((Fr.refl _ w4).setCell (fun _ => l3') _).setCell (fun _ => l3) _).setCell (fun _ => l3) _).setCell (fun _ => l3) _).setCell (fun _ => l3) _
          all_goals refine ⟨[.int .i64 nn, .int .i64 2, .int .u64 0, .slice A4 r1 c4], by first | rfl | (push_cast; rfl), ⟨A4, c4, by rw [hlen]; rfl, hA4, by rw [hlen]; exact hc4, (Rd.fr hB4 hS (fun b hb _ hb' => absurd hb' (Nat.not_lt.2 hb))).mono (fun b hb _ => Nat.le_trans (hf01.trans hf13 (fun _ h _ => h)).size hb)⟩, ?_⟩
          all_goals have hlt1 := hb1.lt
          all_goals exact ((((((hf01.trans hf13 (fun _ h _ => h)).trans hf4 (fun _ h _ => h)).setNew (by simp; omega) _).setNew (by simp) _).setNew (by simp) _).setNew (by simp) _).setNew (by simp) _
        · cases h
    · simp [h3] at h
  · simp [h0] at h
end Go.Proofs.YtcfmcgkngjpdbaaDoor
