import Derived.Test.YtdfdmjnhekdpjaaT10
namespace Go.Proofs.Ytdfdmjnhekdpjaa
set_option linter.unusedVariables false
set_option linter.unusedSimpArgs false
open Go.RowKit

/-- The list behind Move(i, k). -/
def moved (ps : List Pk) (i k : Nat) (x : Pk) : List Pk := (ps.eraseIdx i).take k ++ x :: (ps.eraseIdx i).drop k

theorem moved_perm (ps : List Pk) (i k : Nat) (x : Pk) (h : ps[i]? = some x) : (moved ps i k x).Perm ps := by
  have h1 : (moved ps i k x).Perm (x :: ps.eraseIdx i) := by
    unfold moved
    refine List.perm_middle.trans ?_
    rw [List.take_append_drop]
  refine h1.trans ?_
  obtain ⟨hi, rfl⟩ := List.getElem?_eq_some_iff.1 h
  rw [List.eraseIdx_eq_take_drop_succ]
  refine List.perm_middle.symm.trans ?_
  rw [← List.drop_eq_getElem_cons hi, List.take_append_drop]

theorem move_end {w w1 : World} {S : Nat → Prop} {bn g cap i k p n : Nat} {ps : List Pk} {x : Pk} {last : Int} {L : List Value} (h : RNet w S bn (.slice (some ⟨g, 0, none⟩) n cap) ps last)
    (hx : ps[i]? = some x) (hp : ps.length = p + 1) (hc : p + 1 ≤ cap) (hm : cap ≤ maxLen)
    (hb1 : Blk w1 g 60 L.toArray) (hl : L.length = cap * 4) (ht : L.take ((p + 1) * 4) = flat (moved ps i k x)) (hf1 : Fr (OneB g) w w1) :
    RNet (w1.setCell ⟨bn, 0, none⟩ (.slice (some ⟨g, 0, none⟩) (p + 1) cap)) S bn (.slice (some ⟨g, 0, none⟩) (p + 1) cap) (moved ps i k x) last ∧ Fr (NetB bn (.slice (some ⟨g, 0, none⟩) n cap)) w (w1.setCell ⟨bn, 0, none⟩ (.slice (some ⟨g, 0, none⟩) (p + 1) cap)) := by
  have hgb : g ≠ bn := fun e => own_blk_ne h.own h.blk (by decide) (by rw [← e]; rfl)
  have hpm := moved_perm ps i k x hx
  have hf2 : Fr (NetB bn (.slice (some ⟨g, 0, none⟩) n cap)) w (w1.setCell ⟨bn, 0, none⟩ (.slice (some ⟨g, 0, none⟩) (p + 1) cap)) :=
    (hf1.mono (fun b e _ => .inr (by rw [show b = g from e]; rfl))).setCell (p := ⟨bn, 0, none⟩) (fun _ => .inl rfl) _
  have hlen : (moved ps i k x).length = p + 1 := by rw [hpm.length_eq, hp]
  have hb2 := (h.blk.fr hf1 (fun e => hgb e.symm)).set_ 0 (.slice (some ⟨g, 0, none⟩) (p + 1) cap)
  refine ⟨h.re hf2 hb2 ?_ rfl (fun q hq => hpm.subset hq) ((hpm.filterMap _).nodup_iff.2 h.ap) (by have := h.few; omega), hf2⟩
  rw [hlen]
  exact own_mk (hb1.far (p := ⟨bn, 0, none⟩) hgb _) hl hc hm ht (Nat.zero_le _)

set_option maxRecDepth 100000 in
set_option maxHeartbeats 4000000 in
theorem move_in (S : Nat → Prop) (bn : Nat) (line : Value) (ps : List Pk) (last : Int) (i k : Nat) (x : Pk) (w : World) (h : RNet w S bn line ps last) (hi : ps[i]? = some x) (hk : k < ps.length) :
    Calls Try.prog 29 #[.pointer (some ⟨bn, 0, none⟩), .int .i64 i, .int .i64 k] w fun e w' => e = .returned (.bool true) ∧ ∃ line', RNet w' S bn line' (moved ps i k x) last ∧ Fr S w w' := by
  have hin := (List.getElem?_eq_some_iff.1 hi).1
  obtain ⟨p, hp⟩ : ∃ p, ps.length = p + 1 := ⟨ps.length - 1, by omega⟩
  obtain ⟨g, cap, L, rfl, hb, hl, hc, hm, ht, hgb, c0, c1, c2, c3⟩ := h.at_ hi
  obtain ⟨A, c, hv, _, _⟩ := h.rd (List.mem_of_getElem? hi)
  have hxc : x.cells = [.int .i64 x.n, .int .i64 x.f, .int .i64 x.t, .slice A x.bs.length c] := by simp [Pk.cells, hv]
  rw [hv] at c3
  have d0 := h.blk.cell 0
  simp at d0
  have hgl := hb.lt
  have hbl := h.blk.lt
  have hip : i ≤ p := by omega
  have hkp : k ≤ p := by omega
  have hp2 : p < 1000 := by have := h.few; omega
  have hD := del_take L ps i p cap hl hp (by omega) hip (by rw [← hp]; exact ht)
  have hone := flat_one h (ps.drop (i + 1)) (fun q hq => List.mem_of_mem_drop hq)
  rw [← hD.1] at hone
  have hone2 := flat_one h ((ps.eraseIdx i).drop k) (fun q hq => (List.eraseIdx_sublist ps i).subset (List.mem_of_mem_drop hq))
  have hqe : (ps.eraseIdx i).length = p := by rw [List.length_eraseIdx, if_pos (by omega)]; omega
  have hcp : p + 1 ≤ cap := by omega
  have hxone : ∀ u ∈ x.cells, u.oneCell' = true := by rw [hxc]; simp [Value.oneCell']
  -- the world behind the packet's box
  have hbx := Blk.new w 60 x.cells.toArray
  rw [hxc] at hbx
  have hfx : Fr NoB w (w.alloc (.cells [Value.int .i64 x.n, .int .i64 x.f, .int .i64 x.t, .slice A x.bs.length c].toArray 60)) := (Fr.refl NoB w).alloc _
  have hR := h.tight.far hfx (fun _ _ _ => id)
  have hbg := hb.fr hfx id
  have hb33 := hR.blk
  have hsz : w.heap.size ≠ g := by omega
  have hsb : w.heap.size ≠ bn := by omega
  have hlt1 : w.heap.size < (w.alloc (.cells [Value.int .i64 x.n, .int .i64 x.f, .int .i64 x.t, .slice A x.bs.length c].toArray 60)).heap.size := by simp
  have hii : (i : Int) < (p : Int) + 1 := by omega
  have hi0 : (0 : Int) ≤ (i : Int) := by omega
  rw [hp] at d0 hin hk
  have hfS : Fr S w (w.alloc (.cells [Value.int .i64 x.n, .int .i64 x.f, .int .i64 x.t, .slice A x.bs.length c].toArray 60)) := (Fr.refl S w).alloc _
  have HF := Lib.hid hfS
  have HR := Lib.hid hR
  have HD := Lib.hid hD
  have HO := Lib.hid hone
  have HO2 := Lib.hid hone2
  have HQ := Lib.hid hqe
  have HX := Lib.hid hxc
  have HXO := Lib.hid hxone
  have HP := Lib.hid hp
  have HL := Lib.hid hl
  have HI := Lib.hid hi
  clear h hfx hfS hR hD hone hone2 hqe hxc hxone hl ht hv hi
  go_enter Try.func29, Try.ntmps29
  go_wp2_with fail
  refine (there_in bn _ _ _ i w d0 hin).mono ?_
  rintro e w' ⟨rfl, rfl⟩
  go_wp2_with fail
  refine (there_in bn _ _ _ k _ d0 hk).mono ?_
  rintro e w' ⟨rfl, rfl⟩
  go_wp2_with fail
  rw [HP.out] at hb33 HR
  generalize hw1 : w.alloc (.cells [Value.int .i64 x.n, .int .i64 x.f, .int .i64 x.t, .slice A x.bs.length c].toArray 60) = w1 at *
  clear hw1
  have e0 := hb33.cell 0
  simp at e0
  have b0 := hbx.cell 0; have b1 := hbx.cell 1; have b2 := hbx.cell 2; have b3 := hbx.cell 3
  simp at b0 b1 b2 b3
  have hl1 := hb33.lt
  have hw1' : IntKind.i64.wrap ((i : Int) + 1) = (i : Int) + 1 := by rw [IntKind.wrap_i64]; omega
  go_region_law (first
    | (go_simp; go_at_call 39; refine (delete_any g p cap i L _ (by first | exact hbg | exact hbg.alloc _) HL.out HO.out hcp hip).mono ?_; rintro e w2 ⟨rfl, hb2, hf2⟩; have hx2 : Blk w2 w.heap.size 60 #[.int .i64 x.n, .int .i64 x.f, .int .i64 x.t, .slice A x.bs.length c] := (by first | exact hbx.drew.fr hf2 (fun e => hsz e) | exact (hbx.alloc _).drew.fr hf2 (fun e => hsz e)); have hn2 : Blk w2 bn 33 #[.slice (some ⟨g, 0, none⟩) (p + 1) cap, .int .i64 last] := (by first | exact hb33.drew.fr hf2 (fun e => hgb (Eq.symm e)) | exact (hb33.alloc _).drew.fr hf2 (fun e => hgb (Eq.symm e))); have hf12 : Fr (OneB g) w1 w2 := (by first | exact (Fr.refl (OneB g) w1).drew.trans hf2 (fun _ h _ => h) | exact ((Fr.refl (OneB g) w1).alloc _).drew.trans hf2 (fun _ h _ => h)); have q0 := hx2.cell 0; have q1 := hx2.cell 1; have q2 := hx2.cell 2; have q3 := hx2.cell 3; have l2 := hx2.lt; have l3 := hn2.lt; simp at q0 q1 q2 q3; try have hnb2 : Blk w2 w1.heap.size 60 #[.int .i64 x.n, .int .i64 x.f, .int .i64 x.t, .slice A x.bs.length c] := (Blk.new w1 60 #[.int .i64 x.n, .int .i64 x.f, .int .i64 x.t, .slice A x.bs.length c]).drew.fr hf2 (not_oneB_new hbg.lt))
    | (go_simp; go_at_call 41; refine (insert_any g p cap k _ (delCells L i p) (ps.eraseIdx i) x _ (by first | exact hb2 | exact hb2.alloc _) HD.out.2.2 HQ.out HD.out.2.1 HO2.out hcp hkp hp2 (by rw [HX.out]; first | exact hnb2 | exact Blk.new _ _ _) HXO.out (by first | exact Nat.ne_of_gt hb2.lt | exact Nat.ne_of_gt hbg.lt)).mono ?_; rintro e w3 ⟨rfl, L', hb3, hl3, ht3, hf3⟩; have hn3 : Blk w3 bn 33 #[.slice (some ⟨g, 0, none⟩) (p + 1) cap, .int .i64 last] := (by first | exact hn2.fr hf3 (fun e => hgb (Eq.symm e)) | exact (hn2.alloc _).fr hf3 (fun e => hgb (Eq.symm e))); have hf13 : Fr (OneB g) w1 w3 := (by first | exact hf12.trans hf3 (fun _ h _ => h) | exact (hf12.alloc _).trans hf3 (fun _ h _ => h)); have r0 := hn3.cell 0; have r1 := hn3.frozen 0; simp at r0))
  all_goals
    go_wp2
    go_ret
    have hE := move_end HR.out HI.out HP.out hcp hm hb3 hl3 ht3 hf13
    exact ⟨rfl, _, hE.1.more (fun k hk => hk.1), HF.out.trans (hE.2.mono (S' := S) (fun b hb hlt => (HR.out.netB b hb).1)) (fun b hb _ => hb)⟩
end Go.Proofs.Ytdfdmjnhekdpjaa
