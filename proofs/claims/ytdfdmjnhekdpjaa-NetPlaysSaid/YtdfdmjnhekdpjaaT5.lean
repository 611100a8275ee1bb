import Derived.Test.YtdfdmjnhekdpjaaT4
namespace Go.Proofs.Ytdfdmjnhekdpjaa
set_option linter.unusedVariables false
set_option linter.unusedSimpArgs false
open Go.RowKit

theorem RNet.re {w w' : World} {S : Nat → Prop} {bn : Nat} {line line' : Value} {ps ps' : List Pk} {last last' : Int} (h : RNet w S bn line ps last) (hf : Fr (NetB bn line) w w') (hb : Blk w' bn 33 #[line', .int .i64 last'])
    (ho : w'.ownsRow 0 60 4 line' ps'.length (flat ps')) (hs : line'.ownBlock = line.ownBlock) (hsub : ∀ p ∈ ps', p ∈ ps) (hn : (ps'.filterMap (fun p => p.v.ownBlock)).Nodup) (hl : ps'.length ≤ 200) : RNet w' S bn line' ps' last' :=
  ⟨hb, ho, fun p hp => h.pk_keep hf p (hsub p hp), h.sb, fun k hk => h.sl k (hs ▸ hk), fun p hp => h.sp p (hsub p hp), hn, hl⟩

/-- The packet at place i, and its cells in the line's block. -/
theorem RNet.at_ {w : World} {S : Nat → Prop} {bn : Nat} {line : Value} {ps : List Pk} {last : Int} (h : RNet w S bn line ps last) {i : Nat} {p : Pk} (hp : ps[i]? = some p) :
    ∃ g cap L, line = .slice (some ⟨g, 0, none⟩) ps.length cap ∧ Blk w g 60 (List.toArray L) ∧ L.length = cap * 4 ∧ ps.length ≤ cap ∧ cap ≤ maxLen ∧ L.take (ps.length * 4) = flat ps ∧ g ≠ bn ∧
      w.cell? ⟨g, i * 4, none⟩ = some (.int .i64 p.n) ∧ w.cell? ⟨g, i * 4 + 1, none⟩ = some (.int .i64 p.f) ∧ w.cell? ⟨g, i * 4 + 2, none⟩ = some (.int .i64 p.t) ∧ w.cell? ⟨g, i * 4 + 3, none⟩ = some p.v := by
  have hi := (List.getElem?_eq_some_iff.1 hp).1
  obtain ⟨g, cap, L, rfl, _, hb, hl, hc, hm, ht⟩ := own_open h.own (by omega)
  obtain ⟨c0, c1, c2, c3⟩ := flat_get hp
  have hg : ∀ k u, (flat ps)[k]? = some u → w.cell? ⟨g, k, none⟩ = some u := fun k u hu => by
    refine hb.cells k u ?_
    rw [← ht, List.getElem?_take] at hu
    split at hu
    · exact hu
    · cases hu
  exact ⟨g, cap, L, rfl, hb, hl, hc, hm, ht, hb.ne_ h.blk (by decide), hg _ _ c0, hg _ _ c1, hg _ _ c2, hg _ _ c3⟩

theorem flat_one {w : World} {S : Nat → Prop} {bn : Nat} {line : Value} {ps : List Pk} {last : Int} (h : RNet w S bn line ps last) (qs : List Pk) (hq : ∀ p ∈ qs, p ∈ ps) : ∀ u ∈ flat qs, u.oneCell' = true := by
  intro u hu
  obtain ⟨p, hp, hu⟩ := List.mem_flatMap.1 hu
  obtain ⟨A, c, hv, _⟩ := own_slice (h.pk p (hq p hp)).1
  simp only [Pk.cells, List.mem_cons, List.not_mem_nil, or_false] at hu
  rcases hu with rfl | rfl | rfl | rfl
  · rfl
  · rfl
  · rfl
  · rw [hv]; rfl

theorem erase_ap {w : World} {S : Nat → Prop} {bn : Nat} {line : Value} {ps : List Pk} {last : Int} (h : RNet w S bn line ps last) (i : Nat) : ((ps.eraseIdx i).filterMap (fun p => p.v.ownBlock)).Nodup :=
  ((List.eraseIdx_sublist ps i).filterMap _).nodup h.ap

/-- slices.Delete of the line, stored back. -/
theorem delete_end {w w1 : World} {S : Nat → Prop} {bn g cap i p : Nat} {ps : List Pk} {last : Int} {L : List Value} (h : RNet w S bn (.slice (some ⟨g, 0, none⟩) ps.length cap) ps last)
    (hl : L.length = cap * 4) (hc : p + 1 ≤ cap) (hm : cap ≤ maxLen) (ht : L.take ((p + 1) * 4) = flat ps) (hp : ps.length = p + 1) (hi : i ≤ p)
    (hb1 : Blk w1 g 60 (delCells L i p).toArray) (hf1 : Fr (OneB g) w w1) :
    RNet (w1.setCell ⟨bn, 0, none⟩ (.slice (some ⟨g, 0, none⟩) p cap)) S bn (.slice (some ⟨g, 0, none⟩) p cap) (ps.eraseIdx i) last ∧ Fr (NetB bn (.slice (some ⟨g, 0, none⟩) ps.length cap)) w (w1.setCell ⟨bn, 0, none⟩ (.slice (some ⟨g, 0, none⟩) p cap)) := by
  have hgb : g ≠ bn := fun e => own_blk_ne h.own h.blk (by decide) (by rw [← e]; rfl)
  obtain ⟨_, d2, d3⟩ := del_take L ps i p cap hl hp hc hi ht
  have hf2 : Fr (NetB bn (.slice (some ⟨g, 0, none⟩) ps.length cap)) w (w1.setCell ⟨bn, 0, none⟩ (.slice (some ⟨g, 0, none⟩) p cap)) :=
    (hf1.mono (fun b e _ => .inr (by rw [show b = g from e]; rfl))).setCell (p := ⟨bn, 0, none⟩) (fun _ => .inl rfl) _
  have hlen : (ps.eraseIdx i).length = p := by rw [List.length_eraseIdx, if_pos (by omega)]; omega
  have hb2 := (h.blk.fr hf1 (fun e => hgb e.symm)).set_ 0 (.slice (some ⟨g, 0, none⟩) p cap)
  refine ⟨h.re hf2 hb2 ?_ rfl (fun q hq => (List.eraseIdx_sublist ps i).subset hq) (erase_ap h i) (by have := h.few; omega), hf2⟩
  rw [hlen]
  exact own_mk (hb1.far (p := ⟨bn, 0, none⟩) hgb _) d3 (by omega) hm (by rw [d2]) (Nat.zero_le _)

set_option maxRecDepth 100000 in
set_option maxHeartbeats 1000000 in
theorem drop_in (S : Nat → Prop) (bn : Nat) (line : Value) (ps : List Pk) (last : Int) (i : Nat) (w : World) (h : RNet w S bn line ps last) (hi : i < ps.length) :
    Calls Try.prog 21 #[.pointer (some ⟨bn, 0, none⟩), .int .i64 i] w fun e w' => e = .returned (.bool true) ∧ ∃ line', RNet w' S bn line' (ps.eraseIdx i) last ∧ Fr (NetB bn line) w w' := by
  obtain ⟨p, hp⟩ : ∃ p, ps.length = p + 1 := ⟨ps.length - 1, by omega⟩
  obtain ⟨g, cap, L, rfl, hb, hl, hc, hm, ht, hgb, _⟩ := h.at_ (List.getElem?_eq_getElem hi)
  have H := Lib.hid h
  have hbb := h.blk
  clear h
  have c0 := hbb.cell 0
  have f0 := hbb.frozen 0
  simp at c0
  rw [hp] at hc ht c0 hi
  have hip : i ≤ p := by omega
  have HP := Lib.hid hp
  have hsm : i < 200 := by have := H.out.few; omega
  have hone := flat_one H.out (ps.drop (i + 1)) (fun q hq => List.mem_of_mem_drop hq)
  rw [← (del_take L ps i p cap hl hp hc hip ht).1] at hone
  have HO := Lib.hid hone
  have HT := Lib.hid ht
  have HL := Lib.hid hl
  clear hp hone ht hl
  go_enter Try.func21, Try.ntmps21
  go_wp2_with fail
  refine (there_in bn _ _ _ i w c0 hi).mono ?_
  rintro e w' ⟨rfl, rfl⟩
  go_wp2_with fail
  refine (delete_any g p cap i L _ hb HL.out HO.out hc hip).mono ?_
  rintro e w1 ⟨rfl, hb1, hf1⟩
  have k0 := hf1.cell_some (p := ⟨bn, 0, none⟩) c0 (fun e => hgb (Eq.symm e))
  have k1 := (hbb.fr hf1 (fun e => hgb (Eq.symm e))).frozen 0
  go_wp2
  go_ret
  have hE := delete_end H.out HL.out hc hm HT.out HP.out hip hb1 hf1
  exact ⟨rfl, _, hE.1, hE.2⟩

set_option maxHeartbeats 400000 in
theorem drop_out (bn : Nat) (A : Option Addr) (n c : Nat) (a : Int) (w : World) (h0 : w.cell? ⟨bn, 0, none⟩ = some (.slice A n c)) (ha : a < 0 ∨ (n : Int) ≤ a) :
    Calls Try.prog 21 #[.pointer (some ⟨bn, 0, none⟩), .int .i64 a] w fun e w' => e = .returned (.bool false) ∧ w = w' := by
  go_enter Try.func21, Try.ntmps21
  go_wp2_with (go_at_call 38; refine (there_out _ _ _ _ _ _ h0 ha).mono ?_; rintro e w' ⟨rfl, rfl⟩)
  go_ret
  exact ⟨rfl, rfl⟩
end Go.Proofs.Ytdfdmjnhekdpjaa
