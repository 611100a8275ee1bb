import Derived.Test.YtdfdmjnhekdpjaaT9
import Derived.Lib.Overlaps
namespace Go.Proofs.Ytdfdmjnhekdpjaa
set_option linter.unusedVariables false
set_option linter.unusedSimpArgs false
open Go.RowKit

theorem over_take (L : List Value) (o : Nat) (vs : List Value) (h : o + vs.length ≤ L.length) : (over L o vs).take (o + vs.length) = L.take o ++ vs := by
  unfold over
  rw [List.take_append_of_le_length (by simp; omega), List.take_of_length_le (by simp; omega)]

theorem over_more (X : List Value) (o : Nat) (vs : List Value) (m : Nat) (h : o ≤ X.length) : (over X o vs).take (o + vs.length + m) = X.take o ++ vs ++ (X.drop (o + vs.length)).take m := by
  have l : (X.take o ++ vs).length = o + vs.length := by simp; omega
  unfold over
  rw [List.take_append, List.take_of_length_le (by omega), l, Nat.add_sub_cancel_left]

/-- The row's cells behind an insertion of one element. -/
def insCells (L : List Value) (i p : Nat) (xs : List Value) : List Value := over (over L ((i + 1) * 4) ((L.drop (i * 4)).take ((p - i) * 4))) (i * 4) xs

theorem ins_take (L : List Value) (ps : List Pk) (x : Pk) (i p cap : Nat) (hL : L.length = cap * 4) (hp : ps.length = p) (hn : p + 1 ≤ cap) (hi : i ≤ p) (ht : L.take (p * 4) = flat ps) :
    (insCells L i p x.cells).take ((p + 1) * 4) = flat (ps.take i ++ x :: ps.drop i) ∧ (insCells L i p x.cells).length = cap * 4 ∧ (L.drop (i * 4)).take ((p - i) * 4) = flat (ps.drop i) := by
  have h1 : (L.drop (i * 4)).take ((p - i) * 4) = flat (ps.drop i) := by
    rw [← flat_drop, ← ht, List.drop_take]
    congr 1
    omega
  have hx : x.cells.length = 4 := rfl
  have hnl : (flat (ps.drop i)).length = (p - i) * 4 := by rw [flat_length, List.length_drop]; omega
  have l1 : (over L ((i + 1) * 4) (flat (ps.drop i))).length = cap * 4 := by rw [over_length _ _ _ (by rw [hnl]; omega), hL]
  have t1 : (over L ((i + 1) * 4) (flat (ps.drop i))).take ((p + 1) * 4) = L.take ((i + 1) * 4) ++ flat (ps.drop i) := by
    rw [show (p + 1) * 4 = (i + 1) * 4 + (flat (ps.drop i)).length by rw [hnl]; omega]
    exact over_take _ _ _ (by rw [hnl]; omega)
  refine ⟨?_, ?_, h1⟩
  · unfold insCells
    rw [h1]
    have hd : (over L ((i + 1) * 4) (flat (ps.drop i))).take (i * 4) = flat (ps.take i) := by
      have : (over L ((i + 1) * 4) (flat (ps.drop i))).take (i * 4) = ((over L ((i + 1) * 4) (flat (ps.drop i))).take ((p + 1) * 4)).take (i * 4) := by rw [List.take_take]; congr 1; omega
      rw [this, t1, List.take_append_of_le_length (by simp; omega), List.take_take, ← flat_take, ← ht, List.take_take]
      congr 1
      omega
    have he : ((over L ((i + 1) * 4) (flat (ps.drop i))).drop (i * 4 + 4)).take ((p - i) * 4) = flat (ps.drop i) := by
      have h2 : ((over L ((i + 1) * 4) (flat (ps.drop i))).take ((p + 1) * 4)).drop (i * 4 + 4) = flat (ps.drop i) := by
        rw [t1, show i * 4 + 4 = (L.take ((i + 1) * 4)).length by rw [List.length_take, hL]; omega, List.drop_left]
      rw [List.drop_take] at h2
      rw [show (p - i) * 4 = (p + 1) * 4 - (i * 4 + 4) by omega]
      exact h2
    rw [show (p + 1) * 4 = i * 4 + x.cells.length + (p - i) * 4 by rw [hx]; omega, over_more _ _ _ _ (by omega), hd, hx, he, flat_append, show flat (x :: ps.drop i) = x.cells ++ flat (ps.drop i) by simp [flat], List.append_assoc]
  · unfold insCells
    rw [h1, over_length _ _ _ (by rw [hx, l1]; omega), l1]

set_option maxRecDepth 100000 in
set_option maxHeartbeats 1000000 in
theorem insert_mid (g p cap i nb : Nat) (L xs : List Value) (w : World) (hb : Blk w g 60 L.toArray) (hL : L.length = cap * 4) (h1c : ∀ u ∈ (L.drop (i * 4)).take ((p - i) * 4), u.oneCell' = true) (hn : p + 1 ≤ cap) (hi : i < p) (hp : p < 1000)
    (hnb : Blk w nb 60 xs.toArray) (hx : xs.length = 4) (hx1 : ∀ u ∈ xs, u.oneCell' = true) (hne : nb ≠ g) :
    Calls Try.prog 41 #[.slice (some ⟨g, 0, none⟩) p cap, .int .i64 i, .slice (some ⟨nb, 0, none⟩) 1 1] w fun e w' => e = .returned (.slice (some ⟨g, 0, none⟩) (p + 1) cap) ∧ Blk w' g 60 (insCells L i p xs).toArray ∧ Fr (OneB g) w w' := by
  obtain ⟨news, hnews⟩ : ∃ news, news = (L.drop (i * 4)).take ((p - i) * 4) := ⟨_, rfl⟩
  have hlen : news.length = (p - i) * 4 := by rw [hnews, List.length_take, List.length_drop, hL]; omega
  have hsz : (Try.prog.info? 60).map (·.size) = some 4 := by
    obtain ⟨i0, hi0, h0, h1, h2⟩ := info_parts Try.info60
    rw [hi0]; simp [h1]
  have hov : ∀ lb cb, (callFunc 47 #[.slice (some ⟨nb, 0, none⟩) 1 1, .slice (some ⟨g, (i + 1) * 4, none⟩) lb cb]).run Try.prog w = .ok (.value (.bool false)) w := fun lb cb => by
    have hnb' := hnb
    have hb' := hb
    unfold Blk at hnb' hb'
    rw [run_callFunc_extern Try.func47 (by kernel_rfl) (by kernel_rfl) (by kernel_rfl) (e := Extern.SlicesOverlaps.overlaps #[31, 31] #[4]) (by kernel_rfl),
      Lib.run_overlaps_apart w 31 4 60 Try.underlying31 4 (fun _ => by kernel_rfl) ⟨nb, 0, none⟩ ⟨g, (i + 1) * 4, none⟩ 1 1 lb cb hne 60 60 xs.toArray.size L.toArray.size (by simp [World.shape?, hnb']) (by simp [World.shape?, hb']) (by simp only [List.size_toArray, hL]; omega) (hnb.frozen 0) (hnb.frozen _)]
    rfl
  have hc1 : ∀ ty dc sc, (Builtin.copy_ #[31, 31] ty #[.slice (some ⟨g, (i + 1) * 4, none⟩) (p - i) dc, .slice (some ⟨g, i * 4, none⟩) (p + 1 - i) sc]).run Try.prog w.drew = .ok (goInt ((p - i : Nat) : Int)) (w.drew.setCells g ((i + 1) * 4) news) := fun ty dc sc =>
    run_copy_n w.drew 31 31 ty 60 4 g ((i + 1) * 4) (p - i) dc ⟨g, i * 4, none⟩ (p + 1 - i) sc (p - i) news Try.underlying31 hsz (by simp only [Nat.min_def]; split <;> omega) hlen
      (fun j v hj => by
        rw [add_plain']
        have hjl : j < (p - i) * 4 := by rw [← hlen]; exact (List.getElem?_eq_some_iff.1 hj).1
        rw [hnews, List.getElem?_take, if_pos hjl, List.getElem?_drop] at hj
        exact hb.cells _ v hj)
      (fun j hj => by
        have hl : (i + 1) * 4 + j < L.length := by omega
        show (w.cell? ⟨g, (i + 1) * 4 + j, none⟩).isSome = true
        rw [hb.cells _ _ (List.getElem?_eq_getElem hl)]; rfl) (fun j hj => hb.frozen _) (fun v hv => h1c v (hnews ▸ hv))
  have hb1 := Blk.setCells (b := g) (t := 60) news ((i + 1) * 4) hb.drew (by rw [hlen]; omega)
  have hf1 := Fr.setCells (S := OneB g) g news ((i + 1) * 4) (fun _ => rfl) ((Fr.refl (OneB g) w).drew)
  have hl1 : (over L ((i + 1) * 4) news).length = cap * 4 := by rw [over_length _ _ _ (by rw [hlen]; omega), hL]
  have hnb1 : Blk (w.drew.setCells g ((i + 1) * 4) news) nb 60 xs.toArray := hnb.fr hf1 hne
  generalize w.drew.setCells g ((i + 1) * 4) news = w1 at *
  have hc2 : ∀ ty dc, (Builtin.copy_ #[31, 31] ty #[.slice (some ⟨g, i * 4, none⟩) (p + 1 - i) dc, .slice (some ⟨nb, 0, none⟩) 1 1]).run Try.prog w1 = .ok (goInt 1) (w1.setCells g (i * 4) xs) := fun ty dc =>
    run_copy_n w1 31 31 ty 60 4 g (i * 4) (p + 1 - i) dc ⟨nb, 0, none⟩ 1 1 1 xs Try.underlying31 hsz (by simp only [Nat.min_def]; split <;> omega) hx
      (fun j v hj => by rw [add_plain', Nat.zero_add]; exact hnb1.cells _ v hj)
      (fun j hj => by
        have hl : i * 4 + j < (over L ((i + 1) * 4) news).length := by omega
        rw [hb1.cells _ _ (List.getElem?_eq_getElem hl)]; rfl) (fun j hj => hb1.frozen _) hx1
  have hb2 := Blk.setCells (b := g) (t := 60) xs (i * 4) hb1 (by omega)
  have hf2 := Fr.setCells (S := OneB g) g xs (i * 4) (fun _ => rfl) hf1
  rw [hnews] at hb2
  have hz1 : ¬ ((1 : Int) = 0) := by omega
  have hz2 : ((i : Int) == (p : Int)) = false := by rw [beq_eq_false_iff_ne]; omega
  have hb1' : (0 : Int) ≤ (i : Int) + 1 := by omega
  have hin : i ≤ p := by omega
  have hb2' : ¬ (cap = i + 1) := by omega
  have hb3 : (i : Int) ≤ (p : Int) + 1 := by omega
  have hb4 : ¬ (cap = i) := by omega
  have hb5 : (p : Int) + 1 ≤ (cap : Int) := by omega
  have hb6 : i + 1 ≤ p + 1 := by omega
  have hb7 : (i : Int) + 1 ≤ (p : Int) + 1 := by omega
  have HL := Lib.hid hlen
  have HNW := Lib.hid hnews
  have HL1 := Lib.hid hl1
  clear hlen hnews hl1 hL hx
  go_enter Try.func41, Try.ntmps41
  go_wp2_with (simp only [hov])
  have hw1 : IntKind.i64.wrap ((i : Int) + 1) = (i : Int) + 1 := by rw [IntKind.wrap_i64]; omega
  have htn : ((i : Int) + 1).toNat = i + 1 := by omega
  go_region_law (refine step_copy_n rfl (.tmp 73) (.tmp 76) 31 31 rfl _ _ (by simp [Act.eval, Act.put]) (by simp [Act.eval, Act.put]) (hc1 _ _ _) ?_)
  go_wp2_with (with_reducible refine wpList_copy_n rfl (.tmp 80) (.tmp 81) 31 31 rfl _ _ rfl rfl (hc2 _ _) ?_)
  go_ret
  exact ⟨rfl, hb2, hf2⟩

set_option maxRecDepth 100000 in
set_option maxHeartbeats 1000000 in
theorem insert_end (g p cap nb : Nat) (L xs : List Value) (w : World) (hb : Blk w g 60 L.toArray) (hL : L.length = cap * 4) (hn : p + 1 ≤ cap)
    (hnb : Blk w nb 60 xs.toArray) (hx : xs.length = 4) (hx1 : ∀ u ∈ xs, u.oneCell' = true) :
    Calls Try.prog 41 #[.slice (some ⟨g, 0, none⟩) p cap, .int .i64 p, .slice (some ⟨nb, 0, none⟩) 1 1] w fun e w' => e = .returned (.slice (some ⟨g, 0, none⟩) (p + 1) cap) ∧ Blk w' g 60 (over L (p * 4) xs).toArray ∧ Fr (OneB g) w w' := by
  obtain ⟨i0, hi0, hz0, hz1, hz2⟩ := info_parts Try.info60
  have hb2 := Blk.setCells (b := g) (t := 60) xs (0 + p * 4) hb (by omega)
  have hf2 := Fr.setCells (S := OneB g) g xs (0 + p * 4) (fun _ => rfl) (Fr.refl (OneB g) w)
  rw [Nat.zero_add] at hb2
  have hsp : ∀ j, j < xs.length → (w.cell? ⟨g, 0 + p * 4 + j, none⟩).isSome = true := fun j hj => by
    have hl : 0 + p * 4 + j < L.length := by omega
    rw [hb.cells _ _ (List.getElem?_eq_getElem hl)]; rfl
  have hin : p ≤ cap := by omega
  have HX := Lib.hid hx
  clear hL hx
  go_enter Try.func41, Try.ntmps41
  go_wp2_with (at_builtin; refine wpList_app_room rfl (.tmp 23) (.tmp 24) 31 rfl 60 i0 4 Try.underlying31 hi0 hz1 g 0 p cap rfl ⟨nb, 0, none⟩ 1 1 rfl xs HX.out (fun j v hj => by rw [add_plain', Nat.zero_add]; exact hnb.cells _ v hj) hx1 hn hsp (fun j hj => hb.frozen _) ?_)
  go_ret
  exact ⟨rfl, by simpa using hb2, by simpa using hf2⟩

theorem insert_any (g p cap i nb : Nat) (L : List Value) (qs : List Pk) (x : Pk) (w : World) (hb : Blk w g 60 L.toArray) (hL : L.length = cap * 4) (hq : qs.length = p) (ht : L.take (p * 4) = flat qs) (h1c : ∀ u ∈ flat (qs.drop i), u.oneCell' = true) (hn : p + 1 ≤ cap) (hi : i ≤ p) (hp : p < 1000)
    (hnb : Blk w nb 60 x.cells.toArray) (hx1 : ∀ u ∈ x.cells, u.oneCell' = true) (hne : nb ≠ g) :
    Calls Try.prog 41 #[.slice (some ⟨g, 0, none⟩) p cap, .int .i64 i, .slice (some ⟨nb, 0, none⟩) 1 1] w fun e w' => e = .returned (.slice (some ⟨g, 0, none⟩) (p + 1) cap) ∧
      ∃ L' : List Value, Blk w' g 60 L'.toArray ∧ L'.length = cap * 4 ∧ L'.take ((p + 1) * 4) = flat (qs.take i ++ x :: qs.drop i) ∧ Fr (OneB g) w w' := by
  have hI := ins_take L qs x i p cap hL hq hn hi ht
  rcases Nat.lt_or_ge i p with hlt | hge
  · refine (insert_mid g p cap i nb L x.cells w hb hL (by rw [hI.2.2]; exact h1c) hn hlt hp hnb rfl hx1 hne).mono ?_
    rintro e w' ⟨rfl, hb', hf'⟩
    exact ⟨rfl, _, hb', hI.2.1, hI.1, hf'⟩
  · obtain rfl : i = p := by omega
    refine (insert_end g i cap nb L x.cells w hb hL hn hnb rfl hx1).mono ?_
    rintro e w' ⟨rfl, hb', hf'⟩
    have hx : x.cells.length = 4 := rfl
    refine ⟨rfl, _, hb', by rw [over_length _ _ _ (by rw [hx]; omega), hL], ?_, hf'⟩
    rw [show (i + 1) * 4 = i * 4 + x.cells.length by rw [hx]; omega, over_take _ _ _ (by rw [hx]; omega), ht, List.take_of_length_le (by omega), List.drop_eq_nil_of_le (by omega), flat_append]
    simp [flat]
end Go.Proofs.Ytdfdmjnhekdpjaa
