import Derived.Test.YtdfdmjnhekdpjaaT1
import Derived.Deep.RegionHeld3
import Derived.Deep.RegionLaw
namespace Go.Proofs.Ytdfdmjnhekdpjaa
set_option linter.unusedVariables false
set_option linter.unusedSimpArgs false
open Go.RowKit

def zero60 : List Value := [.int .i64 0, .int .i64 0, .int .i64 0, .slice none 0 0]
theorem zeroV60 (w : World) : (zeroValue 60).run Try.prog w = .ok (.agg #[.int .i64 0, .int .i64 0, .int .i64 0, .slice none 0 0]) w := by kernel_rfl
theorem zc60 : (Builtin.zeroCells (Value.agg #[.int .i64 0, .int .i64 0, .int .i64 0, .slice none 0 0]).cells 1).toList = zero60 := by kernel_rfl
theorem chop_one (L : List Value) (i p cap : Nat) (hL : L.length = cap * 4) (hn : p + 1 ≤ cap) : ((L.drop ((i + 1) * 4)).take ((p - i) * 4)).length = (p - i) * 4 := by
  simp
  omega
/-- The cells of a row behind slices.Delete of element i of p + 1. -/
def delCells (L : List Value) (i p : Nat) : List Value := over (over L (i * 4) ((L.drop ((i + 1) * 4)).take ((p - i) * 4))) (p * 4) zero60

set_option maxRecDepth 100000 in
set_option maxHeartbeats 1000000 in
theorem delete_any (bl p cap i : Nat) (L : List Value) (w : World) (hb : Blk w bl 60 L.toArray) (hL : L.length = cap * 4) (h1c : ∀ u ∈ (L.drop ((i + 1) * 4)).take ((p - i) * 4), u.oneCell' = true) (hn : p + 1 ≤ cap) (hi : i ≤ p) :
    Calls Try.prog 39 #[.slice (some ⟨bl, 0, none⟩) (p + 1) cap, .int .i64 i, .int .i64 ((i : Int) + 1)] w fun e w' => e = .returned (.slice (some ⟨bl, 0, none⟩) p cap) ∧ Blk w' bl 60 (delCells L i p).toArray ∧ Fr (OneB bl) w w' := by
  have h0 : ((i : Int) == (i : Int) + 1) = false := by rw [beq_eq_false_iff_ne]; omega
  have h1 : (i : Int) + 1 ≤ (p : Int) + 1 := by omega
  have h2 : i ≤ cap := by omega
  have h3 : i + 1 ≤ p + 1 := by omega
  have h4 : (0 : Int) ≤ (i : Int) + 1 := by omega
  obtain ⟨i0, hi0, hz0, hz1, hz2⟩ := info_parts Try.info60
  obtain ⟨news, hnews⟩ : ∃ news, news = (L.drop ((i + 1) * 4)).take ((p - i) * 4) := ⟨_, rfl⟩
  have hlen : Hid (news.length = (p - i) * 4) := by rw [hnews]; exact chop_one L i p cap hL hn
  have hone : Hid (∀ u ∈ news, u.oneCell' = true) := by intro u hu; rw [hnews] at hu; exact h1c u hu
  obtain ⟨A, hA, hsrc⟩ : ∃ A : Addr, (if cap = i + 1 then some (⟨bl, 0, none⟩ : Addr) else some ⟨bl, (i + 1) * 4, none⟩) = some A ∧ Hid (∀ t u, news[t]? = some u → w.drew.cell? (A.add t) = some u) := by
    by_cases h : cap = i + 1
    · refine ⟨⟨bl, 0, none⟩, by simp [h], fun t u hu => ?_⟩
      have h0 : news.length = 0 := by rw [hlen.out]; omega
      rw [List.length_eq_zero_iff.1 h0] at hu
      simp at hu
    · refine ⟨⟨bl, (i + 1) * 4, none⟩, by simp [h], fun t u hu => ?_⟩
      rw [add_plain']
      have ht : t < (p - i) * 4 := by
        have := (List.getElem?_eq_some_iff.1 hu).1
        rwa [hlen.out] at this
      rw [hnews, List.getElem?_take, if_pos ht, List.getElem?_drop] at hu
      exact hb.cells _ u hu
  have hroom : Hid (∀ t, t < news.length → (w.drew.cell? ⟨bl, 0 + i * 4 + t, none⟩).isSome = true ∧ w.drew.frozen? ⟨bl, 0 + i * 4 + t, none⟩ = false) := by
    intro t ht
    rw [hlen.out] at ht
    refine ⟨?_, hb.frozen _⟩
    have hl : 0 + i * 4 + t < L.length := by omega
    have := hb.cells _ _ (List.getElem?_eq_getElem hl)
    show (w.cell? ⟨bl, 0 + i * 4 + t, none⟩).isSome = true
    rw [this]
    rfl
  have hf1 := Fr.setCells (S := OneB bl) bl news (i * 4) (fun _ => rfl) ((Fr.refl (OneB bl) w).drew)
  have hb1 := Blk.setCells (b := bl) (t := 60) news (i * 4) hb.drew (by rw [hlen.out]; omega)
  have hl1 : (over L (i * 4) news).length = cap * 4 := by rw [over_length _ _ _ (by rw [hlen.out]; omega), hL]
  generalize hw1 : w.drew.setCells bl (i * 4) news = w1 at *
  rw [hnews] at hb1 hl1
  have hcl : ∀ ty, (Builtin.clear_ #[31] ty #[.slice (some ⟨bl, p * 4, none⟩) 1 (cap - p)]).run Try.prog w1 = .ok (.tuple #[]) (w1.setCells bl (p * 4) zero60) := fun ty =>
    run_clear_one w1 31 60 ty _ zero60 Try.underlying31 zeroV60 zc60 (by simp [zero60, Value.oneCell']) bl (p * 4) _ (fun j hj => by
      have hj' : j < 4 := hj
      rw [hb1.cells _ _ (List.getElem?_eq_getElem (by omega))]; rfl) (fun j hj => hb1.frozen _)
  have hf2 := Fr.setCells (S := OneB bl) bl zero60 (p * 4) (fun _ => rfl) hf1
  have hb2 := Blk.setCells (b := bl) (t := 60) zero60 (p * 4) hb1 (by rw [hl1]; simp only [zero60, List.length_cons, List.length_nil]; omega)
  have HW1 := Lib.hid hw1
  have HN := Lib.hid hnews
  have hcp : ¬ cap = p := by omega
  have hpc : p ≤ cap := by omega
  have hm1 : p + 1 - p = 1 := by omega
  clear hw1 hnews
  go_enter Try.func39, Try.ntmps39
  go_wp2_with fail
  go_region_law (refine step_append_room rfl (.tmp 22) (.tmp 25) 31 rfl 60 i0 4 Try.underlying31 hi0 hz1 bl 0 i cap (by simp [Act.eval, Act.put]) A (p - i) (cap - (i + 1)) news (by simp [Act.eval, Act.put]) hlen.out (by exact hsrc.out) hone.out (by omega) (by exact hroom.out) ?_)
  rw [HW1.out]
  go_wp2_with fail
  go_ret
  exact ⟨rfl, hb2, hf2⟩
end Go.Proofs.Ytdfdmjnhekdpjaa
