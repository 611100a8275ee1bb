import Derived.Test.YtdfdmjnhekdpjaaMem
import Derived.Test.YtdfdmjnhekdpjaaWMore
namespace Go.Proofs.Ytdfdmjnhekdpjaa
set_option linter.unusedVariables false
set_option linter.unusedSimpArgs false
open Go.RowKit Go.Proofs.YtdfdmjnhekdpjaaW.PrintWords Go.Proofs.YtdfdmjnhekdpjaaW.PrintMore

/-- The bytes' numbers. -/
def num8 : Value → Int
  | .int _ k => k
  | _ => 0
theorem C_of_rd {ok : Nat → Prop} {w : World} {A : Option Addr} {n : Nat} {bs : List Value} (h : Rd w ok 1 A n bs) (h8 : ∀ u ∈ bs, ∃ k : Int, u = .int .u8 k) (hn : n ≤ 9223372036854775807) : (Kd.int .u8).C w A n (bs.map num8) := by
  refine ⟨by rw [List.length_map]; simpa using h.1, hn, fun h0 => ?_⟩
  obtain ⟨b, o, e, _, _, hc⟩ := h.2 h0
  refine ⟨_, e, fun j p hj => ?_⟩
  rw [List.getElem?_map] at hj
  obtain ⟨u, hu, rfl⟩ := Option.map_eq_some_iff.1 hj
  obtain ⟨k, rfl⟩ := h8 u (List.mem_of_getElem? hu)
  refine ⟨[.int .u8 k], rfl, rfl, fun i v hv => ?_⟩
  rcases i with _ | i
  · have : v = .int .u8 k := by simpa using hv.symm
    subst this
    rw [add_plain']
    simpa [Kd.int, Kd.scalar] using hc j _ hu
  · simp at hv

theorem rd_of_C {w : World} {A : Option Addr} {n : Nat} {xs : List Int} (h : (Kd.int .u8).C w A n xs) : Rd w (fun k => k < w.heap.size) 1 A n (xs.map (Value.int .u8)) := by
  obtain ⟨h1, h2, h3⟩ := h
  refine ⟨by rw [List.length_map, h1]; omega, fun h0 => ?_⟩
  obtain ⟨⟨b, o, s⟩, e, hc⟩ := h3 h0
  have hs : s = none := by
    obtain ⟨x, hx⟩ : ∃ x, xs[0]? = some x := ⟨_, List.getElem?_eq_getElem (by omega)⟩
    obtain ⟨c, _, hK, hcc⟩ := hc 0 x hx
    have hK : c = [.int .u8 x] := hK
    subst hK
    have := hcc 0 _ rfl
    simp only [Nat.zero_mul, Nat.add_zero, Addr.add, if_pos] at this
    unfold World.cell? at this
    split at this
    · cases s with
      | none => rfl
      | some s => simp at this
    · cases this
  subst hs
  have hcell : ∀ j u, (xs.map (Value.int .u8))[j]? = some u → w.cell? ⟨b, o + j, none⟩ = some u := by
    intro j u hu
    rw [List.getElem?_map] at hu
    obtain ⟨k, hk, rfl⟩ := Option.map_eq_some_iff.1 hu
    obtain ⟨c, _, hK, hcc⟩ := hc j k hk
    have hK : c = [.int .u8 k] := hK
    subst hK
    have := hcc 0 _ rfl
    rw [add_plain'] at this
    simpa [Kd.int, Kd.scalar] using this
  obtain ⟨u, hu⟩ : ∃ u, (xs.map (Value.int .u8))[0]? = some u := ⟨_, List.getElem?_eq_getElem (by rw [List.length_map]; omega)⟩
  have hl := World.block_lt_of_cell? w _ (hcell 0 u hu)
  exact ⟨b, o, e, hl, hl, hcell⟩

end Go.Proofs.Ytdfdmjnhekdpjaa
