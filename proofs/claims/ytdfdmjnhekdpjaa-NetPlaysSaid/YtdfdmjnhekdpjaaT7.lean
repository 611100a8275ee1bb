import Derived.Test.YtdfdmjnhekdpjaaT6
namespace Go.Proofs.Ytdfdmjnhekdpjaa
set_option linter.unusedVariables false
set_option linter.unusedSimpArgs false
open Go.RowKit

set_option maxRecDepth 100000 in
set_option maxHeartbeats 1000000 in
theorem deliver_in (S : Nat → Prop) (bn : Nat) (line : Value) (ps : List Pk) (last : Int) (i : Nat) (p : Pk) (w : World) (h : RNet w S bn line ps last) (hi : ps[i]? = some p) :
    Calls Try.prog 25 #[.pointer (some ⟨bn, 0, none⟩), .int .i64 i] w fun e w' => ∃ v line', e = .returned (.tuple #[.agg #[.int .i64 p.n, .int .i64 p.f, .int .i64 p.t, v], .bool true]) ∧
      w'.ownsRow w.heap.size 5 1 v p.bs.length p.bs ∧ RNet w' S bn line' (ps.eraseIdx i) last ∧ Fr (NetB bn line) w w' := by
  have hin := (List.getElem?_eq_some_iff.1 hi).1
  have hpm := List.mem_of_getElem? hi
  obtain ⟨g, cap, L, rfl, hb, hL, hc, hm, ht, hgb, c0, c1, c2, c3⟩ := h.at_ hi
  obtain ⟨A, c, hv, hA, hrd⟩ := h.rd hpm
  have hx := (h.pk p hpm).2
  have h1 : ∀ u ∈ p.bs, u.oneCell' = true := fun u hu => by obtain ⟨k, rfl⟩ := hx.1 u hu; rfl
  have hn : p.bs.length ≤ 140737488355328 := Nat.le_trans hx.2 (by omega)
  rw [hv] at c3
  have d0 := h.blk.cell 0
  simp at d0
  have hgl := hb.lt
  have hbl := h.blk.lt
  have hii : (i : Int) < (ps.length : Int) := by omega
  have hi0 : (0 : Int) ≤ (i : Int) := by omega
  have H := Lib.hid h.tight
  have HA := Lib.hid hA
  clear h hA hL ht hv hi hx
  go_enter Try.func25, Try.ntmps25
  go_wp2_with fail
  refine (there_in bn _ ps.length cap i _ (by rw [World.cell?_alloc_past _ _ _ hbl]; exact d0) hin).mono ?_
  rintro e w' ⟨rfl, rfl⟩
  go_wp2_with fail
  refine (copied_any (fun k => p.v.ownBlock = some k) p.n p.f p.t A p.bs.length c p.bs _ HA.out (hrd.fr ((Fr.refl NoB w).alloc _) (fun _ _ _ => id)) h1 hn).mono ?_
  rintro e w1 ⟨v, rfl, hown1, hf1⟩
  obtain ⟨A', c', rfl, _⟩ := own_slice hown1
  have hz1 : w.heap.size + 1 ≤ w1.heap.size := by have := hf1.size; simp at this; omega
  have hfa : Fr NoB w w1 := ((Fr.refl NoB w).alloc _).trans hf1 (fun b hb _ => hb)
  have hk0 := (Blk.new w 60 #[.int .i64 0, .int .i64 0, .int .i64 0, .slice none 0 0]).fr hf1 id
  have hR2 := (H.out.far hfa (fun _ _ _ => id)).far ((Fr.refl NoB w1).alloc (.cells #[.int .i64 p.n, .int .i64 p.f, .int .i64 p.t, .slice A' p.bs.length c'] 60)) (fun _ _ _ => id)
  go_wp2_with fail
  refine (drop_in (fun k => S k ∧ k < w.heap.size) bn _ ps last i _ hR2 hin).mono ?_
  rintro e w2 ⟨rfl, line', hR3, hf3⟩
  have hng : ∀ k, w.heap.size ≤ k → ¬ NetB bn (.slice (some ⟨g, 0, none⟩) ps.length cap) k := by
    rintro k hk (rfl | e)
    · omega
    · have : g = k := by simpa [Value.ownBlock] using e
      omega
  have hk2 := (hk0.alloc (.cells #[.int .i64 p.n, .int .i64 p.f, .int .i64 p.t, .slice A' p.bs.length c'] 60)).fr hf3 (hng _ (Nat.le_refl _))
  have hk3 := (Blk.new w1 60 #[.int .i64 p.n, .int .i64 p.f, .int .i64 p.t, .slice A' p.bs.length c']).fr hf3 (hng _ (by omega))
  have f2 := hk2.frozen
  have a0 := hk2.cell 0; have a1 := hk2.cell 1; have a2 := hk2.cell 2; have a3 := hk2.cell 3
  have b0 := hk3.cell 0; have b1 := hk3.cell 1; have b2 := hk3.cell 2; have b3 := hk3.cell 3
  simp at a0 a1 a2 a3 b0 b1 b2 b3
  go_wp2
  refine bodyPost_ret (v := .tuple #[.agg #[.int .i64 p.n, .int .i64 p.f, .int .i64 p.t, .slice A' p.bs.length c'], .bool true]) ?_ rfl ⟨_, line', rfl, ?_, ?_, ?_⟩
  · simp [results, Try.results25, go_sem, a0, a1, a2, a3]
  · have e2 : (w.alloc (.cells #[.int .i64 0, .int .i64 0, .int .i64 0, .slice none 0 0] 60)).heap.size = w.heap.size + 1 := by simp
    rw [e2] at hown1
    have hown2 := own_fr (hown1.alloc (.cells #[.int .i64 p.n, .int .i64 p.f, .int .i64 p.t, .slice A' p.bs.length c'] 60)) hf3 (fun k hk => hng k (by have := (hown1.lt k hk).1; omega))
    have q0 : w.heap.size < w.heap.size + 1 := by omega
    exact own_low (ownsRow_setCell_below (ownsRow_setCell_below (ownsRow_setCell_below (ownsRow_setCell_below hown2 q0 _) q0 _) q0 _) q0 _) (by omega)
  · have hff := ((((Fr.refl (OneB w.heap.size) w2).setCell (p := ⟨w.heap.size, 0, none⟩) (fun _ => rfl) (.int .i64 p.n)).setCell (p := ⟨w.heap.size, 1, none⟩) (fun _ => rfl) (.int .i64 p.f)).setCell (p := ⟨w.heap.size, 2, none⟩) (fun _ => rfl) (.int .i64 p.t)).setCell (p := ⟨w.heap.size, 3, none⟩) (fun _ => rfl) (.slice A' p.bs.length c')
    exact (hR3.far hff (fun k hk _ e => by have := hk.2; rw [show k = w.heap.size from e] at this; omega)).more (fun k hk => hk.1)
  · have hfb := (((hfa.mono (S' := NetB bn (.slice (some ⟨g, 0, none⟩) ps.length cap)) (fun b hb _ => hb.elim)).alloc (.cells #[.int .i64 p.n, .int .i64 p.f, .int .i64 p.t, .slice A' p.bs.length c'] 60)).trans hf3 (fun b hb _ => hb))
    exact (((hfb.setNew (Nat.le_refl _) _).setNew (Nat.le_refl _) _).setNew (Nat.le_refl _) _).setNew (Nat.le_refl _) _

set_option maxHeartbeats 400000 in
theorem deliver_out (bn : Nat) (A : Option Addr) (n c : Nat) (a : Int) (w : World) (h0 : w.cell? ⟨bn, 0, none⟩ = some (.slice A n c)) (ha : a < 0 ∨ (n : Int) ≤ a) (hb : bn < w.heap.size) :
    Calls Try.prog 25 #[.pointer (some ⟨bn, 0, none⟩), .int .i64 a] w fun e w' => e = .returned (.tuple #[.agg #[.int .i64 0, .int .i64 0, .int .i64 0, .slice none 0 0], .bool false]) ∧ Fr NoB w w' := by
  go_enter Try.func25, Try.ntmps25
  go_wp2_with fail
  refine (there_out bn A n c a _ (by rw [World.cell?_alloc_past _ _ _ hb]; exact h0) ha).mono ?_
  rintro e w' ⟨rfl, rfl⟩
  go_wp2
  refine bodyPost_ret (v := .tuple #[.agg #[.int .i64 0, .int .i64 0, .int .i64 0, .slice none 0 0], .bool false]) ?_ rfl ⟨rfl, ?_⟩
  · simp [results, Try.results25, go_sem]
  · exact (Fr.refl NoB w).alloc _
end Go.Proofs.Ytdfdmjnhekdpjaa
