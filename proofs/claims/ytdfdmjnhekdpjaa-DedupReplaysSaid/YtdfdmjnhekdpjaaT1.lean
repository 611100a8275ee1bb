import Derived.Test.YtdfdmjnhekdpjaaRows
import Derived.Test.YtdfdmjnhekdpjaaMem
import Derived.Lib.SliceRun
namespace Go.Proofs.Ytdfdmjnhekdpjaa
set_option linter.unusedVariables false
set_option linter.unusedSimpArgs false
open Go.RowKit

theorem Try.info5 : (Try.prog.info? 5).map (fun i => (i.zero, i.size, i.bytes)) = some (some (.int .u8 0), 1, 1) := by kernel_rfl
theorem Try.info60 : (Try.prog.info? 60).map (fun i => (i.zero, i.size, i.bytes)) = some (some (.agg #[.int .i64 0, .int .i64 0, .int .i64 0, .slice none 0 0]), 4, 48) := by kernel_rfl
theorem Try.info63 : (Try.prog.info? 63).map (fun i => (i.zero, i.size, i.bytes)) = some (some (.agg #[.int .i64 0, .int .i64 0, .int .i64 0, .slice none 0 0]), 4, 48) := by kernel_rfl

set_option maxHeartbeats 400000 in
/-- slices.Clone at []byte: a row of its own with the same bytes. -/
theorem clone_any (ok : Nat → Prop) (A : Option Addr) (n c : Nat) (xs : List Value) (w : World) (hA : A = none → c = 0) (hr : Rd w ok 1 A n xs) (h1 : ∀ u ∈ xs, u.oneCell' = true) (hn : n ≤ 140737488355328) :
    Calls Try.prog 34 #[.slice A n c] w fun e w' => ∃ v, e = .returned v ∧ w'.ownsRow w.heap.size 5 1 v n xs ∧ Fr NoB w w' := by
  obtain ⟨i0, hi0, hz0, hz1, hz2⟩ := info_parts Try.info5
  rcases A with _ | a
  · obtain rfl := hA rfl
    have h0 : n = 0 := by
      rcases Nat.eq_zero_or_pos n with h | h
      · exact h
      · obtain ⟨b, o, h, _⟩ := hr.2 h
        cases h
    subst h0
    have hx : xs = [] := List.eq_nil_of_length_eq_zero (by simpa using hr.1)
    subst hx
    have hnil := fun (w : World) => Lib.run_eql_slice_nil (P := Try.prog) w 35 5 none 0 0 0 0 Try.underlying35
    go_enter Try.func34, Try.ntmps34
    go_wp2
    go_ret
    exact ⟨_, rfl, World.ownsRow_nil _ _ _ _, Fr.refl _ _⟩
  · have hnil := fun (w : World) => Lib.run_eql_slice_nil (P := Try.prog) w 35 5 (some a) n c 0 0 Try.underlying35
    go_enter Try.func34, Try.ntmps34
    go_wp2_with (at_builtin; refine wpList_app _ rfl (.tmp 5) (.tmp 6) 35 rfl w.heap.size 5 i0 _ 1 1 Try.underlying35 hi0 hz0 hz1 hz2 rfl (by omega) (.slice (some ⟨w.heap.size, 0, none⟩) 0 0) 0 [] rfl (own_len_zero _ (Nat.le_refl _) (Blk.new w 5 #[])) ok (some a) n c (fun h => by cases h) xs rfl (hr.fr ((Fr.refl NoB w).alloc _) (fun _ _ _ => id)) h1 (by simp only [maxLen]; omega) (by omega) (by simp) ?_; intro v1 w1 hown hg hat)
    go_ret
    exact ⟨v1, rfl, by simpa using hown, ((Fr.refl NoB w).alloc _).grown hg (fun k hk => by simp [Value.ownBlock] at hk; omega)⟩

set_option maxHeartbeats 400000 in
/-- net.copied: the packet, its bytes in memory of their own. -/
theorem copied_any (ok : Nat → Prop) (x y z : Int) (A : Option Addr) (n c : Nat) (xs : List Value) (w : World) (hA : A = none → c = 0) (hr : Rd w ok 1 A n xs) (h1 : ∀ u ∈ xs, u.oneCell' = true) (hn : n ≤ 140737488355328) :
    Calls Try.prog 31 #[.agg #[.int .i64 x, .int .i64 y, .int .i64 z, .slice A n c]] w fun e w' => ∃ v, e = .returned (.agg #[.int .i64 x, .int .i64 y, .int .i64 z, v]) ∧ w'.ownsRow w.heap.size 5 1 v n xs ∧ Fr NoB w w' := by
  go_enter Try.func31, Try.ntmps31
  go_wp2_with fail
  refine (clone_any ok A n c xs _ hA ((hr.fr ((Fr.refl NoB w).alloc _) (fun _ _ _ => id)).fr ((Fr.refl NoB _).alloc _) (fun _ _ _ => id)) h1 hn).mono ?_
  rintro e w1 ⟨v, rfl, hown, hf⟩
  have hb0 := (((Blk.new w 60 #[.int .i64 x, .int .i64 y, .int .i64 z, .slice A n c]).alloc (.cells #[.int .i64 0, .int .i64 0, .int .i64 0, .slice none 0 0] 60))).fr hf id
  have hb1 := ((Blk.new (w.alloc (.cells #[.int .i64 x, .int .i64 y, .int .i64 z, .slice A n c] 60)) 60 #[.int .i64 0, .int .i64 0, .int .i64 0, .slice none 0 0])).fr hf id
  obtain ⟨A', c', rfl, _⟩ := own_slice hown
  have hs : (w.alloc (.cells #[.int .i64 x, .int .i64 y, .int .i64 z, .slice A n c] 60)).heap.size = w.heap.size + 1 := by simp
  rw [hs] at hb1
  have f0 := hb0.frozen; have f1 := hb1.frozen
  have c0 := hb0.cell; have c1 := hb1.cell
  have a0 := c0 0; have a1 := c0 1; have a2 := c0 2; have a3 := c0 3
  have b0 := c1 0; have b1 := c1 1; have b2 := c1 2; have b3 := c1 3
  simp at a0 a1 a2 a3 b0 b1 b2 b3
  clear c0 c1 hs
  go_wp2
  have e1 : w.heap.size < w1.heap.size := hb0.lt
  refine bodyPost_ret (v := .agg #[.int .i64 x, .int .i64 y, .int .i64 z, .slice A' n c']) ?_ rfl ⟨_, rfl, ?_, ?_⟩
  · simp [results, Try.results31, go_sem, a0, a1, a2, a3, b0, b1, b2, b3]
  · have e2 : ((w.alloc (.cells #[.int .i64 x, .int .i64 y, .int .i64 z, .slice A n c] 60)).alloc (.cells #[.int .i64 0, .int .i64 0, .int .i64 0, .slice none 0 0] 60)).heap.size = w.heap.size + 2 := by simp
    rw [e2] at hown
    have q0 : w.heap.size < w.heap.size + 2 := by omega
    have q1 : w.heap.size + 1 < w.heap.size + 2 := by omega
    exact own_low (ownsRow_setCell_below (ownsRow_setCell_below (ownsRow_setCell_below (ownsRow_setCell_below (ownsRow_setCell_below hown q0 _) q1 _) q1 _) q1 _) q1 _) (by omega)
  · have hall : Fr NoB w w1 := (((Fr.refl NoB w).alloc _).alloc _).trans hf (fun _ h _ => h)
    exact ((((hall.setNew (Nat.le_refl _) _).setNew (Nat.le_succ _) _).setNew (Nat.le_succ _) _).setNew (Nat.le_succ _) _).setNew (Nat.le_succ _) _
end Go.Proofs.Ytdfdmjnhekdpjaa
