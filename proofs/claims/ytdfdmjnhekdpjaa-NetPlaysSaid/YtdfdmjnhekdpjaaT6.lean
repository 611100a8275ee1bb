import Derived.Test.YtdfdmjnhekdpjaaT5
namespace Go.Proofs.Ytdfdmjnhekdpjaa
set_option linter.unusedVariables false
set_option linter.unusedSimpArgs false
open Go.RowKit

theorem RNet.far {w w' : World} {S T : Nat → Prop} {bn : Nat} {line : Value} {ps : List Pk} {last : Int} (h : RNet w S bn line ps last) (hf : Fr T w w') (hd : ∀ k, S k → k < w.heap.size → ¬ T k) : RNet w' S bn line ps last :=
  ⟨h.blk.fr hf (hd bn h.sb h.blk.lt), own_fr h.own hf (fun k hk => hd k (h.sl k hk) (h.own.lt k hk).2), fun p hp => ⟨own_fr (h.pk p hp).1 hf (fun k hk => hd k (h.sp p hp k hk) (h.pk_lt hp k hk)), (h.pk p hp).2⟩, h.sb, h.sl, h.sp, h.ap, h.few⟩
theorem RNet.more {w : World} {S S' : Nat → Prop} {bn : Nat} {line : Value} {ps : List Pk} {last : Int} (h : RNet w S bn line ps last) (hs : ∀ k, S k → S' k) : RNet w S' bn line ps last :=
  ⟨h.blk, h.own, h.pk, hs _ h.sb, fun k hk => hs _ (h.sl k hk), fun p hp k hk => hs _ (h.sp p hp k hk), h.ap, h.few⟩

theorem RNet.tight {w : World} {S : Nat → Prop} {bn : Nat} {line : Value} {ps : List Pk} {last : Int} (h : RNet w S bn line ps last) : RNet w (fun k => S k ∧ k < w.heap.size) bn line ps last :=
  ⟨h.blk, h.own, h.pk, ⟨h.sb, h.blk.lt⟩, fun k hk => ⟨h.sl k hk, (h.own.lt k hk).2⟩, fun p hp k hk => ⟨h.sp p hp k hk, h.pk_lt hp k hk⟩, h.ap, h.few⟩

set_option maxHeartbeats 400000 in
theorem send_full (bn : Nat) (A : Option Addr) (n c : Nat) (x y : Value) (v : Value) (w : World) (h0 : w.cell? ⟨bn, 0, none⟩ = some (.slice A n c)) (hn : 200 ≤ n) :
    Calls Try.prog 19 #[.pointer (some ⟨bn, 0, none⟩), x, y, v] w fun e w' => e = .returned (.tuple #[.int .i64 0, .int .i64 14]) ∧ w = w' := by
  have hlenI : (200 : Int) ≤ (n : Int) := by omega
  go_enter Try.func19, Try.ntmps19
  go_wp2
  go_ret2
  exact ⟨rfl, rfl⟩

/-- The packet's bytes, as they are read. -/
theorem RNet.rd {w : World} {S : Nat → Prop} {bn : Nat} {line : Value} {ps : List Pk} {last : Int} (h : RNet w S bn line ps last) {p : Pk} (hp : p ∈ ps) :
    ∃ A c, p.v = .slice A p.bs.length c ∧ (A = none → c = 0) ∧ Rd w (fun k => p.v.ownBlock = some k) 1 A p.bs.length p.bs := by
  obtain ⟨A, c, hv, _, _, h0, _⟩ := own_slice (h.pk p hp).1
  refine ⟨A, c, hv, h0, ?_⟩
  have ho := (h.pk p hp).1
  rw [hv] at ho
  exact Rd.of_own ho (fun k hk => by rw [hv]; exact hk)

set_option maxRecDepth 100000 in
set_option maxHeartbeats 1000000 in
theorem double_in (S : Nat → Prop) (bn : Nat) (line : Value) (ps : List Pk) (last : Int) (i : Nat) (p : Pk) (w : World) (h : RNet w S bn line ps last) (hi : ps[i]? = some p) (hl : 0 ≤ last ∧ last < 1000000) (hlen : ps.length < 200) :
    Calls Try.prog 23 #[.pointer (some ⟨bn, 0, none⟩), .int .i64 i] w fun e w' => e = .returned (.tuple #[.int .i64 (last + 1), .int .i64 0]) ∧
      ∃ line' v, RNet w' (fun k => S k ∨ w.heap.size ≤ k) bn line' (ps ++ [⟨last + 1, p.f, p.t, p.bs, v⟩]) (last + 1) ∧ Fr S w w' := by
  have hin := (List.getElem?_eq_some_iff.1 hi).1
  have hpm := List.mem_of_getElem? hi
  obtain ⟨g, cap, L, rfl, hb, hL, hc, hm, ht, hgb, c0, c1, c2, c3⟩ := h.at_ hi
  obtain ⟨A, c, hv, hA, hrd⟩ := h.rd hpm
  have hx := (h.pk p hpm).2
  have hbv : p.v.ownBlock ≠ some bn := own_blk_ne (h.pk p hpm).1 h.blk (by decide)
  rw [hv] at c3
  have d0 := h.blk.cell 0
  simp at d0
  have hgl := hb.lt
  have hbl := h.blk.lt
  have hii : (i : Int) < (ps.length : Int) := by omega
  have hi0 : (0 : Int) ≤ (i : Int) := by omega
  have hR := h.far ((Fr.refl NoB w).alloc (.cells #[.int .i64 p.n, .int .i64 p.f, .int .i64 p.t, .slice A p.bs.length c] 60)) (fun _ _ _ => id)
  have H := Lib.hid hR
  have HA := Lib.hid hA
  have HL := Lib.hid hL
  have HT := Lib.hid ht
  have HV := Lib.hid hv
  have HI := Lib.hid hi
  clear h hA hL ht hv hi hR
  go_enter Try.func23, Try.ntmps23
  go_wp2_with fail
  refine (there_in bn _ _ _ i w d0 hin).mono ?_
  rintro e w' ⟨rfl, rfl⟩
  go_wp2_with fail
  refine (send_any S bn _ ps last p.f p.t (fun k => p.v.ownBlock = some k) A p.bs.length c p.bs _ H.out hl HA.out (hrd.fr ((Fr.refl NoB w).alloc _) (fun _ _ _ => id)) hbv hx.1 hx.2 hlen).mono ?_
  rintro e w2 ⟨rfl, line', v, hR2, hf2⟩
  go_wp2
  go_ret2
  refine ⟨rfl, line', v, hR2.more (fun k hk => hk.imp id (fun hk => by simp at hk; omega)), ((Fr.refl S w).alloc _).trans hf2 (fun b hb _ => hb)⟩

set_option maxHeartbeats 400000 in
theorem double_out (bn : Nat) (A : Option Addr) (n c : Nat) (a : Int) (w : World) (h0 : w.cell? ⟨bn, 0, none⟩ = some (.slice A n c)) (ha : a < 0 ∨ (n : Int) ≤ a) :
    Calls Try.prog 23 #[.pointer (some ⟨bn, 0, none⟩), .int .i64 a] w fun e w' => e = .returned (.tuple #[.int .i64 0, .int .i64 5]) ∧ w = w' := by
  go_enter Try.func23, Try.ntmps23
  go_wp2_with (go_at_call 38; refine (there_out _ _ _ _ _ _ h0 ha).mono ?_; rintro e w' ⟨rfl, rfl⟩)
  go_ret2
  exact ⟨rfl, rfl⟩

set_option maxRecDepth 100000 in
set_option maxHeartbeats 1000000 in
theorem double_full (S : Nat → Prop) (bn : Nat) (line : Value) (ps : List Pk) (last : Int) (i : Nat) (w : World) (h : RNet w S bn line ps last) (hin : i < ps.length) (hlen : 200 ≤ ps.length) :
    Calls Try.prog 23 #[.pointer (some ⟨bn, 0, none⟩), .int .i64 i] w fun e w' => e = .returned (.tuple #[.int .i64 0, .int .i64 14]) ∧ Fr NoB w w' := by
  obtain ⟨p, hi⟩ : ∃ p, ps[i]? = some p := ⟨_, List.getElem?_eq_getElem hin⟩
  obtain ⟨g, cap, L, rfl, hb, hL, hc, hm, ht, hgb, c0, c1, c2, c3⟩ := h.at_ hi
  obtain ⟨A, c, hv, hA, hrd⟩ := h.rd (List.mem_of_getElem? hi)
  rw [hv] at c3
  have d0 := h.blk.cell 0
  simp at d0
  have hbl := h.blk.lt
  have hii : (i : Int) < (ps.length : Int) := by omega
  have hi0 : (0 : Int) ≤ (i : Int) := by omega
  clear h hA hL ht hv hi
  go_enter Try.func23, Try.ntmps23
  go_wp2_with fail
  refine (there_in bn _ _ _ i w d0 hin).mono ?_
  rintro e w' ⟨rfl, rfl⟩
  go_wp2_with fail
  refine (send_full bn _ ps.length cap _ _ _ _ (by rw [World.cell?_alloc_past _ _ _ hbl]; exact d0) hlen).mono ?_
  rintro e w2 ⟨rfl, rfl⟩
  go_wp2
  go_ret2
  exact ⟨rfl, (Fr.refl NoB w).alloc _⟩
end Go.Proofs.Ytdfdmjnhekdpjaa
