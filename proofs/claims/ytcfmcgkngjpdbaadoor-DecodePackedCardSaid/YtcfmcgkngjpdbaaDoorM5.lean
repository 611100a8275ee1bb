/- schema.needs: of a message whose fields need none: false. -/
import Derived.Test.YtcfmcgkngjpdbaaDoorM4
import Derived.Laws.EntriesVeiled
namespace Go.Proofs.YtcfmcgkngjpdbaaDoor
set_option linter.unusedVariables false
set_option linter.unusedSimpArgs false
open Go.RowKit

theorem infoB : (Tryd.prog.info? 4).map (fun i => (i.zero, i.size, i.bytes)) = some (some (.bool false), 1, 1) := by kernel_rfl

set_option maxHeartbeats 4000000 in
set_option maxRecDepth 100000 in
theorem reach_none (S : Sch) (A1 : Option Addr) (c1 bs bt bq bf : Nat) (t : Nat) (w : World) (hr : Row 2 (MsgIn w) w (fun _ => True) A1 S.messages) (ht : t < S.messages.length) (hl : S.messages.length ≤ 1000000)
    (hb : w.cell? ⟨bs, 0, none⟩ = some (.slice A1 S.messages.length c1))
    (hsz : S.messages[t].fields.length ≤ 1000000) (hno : ∀ f ∈ S.messages[t].fields, (f.kind == 10) = false ∨ f.rep = true) :
    Calls Tryd.prog 69 #[.int .i64 t, .pointer (some ⟨bs, 0, none⟩), .pointer (some ⟨bt, 0, none⟩), .pointer (some ⟨bq, 0, none⟩), .pointer (some ⟨bf, 0, none⟩)] w (NameR false w) := by
  have p1 : (t : Int) < (S.messages.length : Int) := by omega
  have p0 : (0 : Int) ≤ (t : Int) := by omega
  obtain ⟨b, o, cs, rfl, _, _, _, ⟨A, c, rfl, hc, h0, hr1⟩, hcell⟩ := hr.at_ t S.messages[t] (List.getElem?_eq_getElem ht)
  have q0 := hcell 0 _ rfl
  have q1 := hcell 1 _ rfl
  simp only [Nat.add_zero] at q0
  clear hr
  generalize S.messages[t].fields = fl at *
  go_enter Tryd.func69, Tryd.ntmps69
  go_wp2_with fail
  go_loopw [16] (fun i wr => ∃ k : Nat, i = .int .i64 k ∧ k ≤ fl.length ∧ Fr NoB w wr) (fun i _ => fl.length - (intOf i).toNat)
  case atStart => exact ⟨0, rfl, by omega, Fr.refl _ _⟩
  case round =>
    obtain ⟨k, rfl, hk, hf⟩ := hrel
    by_cases hlt : k < fl.length
    · have p3 : (k : Int) < (fl.length : Int) := by omega
      have p2 : (0 : Int) ≤ (k : Int) := by omega
      obtain ⟨b2, o2, cs, rfl, _, _, hlen, hR, hcell2⟩ := hr1.at_ k fl[k] (List.getElem?_eq_getElem hlt)
      obtain rfl := hR
      have r0 := hf.cell_some (hcell2 0 _ rfl) id
      have r1 := hf.cell_some (hcell2 1 _ rfl) id
      have r2 := hf.cell_some (hcell2 2 _ rfl) id
      have r3 := hf.cell_some (hcell2 3 _ rfl) id
      have r4 := hf.cell_some (hcell2 4 _ rfl) id
      simp only [Nat.add_zero] at r0
      have hn := hno _ (List.getElem_mem hlt)
      have hfa : Fr NoB w (wr.alloc (.cells #[.int .i64 fl[k].num, .string fl[k].name, .int .i64 fl[k].kind, .bool fl[k].rep, .int .i64 fl[k].typ] 48)) := hf.alloc _
      cases hkd : (fl[k].kind == 10) with
      | false =>
        have hkd' : (fl[k].kind != 10) = true := by rw [bne, hkd]; rfl
        clear hn
        go_wp2_with fail
        go_roundw
        case rel => exact ⟨k + 1, by go_num, by omega, hfa⟩
        case measure => simp [intOf]; omega
      | true =>
        have hkd' : (fl[k].kind != 10) = false := by rw [bne, hkd]; rfl
        have hrp : fl[k].rep = true := by
          rcases hn with h | h
          · rw [hkd] at h; cases h
          · exact h
        clear hn
        go_wp2_with fail
        go_roundw
        case rel => exact ⟨k + 1, by go_num, by omega, by rw [← hrp]; first | exact hfa | (simpa using hfa)⟩
        case measure => simp [intOf]; omega
    · go_wp2_with fail
      go_ret
      exact ⟨rfl, hf⟩

set_option maxHeartbeats 4000000 in
set_option maxRecDepth 100000 in
theorem needs_none (S : Sch) (A1 A2 A3 : Option Addr) (c1 n2 c2 n3 c3 t : Nat) (w : World) (hr : Row 2 (MsgIn w) w (fun _ => True) A1 S.messages) (ht : t < S.messages.length) (hl : S.messages.length ≤ 1000000)
    (hsz : S.messages[t].fields.length ≤ 1000000) (hno : ∀ f ∈ S.messages[t].fields, (f.kind == 10) = false ∨ f.rep = true) :
    Calls Tryd.prog 45 #[.agg #[.slice A1 S.messages.length c1, .slice A2 n2 c2, .slice A3 n3 c3], .int .i64 t] w (NameR false w) := by
  obtain ⟨i0, hi0, hz0, hz1, hz2⟩ := info_parts infoB
  have hmf : ∀ (fn : Fn) (first cap : Array Value) (w : World), (Instr.makeFunc fn first cap).run Tryd.prog w = .ok (.func fn first cap) w := fun _ _ _ _ => rfl
  have hfa : Fr NoB w ((w.alloc (.cells #[.slice A1 S.messages.length c1, .slice A2 n2 c2, .slice A3 n3 c3] 56)).alloc (.cells #[.int .i64 t] 3)) := ((Fr.refl NoB w).alloc _).alloc _
  have hbs := (Blk.new w 56 #[.slice A1 S.messages.length c1, .slice A2 n2 c2, .slice A3 n3 c3]).alloc (.cells #[.int .i64 t] 3)
  have hbt := Blk.second w (.cells #[.slice A1 S.messages.length c1, .slice A2 n2 c2, .slice A3 n3 c3] 56) 3 #[.int .i64 t]
  go_enter Tryd.func45, Tryd.ntmps45
  have hfacts : ∀ w3, ((w.alloc (.cells #[.slice A1 S.messages.length c1, .slice A2 n2 c2, .slice A3 n3 c3] 56)).alloc (.cells #[.int .i64 t] 3)).grownBy w3 none → Fr NoB w w3 ∧ w3.cell? ⟨w.heap.size, 0, none⟩ = some (.slice A1 S.messages.length c1) ∧ w3.cell? ⟨w.heap.size + 1, 0, none⟩ = some (.int .i64 t) ∧ w.heap.size < w3.heap.size ∧ w.heap.size + 1 < w3.heap.size := fun w3 hg3 => by
    have hf3 : Fr NoB _ w3 := Fr.of_grown hg3 (fun k hk => by cases hk)
    exact ⟨hfa.trans hf3 (fun _ h _ => h), (hbs.fr hf3 id).cell 0, (hbt.fr hf3 id).cell 0, (hbs.fr hf3 id).lt, (hbt.fr hf3 id).lt⟩
  have HFA := Lib.hid hfacts
  clear hfacts hbs hbt hfa
  go_wp2_with (at_make; refine wpList_make_full _ rfl _ _ 140 rfl w.heap.size 4 i0 (.bool false) 1 Tryd.underlying140 hi0 hz0 hz1 .i64 .i64 _ _ S.messages.length rfl rfl rfl rfl (by rw [hz2]; omega) (by simp only [maxLen]; omega) (by simp; omega) ?_; intro w3 hown3 hg3; obtain ⟨hfw3, s0, t0, l1, l2⟩ := HFA.out w3 hg3; clear hg3 hown3)
  have hfb : Fr NoB w3 ((w3.alloc (.cells #[.slice (some ⟨w.heap.size + 1 + 1, 0, none⟩) S.messages.length S.messages.length] 140)).alloc (.cells #[.func (.func 69) #[] #[.pointer (some ⟨w.heap.size, 0, none⟩), .pointer (some ⟨w.heap.size + 1, 0, none⟩), .pointer (some ⟨w3.heap.size, 0, none⟩), .pointer (some ⟨w3.heap.size + 1, 0, none⟩)]] 129)) := ((Fr.refl NoB w3).alloc _).alloc _
  refine (reach_none S A1 c1 w.heap.size (w.heap.size + 1) w3.heap.size (w3.heap.size + 1) t _ (hr.mv (Mv.new (hfw3.trans hfb (fun _ h _ => h))) (fun _ _ _ h => h.new (hfw3.trans hfb (fun _ h _ => h)))) ht hl (hfb.cell_some s0 id) hsz hno).mono ?_
  rintro e w6 ⟨rfl, hf6⟩
  go_wp2_with fail
  go_ret
  exact ⟨rfl, (hfw3.trans hfb (fun _ h _ => h)).trans hf6 (fun _ h _ => h)⟩
end Go.Proofs.YtcfmcgkngjpdbaaDoor
