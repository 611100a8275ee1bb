/- courierref09.small: what it tells bounds each list of a node. -/
import Derived.Test.YtcfmcgkngjpdbaaDoorV1
import Derived.Test.YtcfmcgkngjpdbaaDoorRows
import Derived.WalkKit
import Derived.WalkSpells
import Derived.WalkLawsBesides
import Derived.Outline
namespace Go.Proofs.YtcfmcgkngjpdbaaDoor
set_option linter.unusedVariables false
set_option linter.unusedSimpArgs false
open Go.RowKit

def SmallR (d : Nat) (x : Nd d) (left : Int) (w : World) (e : Ending) (w' : World) : Prop :=
  ∃ r : Int, e = .returned (.int .i64 r) ∧ -140737488355328 ≤ r ∧ r ≤ 400 ∧ (0 ≤ r → r + 1 ≤ left ∧ Fine d x) ∧ Fr NoB w w'

set_option maxHeartbeats 1000000 in
set_option maxRecDepth 100000 in
theorem small_any : ∀ (d : Nat) (x : Nd d) (dep left : Int) (cs : List Value) (ok : Nat → Prop) (w : World), NodeAt d w ok x cs → -140737488355329 ≤ left → left ≤ 400 → 0 ≤ dep → dep ≤ 41 →
    Calls Tryd.prog 20 #[.agg cs.toArray, .int .i64 dep, .int .i64 left] w (SmallR d x left w) := by
  intro d
  induction d with
  | zero => exact fun x => x.elim
  | succ d ih =>
    intro (x : Rec (Nd d)) dep left cs ok w h hl0 hl1 hd0 hd1
    obtain ⟨hw, A, c, rfl, hc, h0, hr⟩ := h
    have hsl := hw.sl
    have hfl := hw.fl
    obtain ⟨s, hs⟩ : ∃ s : Int, s = (x.s.size : Int) / 100 := ⟨_, rfl⟩
    have hs0 : 0 ≤ (x.s.size : Int) / 100 := by omega
    have hs1 : (x.s.size : Int) / 100 ≤ 140737488355328 := by omega
    have hfr : Fr NoB w (w.alloc (.cells #[.int .i64 x.k, .int .i64 x.n, .int .u64 x.u, .bool x.b, .string x.s, .int .i64 x.t, .slice A x.fs.length c] 25)) := (Fr.refl NoB w).alloc _
    by_cases hdep : 40 < dep
    · have q1 : decide ((40 : Int) < dep) = true := decide_eq_true hdep
      go_enter Tryd.func20, Tryd.ntmps20
      go_wp2_with fail
      go_ret
      exact ⟨-1, rfl, by omega, by omega, fun h => by omega, hfr⟩
    · have q1 : decide ((40 : Int) < dep) = false := decide_eq_false hdep
      by_cases hneg : left - 1 - (x.s.size : Int) / 100 < 0
      · have q2 : decide (left - 1 - (x.s.size : Int) / 100 < 0) = true := decide_eq_true hneg
        go_enter Tryd.func20, Tryd.ntmps20
        go_wp2_with fail
        go_ret
        exact ⟨-1, rfl, by omega, by omega, fun h => by omega, hfr⟩
      · have q2 : decide (left - 1 - (x.s.size : Int) / 100 < 0) = false := decide_eq_false hneg
        go_enter Tryd.func20, Tryd.ntmps20
        go_wp2_with fail
        have hbx := Blk.new w 25 #[.int .i64 x.k, .int .i64 x.n, .int .u64 x.u, .bool x.b, .string x.s, .int .i64 x.t, .slice A x.fs.length c]
        generalize w.alloc (.cells #[.int .i64 x.k, .int .i64 x.n, .int .u64 x.u, .bool x.b, .string x.s, .int .i64 x.t, .slice A x.fs.length c] 25) = w1 at *
        go_loopw [2, 25] (fun l i wr => ∃ (k : Nat) (lv : Int), i = .int .i64 k ∧ l = .int .i64 lv ∧ k ≤ x.fs.length ∧ -(k : Int) ≤ lv ∧ lv + k + 1 ≤ left ∧ (∀ p ∈ x.fs.take k, (0 ≤ lv → p.2.length ≤ 400) ∧ (0 ≤ lv → ∀ y ∈ p.2, Fine d y)) ∧ Fr NoB w1 wr) (fun _ i _ => x.fs.length - (intOf i).toNat)
        case atStart => exact ⟨0, _, rfl, rfl, by omega, by omega, by omega, by simp, Fr.refl _ _⟩
        case round =>
          obtain ⟨k, lv, rfl, rfl, hk, hlv0, hlv1, hfine, hfk⟩ := hrel
          have hbr := hbx.fr hfk id
          have b6 := hbr.cell 6
          simp at b6
          by_cases hlt : k < x.fs.length
          · have p1 : (k : Int) < (x.fs.length : Int) := by omega
            have p0 : (0 : Int) ≤ (k : Int) := by omega
            obtain ⟨b, o, cs, rfl, hb, hbl, hcl, ⟨A', c', rfl, hc', h0', hr'⟩, hcell⟩ := hr.at_ k x.fs[k] (List.getElem?_eq_getElem hlt)
            have e0 := (hfr.trans hfk (fun _ h _ => h)).cell_some (hcell 0 _ rfl) id
            have e1 := (hfr.trans hfk (fun _ h _ => h)).cell_some (hcell 1 _ rfl) id
            simp only [Nat.add_zero] at e0
            have hfw := hfr.trans hfk (fun _ h _ => h)
            have hr2 := hr'.mv (Mv.new hfw) (fun y cs _ hy => NodeAt.mv hy (Mv.new hfw))
            have hwp := (hw.f _ (List.getElem_mem hlt)).2
            go_wp2_with fail
            have hnext : (wr.heap.size = wr.heap.size) := rfl
            go_loopw [2, 37] (fun l i wj => ∃ (j : Nat) (mv : Int), i = .int .i64 j ∧ l = .int .i64 mv ∧ j ≤ x.fs[k].2.length ∧ (j = 0 → mv = lv - 1) ∧ (0 < j → 0 ≤ mv) ∧ mv + j ≤ lv - 1 ∧ (∀ y ∈ x.fs[k].2.take j, Fine d y) ∧ Fr NoB wr wj) (fun _ i _ => x.fs[k].2.length - (intOf i).toNat)
            case atStart => exact ⟨0, _, rfl, rfl, by omega, fun _ => rfl, fun h => by omega, by omega, by simp, Fr.refl _ _⟩
            case round =>
              obtain ⟨j, mv, rfl, rfl, hj, hmv0, hmv1, hmv2, hfine2, hfj⟩ := hrel
              have hbj := hbr.fr hfj id
              have g6 := hbj.cell 6
              simp at g6
              have e1' := hfj.cell_some e1 id
              by_cases hlt2 : j < x.fs[k].2.length
              · have p3 : (j : Int) < (x.fs[k].2.length : Int) := by omega
                have p2 : (0 : Int) ≤ (j : Int) := by omega
                obtain ⟨b2, o2, cs2, rfl, hb2, hbl2, hcl2, hn2, hcell2⟩ := hr2.at_ j x.fs[k].2[j] (List.getElem?_eq_getElem hlt2)
                obtain ⟨a0, a1, a2, a3, a4, a5, a6, rfl⟩ := len7 hcl2
                have q0 := hfj.cell_some (hcell2 0 _ rfl) id
                have q1 := hfj.cell_some (hcell2 1 _ rfl) id
                have q2 := hfj.cell_some (hcell2 2 _ rfl) id
                have q3 := hfj.cell_some (hcell2 3 _ rfl) id
                have q4 := hfj.cell_some (hcell2 4 _ rfl) id
                have q5 := hfj.cell_some (hcell2 5 _ rfl) id
                have q6 := hfj.cell_some (hcell2 6 _ rfl) id
                simp only [Nat.add_zero] at q0
                have hI := Lib.hid (ih x.fs[k].2[j] (dep + 1) mv [a0, a1, a2, a3, a4, a5, a6] ok _ (hn2.mv (Mv.new hfj)) (by omega) (by omega) (by omega) (by omega))
                have hfin : Fr NoB w _ := hfw.trans hfj (fun _ h _ => h)
                go_wp2_with fail
                refine hI.out.mono ?_
                rintro e w2 ⟨r, rfl, hr0, hr1, hrf, hf2⟩
                have hf3 := hfj.trans hf2 (fun _ h _ => h)
                by_cases hneg2 : r < 0
                · have k1 : decide (r < 0) = true := decide_eq_true hneg2
                  go_wp2_with fail
                  go_ret
                  exact ⟨-1, rfl, by omega, by omega, fun h => by omega, hfin.trans hf2 (fun _ h _ => h)⟩
                · have k1 : decide (r < 0) = false := decide_eq_false hneg2
                  have hr3 := hrf (by omega)
                  go_wp2_with fail
                  go_roundw
                  case rel => exact ⟨j + 1, r, by go_num, rfl, by omega, fun h => by omega, fun _ => by omega, by omega, fun y hy => by
                    rw [List.take_succ_eq_append_getElem hlt2] at hy
                    rcases List.mem_append.1 hy with h1 | h1
                    · exact hfine2 y h1
                    · rw [List.mem_singleton.1 h1]; exact hr3.2, hf3⟩
                  case measure => simp [intOf]; omega
              · go_wp2_with fail
                go_roundw
                case rel => exact ⟨k + 1, mv, by go_num, rfl, by omega, by omega, by omega, fun p hp => by
                    rw [List.take_succ_eq_append_getElem hlt] at hp
                    have hjj : j = x.fs[k].2.length := by omega
                    subst hjj
                    rw [List.take_length] at hfine2
                    rcases List.mem_append.1 hp with h1 | h1
                    · exact ⟨fun h => (hfine p h1).1 (by omega), fun h => (hfine p h1).2 (by omega)⟩
                    · rw [List.mem_singleton.1 h1]; exact ⟨fun h => by omega, fun h => hfine2⟩, hfk.trans hfj (fun _ h _ => h)⟩
                case measure => simp [intOf]; omega
          · go_wp2_with fail
            go_ret
            have hkk : k = x.fs.length := by omega
            subst hkk
            rw [List.take_length] at hfine
            exact ⟨lv, rfl, by omega, by omega, fun h => ⟨by omega, by omega, fun p hp => ⟨(hfine p hp).1 h, (hfine p hp).2 h⟩⟩, hfr.trans hfk (fun _ h _ => h)⟩
theorem Small_any (d : Nat) (x : Nd d) (cs : List Value) (ok : Nat → Prop) (w : World) (h : NodeAt d w ok x cs) :
    Calls Tryd.prog 6 #[.agg cs.toArray] w (fun e w' => ∃ b : Bool, e = .returned (.bool b) ∧ (b = true → Fine d x) ∧ Fr NoB w w') := by
  obtain ⟨a0, a1, a2, a3, a4, a5, a6, rfl⟩ := len7 h.len
  have hfr : Fr NoB w (w.alloc (.cells #[a0, a1, a2, a3, a4, a5, a6] 25)) := (Fr.refl NoB w).alloc _
  have hI := Lib.hid (small_any d x 0 400 [a0, a1, a2, a3, a4, a5, a6] ok _ (h.mv (Mv.new hfr)) (by omega) (by omega) (by omega) (by omega))
  go_enter Tryd.func6, Tryd.ntmps6
  go_wp2_with fail
  refine hI.out.mono ?_
  rintro e w2 ⟨r, rfl, hr0, hr1, hrf, hf2⟩
  by_cases h0 : 0 ≤ r
  · have k : decide (0 ≤ r) = true := decide_eq_true h0
    go_wp2_with fail
    go_ret
    exact ⟨true, by simp [h0], fun _ => (hrf h0).2, hfr.trans hf2 (fun _ h _ => h)⟩
  · have k : decide (0 ≤ r) = false := decide_eq_false h0
    go_wp2_with fail
    go_ret
    exact ⟨false, by simp [h0], fun h => (by cases h), hfr.trans hf2 (fun _ h _ => h)⟩
end Go.Proofs.YtcfmcgkngjpdbaaDoor
