/- courierref09.Same: of one node twice, wherever it lies, true. -/
import Derived.Test.YtcfmcgkngjpdbaaDoorV2
import Derived.StillTailTactics
import Derived.Deep.QuietTactic
import Derived.BigQuiet
import Derived.RegionTactic
import Derived.BigRegion
import Derived.ChangeAlike
import Derived.Deep.DeepCutAuto
import Derived.Deep.RegionHeld3
namespace Go.Proofs.YtcfmcgkngjpdbaaDoor
set_option linter.unusedVariables false
set_option linter.unusedSimpArgs false
open Go.RowKit

set_option maxHeartbeats 1000000 in
set_option maxRecDepth 100000 in
theorem same_any : ∀ (d : Nat) (x : Nd d) (cs cs' : List Value) (ok ok' : Nat → Prop) (w : World), NodeAt d w ok x cs → NodeAt d w ok' x cs' →
    Calls Tryd.prog 9 #[.agg cs.toArray, .agg cs'.toArray] w (fun e w' => e = .returned (.bool true) ∧ Fr NoB w w') := by
  intro d
  induction d with
  | zero => exact fun x => x.elim
  | succ d ih =>
    intro (x : Rec (Nd d)) cs cs' ok ok' w h h'
    obtain ⟨hw, A, c, rfl, hc, h0, hr⟩ := h
    obtain ⟨_, A', c', rfl, hc', h0', hr'⟩ := h'
    have hsl := hw.sl
    have hfl := hw.fl
    go_enter Tryd.func9, Tryd.ntmps9
    have hf0 : Fr NoB w (w.alloc (.cells #[.int .i64 x.k, .int .i64 x.n, .int .u64 x.u, .bool x.b, .string x.s, .int .i64 x.t, .slice A x.fs.length c] 25)) := (Fr.refl NoB w).alloc _
    have hb0 := Blk.new w 25 #[.int .i64 x.k, .int .i64 x.n, .int .u64 x.u, .bool x.b, .string x.s, .int .i64 x.t, .slice A x.fs.length c]
    have hb1 := Blk.new (w.alloc (.cells #[.int .i64 x.k, .int .i64 x.n, .int .u64 x.u, .bool x.b, .string x.s, .int .i64 x.t, .slice A x.fs.length c] 25)) 25 #[.int .i64 x.k, .int .i64 x.n, .int .u64 x.u, .bool x.b, .string x.s, .int .i64 x.t, .slice A' x.fs.length c']
    go_wp2_with fail
    have hz1 : (w.alloc (.cells #[.int .i64 x.k, .int .i64 x.n, .int .u64 x.u, .bool x.b, .string x.s, .int .i64 x.t, .slice A x.fs.length c] 25)).heap.size = w.heap.size + 1 := by simp
    rw [hz1] at hb1
    have hfa := hf0.alloc (.cells #[.int .i64 x.k, .int .i64 x.n, .int .u64 x.u, .bool x.b, .string x.s, .int .i64 x.t, .slice A' x.fs.length c'] 25)
    have hb0 := hb0.alloc (.cells #[.int .i64 x.k, .int .i64 x.n, .int .u64 x.u, .bool x.b, .string x.s, .int .i64 x.t, .slice A' x.fs.length c'] 25)
    generalize (w.alloc (.cells #[.int .i64 x.k, .int .i64 x.n, .int .u64 x.u, .bool x.b, .string x.s, .int .i64 x.t, .slice A x.fs.length c] 25)).alloc (.cells #[.int .i64 x.k, .int .i64 x.n, .int .u64 x.u, .bool x.b, .string x.s, .int .i64 x.t, .slice A' x.fs.length c'] 25) = w2 at *
    clear hz1 hf0
    go_loopw [61] (fun i wr => ∃ k : Nat, i = .int .i64 k ∧ k ≤ x.fs.length ∧ Fr NoB w2 wr) (fun i _ => x.fs.length - (intOf i).toNat)
    case atStart => exact ⟨0, rfl, by omega, Fr.refl _ _⟩
    case round =>
      obtain ⟨k, rfl, hk, hfk⟩ := hrel
      have ha := hb0.fr hfk id
      have hb := hb1.fr hfk id
      have hfw := hfa.trans hfk (fun _ h _ => h)
      have a6 := ha.cell 6
      have b6 := hb.cell 6
      simp at a6 b6
      by_cases hlt : k < x.fs.length
      · have p1 : (k : Int) < (x.fs.length : Int) := by omega
        have p0 : (0 : Int) ≤ (k : Int) := by omega
        obtain ⟨b, o, cs, rfl, _, hbl, _, ⟨A1, c1, rfl, hc1, h01, hr1⟩, hcell⟩ := hr.at_ k x.fs[k] (List.getElem?_eq_getElem hlt)
        obtain ⟨b', o', cs', rfl, _, hbl', _, ⟨A2, c2, rfl, hc2, h02, hr2⟩, hcell'⟩ := hr'.at_ k x.fs[k] (List.getElem?_eq_getElem hlt)
        have e0 := hfw.cell_some (hcell 0 _ rfl) id
        have e1 := hfw.cell_some (hcell 1 _ rfl) id
        have g0 := hfw.cell_some (hcell' 0 _ rfl) id
        have g1 := hfw.cell_some (hcell' 1 _ rfl) id
        simp only [Nat.add_zero] at e0 g0
        have hr1 := hr1.mv (Mv.new hfw) (fun y cs _ hy => NodeAt.mv hy (Mv.new hfw))
        have hr2 := hr2.mv (Mv.new hfw) (fun y cs _ hy => NodeAt.mv hy (Mv.new hfw))
        have hwp := (hw.f _ (List.getElem_mem hlt)).2
        have fa1 : ∀ o1, Fr NoB wr (wr.alloc o1) := fun o1 => (Fr.refl NoB wr).alloc o1
        have fa2 : ∀ o1 o2, Fr NoB wr ((wr.alloc o1).alloc o2) := fun o1 o2 => ((Fr.refl NoB wr).alloc o1).alloc o2
        have a61 := fun o1 => (fa1 o1).cell_some a6 id
        have a62 := fun o1 o2 => (fa2 o1 o2).cell_some a6 id
        have b61 := fun o1 => (fa1 o1).cell_some b6 id
        have b62 := fun o1 o2 => (fa2 o1 o2).cell_some b6 id
        have e01 := fun o1 => (fa1 o1).cell_some e0 id
        have e02 := fun o1 o2 => (fa2 o1 o2).cell_some e0 id
        have e11 := fun o1 => (fa1 o1).cell_some e1 id
        have e12 := fun o1 o2 => (fa2 o1 o2).cell_some e1 id
        have g01 := fun o1 => (fa1 o1).cell_some g0 id
        have g02 := fun o1 o2 => (fa2 o1 o2).cell_some g0 id
        have g11 := fun o1 => (fa1 o1).cell_some g1 id
        have g12 := fun o1 o2 => (fa2 o1 o2).cell_some g1 id
        clear fa1 fa2
        go_upto_region 6 with fail
        go_cut [6, 7] (fun s6 s7 wx => ∃ ga gb : Nat, s6 = .pointer (some ⟨ga, 0, none⟩) ∧ s7 = .pointer (some ⟨gb, 0, none⟩) ∧ Blk wx ga 43 #[.int .i64 x.fs[k].1, .slice A1 x.fs[k].2.length c1] ∧ Blk wx gb 43 #[.int .i64 x.fs[k].1, .slice A2 x.fs[k].2.length c2] ∧ Fr NoB wr wx)
        case first =>
          go_region
          all_goals (go_wp2_with fail; go_meet)
          case rel => first | exact ⟨_, _, rfl, rfl, (Blk.new _ _ _).alloc _, Blk.second _ _ _ _, (((Fr.refl NoB wr).alloc _).alloc _).drew⟩ | exact ⟨_, _, rfl, rfl, Blk.second _ _ _ _, (Blk.new _ _ _).alloc _, (((Fr.refl NoB wr).alloc _).alloc _).drew⟩
          case rel => first | exact ⟨_, _, rfl, rfl, (Blk.new _ _ _).alloc _, Blk.second _ _ _ _, (((Fr.refl NoB wr).alloc _).alloc _).drew⟩ | exact ⟨_, _, rfl, rfl, Blk.second _ _ _ _, (Blk.new _ _ _).alloc _, (((Fr.refl NoB wr).alloc _).alloc _).drew⟩
        case rest =>
          obtain ⟨ga, gb, rfl, rfl, hga, hgb, hf5⟩ := hcut
          have m0 := hga.cell 0
          have m1 := hga.cell 1
          have n0 := hgb.cell 0
          have n1 := hgb.cell 1
          simp at m0 m1 n0 n1
          clear a61 a62 b61 b62 e01 e02 e11 e12 g01 g02 g11 g12
          have hfz := hfw.trans hf5 (fun _ h _ => h)
          have hr1 := hr1.mv (Mv.new hf5) (fun y cs _ hy => NodeAt.mv hy (Mv.new hf5))
          have hr2 := hr2.mv (Mv.new hf5) (fun y cs _ hy => NodeAt.mv hy (Mv.new hf5))
          go_wp2_with fail
          go_loopw [91] (fun i wj => ∃ j : Nat, i = .int .i64 j ∧ j ≤ x.fs[k].2.length ∧ Fr NoB wc wj) (fun i _ => x.fs[k].2.length - (intOf i).toNat)
          case atStart => exact ⟨0, rfl, by omega, Fr.refl _ _⟩
          case round =>
            obtain ⟨j, rfl, hj, hfj⟩ := hrel
            have m1' := hfj.cell_some m1 id
            have n1' := hfj.cell_some n1 id
            by_cases hlt2 : j < x.fs[k].2.length
            · have p3 : (j : Int) < (x.fs[k].2.length : Int) := by omega
              have p2 : (0 : Int) ≤ (j : Int) := by omega
              obtain ⟨b3, o3, cs3, rfl, _, _, hcl3, hn3, hcell3⟩ := hr1.at_ j x.fs[k].2[j] (List.getElem?_eq_getElem hlt2)
              obtain ⟨b4, o4, cs4, rfl, _, _, hcl4, hn4, hcell4⟩ := hr2.at_ j x.fs[k].2[j] (List.getElem?_eq_getElem hlt2)
              obtain ⟨a0, a1, a2, a3, a4, a5, a6, rfl⟩ := len7 hcl3
              obtain ⟨d0, d1, d2, d3, d4, d5, d6, rfl⟩ := len7 hcl4
              have q0 := hfj.cell_some (hcell3 0 _ rfl) id
              have q1 := hfj.cell_some (hcell3 1 _ rfl) id
              have q2 := hfj.cell_some (hcell3 2 _ rfl) id
              have q3 := hfj.cell_some (hcell3 3 _ rfl) id
              have q4 := hfj.cell_some (hcell3 4 _ rfl) id
              have q5 := hfj.cell_some (hcell3 5 _ rfl) id
              have q6 := hfj.cell_some (hcell3 6 _ rfl) id
              have r0 := hfj.cell_some (hcell4 0 _ rfl) id
              have r1 := hfj.cell_some (hcell4 1 _ rfl) id
              have r2 := hfj.cell_some (hcell4 2 _ rfl) id
              have r3 := hfj.cell_some (hcell4 3 _ rfl) id
              have r4 := hfj.cell_some (hcell4 4 _ rfl) id
              have r5 := hfj.cell_some (hcell4 5 _ rfl) id
              have r6 := hfj.cell_some (hcell4 6 _ rfl) id
              simp only [Nat.add_zero] at q0 r0
              go_wp2_with fail
              go_still_tail 10, (by kernel_rfl)
              change wpList _ _ _ _ _ wr.drew
              have hfd : Fr NoB wr wr.drew := (Fr.refl _ _).drew
              have hI := Lib.hid (ih x.fs[k].2[j] [a0, a1, a2, a3, a4, a5, a6] [d0, d1, d2, d3, d4, d5, d6] ok ok' _ ((hn3.mv (Mv.new hfj)).mv (Mv.new hfd)) ((hn4.mv (Mv.new hfj)).mv (Mv.new hfd)))
              generalize wr.drew = w6 at *
              go_wp2_with fail
              refine hI.out.mono ?_
              rintro e w7 ⟨rfl, hf7⟩
              go_wp2_with fail
              go_roundw
              case rel => exact ⟨j + 1, by go_num, by omega, (hfj.trans hfd (fun _ h _ => h)).trans hf7 (fun _ h _ => h)⟩
              case measure => simp [intOf]; omega
            · go_wp2_with fail
              go_roundw
              case rel => exact ⟨k + 1, by go_num, by omega, (hfk.trans hf5 (fun _ h _ => h)).trans hfj (fun _ h _ => h)⟩
              case measure => simp [intOf]; omega
      · go_wp2_with fail
        go_ret
        exact ⟨rfl, hfw⟩
end Go.Proofs.YtcfmcgkngjpdbaaDoor
