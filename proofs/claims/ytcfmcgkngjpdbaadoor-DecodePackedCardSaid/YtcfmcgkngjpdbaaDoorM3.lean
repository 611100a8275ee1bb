/- schema.message: a message's fields are formed. -/
import Derived.Test.YtcfmcgkngjpdbaaDoorM2
import Derived.Test.YtcfmcgkngjpdbaaDoorI4
import Derived.Deep.DeepCutAuto
import Derived.Deep.CutBlock
namespace Go.Proofs.YtcfmcgkngjpdbaaDoor
set_option linter.unusedVariables false
set_option linter.unusedSimpArgs false
open Go.RowKit

def fieldNumberB (n : Int) : Bool := (decide (1 ≤ n) && decide (n ≤ 536870911)) && (decide (n < 19000) || decide (19999 < n))
theorem fieldNumber_any (n : Int) (w : World) : Calls Tryd.prog 59 #[.int .i64 n] w fun e w' => e = .returned (.bool (fieldNumberB n)) ∧ w = w' := by
  have H : ∀ b, fieldNumberB n = b → Calls Tryd.prog 59 #[.int .i64 n] w fun e w' => e = .returned (.bool b) ∧ w = w' := by
    unfold fieldNumberB
    cases d1 : decide (1 ≤ n) <;> cases d2 : decide (n ≤ 536870911) <;> cases d3 : decide (n < 19000) <;> cases d4 : decide (19999 < n)
    all_goals first
      | (exfalso; simp at d1 d2 d3 d4; omega)
      | (intro b hb; subst hb; go_enter Tryd.func59, Tryd.ntmps59; go_wp2_with fail; go_ret; exact ⟨rfl, rfl⟩)
  exact H _ rfl

/-- How many types a field of a kind may name. -/
def most (nE nM : Nat) (kind : Int) : Int := if kind = 9 then nE else if kind = 10 then nM else 1
def okField (nE nM : Nat) (last : Int) (f : FD) : Bool :=
  fieldNumberB f.num && !decide (f.num ≤ last) && plainB f.name && !decide (f.kind < 1) && !decide (10 < f.kind) && !decide (f.typ < 0) && !decide (most nE nM f.kind ≤ f.typ)
def fieldsGo (nE nM : Nat) : Int → List FD → Bool
  | _, [] => true
  | last, f :: r => if okField nE nM last f then fieldsGo nE nM f.num r else false
theorem fieldsGo_ok {nE nM : Nat} {last : Int} {f : FD} {r : List FD} (h : okField nE nM last f = true) : fieldsGo nE nM last (f :: r) = fieldsGo nE nM f.num r := by simp only [fieldsGo, h, if_true]
theorem fieldsGo_no {nE nM : Nat} {last : Int} {f : FD} {r : List FD} (h : okField nE nM last f = false) : fieldsGo nE nM last (f :: r) = false := by simp only [fieldsGo, h]; rfl
def messageB (nE nM : Nat) (m : MD) : Bool := fieldsGo nE nM 0 m.fields && (decide (m.fields.length ≤ 32) && unlikeB (m.fields.map FD.name))

theorem name_of_field (x : FD) (w : World) : Calls Tryd.prog 61 #[.agg x.cells.toArray] w (KeyR (.string x.name) w) := by
  unfold FD.cells
  go_enter Tryd.func61, Tryd.ntmps61
  go_wp2_with fail
  go_ret
  exact ⟨rfl, (Fr.refl NoB w).alloc _⟩

set_option maxHeartbeats 4000000 in
set_option maxRecDepth 100000 in
theorem message_any (A1 A2 A3 : Option Addr) (nM nE nT c1 c2 c3 : Nat) (m : MD) (cs : List Value) (w : World) (hm : MsgIn w m cs) (hs : ∀ f ∈ m.fields, f.name.size ≤ 1000000) (hl : m.fields.length ≤ 1000000) :
    Calls Tryd.prog 38 #[.agg #[.slice A1 nM c1, .slice A2 nE c2, .slice A3 nT c3], .agg cs.toArray] w (NameR (messageB nE nM m) w) := by
  obtain ⟨A, c, rfl, hc, h0, hr⟩ := hm
  have hfr : Fr NoB w ((w.alloc (.cells #[.slice A1 nM c1, .slice A2 nE c2, .slice A3 nT c3] 56)).alloc (.cells #[.string m.name, .slice A m.fields.length c] 51)) := ((Fr.refl NoB w).alloc _).alloc _
  have hbs := (Blk.new w 56 #[.slice A1 nM c1, .slice A2 nE c2, .slice A3 nT c3]).alloc (.cells #[.string m.name, .slice A m.fields.length c] 51)
  have hbm := Blk.second w (.cells #[.slice A1 nM c1, .slice A2 nE c2, .slice A3 nT c3] 56) 51 #[.string m.name, .slice A m.fields.length c]
  go_enter Tryd.func38, Tryd.ntmps38
  go_wp2_with fail
  generalize (w.alloc (.cells #[.slice A1 nM c1, .slice A2 nE c2, .slice A3 nT c3] 56)).alloc (.cells #[.string m.name, .slice A m.fields.length c] 51) = w2 at *
  go_loopw [5, 12] (fun la i wr => ∃ (k : Nat) (last : Int), i = .int .i64 k ∧ la = .int .i64 last ∧ k ≤ m.fields.length ∧ fieldsGo nE nM last (m.fields.drop k) = fieldsGo nE nM 0 m.fields ∧ Fr NoB w2 wr) (fun _ i _ => m.fields.length - (intOf i).toNat)
  case atStart => exact ⟨0, 0, rfl, rfl, by omega, rfl, Fr.refl _ _⟩
  case round =>
    obtain ⟨k, last, rfl, rfl, hk, hgo, hf⟩ := hrel
    have hfw := hfr.trans hf (fun _ h _ => h)
    have s0 := (hbs.fr hf id).cell 0
    have s1 := (hbs.fr hf id).cell 1
    have b1 := (hbm.fr hf id).cell 1
    simp at s0 s1 b1
    by_cases hlt : k < m.fields.length
    · have p1 : (k : Int) < (m.fields.length : Int) := by omega
      have p0 : (0 : Int) ≤ (k : Int) := by omega
      obtain ⟨b, o, cs, rfl, _, _, hlen, hR, hcell⟩ := hr.at_ k m.fields[k] (List.getElem?_eq_getElem hlt)
      obtain rfl := hR
      have q0 := hfw.cell_some (hcell 0 _ rfl) id
      have q1 := hfw.cell_some (hcell 1 _ rfl) id
      have q2 := hfw.cell_some (hcell 2 _ rfl) id
      have q3 := hfw.cell_some (hcell 3 _ rfl) id
      have q4 := hfw.cell_some (hcell 4 _ rfl) id
      simp only [Nat.add_zero] at q0
      have hfa : Fr NoB wr (wr.alloc (.cells #[.int .i64 m.fields[k].num, .string m.fields[k].name, .int .i64 m.fields[k].kind, .bool m.fields[k].rep, .int .i64 m.fields[k].typ] 48)) := (Fr.refl NoB wr).alloc _
      have hbf := Blk.new wr 48 #[.int .i64 m.fields[k].num, .string m.fields[k].name, .int .i64 m.fields[k].kind, .bool m.fields[k].rep, .int .i64 m.fields[k].typ]
      have s0' := hfa.cell_some s0 id
      have s1' := hfa.cell_some s1 id
      have hsz := hs _ (List.getElem_mem hlt)
      have hd : m.fields.drop k = m.fields[k] :: m.fields.drop (k + 1) := List.drop_eq_getElem_cons hlt
      rw [hd] at hgo
      have HG := Lib.hid hgo
      clear hgo hd
      generalize m.fields[k] = f at *
      go_upto_block 2 with fail
      go_cut [8] (fun s wx => s = .int .i64 (most nE nM f.kind) ∧ wx = wr.alloc (.cells #[.int .i64 f.num, .string f.name, .int .i64 f.kind, .bool f.rep, .int .i64 f.typ] 48))
      case first =>
        by_cases h9 : f.kind = 9
        · have k9 : (f.kind == 9) = true := beq_iff_eq.2 h9
          have hm9 : most nE nM f.kind = nE := by unfold most; rw [if_pos h9]
          have HM := Lib.hid hm9
          clear h9 hm9
          go_wp2_with fail
          go_meet
          exact ⟨by rw [HM.out], rfl⟩
        · have k9 : (f.kind == 9) = false := beq_eq_false_iff_ne.2 h9
          by_cases h10 : f.kind = 10
          · have k10 : (f.kind == 10) = true := beq_iff_eq.2 h10
            have hm9 : most nE nM f.kind = nM := by unfold most; rw [if_neg h9, if_pos h10]
            have HM := Lib.hid hm9
            clear h9 h10 hm9
            go_wp2_with fail
            go_meet
            exact ⟨by rw [HM.out], rfl⟩
          · have k10 : (f.kind == 10) = false := beq_eq_false_iff_ne.2 h10
            have hm9 : most nE nM f.kind = 1 := by unfold most; rw [if_neg h9, if_neg h10]
            have HM := Lib.hid hm9
            clear h9 h10 hm9
            go_wp2_with fail
            go_meet
            exact ⟨by rw [HM.out], rfl⟩
      case rest =>
        obtain ⟨rfl, rfl⟩ := hcut
        generalize wr.alloc (.cells #[.int .i64 f.num, .string f.name, .int .i64 f.kind, .bool f.rep, .int .i64 f.typ] 48) = w3 at *
        generalize hmo : most nE nM f.kind = mo at *
        have HMO := Lib.hid hmo
        clear hmo
        have t0 := hbf.cell 0
        have t1 := hbf.cell 1
        have t2 := hbf.cell 2
        have t3 := hbf.cell 3
        have t4 := hbf.cell 4
        simp at t0 t1 t2 t3 t4
        have hf3 := hf.trans hfa (fun _ h _ => h)
        have hfw3 := hfr.trans hf3 (fun _ h _ => h)
        have hFN := Lib.hid (fieldNumber_any f.num w3)
        have hPL := Lib.hid (plain_any f.name w3 (by omega))
        cases d1 : fieldNumberB f.num with
        | false =>
          have hok : okField nE nM last f = false := by unfold okField; rw [HMO.out, d1]; simp
          have HOK := Lib.hid hok
          clear hok
          rw [d1] at hFN
          clear d1
          go_wp2_with fail
          refine hFN.out.mono ?_
          rintro e w' ⟨rfl, rfl⟩
          go_wp2_with fail
          go_ret
          exact ⟨by have h := (fieldsGo_no HOK.out).symm.trans HG.out; unfold messageB; rw [← h]; rfl, hfw3⟩
        | true =>
          cases d2 : decide (f.num ≤ last) with
          | true =>
            have hok : okField nE nM last f = false := by unfold okField; rw [HMO.out, d1, d2]; simp
            have HOK := Lib.hid hok
            clear hok
            rw [d1] at hFN
            clear d1
            go_wp2_with fail
            refine hFN.out.mono ?_
            rintro e w' ⟨rfl, rfl⟩
            go_wp2_with fail
            go_ret
            exact ⟨by have h := (fieldsGo_no HOK.out).symm.trans HG.out; unfold messageB; rw [← h]; rfl, hfw3⟩
          | false =>
            cases d3 : plainB f.name with
            | false =>
              have hok : okField nE nM last f = false := by unfold okField; rw [HMO.out, d1, d2, d3]; simp
              have HOK := Lib.hid hok
              clear hok
              rw [d1] at hFN
              clear d1
              rw [d3] at hPL
              clear d3
              go_wp2_with fail
              refine hFN.out.mono ?_
              rintro e w' ⟨rfl, rfl⟩
              go_wp2_with fail
              refine hPL.out.mono ?_
              rintro e w4 ⟨rfl, hf4⟩
              go_wp2_with fail
              go_ret
              exact ⟨by have h := (fieldsGo_no HOK.out).symm.trans HG.out; unfold messageB; rw [← h]; rfl, (hfw3.trans hf4 (fun _ h _ => h))⟩
            | true =>
              cases d4 : decide (f.kind < 1) with
              | true =>
                have hok : okField nE nM last f = false := by unfold okField; rw [HMO.out, d1, d2, d3, d4]; simp
                have HOK := Lib.hid hok
                clear hok
                rw [d1] at hFN
                clear d1
                rw [d3] at hPL
                clear d3
                go_wp2_with fail
                refine hFN.out.mono ?_
                rintro e w' ⟨rfl, rfl⟩
                go_wp2_with fail
                refine hPL.out.mono ?_
                rintro e w4 ⟨rfl, hf4⟩
                have u0 := hf4.cell_some t0 id
                have u2 := hf4.cell_some t2 id
                have u4 := hf4.cell_some t4 id
                go_wp2_with fail
                go_ret
                exact ⟨by have h := (fieldsGo_no HOK.out).symm.trans HG.out; unfold messageB; rw [← h]; rfl, (hfw3.trans hf4 (fun _ h _ => h))⟩
              | false =>
                cases d5 : decide (10 < f.kind) with
                | true =>
                  have hok : okField nE nM last f = false := by unfold okField; rw [HMO.out, d1, d2, d3, d4, d5]; simp
                  have HOK := Lib.hid hok
                  clear hok
                  rw [d1] at hFN
                  clear d1
                  rw [d3] at hPL
                  clear d3
                  go_wp2_with fail
                  refine hFN.out.mono ?_
                  rintro e w' ⟨rfl, rfl⟩
                  go_wp2_with fail
                  refine hPL.out.mono ?_
                  rintro e w4 ⟨rfl, hf4⟩
                  have u0 := hf4.cell_some t0 id
                  have u2 := hf4.cell_some t2 id
                  have u4 := hf4.cell_some t4 id
                  go_wp2_with fail
                  go_ret
                  exact ⟨by have h := (fieldsGo_no HOK.out).symm.trans HG.out; unfold messageB; rw [← h]; rfl, (hfw3.trans hf4 (fun _ h _ => h))⟩
                | false =>
                  cases d6 : decide (f.typ < 0) with
                  | true =>
                    have hok : okField nE nM last f = false := by unfold okField; rw [HMO.out, d1, d2, d3, d4, d5, d6]; simp
                    have HOK := Lib.hid hok
                    clear hok
                    rw [d1] at hFN
                    clear d1
                    rw [d3] at hPL
                    clear d3
                    go_wp2_with fail
                    refine hFN.out.mono ?_
                    rintro e w' ⟨rfl, rfl⟩
                    go_wp2_with fail
                    refine hPL.out.mono ?_
                    rintro e w4 ⟨rfl, hf4⟩
                    have u0 := hf4.cell_some t0 id
                    have u2 := hf4.cell_some t2 id
                    have u4 := hf4.cell_some t4 id
                    go_wp2_with fail
                    go_ret
                    exact ⟨by have h := (fieldsGo_no HOK.out).symm.trans HG.out; unfold messageB; rw [← h]; rfl, (hfw3.trans hf4 (fun _ h _ => h))⟩
                  | false =>
                    cases d7 : decide (mo ≤ f.typ) with
                    | true =>
                      have hok : okField nE nM last f = false := by unfold okField; rw [HMO.out, d1, d2, d3, d4, d5, d6, d7]; simp
                      have HOK := Lib.hid hok
                      clear hok
                      rw [d1] at hFN
                      clear d1
                      rw [d3] at hPL
                      clear d3
                      go_wp2_with fail
                      refine hFN.out.mono ?_
                      rintro e w' ⟨rfl, rfl⟩
                      go_wp2_with fail
                      refine hPL.out.mono ?_
                      rintro e w4 ⟨rfl, hf4⟩
                      have u0 := hf4.cell_some t0 id
                      have u2 := hf4.cell_some t2 id
                      have u4 := hf4.cell_some t4 id
                      go_wp2_with fail
                      go_ret
                      exact ⟨by have h := (fieldsGo_no HOK.out).symm.trans HG.out; unfold messageB; rw [← h]; rfl, (hfw3.trans hf4 (fun _ h _ => h))⟩
                    | false =>
                      have hok : okField nE nM last f = true := by unfold okField; rw [HMO.out, d1, d2, d3, d4, d5, d6, d7]; rfl
                      have HOK := Lib.hid hok
                      clear hok
                      rw [d1] at hFN
                      rw [d3] at hPL
                      clear d1 d3
                      go_wp2_with fail
                      refine hFN.out.mono ?_
                      rintro e w' ⟨rfl, rfl⟩
                      go_wp2_with fail
                      refine hPL.out.mono ?_
                      rintro e w4 ⟨rfl, hf4⟩
                      have u0 := hf4.cell_some t0 id
                      have u2 := hf4.cell_some t2 id
                      have u4 := hf4.cell_some t4 id
                      go_wp2_with fail
                      go_roundw
                      case rel => exact ⟨k + 1, f.num, by go_num, rfl, by omega, (fieldsGo_ok HOK.out).symm.trans HG.out, (hf3.trans hf4 (fun _ h _ => h))⟩
                      case measure => simp [intOf]; omega
    · have hkk : k = m.fields.length := by omega
      rw [hkk, List.drop_length] at hgo
      have hgo : fieldsGo nE nM 0 m.fields = true := by rw [← hgo]; rfl
      have hU := Lib.hid (unlikeF 61 FD.name A c m.fields (fun _ => True) wr (hr.mv (Mv.new hfw) (fun _ _ _ h => h)) hl (fun _ _ => by kernel_rfl) (fun x w' _ _ => name_of_field x w'))
      have HG := Lib.hid hgo
      clear hgo hkk
      by_cases h32 : m.fields.length ≤ 32
      · have k32 : decide ((m.fields.length : Int) ≤ 32) = true := decide_eq_true (by omega)
        go_wp2_with fail
        refine hU.out.mono ?_
        rintro e w4 ⟨rfl, hf4⟩
        go_wp2_with fail
        go_ret
        exact ⟨by unfold messageB; rw [HG.out, decide_eq_true h32]; simp, hfw.trans hf4 (fun _ h _ => h)⟩
      · have k32 : decide ((m.fields.length : Int) ≤ 32) = false := decide_eq_false (by omega)
        go_wp2_with fail
        go_ret
        exact ⟨by unfold messageB; rw [HG.out, decide_eq_false h32]; rfl, hfw⟩
end Go.Proofs.YtcfmcgkngjpdbaaDoor
