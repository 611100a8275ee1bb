/- Clean, Get, Must, must. -/
import Derived.Test.YtcfmcgkngjpdbaaDoorV5
import Derived.Test.YtcfmcgkngjpdbaaDoorV3
import Derived.Defers
import Derived.Recover
import Derived.Laws.Pointers
import Derived.LoopN
namespace Go.Proofs.YtcfmcgkngjpdbaaDoor
set_option linter.unusedVariables false
set_option linter.unusedSimpArgs false
open Go.RowKit
attribute [local go_sem] ta_Int_Int ta_Int_Uint ta_Int_Bool ta_Int_Text ta_Int_Bytes ta_Int_Enum ta_Int_Message ta_Int_nil ta_Uint_Int ta_Uint_Uint ta_Uint_Bool ta_Uint_Text ta_Uint_Bytes ta_Uint_Enum ta_Uint_Message ta_Uint_nil ta_Bool_Int ta_Bool_Uint ta_Bool_Bool ta_Bool_Text ta_Bool_Bytes ta_Bool_Enum ta_Bool_Message ta_Bool_nil ta_Text_Int ta_Text_Uint ta_Text_Bool ta_Text_Text ta_Text_Bytes ta_Text_Enum ta_Text_Message ta_Text_nil ta_Bytes_Int ta_Bytes_Uint ta_Bytes_Bool ta_Bytes_Text ta_Bytes_Bytes ta_Bytes_Enum ta_Bytes_Message ta_Bytes_nil ta_Enum_Int ta_Enum_Uint ta_Enum_Bool ta_Enum_Text ta_Enum_Bytes ta_Enum_Enum ta_Enum_Message ta_Enum_nil ta_Message_Int ta_Message_Uint ta_Message_Bool ta_Message_Text ta_Message_Bytes ta_Message_Enum ta_Message_Message ta_Message_nil tm_Message

set_option maxHeartbeats 1000000 in
set_option maxRecDepth 100000 in
theorem clean_any (d : Nat) (x : Nd d) (cs : List Value) (ok : Nat → Prop) (w : World) (h : NodeAt d w ok x cs) (hf : Fine d x) :
    Calls Tryd.prog 11 #[.agg cs.toArray] w (OursR d x w) := by
  obtain ⟨a0, a1, a2, a3, a4, a5, a6, rfl⟩ := len7 h.len
  have hf2 : Fr NoB w ((w.alloc (.cells #[a0, a1, a2, a3, a4, a5, a6] 25)).alloc (.cells #[.int .i64 0, .int .i64 0, .int .u64 0, .bool false, .string ⟨#[]⟩, .int .i64 0, .slice none 0 0] 25)) := ((Fr.refl NoB w).alloc _).alloc _
  have hb := Blk.second w (.cells #[a0, a1, a2, a3, a4, a5, a6] 25) 25 #[.int .i64 0, .int .i64 0, .int .u64 0, .bool false, .string ⟨#[]⟩, .int .i64 0, .slice none 0 0]
  have hz : ((w.alloc (.cells #[a0, a1, a2, a3, a4, a5, a6] 25)).alloc (.cells #[.int .i64 0, .int .i64 0, .int .u64 0, .bool false, .string ⟨#[]⟩, .int .i64 0, .slice none 0 0] 25)).heap.size = w.heap.size + 1 + 1 := by simp
  have hT := Lib.hid (theirs_any d x [a0, a1, a2, a3, a4, a5, a6] ok _ (h.mv (Mv.new hf2)) hf)
  have Z := Lib.hid hz
  go_enter Tryd.func11, Tryd.ntmps11
  clear hz
  go_wp2_with fail
  refine hT.out.mono ?_
  rintro e w2 ⟨v, rfl, hv, hf3⟩
  have hO := Lib.hid (ours_any d x v _ w2 hv hf)
  go_wp2_with fail
  refine hO.out.mono ?_
  rintro e w3 ⟨cs, rfl, hn, hf4⟩
  obtain ⟨n0, n1, n2, n3, n4, n5, n6, l6, c6, rfl⟩ := hn.shape
  have hf34 := hf3.trans hf4 (fun _ h _ => h)
  have hf24 := hf2.trans hf34 (fun _ h _ => h)
  have hbb := hb.fr hf34 id
  have g0 := hbb.cell 0
  have g1 := hbb.cell 1
  have g2 := hbb.cell 2
  have g3 := hbb.cell 3
  have g4 := hbb.cell 4
  have g5 := hbb.cell 5
  have g6 := hbb.cell 6
  have gf := hbb.frozen
  simp at g0 g1 g2 g3 g4 g5 g6
  have hz := Z.out
  have h3 := hf3.size
  have hT9 := ((((((((Fr.refl (OneB (w.heap.size + 1)) w3).setCell (p := ⟨w.heap.size + 1, 0, none⟩) (fun _ => rfl) (.int .i64 n0)).setCell (p := ⟨w.heap.size + 1, 1, none⟩) (fun _ => rfl) (.int .i64 n1)).setCell (p := ⟨w.heap.size + 1, 2, none⟩) (fun _ => rfl) (.int .u64 n2)).setCell (p := ⟨w.heap.size + 1, 3, none⟩) (fun _ => rfl) (.bool n3)).setCell (p := ⟨w.heap.size + 1, 4, none⟩) (fun _ => rfl) (.string n4)).setCell (p := ⟨w.heap.size + 1, 5, none⟩) (fun _ => rfl) (.int .i64 n5)).setCell (p := ⟨w.heap.size + 1, 6, none⟩) (fun _ => rfl) (.slice n6 l6 c6))
  clear hz h3
  go_wp2_with fail
  have hz := Z.out
  have h3 := hf3.size
  refine bodyPost_ret (v := .agg #[.int .i64 n0, .int .i64 n1, .int .u64 n2, .bool n3, .string n4, .int .i64 n5, .slice n6 l6 c6]) (by simp [results, Tryd.results11, go_sem, g0, g1, g2, g3, g4, g5, g6]) rfl ⟨_, rfl, ?_, hf24.trans hT9 (fun b hb hl => absurd hl (by have : b = w.heap.size + 1 := hb; omega))⟩
  exact hn.mv ((Mv.fr hT9 (fun b hb _ e => by have : b = w.heap.size + 1 := e; omega)).trans (Mv.mono _ (fun b hb _ => by omega)))

def CloneR (n : Nat) (xs : List Value) (w : World) (e : Ending) (w' : World) : Prop := ∃ A' c', e = .returned (.slice A' n c') ∧ (A' = none → c' = 0) ∧ n ≤ c' ∧ Rd w' (fun _ => True) 1 A' n xs ∧ Fr NoB w w'
/-- slices.Clone of values: a row of its own with the same cells. -/
theorem cloneV_any (ok : Nat → Prop) (A : Option Addr) (n c : Nat) (xs : List Value) (w : World) (hA : A = none → c = 0) (hr : Rd w ok 1 A n xs) (h1 : ∀ u ∈ xs, u.oneCell' = true) (hn : n ≤ 1000) :
    Calls Tryd.prog 23 #[.slice A n c] w (CloneR n xs w) := by
  obtain ⟨i0, hi0, hz0, hz1, hz2⟩ := info_parts infoV
  rcases A with _ | a
  · obtain rfl := hA rfl
    have h0 : n = 0 := by
      rcases Nat.eq_zero_or_pos n with h | h
      · exact h
      · obtain ⟨b, o, h, _⟩ := hr.2 h
        cases h
    subst h0
    have hnil := fun (w : World) => Lib.run_eql_slice_nil (P := Tryd.prog) w 39 34 none 0 0 0 0 Tryd.underlying39
    go_enter Tryd.func23, Tryd.ntmps23
    go_wp2
    go_ret
    exact ⟨none, 0, rfl, fun _ => rfl, Nat.le_refl _, hr.mono (fun _ _ _ => trivial), Fr.refl _ _⟩
  · have hnil := fun (w : World) => Lib.run_eql_slice_nil (P := Tryd.prog) w 39 34 (some a) n c 0 0 Tryd.underlying39
    go_enter Tryd.func23, Tryd.ntmps23
    go_wp2_with (at_builtin; refine wpList_app _ rfl (.tmp 5) (.tmp 6) 39 rfl w.heap.size 34 i0 _ 1 16 Tryd.underlying39 hi0 hz0 hz1 hz2 rfl (by omega) (.slice (some ⟨w.heap.size, 0, none⟩) 0 0) 0 [] rfl (own_len_zero _ (Nat.le_refl _) (Blk.new w 34 #[])) ok (some a) n c (fun h => by cases h) xs rfl (hr.fr ((Fr.refl NoB w).alloc _) (fun _ _ _ => id)) h1 (by simp only [maxLen]; omega) (by omega) (by simp) ?_; intro v1 w1 hown hg hat)
    go_ret
    simp only [Nat.zero_add, List.nil_append] at hown
    obtain ⟨A', c', rfl, hc', _, h0', _⟩ := own_slice hown
    exact ⟨A', c', rfl, h0', hc', Rd.of_own hown (fun _ _ => trivial), ((Fr.refl NoB w).alloc _).grown hg (fun k hk => by simp [Value.ownBlock] at hk; omega)⟩

/-- A field's values by its number. -/
def getF {d : Nat} (x : Rec (Nd d)) (number : Int) : List (Nd d) := if x.k = 7 then (match x.fs.find? (fun p => p.1 == number) with | some p => p.2 | none => []) else []
theorem getF_hit {d : Nat} (x : Rec (Nd d)) (number : Int) (k : Nat) (hlt : k < x.fs.length) (h7 : x.k = 7) (kq : (x.fs[k].1 == number) = true) (hno : ∀ p ∈ x.fs.take k, (p.1 == number) = false) : getF x number = x.fs[k].2 := by
  have h : x.fs.find? (fun p => p.1 == number) = some x.fs[k] := by
    rw [List.find?_eq_some_iff_getElem]
    exact ⟨kq, k, hlt, rfl, fun j hj => by
      have := hno x.fs[j] (List.mem_take_iff_getElem.2 ⟨j, by omega, rfl⟩)
      simp [this]⟩
  unfold getF
  rw [if_pos h7, h]
theorem getF_none {d : Nat} (x : Rec (Nd d)) (number : Int) (hno : ∀ p ∈ x.fs, (p.1 == number) = false) : getF x number = [] := by
  have h : x.fs.find? (fun p => p.1 == number) = none := by
    rw [List.find?_eq_none]
    intro p hp
    simp [hno p hp]
  unfold getF
  rw [h]
  split <;> rfl
def GetR (d : Nat) (x : Rec (Nd d)) (number : Int) (w : World) (e : Ending) (w' : World) : Prop :=
  ∃ A c, e = .returned (.slice A (getF x number).length c) ∧ Row 1 (ElemR d w' (fun _ => True)) w' (fun _ => True) A (getF x number) ∧ Fr NoB w w'

set_option maxHeartbeats 1000000 in
set_option maxRecDepth 100000 in
theorem get_any (d : Nat) (x : Rec (Nd d)) (v : Value) (number : Int) (ok : Nat → Prop) (w : World) (h : ValAt (d + 1) w ok x v) (hf : Fine (d + 1) x) :
    Calls Tryd.prog 12 #[v, .int .i64 number] w (GetR d x number w) := by
  obtain ⟨hw, h⟩ := h
  obtain ⟨hfl, hfn⟩ := hf
  by_cases h7 : x.k = 7
  · obtain ⟨A, c, rfl, hc, h0, hr⟩ : ∃ A c, v = .iface 30 (.agg #[.int .i64 x.t, .slice A x.fs.length c, .string x.s]) ∧ x.fs.length ≤ c ∧ (A = none → c = 0) ∧ FieldsAt (ValAt d w ok) w ok A x.fs := by
      rcases h with h | h | h | h | h | h | h | h
      case inr.inr.inr.inr.inr.inr.inl => exact h.2
      all_goals exact absurd h.1 (by omega)
    clear h
    have hr : Row 2 (FieldR d w ok) w ok A x.fs := hr
    have H7 := Lib.hid h7
    clear h7
    have hfr : Fr NoB w (w.alloc (.cells #[.int .i64 x.t, .slice A x.fs.length c, .string x.s] 30)) := (Fr.refl NoB w).alloc _
    go_enter Tryd.func12, Tryd.ntmps12
    go_wp2_with fail
    generalize (w.alloc (.cells #[.int .i64 x.t, .slice A x.fs.length c, .string x.s] 30)) = w1 at *
    go_loopw [17] (fun i wr => ∃ k : Nat, i = .int .i64 k ∧ k ≤ x.fs.length ∧ (∀ p ∈ x.fs.take k, (p.1 == number) = false) ∧ Fr NoB w1 wr) (fun i _ => x.fs.length - (intOf i).toNat)
    case atStart => exact ⟨0, rfl, by omega, by simp, Fr.refl _ _⟩
    case round =>
      obtain ⟨k, rfl, hk, hno, hfk⟩ := hrel
      have hfw := hfr.trans hfk (fun _ h _ => h)
      by_cases hlt : k < x.fs.length
      · have p1 : (k : Int) < (x.fs.length : Int) := by omega
        have p0 : (0 : Int) ≤ (k : Int) := by omega
        obtain ⟨b, o, cs, rfl, _, hbl, _, ⟨A1, c1, rfl, hc1, h01, hr1⟩, hcell⟩ := hr.at_ k x.fs[k] (List.getElem?_eq_getElem hlt)
        have e0 := hfw.cell_some (hcell 0 _ rfl) id
        have e1 := hfw.cell_some (hcell 1 _ rfl) id
        simp only [Nat.add_zero] at e0
        have hfa : Fr NoB wr (wr.alloc (.cells #[.int .i64 x.fs[k].1, .slice A1 x.fs[k].2.length c1] 78)) := (Fr.refl NoB wr).alloc _
        by_cases hhit : x.fs[k].1 = number
        · have kq : (x.fs[k].1 == number) = true := beq_iff_eq.2 hhit
          obtain ⟨xs, hrep, hrd⟩ := hr1
          have hones : ∀ u ∈ xs, u.oneCell' = true := hrep.all (fun y cs _ ⟨v, e, hv⟩ u hu => by rw [e] at hu; rw [List.mem_singleton.1 hu]; exact hv.one)
          have hfz := hfw.trans hfa (fun _ h _ => h)
          have hC := Lib.hid (cloneV_any ok A1 x.fs[k].2.length c1 xs _ h01 (hrd.fr hfz (fun _ _ _ => id)) hones (by have := (hfn _ (List.getElem_mem hlt)).1; omega))
          have hget := getF_hit x number k hlt H7.out kq hno
          have HG := Lib.hid hget
          clear hhit hget
          go_wp2_with fail
          refine hC.out.mono ?_
          rintro e w5 ⟨A', c', rfl, h0', hc', hrd', hf5⟩
          go_wp2_with fail
          go_ret
          have hfall := hfz.trans hf5 (fun _ h _ => h)
          refine ⟨A', c', ?_, ?_, hfall⟩
          · rw [HG.out]
            rfl
          · rw [HG.out]
            exact ⟨xs, hrep.mono (fun y cs _ hy => hy.mv (Mv.new hfall).all), hrd'⟩
        · have kq : (x.fs[k].1 == number) = false := beq_eq_false_iff_ne.2 hhit
          go_wp2_with fail
          go_roundw
          case rel => exact ⟨k + 1, by go_num, by omega, fun p hp => by
            rw [List.take_succ_eq_append_getElem hlt] at hp
            rcases List.mem_append.1 hp with h1 | h1
            · exact hno p h1
            · rw [List.mem_singleton.1 h1]; exact kq, hfk.trans hfa (fun _ h _ => h)⟩
          case measure => simp [intOf]; omega
      · go_wp2_with fail
        go_ret
        have hkk : k = x.fs.length := by omega
        subst hkk
        rw [List.take_length] at hno
        have hget := getF_none x number hno
        exact ⟨none, 0, by rw [hget]; rfl, by rw [hget]; exact Row.nil _ _ _ _ _, hfw⟩
  · have hget : getF x number = [] := by unfold getF; rw [if_neg h7]
    have HG := Lib.hid hget
    clear hget
    rcases h with ⟨hk, rfl⟩ | ⟨hk, rfl⟩ | ⟨hk, rfl⟩ | ⟨hk, rfl⟩ | ⟨hk, rfl⟩ | ⟨hk, rfl⟩ | ⟨hk, A, c, hv, hc, h0, hr⟩ | ⟨hk, rfl⟩
    case inr.inr.inr.inr.inr.inr.inl => exact absurd hk h7
    all_goals
      clear hk
      go_enter Tryd.func12, Tryd.ntmps12
      go_wp2_with fail
      refine wp_loop_rounds 1 ?_
      rw [rounds_succ]
      go_wp2_with fail
      go_ret
      exact ⟨none, 0, by rw [HG.out]; rfl, by rw [HG.out]; exact Row.nil _ _ _ _ _, (Fr.refl NoB w).alloc _⟩
end Go.Proofs.YtcfmcgkngjpdbaaDoor
