/- Ours: the node of a value, in memory of its own; of what the value was made of, just what belongs to its kind. -/
import Derived.Test.YtcfmcgkngjpdbaaDoorV4
import Derived.Test.YtcfmcgkngjpdbaaDoorTA
namespace Go.Proofs.YtcfmcgkngjpdbaaDoor
set_option linter.unusedVariables false
set_option linter.unusedSimpArgs false
open Go.RowKit Go.Proofs.YtcfmcgkngjpdbaaDoorW.PrintWords Go.Proofs.YtcfmcgkngjpdbaaDoorW.PrintLast
attribute [local go_sem] ta_Int_Int ta_Int_Uint ta_Int_Bool ta_Int_Text ta_Int_Bytes ta_Int_Enum ta_Int_Message ta_Int_nil ta_Uint_Int ta_Uint_Uint ta_Uint_Bool ta_Uint_Text ta_Uint_Bytes ta_Uint_Enum ta_Uint_Message ta_Uint_nil ta_Bool_Int ta_Bool_Uint ta_Bool_Bool ta_Bool_Text ta_Bool_Bytes ta_Bool_Enum ta_Bool_Message ta_Bool_nil ta_Text_Int ta_Text_Uint ta_Text_Bool ta_Text_Text ta_Text_Bytes ta_Text_Enum ta_Text_Message ta_Text_nil ta_Bytes_Int ta_Bytes_Uint ta_Bytes_Bool ta_Bytes_Text ta_Bytes_Bytes ta_Bytes_Enum ta_Bytes_Message ta_Bytes_nil ta_Enum_Int ta_Enum_Uint ta_Enum_Bool ta_Enum_Text ta_Enum_Bytes ta_Enum_Enum ta_Enum_Message ta_Enum_nil ta_Message_Int ta_Message_Uint ta_Message_Bool ta_Message_Text ta_Message_Bytes ta_Message_Enum ta_Message_Message ta_Message_nil
def F10.T30 : Bool × List (List Nat × List Nat) := (true, [([], []), ([0], [0]), ([], []), ([2], [2]), ([], []), ([3, 4], [3, 4]), ([5], [5]), ([6], [6]), ([], []), ([7, 8], [7, 8]), ([9], [9]), ([10], [10]), ([11], [11]), ([1, 12, 11], [1, 12]), ([0, 1, 2, 3, 4, 5, 6, 7, 8, 9, 10, 11, 12, 13], []), ([14, 13, 13, 0, 1, 2, 3, 4, 5, 6, 7, 8, 9, 10, 11, 12, 13], [13, 14])])
def F10.B30 : List Nat := [0, 1, 0, 4, 0, 28, 60, 124, 0, 508, 1020, 2044, 4092, 8191, 16383, 32767]
theorem F10.tab30 : rtab .any (opsOf Tryd.f10 30) = F10.T30 := by kernel_rfl
theorem F10.bits30 : waitsOk F10.T30.2 F10.B30 = true := by kernel_rfl
theorem infoN : (Tryd.prog.info? 25).map (fun i => (i.zero, i.size, i.bytes)) = some (some (.agg #[.int .i64 0, .int .i64 0, .int .u64 0, .bool false, .string ⟨#[]⟩, .int .i64 0, .slice none 0 0]), 7, 80) := by kernel_rfl
theorem infoG : (Tryd.prog.info? 43).map (fun i => (i.zero, i.size, i.bytes)) = some (some (.agg #[.int .i64 0, .slice none 0 0]), 2, 32) := by kernel_rfl

theorem wf_wrap32 (n : Int) : (Lit.int .i64 (wrap32 n)).wf = true := WalkArith.wf_i64 (by unfold wrap32; omega)

def OursR (d : Nat) (x : Nd d) (w : World) (e : Ending) (w' : World) : Prop := ∃ cs : List Value, e = .returned (.agg cs.toArray) ∧ NodeAt d w' (fun b => w.heap.size ≤ b) (clean d x) cs ∧ Fr NoB w w'

set_option maxHeartbeats 1000000 in
set_option maxRecDepth 100000 in
theorem ours_flat (d : Nat) (x : Rec (Nd d)) (v : Value) (ok : Nat → Prop) (w : World) (h : ValAt (d + 1) w ok x v) (h7 : x.k ≠ 7) :
    Calls Tryd.prog 10 #[v] w (OursR (d + 1) x w) := by
  obtain ⟨hw, h⟩ := h
  have z0 : (Lit.int .i64 0).wf = true := by decide
  have z1 : (Lit.int .u64 0).wf = true := by decide
  have z2 : (⟨#[]⟩ : ByteArray).size ≤ 140737488355328 := by decide
  rcases h with ⟨hk, rfl⟩ | ⟨hk, rfl⟩ | ⟨hk, rfl⟩ | ⟨hk, rfl⟩ | ⟨hk, rfl⟩ | ⟨hk, rfl⟩ | ⟨hk, A, c, hv, hc, h0, hr⟩ | ⟨hk, rfl⟩
  · have e : clean (d + 1) x = (⟨1, x.n, 0, false, ⟨#[]⟩, 0, []⟩ : Rec (Nd d)) := by simp [clean, hk]; rfl
    go_enter Tryd.func10, Tryd.ntmps10
    go_wp2_with fail
    refine bodyPost_ret (v := .agg #[.int .i64 1, .int .i64 x.n, .int .u64 0, .bool false, .string ⟨#[]⟩, .int .i64 0, .slice none 0 0]) (by simp [results, Tryd.results10, go_sem]) rfl ⟨_, rfl, ?_, (Fr.refl NoB w).alloc _⟩
    rw [e]
    exact flat_node (⟨1, x.n, 0, false, ⟨#[]⟩, 0, []⟩ : Rec (Nd d)) ⟨(by show (Lit.int .i64 1).wf = true; decide), hw.n, z1, z0, (fun _ h => by cases h), z2, Nat.zero_le _⟩ rfl
  · have e : clean (d + 1) x = (⟨2, 0, x.u, false, ⟨#[]⟩, 0, []⟩ : Rec (Nd d)) := by simp [clean, hk]; rfl
    go_enter Tryd.func10, Tryd.ntmps10
    go_wp2_with fail
    refine bodyPost_ret (v := .agg #[.int .i64 2, .int .i64 0, .int .u64 x.u, .bool false, .string ⟨#[]⟩, .int .i64 0, .slice none 0 0]) (by simp [results, Tryd.results10, go_sem]) rfl ⟨_, rfl, ?_, (Fr.refl NoB w).alloc _⟩
    rw [e]
    exact flat_node (⟨2, 0, x.u, false, ⟨#[]⟩, 0, []⟩ : Rec (Nd d)) ⟨(by show (Lit.int .i64 2).wf = true; decide), z0, hw.u, z0, (fun _ h => by cases h), z2, Nat.zero_le _⟩ rfl
  · have e : clean (d + 1) x = (⟨3, 0, 0, x.b, ⟨#[]⟩, 0, []⟩ : Rec (Nd d)) := by simp [clean, hk]; rfl
    go_enter Tryd.func10, Tryd.ntmps10
    go_wp2_with fail
    refine bodyPost_ret (v := .agg #[.int .i64 3, .int .i64 0, .int .u64 0, .bool x.b, .string ⟨#[]⟩, .int .i64 0, .slice none 0 0]) (by simp [results, Tryd.results10, go_sem]) rfl ⟨_, rfl, ?_, (Fr.refl NoB w).alloc _⟩
    rw [e]
    exact flat_node (⟨3, 0, 0, x.b, ⟨#[]⟩, 0, []⟩ : Rec (Nd d)) ⟨(by show (Lit.int .i64 3).wf = true; decide), z0, z1, z0, (fun _ h => by cases h), z2, Nat.zero_le _⟩ rfl
  · have e : clean (d + 1) x = (⟨4, 0, 0, false, x.s, 0, []⟩ : Rec (Nd d)) := by simp [clean, hk]; rfl
    go_enter Tryd.func10, Tryd.ntmps10
    go_wp2_with fail
    refine bodyPost_ret (v := .agg #[.int .i64 4, .int .i64 0, .int .u64 0, .bool false, .string x.s, .int .i64 0, .slice none 0 0]) (by simp [results, Tryd.results10, go_sem]) rfl ⟨_, rfl, ?_, (Fr.refl NoB w).alloc _⟩
    rw [e]
    exact flat_node (⟨4, 0, 0, false, x.s, 0, []⟩ : Rec (Nd d)) ⟨(by show (Lit.int .i64 4).wf = true; decide), z0, z1, z0, (fun _ h => by cases h), hw.sl, Nat.zero_le _⟩ rfl
  · have e : clean (d + 1) x = (⟨5, 0, 0, false, x.s, 0, []⟩ : Rec (Nd d)) := by simp [clean, hk]; rfl
    go_enter Tryd.func10, Tryd.ntmps10
    go_wp2_with fail
    refine bodyPost_ret (v := .agg #[.int .i64 5, .int .i64 0, .int .u64 0, .bool false, .string x.s, .int .i64 0, .slice none 0 0]) (by simp [results, Tryd.results10, go_sem]) rfl ⟨_, rfl, ?_, (Fr.refl NoB w).alloc _⟩
    rw [e]
    exact flat_node (⟨5, 0, 0, false, x.s, 0, []⟩ : Rec (Nd d)) ⟨(by show (Lit.int .i64 5).wf = true; decide), z0, z1, z0, (fun _ h => by cases h), hw.sl, Nat.zero_le _⟩ rfl
  · have e : clean (d + 1) x = (⟨6, wrap32 x.n, 0, false, ⟨#[]⟩, 0, []⟩ : Rec (Nd d)) := by simp [clean, hk]; rfl
    have ww : wrap64 (wrap32 x.n) = wrap32 x.n := by unfold wrap64 wrap32; omega
    go_enter Tryd.func10, Tryd.ntmps10
    go_wp2_with fail
    refine bodyPost_ret (v := .agg #[.int .i64 6, .int .i64 (wrap32 x.n), .int .u64 0, .bool false, .string ⟨#[]⟩, .int .i64 0, .slice none 0 0]) (by simp [results, Tryd.results10, go_sem, ww]) rfl ⟨_, rfl, ?_, (Fr.refl NoB w).alloc _⟩
    rw [e]
    exact flat_node (⟨6, wrap32 x.n, 0, false, ⟨#[]⟩, 0, []⟩ : Rec (Nd d)) ⟨(by show (Lit.int .i64 6).wf = true; decide), wf_wrap32 _, z1, z0, (fun _ h => by cases h), z2, Nat.zero_le _⟩ rfl
  · exact absurd hk h7
  · have e : clean (d + 1) x = (⟨0, 0, 0, false, ⟨#[]⟩, 0, []⟩ : Rec (Nd d)) := by
      have h1 : x.k ≠ 1 := by omega
      have h2 : x.k ≠ 2 := by omega
      have h3 : x.k ≠ 3 := by omega
      have h4 : x.k ≠ 4 := by omega
      have h5 : x.k ≠ 5 := by omega
      have h6 : x.k ≠ 6 := by omega
      simp [clean, h1, h2, h3, h4, h5, h6, h7]; rfl
    go_enter Tryd.func10, Tryd.ntmps10
    go_wp2_with fail
    refine bodyPost_ret (v := .agg #[.int .i64 0, .int .i64 0, .int .u64 0, .bool false, .string ⟨#[]⟩, .int .i64 0, .slice none 0 0]) (by simp [results, Tryd.results10, go_sem]) rfl ⟨_, rfl, ?_, (Fr.refl NoB w).alloc _⟩
    rw [e]
    exact flat_node (⟨0, 0, 0, false, ⟨#[]⟩, 0, []⟩ : Rec (Nd d)) ⟨z0, z0, z1, z0, (fun _ h => by cases h), z2, Nat.zero_le _⟩ rfl
/-- The seven cells of the cleaned node in a row. -/
def NodeR (d : Nat) (w : World) (ok : Nat → Prop) (y : Nd d) (cs : List Value) : Prop := NodeAt d w ok (clean d y) cs
theorem NodeR.mv {d : Nat} {w w' : World} {ok ok' : Nat → Prop} {y : Nd d} {cs : List Value} (h : NodeR d w ok y cs) (hm : Mv ok ok' w w') : NodeR d w' ok' y cs := NodeAt.mv h hm
/-- The two cells of the cleaned field in a row. -/
def GFieldR (d : Nat) (w : World) (ok : Nat → Prop) (p : Int × List (Nd d)) (cs : List Value) : Prop :=
  ∃ A c, cs = [.int .i64 p.1, .slice A p.2.length c] ∧ p.2.length ≤ c ∧ (A = none → c = 0) ∧ Row 7 (NodeR d w ok) w ok A p.2
theorem GFieldR.mv {d : Nat} {w w' : World} {ok ok' : Nat → Prop} {p : Int × List (Nd d)} {cs : List Value} (h : GFieldR d w ok p cs) (hm : Mv ok ok' w w') : GFieldR d w' ok' p cs := by
  obtain ⟨A, c, e, hc, h0, h⟩ := h
  exact ⟨A, c, e, hc, h0, h.mv hm (fun _ _ _ h => h.mv hm)⟩

set_option maxHeartbeats 4000000 in
set_option maxRecDepth 100000 in
theorem ours_any : ∀ (d : Nat) (x : Nd d) (v : Value) (ok : Nat → Prop) (w : World), ValAt d w ok x v → Fine d x →
    Calls Tryd.prog 10 #[v] w (OursR d x w) := by
  intro d
  induction d with
  | zero => exact fun x => x.elim
  | succ d ih =>
    intro (x : Rec (Nd d)) v ok w h hfine
    by_cases h7 : x.k = 7
    case neg => exact ours_flat d x v ok w h h7
    obtain ⟨hw, h⟩ := h
    obtain ⟨A, c, rfl, hc, h0, hr⟩ : ∃ A c, v = .iface 30 (.agg #[.int .i64 x.t, .slice A x.fs.length c, .string x.s]) ∧ x.fs.length ≤ c ∧ (A = none → c = 0) ∧ FieldsAt (ValAt d w ok) w ok A x.fs := by
      rcases h with h | h | h | h | h | h | h | h
      case inr.inr.inr.inr.inr.inr.inl => exact h.2
      all_goals exact absurd h.1 (by omega)
    obtain ⟨hfl, hfn⟩ := hfine
    have hr : Row 2 (FieldR d w ok) w ok A x.fs := hr
    have he : clean (d + 1) x = (⟨7, 0, 0, false, x.s, x.t, x.fs.map fun p => (p.1, p.2.map (clean d))⟩ : Rec (Nd d)) := by simp [clean, h7]; rfl
    have HE := Lib.hid he
    clear he h7
    clear h
    go_enter Tryd.func10, Tryd.ntmps10
    go_wp2_with fail
    have hfr1 : Fr NoB w ((w.alloc (.cells #[.int .i64 0, .int .i64 0, .int .u64 0, .bool false, .string ⟨#[]⟩, .int .i64 0, .slice none 0 0] 25)).alloc (.cells #[.int .i64 x.t, .slice A x.fs.length c, .string x.s] 30)) := ((Fr.refl NoB w).alloc _).alloc _
    have hbr := (Blk.new w 25 #[.int .i64 0, .int .i64 0, .int .u64 0, .bool false, .string ⟨#[]⟩, .int .i64 0, .slice none 0 0]).alloc (.cells #[.int .i64 x.t, .slice A x.fs.length c, .string x.s] 30)
    have hbx := Blk.second w (.cells #[.int .i64 0, .int .i64 0, .int .u64 0, .bool false, .string ⟨#[]⟩, .int .i64 0, .slice none 0 0] 25) 30 #[.int .i64 x.t, .slice A x.fs.length c, .string x.s]
    have hz1 : ((w.alloc (.cells #[.int .i64 0, .int .i64 0, .int .u64 0, .bool false, .string ⟨#[]⟩, .int .i64 0, .slice none 0 0] 25)).alloc (.cells #[.int .i64 x.t, .slice A x.fs.length c, .string x.s] 30)).heap.size = w.heap.size + 1 + 1 := by simp
    generalize (w.alloc (.cells #[.int .i64 0, .int .i64 0, .int .u64 0, .bool false, .string ⟨#[]⟩, .int .i64 0, .slice none 0 0] 25)).alloc (.cells #[.int .i64 x.t, .slice A x.fs.length c, .string x.s] 30) = w1 at *
    have hfr2 : Fr NoB w1 (w1.alloc (.cells #[.int .i64 7, .int .i64 0, .int .u64 0, .bool false, .string x.s, .int .i64 x.t, .slice none 0 0] 25)) := (Fr.refl NoB w1).alloc _
    have hbm := Blk.new w1 25 #[.int .i64 7, .int .i64 0, .int .u64 0, .bool false, .string x.s, .int .i64 x.t, .slice none 0 0]
    have hz2 : (w1.alloc (.cells #[.int .i64 7, .int .i64 0, .int .u64 0, .bool false, .string x.s, .int .i64 x.t, .slice none 0 0] 25)).heap.size = w1.heap.size + 1 := by simp
    rw [hz1] at hbm
    generalize w1.alloc (.cells #[.int .i64 7, .int .i64 0, .int .u64 0, .bool false, .string x.s, .int .i64 x.t, .slice none 0 0] 25) = w2 at *
    have Z1 := Lib.hid hz1
    have Z2 := Lib.hid hz2
    clear hz1 hz2
    obtain ⟨i0, hi0, hz0, hz1, hz2⟩ := info_parts infoN
    obtain ⟨i1, hi1, hy0, hy1, hy2⟩ := info_parts infoG
    go_loopw [57] (fun i wr => ∃ (k : Nat) (fv : Value) (xs : List Value), i = .int .i64 k ∧ k ≤ x.fs.length ∧ Blk wr (w.heap.size + 1 + 1) 25 #[.int .i64 7, .int .i64 0, .int .u64 0, .bool false, .string x.s, .int .i64 x.t, fv] ∧ wr.ownsRow w2.heap.size 43 2 fv k xs ∧
      RepL 2 (GFieldR d wr (okv w2.heap.size fv)) (x.fs.take k) xs ∧ Fr (OneB (w.heap.size + 1 + 1)) w2 wr ∧ Fr NoB w1 wr) (fun i _ => x.fs.length - (intOf i).toNat)
    case atStart => exact ⟨0, _, [], rfl, by omega, hbm, World.ownsRow_nil _ _ _ _, rfl, Fr.refl _ _, hfr2⟩
    case round =>
      obtain ⟨wo, rfl⟩ : ∃ wo : World, wo = wr := ⟨_, rfl⟩
      obtain ⟨k, fv, xs, rfl, hk, hbm2, hown, hrepF, hfm, hf1⟩ := hrel
      have hbx2 := hbx.fr hf1 id
      have b6 := hbx2.cell 1
      simp at b6
      have hfw := hfr1.trans hf1 (fun _ h _ => h)
      by_cases hlt : k < x.fs.length
      · have p1 : (k : Int) < (x.fs.length : Int) := by omega
        have p0 : (0 : Int) ≤ (k : Int) := by omega
        obtain ⟨b, o, cs, rfl, _, hbl, _, ⟨A1, c1, rfl, hc1, h01, hr1⟩, hcell⟩ := hr.at_ k x.fs[k] (List.getElem?_eq_getElem hlt)
        have e0 := hfw.cell_some (hcell 0 _ rfl) id
        have e1 := hfw.cell_some (hcell 1 _ rfl) id
        simp only [Nat.add_zero] at e0
        obtain ⟨hfl2, hfn2⟩ := hfn _ (List.getElem_mem hlt)
        have hfa : Fr NoB wo (wo.alloc (.cells #[.int .i64 x.fs[k].1, .slice none 0 0] 43)) := (Fr.refl NoB wo).alloc _
        have b6' := hfa.cell_some b6 id
        have e1' := hfa.cell_some e1 id
        go_wp2_with fail
        have hbf := Blk.new wo 43 #[.int .i64 x.fs[k].1, .slice none 0 0]
        have hz3 : (wo.alloc (.cells #[.int .i64 x.fs[k].1, .slice none 0 0] 43)).heap.size = wo.heap.size + 1 := by simp
        generalize hbfe : wo.heap.size = bf at *
        generalize wo.alloc (.cells #[.int .i64 x.fs[k].1, .slice none 0 0] 43) = w3 at *
        have Z3 := Lib.hid hz3
        have ZB := Lib.hid hbfe
        have hbfge : w1.heap.size ≤ bf := by have h := hf1.size; rw [hbfe] at h; exact h
        have hwob : ∀ b, b < wo.heap.size → b < bf := fun b h => by rw [hbfe] at h; exact h
        have hz2w : w2.heap.size ≤ bf := by have h := hfm.size; rw [hbfe] at h; exact h
        clear hz3 hbfe b6 e0 e1
        have hB0 : w1.heap.size ≤ w3.heap.size := Nat.le_trans hf1.size hfa.size
        have hbfl := hbf.lt
        have hbx3 := hbx2.fr hfa id
        have hfw3 := hfw.trans hfa (fun _ h _ => h)
        have hr2 := hr1.mv (Mv.new hfw3) (fun y cs _ hy => ElemR.mv hy (Mv.new hfw3))
        have hf13 := hf1.trans hfa (fun _ h _ => h)
        go_loopw [74] (fun i wj => ∃ (j : Nat) (vv : Value) (ys : List Value), i = .int .i64 j ∧ j ≤ x.fs[k].2.length ∧ Blk wj bf 43 #[.int .i64 x.fs[k].1, vv] ∧ wj.ownsRow w3.heap.size 25 7 vv j ys ∧
          RepL 7 (NodeR d wj (okv w3.heap.size vv)) (x.fs[k].2.take j) ys ∧ Fr (OneB bf) w3 wj ∧ Fr NoB w1 wj) (fun i _ => x.fs[k].2.length - (intOf i).toNat)
        case atStart => exact ⟨0, _, [], rfl, by omega, hbf, World.ownsRow_nil _ _ _ _, rfl, Fr.refl _ _, hf13⟩
        case round =>
          obtain ⟨j, vv, ys, rfl, hj, hbf2, own, hrep, hF, hS1⟩ := hrel
          have g6 := (hbx.fr hS1 id).cell 1
          simp at g6
          have e1 := (hfr1.trans hS1 (fun _ h _ => h)).cell_some (hcell 1 _ rfl) id
          by_cases hlt2 : j < x.fs[k].2.length
          · have p3 : (j : Int) < (x.fs[k].2.length : Int) := by omega
            have p2 : (0 : Int) ≤ (j : Int) := by omega
            have hfn3 := hfn2 _ (List.getElem_mem hlt2)
            obtain ⟨b2, o2, cs2, rfl, _, hbl2, hcl2, ⟨v1, rfl, hn2⟩, hcell2⟩ := hr1.at_ j x.fs[k].2[j] (List.getElem?_eq_getElem hlt2)
            have c0 := hfr1.cell_some (hcell2 0 _ rfl) id
            have e1 := hfr1.cell_some (hcell 1 _ rfl) id
            simp only [Nat.add_zero, Nat.mul_one] at c0
            have hn2 := hn2.mv (Mv.new (hfr1.trans hS1 (fun _ h _ => h)))
            have hvl := fun g hg => (own.lt g hg).2
            go_wp2_with fail
            refine start_ (n := 16) (S := fun w' => Blk w' bf 43 #[.int .i64 x.fs[k].1, vv] ∧ Fr NoB w1 w') (ds := [15]) #[false, false, false, false, false, false, false, false, false, false, false, false, false, false, false, false] (by kernel_rfl) rfl rfl ⟨hbf2.drew, hS1.drew⟩ (fun hHeld => ?_)
            refine with_tabW F10.tab30 F10.bits30 (fun HT_ HW_ => ?_)
            have hT0 : Fr NoB wr wr.drew := (Fr.refl NoB wr).drew
            have hz0' := Nat.le_trans hF.size hT0.size
            have hvl := fun g hg => Nat.lt_of_lt_of_le (hvl g hg) hT0.size
            have own := own_fr own hT0 (fun _ _ => id)
            have hrep := hrep.mono (R' := NodeR d wr.drew (okv w3.heap.size vv)) (fun y cs _ hy => hy.mv (Mv.new hT0))
            have hF := hF.trans hT0 (fun _ h _ => h.elim)
            have hn2 := hn2.mv (Mv.new hT0)
            generalize wr.drew = W0 at *
            refine pure_ (i := 0) (N := some 77) (v := ?_) (a' := ?_) #[true, false, false, false, false, false, false, false, false, false, false, false, false, false, false, false] rfl rfl (any_of HT_.out (by kernel_rfl)) (fun _ _ _ h => h) (Or.inl ⟨by rfl, ?_⟩) ?_ ?_
            rotate_left
            · intro w'
              go_simp
              with_reducible rfl
            rotate_left
            · simp only [Act.put, List.setIfInBounds_toArray, List.set_cons_zero, List.set_cons_succ, i64_w, i32_w]
              rfl
            refine pure_ (i := 2) (N := some 79) (v := ?_) (a' := ?_) #[true, false, true, false, false, false, false, false, false, false, false, false, false, false, false, false] rfl rfl (any_of HT_.out (by kernel_rfl)) (fun _ _ _ h => h) (Or.inl ⟨by rfl, ?_⟩) ?_ ?_
            rotate_left
            · intro w'
              go_simp
              with_reducible rfl
            rotate_left
            · simp only [Act.put, List.setIfInBounds_toArray, List.set_cons_zero, List.set_cons_succ, i64_w, i32_w]
              rfl
            refine pure_ (i := 4) (N := some 81) (v := ?_) (a' := ?_) #[true, false, true, false, true, false, false, false, false, false, false, false, false, false, false, false] rfl rfl (any_of HT_.out (by kernel_rfl)) (fun _ _ _ h => h) (Or.inl ⟨by rfl, ?_⟩) ?_ ?_
            rotate_left
            · intro w'
              go_simp
              with_reducible rfl
            rotate_left
            · simp only [Act.put, List.setIfInBounds_toArray, List.set_cons_zero, List.set_cons_succ, i64_w, i32_w]
              rfl
            refine pure_ (i := 8) (N := some 85) (v := ?_) (a' := ?_) #[true, false, true, false, true, false, false, false, true, false, false, false, false, false, false, false] rfl rfl (any_of HT_.out (by kernel_rfl)) (fun _ _ _ h => h) (Or.inl ⟨by rfl, ?_⟩) ?_ ?_
            rotate_left
            · intro w'
              go_simp
              with_reducible rfl
            rotate_left
            · simp only [Act.put, List.setIfInBounds_toArray, List.set_cons_zero, List.set_cons_succ, i64_w, i32_w]
              rfl
            refine take_ (i := 1) (N := some 78) (v := ?_) (a' := ?_) #[true, true, true, false, true, false, false, false, true, false, false, false, false, false, false, false] rfl rfl (take_ofW HT_.out HW_.out (by kernel_rfl)) (fun _ _ _ h => h) (Or.inl ⟨by rfl, ?_⟩) hHeld ?_ ?_
            rotate_left
            · intro w' hS
              have s1 := hS.1.cell 1
              simp at s1
              have b1 := (hbx.fr hS.2 id).cell 1
              simp at b1
              have s2 := hS.2.cell_some e1 id
              have q0 := hS.2.cell_some c0 id
              go_simp
              with_reducible rfl
            rotate_left
            · simp only [Act.put, List.setIfInBounds_toArray, List.set_cons_zero, List.set_cons_succ, i64_w, i32_w]
              rfl
            refine take_ (i := 3) (N := some 80) (v := ?_) (a' := ?_) #[true, true, true, true, true, false, false, false, true, false, false, false, false, false, false, false] rfl rfl (take_ofW HT_.out HW_.out (by kernel_rfl)) (fun _ _ _ h => h) (Or.inl ⟨by rfl, ?_⟩) hHeld ?_ ?_
            rotate_left
            · intro w' hS
              have s1 := hS.1.cell 1
              simp at s1
              have b1 := (hbx.fr hS.2 id).cell 1
              simp at b1
              have s2 := hS.2.cell_some e1 id
              have q0 := hS.2.cell_some c0 id
              go_simp
              with_reducible rfl
            rotate_left
            · simp only [Act.put, List.setIfInBounds_toArray, List.set_cons_zero, List.set_cons_succ, i64_w, i32_w]
              rfl
            refine pure_ (i := 5) (N := some 82) (v := ?_) (a' := ?_) #[true, true, true, true, true, true, false, false, true, false, false, false, false, false, false, false] rfl rfl (any_of HT_.out (by kernel_rfl)) (fun _ _ _ h => h) (Or.inl ⟨by rfl, ?_⟩) ?_ ?_
            rotate_left
            · intro w'
              go_simp
              with_reducible rfl
            rotate_left
            · simp only [Act.put, List.setIfInBounds_toArray, List.set_cons_zero, List.set_cons_succ, i64_w, i32_w]
              rfl
            refine pure_ (i := 6) (N := some 83) (v := ?_) (a' := ?_) #[true, true, true, true, true, true, true, false, true, false, false, false, false, false, false, false] rfl rfl (any_of HT_.out (by kernel_rfl)) (fun _ _ _ h => h) (Or.inl ⟨by rfl, ?_⟩) ?_ ?_
            rotate_left
            · intro w'
              go_simp
              with_reducible rfl
            rotate_left
            · simp only [Act.put, List.setIfInBounds_toArray, List.set_cons_zero, List.set_cons_succ, i64_w, i32_w]
              rfl
            refine take_ (i := 7) (N := some 84) (v := ?_) (a' := ?_) #[true, true, true, true, true, true, true, true, true, false, false, false, false, false, false, false] rfl rfl (take_ofW HT_.out HW_.out (by kernel_rfl)) (fun _ _ _ h => h) (Or.inl ⟨by rfl, ?_⟩) hHeld ?_ ?_
            rotate_left
            · intro w' hS
              have s1 := hS.1.cell 1
              simp at s1
              have b1 := (hbx.fr hS.2 id).cell 1
              simp at b1
              have s2 := hS.2.cell_some e1 id
              have q0 := hS.2.cell_some c0 id
              go_simp
              with_reducible rfl
            rotate_left
            · simp only [Act.put, List.setIfInBounds_toArray, List.set_cons_zero, List.set_cons_succ, i64_w, i32_w]
              rfl
            refine pure_ (i := 9) (N := some 86) (v := ?_) (a' := ?_) #[true, true, true, true, true, true, true, true, true, true, false, false, false, false, false, false] rfl rfl (any_of HT_.out (by kernel_rfl)) (fun _ _ _ h => h) (Or.inl ⟨by rfl, ?_⟩) ?_ ?_
            rotate_left
            · intro w'
              go_simp
              with_reducible rfl
            rotate_left
            · simp only [Act.put, List.setIfInBounds_toArray, List.set_cons_zero, List.set_cons_succ, i64_w, i32_w]
              rfl
            refine take_ (i := 10) (N := some 87) (v := ?_) (a' := ?_) #[true, true, true, true, true, true, true, true, true, true, true, false, false, false, false, false] rfl rfl (take_ofW HT_.out HW_.out (by kernel_rfl)) (fun _ _ _ h => h) (Or.inl ⟨by rfl, ?_⟩) hHeld ?_ ?_
            rotate_left
            · intro w' hS
              have s1 := hS.1.cell 1
              simp at s1
              have b1 := (hbx.fr hS.2 id).cell 1
              simp at b1
              have s2 := hS.2.cell_some e1 id
              have q0 := hS.2.cell_some c0 id
              go_simp
              with_reducible rfl
            rotate_left
            · simp only [Act.put, List.setIfInBounds_toArray, List.set_cons_zero, List.set_cons_succ, i64_w, i32_w]
              rfl
            refine one_ (i := 11) (N := some 88) #[true, true, true, true, true, true, true, true, true, true, true, true, false, false, false, false] rfl rfl (one_of HT_.out (by kernel_rfl)) (by decide) (fun K hK => ?_)
            refine goes_ Tryd.func10 (by kernel_rfl) rfl #[v1] (by rfl) rfl rfl (by (try simp only [List.map_toArray, List.map_cons, List.map_nil]); first | done | rfl) ?_
            refine (ih x.fs[k].2[j] v1 ok W0 hn2 hfn3).mono ?_
            rintro e W1 ⟨cv, rfl, hv, hT⟩
            obtain ⟨n0, n1, n2, n3, n4, n5, n6, rfl⟩ := len7 hv.len
            have hS2 : Blk W1 bf 43 #[.int .i64 x.fs[k].1, vv] ∧ Fr NoB w1 W1 := ⟨hHeld.1.fr hT id, hHeld.2.trans hT (fun _ h _ => h)⟩
            have own := own_fr own hT (fun _ _ => id)
            have hrep := hrep.mono (R' := NodeR d W1 (okv w3.heap.size vv)) (fun y cs _ hy => hy.mv (Mv.new hT))
            have hv := hv.mv (Mv.mono W1 (ok' := okv w3.heap.size vv) (fun b hb hl => ⟨Nat.le_trans hz0' hb, fun e => Nat.lt_irrefl _ (Nat.lt_of_lt_of_le (hvl b e) hb)⟩))
            have hF := hF.trans hT (fun _ h _ => h.elim)
            have hz1' := Nat.le_trans hz0' hT.size
            refine ⟨_, rfl, ?_⟩
            refine hK.out _ _ hS2 (fun hHeld => ?_)
            clear hK K
            refine norm_ (a' := ?_) ?_ ?_
            rotate_left
            · show Act.put _ (some 88) _ = _
              simp only [Act.put, List.setIfInBounds_toArray, List.set_cons_zero, List.set_cons_succ, i64_w, i32_w]
              rfl
            refine one_ (i := 12) (N := some 89) #[true, true, true, true, true, true, true, true, true, true, true, true, true, false, false, false] rfl rfl (one_of HT_.out (by kernel_rfl)) (by decide) (fun K hK => ?_)
            refine step_value rfl (.slice (some ⟨W1.heap.size, 0, none⟩) 1 1) (W1.alloc (.cells #[n0, n1, n2, n3, n4, n5, n6] 25)) (by first | (go_simp; done) | (go_simp; rfl)) ?_
            have hT : Fr NoB W1 (W1.alloc (.cells #[n0, n1, n2, n3, n4, n5, n6] 25)) := (Fr.refl NoB W1).alloc _
            have hbv : Blk (W1.alloc (.cells #[n0, n1, n2, n3, n4, n5, n6] 25)) W1.heap.size 25 #[n0, n1, n2, n3, n4, n5, n6] := Blk.new _ _ _
            generalize (W1.alloc (.cells #[n0, n1, n2, n3, n4, n5, n6] 25)) = W2 at *
            have own := own_fr own hT (fun _ _ => id)
            have hrep := hrep.mono (R' := NodeR d W2 (okv w3.heap.size vv)) (fun y cs _ hy => hy.mv (Mv.new hT))
            have hv := hv.mv (Mv.new hT)
            have hone := hv.one
            have hF := hF.trans hT (fun _ h _ => h.elim)
            have hz2' := Nat.le_trans hz1' hT.size
            have hS2 : Blk W2 bf 43 #[.int .i64 x.fs[k].1, vv] ∧ Fr NoB w1 W2 := ⟨hHeld.1.fr hT id, hHeld.2.trans hT (fun _ h _ => h)⟩
            refine hK.out _ _ hS2 (fun hHeld => ?_)
            clear hK K
            refine norm_ (a' := ?_) ?_ ?_
            rotate_left
            · show Act.put _ (some 89) _ = _
              simp only [Act.put, List.setIfInBounds_toArray, List.set_cons_zero, List.set_cons_succ, i64_w, i32_w]
              rfl
            refine one_ (i := 13) (N := some 90) #[true, true, true, true, true, true, true, true, true, true, true, true, true, true, false, false] rfl rfl (one_of HT_.out (by kernel_rfl)) (by decide) (fun K hK => ?_)
            refine step_app _ rfl (.tmp 78) (.tmp 89) 41 rfl w3.heap.size 25 i0 _ 7 80 Tryd.underlying41 hi0 hz0 hz1 hz2 rfl (by omega) vv j ys rfl own (fun _ => True) (some ⟨W1.heap.size, 0, none⟩) 1 1 (fun h => by cases h) [n0, n1, n2, n3, n4, n5, n6] rfl (Rd.of_blk _ hbv rfl trivial) hone (by simp only [maxLen]; omega) (by omega) hz2' ?_
            intro vv' W3 own3 hg3 hat3
            have hT := Fr.of_grown (S := fun k => vv.ownBlock = some k) hg3 (fun k hk _ => hk)
            have hm := Mv.app (B := w3.heap.size) hg3 hat3
            have hrep3 := (hrep.snoc (cs := [n0, n1, n2, n3, n4, n5, n6]) rfl hv).mono (R' := NodeR d W3 (okv w3.heap.size vv')) (fun y cs _ hy => hy.mv hm)
            have hF := hF.trans hT (fun b hb hl => absurd hl (Nat.not_lt.2 (own.lt b hb).1))
            have hS3 : Blk W3 bf 43 #[.int .i64 x.fs[k].1, vv] ∧ Fr NoB w1 W3 := ⟨hHeld.1.fr hT (fun e => own_blk_ne own hHeld.1 (by decide) e), hHeld.2.trans hT (fun b hb hl => absurd hl (Nat.not_lt.2 (Nat.le_trans hB0 (own.lt b hb).1)))⟩
            obtain ⟨A7, c7, rfl, hs7⟩ := own_slice own3
            refine hK.out _ _ hS3 (fun hHeld => ?_)
            clear hK K
            refine norm_ (a' := ?_) ?_ ?_
            rotate_left
            · show Act.put _ (some 90) _ = _
              simp only [Act.put, List.setIfInBounds_toArray, List.set_cons_zero, List.set_cons_succ, i64_w, i32_w]
              rfl
            refine pure_ (i := 14) (N := some 91) (v := ?_) (a' := ?_) #[true, true, true, true, true, true, true, true, true, true, true, true, true, true, true, false] rfl rfl (any_of HT_.out (by kernel_rfl)) (fun _ _ _ h => h) (Or.inl ⟨by rfl, ?_⟩) ?_ ?_
            rotate_left
            · intro w'
              go_simp
              with_reducible rfl
            rotate_left
            · simp only [Act.put, List.setIfInBounds_toArray, List.set_cons_zero, List.set_cons_succ, i64_w, i32_w]
              rfl
            refine last_ (i := 15) (N := none) #[true, true, true, true, true, true, true, true, true, true, true, true, true, true, true, true] rfl rfl (one_of HT_.out (by kernel_rfl)) (by decide) (fun K hK => ?_)
            have q0 := hHeld.1.cell 1
            have q1 := hHeld.1.frozen 1
            simp at q0
            refine skip_ (w1 := ?_) (by rfl) rfl ?_ ?_
            rotate_left
            · go_simp
              rfl
            refine hK.out _ _ ?_
            clear hK K
            refine done_ (done_of HT_.out (by kernel_rfl)) ?_
            go_wp2_with fail
            have hT4 : Fr (OneB bf) W3 (W3.setCell ⟨bf, 1, none⟩ (.slice A7 (j + 1) c7)) := (Fr.refl (OneB bf) W3).setCell (p := ⟨bf, 1, none⟩) (fun _ => rfl) _
            have hb4 := hHeld.1.set_ 1 (.slice A7 (j + 1) c7)
            have hown4 := own_fr own3 hT4 (fun g hg e => own_blk_ne own3 hHeld.1 (by decide) (by rw [hg, show g = bf from e]))
            have hm4 : Mv (okv w3.heap.size (.slice A7 (j + 1) c7)) (okv w3.heap.size (.slice A7 (j + 1) c7)) W3 (W3.setCell ⟨bf, 1, none⟩ (.slice A7 (j + 1) c7)) := Mv.fr hT4 (fun b hb _ e => by have : b = bf := e; have := hb.1; omega)
            go_roundw
            case rel =>
              refine ⟨j + 1, _, _, by go_num, by omega, hb4, hown4, ?_, hF.trans hT4 (fun _ h _ => h), hHeld.2.setNew hbfge _⟩
              rw [List.take_succ_eq_append_getElem hlt2]
              exact hrep3.mono (fun y cs _ hy => hy.mv hm4)
            case measure => simp [intOf]; omega
          · have hjj : j = x.fs[k].2.length := by omega
            subst hjj
            rw [List.take_length] at hrep
            obtain ⟨A8, c8, rfl, hc8, _, h08, _⟩ := own_slice own
            have n0 := hbf2.cell 0
            have n1 := hbf2.cell 1
            simp at n0 n1
            have hFo : Fr (OneB bf) wo wr := (hfa.mono (fun _ h _ => h.elim)).trans hF (fun _ h _ => h)
            have hz := Z1.out
            have hz' := Z2.out
            have hbmI := hbm2.fr hFo (fun e => by have : w.heap.size + 1 + 1 = bf := e; omega)
            have m1 := hbmI.cell 6
            simp at m1
            have ownI := own_fr hown hFo (fun g hg e => by have h1 := hwob g (hown.lt g hg).2; have : g = bf := e; omega)
            have hrepI := hrepF.mono (R' := GFieldR d wr (okv w2.heap.size fv)) (fun p cs _ hp => hp.mv (Mv.fr hFo (fun b _ hl e => by have h1 := hwob b hl; have : b = bf := e; omega)))
            have hlow : ∀ b, w3.heap.size ≤ b → okv w2.heap.size fv b := fun b hb => ⟨by omega, fun e => by have h1 := hwob b (hown.lt b e).2; omega⟩
            have hnew : GFieldR d wr (okv w2.heap.size fv) x.fs[k] [.int .i64 x.fs[k].1, .slice A8 x.fs[k].2.length c8] :=
              ⟨A8, c8, rfl, hc8, h08, Row.of_own own (hrep.mono (fun y cs _ hy => hy.mv (Mv.mono wr (fun b hb _ => hlow b hb.1)))) rfl (fun g hg => hlow g (own.lt g hg).1)⟩
            have hfA : Fr NoB wr (wr.alloc (.cells #[.int .i64 x.fs[k].1, .slice A8 x.fs[k].2.length c8] 43)) := (Fr.refl NoB wr).alloc _
            have ownA := own_fr ownI hfA (fun _ _ => id)
            have hbmA := hbmI.fr hfA id
            have hszA : w2.heap.size ≤ (wr.alloc (.cells #[.int .i64 x.fs[k].1, .slice A8 x.fs[k].2.length c8] 43)).heap.size := by have h1 := hF.size; have h2 := hfA.size; omega
            have hmA : Mv (okv w2.heap.size fv) (okv w2.heap.size fv) wr (wr.alloc (.cells #[.int .i64 x.fs[k].1, .slice A8 x.fs[k].2.length c8] 43)) := Mv.new hfA
            clear hz hz'
            have hone2 : ∀ u ∈ [Value.int .i64 x.fs[k].1, .slice A8 x.fs[k].2.length c8], u.oneCell' = true := fun u hu => by
              rcases List.mem_cons.1 hu with rfl | hu
              · rfl
              · rw [List.mem_singleton.1 hu]; rfl
            go_wp2_with (at_builtin; refine wpList_app _ rfl (.tmp 94) (.tmp 96) 23 rfl w2.heap.size 43 i1 _ 2 32 Tryd.underlying23 hi1 hy0 hy1 hy2 rfl (by omega) fv k xs rfl ownA (fun _ => True) (some ⟨wr.heap.size, 0, none⟩) 1 1 (fun h => by cases h) [.int .i64 x.fs[k].1, .slice A8 x.fs[k].2.length c8] rfl (Rd.lit wr (fun _ => True) 43 2 1 [.int .i64 x.fs[k].1, .slice A8 x.fs[k].2.length c8] rfl trivial) hone2 (by simp only [maxLen]; omega) (by omega) hszA ?_; intro v9 w9 own9 hg9 hat9; have hm9 := Mv.app (B := w2.heap.size) hg9 hat9; obtain ⟨A9, c9, rfl, _⟩ := own_slice own9; have hbm9 := hbmA.grown hg9 (fun e => own_blk_ne ownA hbmA (by decide) e.symm); have k1 := hbm9.cell 6; have k2 := hbm9.frozen 6; simp at k1)
            have hz := Z1.out
            have hz' := Z2.out
            have hT5 : Fr (OneB (w.heap.size + 1 + 1)) w9 (w9.setCell ⟨w.heap.size + 1 + 1, 6, none⟩ (.slice A9 (k + 1) c9)) := (Fr.refl (OneB (w.heap.size + 1 + 1)) w9).setCell (p := ⟨w.heap.size + 1 + 1, 6, none⟩) (fun _ => rfl) _
            have hb5 := hbm9.set_ 6 (.slice A9 (k + 1) c9)
            have own5 := own_fr own9 hT5 (fun g hg e => own_blk_ne own9 hbm9 (by decide) (by rw [hg, show g = w.heap.size + 1 + 1 from e]))
            have hm5 : Mv (okv w2.heap.size (.slice A9 (k + 1) c9)) (okv w2.heap.size (.slice A9 (k + 1) c9)) w9 (w9.setCell ⟨w.heap.size + 1 + 1, 6, none⟩ (.slice A9 (k + 1) c9)) := Mv.fr hT5 (fun b hb _ e => by have : b = w.heap.size + 1 + 1 := e; have := hb.1; omega)
            have hrep5 := (((hrepI.snoc (cs := [.int .i64 x.fs[k].1, .slice A8 x.fs[k].2.length c8]) rfl hnew).mono (fun p cs _ hp => hp.mv hmA)).mono (fun p cs _ hp => hp.mv hm9)).mono (fun p cs _ hp => hp.mv hm5)
            have hfg : Fr (fun b => fv.ownBlock = some b) _ w9 := Fr.of_grown hg9 (fun k hk _ => hk)
            have hfm5 := (((hfm.trans hFo (fun b hb hl => by have : b = bf := hb; omega)).trans hfA (fun _ h _ => h.elim)).trans hfg (fun b hb hl => absurd hl (Nat.not_lt.2 (ownA.lt b hb).1))).trans hT5 (fun _ h _ => h)
            have hf15 := ((hS1.trans hfA (fun _ h _ => h)).trans hfg (fun b hb hl => by have := (ownA.lt b hb).1; omega)).setNew (p := ⟨w.heap.size + 1 + 1, 6, none⟩) (by show w1.heap.size ≤ w.heap.size + 1 + 1; omega) (.slice A9 (k + 1) c9)
            go_roundw
            case rel => exact ⟨k + 1, _, _, by go_num, by omega, hb5, own5, by rw [List.take_succ_eq_append_getElem hlt]; exact hrep5, hfm5, hf15⟩
            case measure => simp [intOf]; omega
      · have m0 := hbm2.cell 0
        have m1 := hbm2.cell 1
        have m2 := hbm2.cell 2
        have m3 := hbm2.cell 3
        have m4 := hbm2.cell 4
        have m5 := hbm2.cell 5
        have m6 := hbm2.cell 6
        simp at m0 m1 m2 m3 m4 m5 m6
        obtain ⟨A9, c9, rfl, hc9, _, h09, _⟩ := own_slice hown
        have hbrw := hbr.fr hf1 id
        have g0 := hbrw.cell 0
        have g1 := hbrw.cell 1
        have g2 := hbrw.cell 2
        have g3 := hbrw.cell 3
        have g4 := hbrw.cell 4
        have g5 := hbrw.cell 5
        have g6 := hbrw.cell 6
        have gf := hbrw.frozen
        simp at g0 g1 g2 g3 g4 g5 g6
        go_wp2_with fail
        have hkk : k = x.fs.length := by omega
        subst hkk
        rw [List.take_length] at hrepF
        have hz := Z1.out
        have hz' := Z2.out
        have hT := ((((((((Fr.refl (OneB w.heap.size) wo).setCell (p := ⟨w.heap.size, 0, none⟩) (fun _ => rfl) (.int .i64 7)).setCell (p := ⟨w.heap.size, 1, none⟩) (fun _ => rfl) (.int .i64 0)).setCell (p := ⟨w.heap.size, 2, none⟩) (fun _ => rfl) (.int .u64 0)).setCell (p := ⟨w.heap.size, 3, none⟩) (fun _ => rfl) (.bool false)).setCell (p := ⟨w.heap.size, 4, none⟩) (fun _ => rfl) (.string x.s)).setCell (p := ⟨w.heap.size, 5, none⟩) (fun _ => rfl) (.int .i64 x.t)).setCell (p := ⟨w.heap.size, 6, none⟩) (fun _ => rfl) (.slice A9 x.fs.length c9))
        have hm : Mv (okv w2.heap.size (.slice A9 x.fs.length c9)) (fun b => w.heap.size ≤ b) wo _ := (Mv.fr hT (fun b hb _ e => by have h1 := hb.1; have : b = w.heap.size := e; omega)).trans (Mv.mono _ (fun b hb _ => by have := hb.1; omega))
        have hownT := own_fr hown hT (fun g hg e => by have h1 := (hown.lt g hg).1; have : g = w.heap.size := e; omega)
        refine bodyPost_ret (v := .agg #[.int .i64 7, .int .i64 0, .int .u64 0, .bool false, .string x.s, .int .i64 x.t, .slice A9 x.fs.length c9]) (by simp [results, Tryd.results10, go_sem, g0, g1, g2, g3, g4, g5, g6]) rfl ⟨[.int .i64 7, .int .i64 0, .int .u64 0, .bool false, .string x.s, .int .i64 x.t, .slice A9 x.fs.length c9], rfl, ?_, hfw.trans hT (fun b hb hl => absurd hl (by have : b = w.heap.size := hb; omega))⟩
        rw [HE.out]
        refine ⟨⟨(by show (Lit.int .i64 7).wf = true; decide), (by show (Lit.int .i64 0).wf = true; decide), (by show (Lit.int .u64 0).wf = true; decide), hw.t, ?_, hw.sl, by simpa using hw.fl⟩, A9, c9, by simp, by simpa using hc9, h09, ?_⟩
        · intro p hp
          obtain ⟨q, hq, rfl⟩ := List.mem_map.1 hp
          exact ⟨(hw.f q hq).1, by simpa using (hw.f q hq).2⟩
        · refine Row.of_own hownT ((hrepF.mono (fun p cs _ hp => hp.mv hm)).map (fun p cs _ hp => ?_)) (by simp) (fun g hg => by have := (hown.lt g hg).1; omega)
          obtain ⟨A', c', rfl, hc', h0', hr'⟩ := hp
          exact ⟨A', c', by simp, by simpa using hc', h0', hr'.map (fun y cs _ hy => hy)⟩
end Go.Proofs.YtcfmcgkngjpdbaaDoor
