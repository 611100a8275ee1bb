/- schema.Formed: of a schema of messages alone, none of which needs another, all formed: true. -/
import Derived.Test.YtcfmcgkngjpdbaaDoorM3
namespace Go.Proofs.YtcfmcgkngjpdbaaDoor
set_option linter.unusedVariables false
set_option linter.unusedSimpArgs false
open Go.RowKit

theorem infoS : (Tryd.prog.info? 9).map (fun i => (i.zero, i.size, i.bytes)) = some (some (.string ⟨#[]⟩), 1, 16) := by kernel_rfl

theorem notPath_any (s : ByteArray) (w : World) (hs : s.size ≤ 1000000) (hml : ML w) : Calls Tryd.prog 32 #[.string s] w (NameR (!pathB s) w) := by
  have hP := Lib.hid (path_any s w hs hml)
  go_enter Tryd.func32, Tryd.ntmps32
  go_wp2_with fail
  refine hP.out.mono ?_
  rintro e w' ⟨⟨v, rfl⟩, hf⟩
  go_wp2_with fail
  go_ret
  exact ⟨rfl, hf⟩
theorem itself_any (s : ByteArray) (w : World) : Calls Tryd.prog 35 #[.string s] w (KeyR (.string s) w) := by
  go_enter Tryd.func35, Tryd.ntmps35
  go_wp2_with fail
  go_ret
  exact ⟨rfl, Fr.refl _ _⟩
theorem notMessage_any (A1 A2 A3 : Option Addr) (nM nE nT c1 c2 c3 bs : Nat) (m : MD) (cs : List Value) (w : World) (hm : MsgIn w m cs) (hs : ∀ f ∈ m.fields, f.name.size ≤ 1000000) (hl : m.fields.length ≤ 1000000)
    (hb : Blk w bs 56 #[.slice A1 nM c1, .slice A2 nE c2, .slice A3 nT c3]) :
    Calls Tryd.prog 37 #[.agg cs.toArray, .pointer (some ⟨bs, 0, none⟩)] w (NameR (!messageB nE nM m) w) := by
  obtain ⟨A, c, rfl, hc, h0, hr⟩ := hm
  have hfa : Fr NoB w (w.alloc (.cells #[.string m.name, .slice A m.fields.length c] 51)) := (Fr.refl NoB w).alloc _
  have b0 := (hb.fr hfa id).cell 0
  have b1 := (hb.fr hfa id).cell 1
  have b2 := (hb.fr hfa id).cell 2
  simp at b0 b1 b2
  have hM := Lib.hid (message_any A1 A2 A3 nM nE nT c1 c2 c3 m [.string m.name, .slice A m.fields.length c] _ ⟨A, c, rfl, hc, h0, hr.new hfa⟩ hs hl)
  go_enter Tryd.func37, Tryd.ntmps37
  go_wp2_with fail
  refine hM.out.mono ?_
  rintro e w' ⟨rfl, hf⟩
  go_wp2_with fail
  go_ret
  exact ⟨rfl, hfa.trans hf (fun _ h _ => h)⟩
theorem unlikeM_none (g : Nat) (w : World) : Calls Tryd.prog 43 #[.slice none 0 0, .func (.func g) #[] #[]] w (NameR true w) := by
  have hmm := @run_makeMap Tryd.prog
  go_enter Tryd.func43, Tryd.ntmps43
  go_wp2_with fail
  refine wp_loop_rounds 1 ?_
  rw [rounds_succ]
  go_wp2_with fail
  go_ret
  exact ⟨rfl, (Fr.refl NoB w).alloc _⟩

set_option maxHeartbeats 4000000 in
set_option maxRecDepth 100000 in
theorem formed_plain (S : Sch) (A1 : Option Addr) (c1 : Nat) (w : World) (hml : ML w) (hr : Row 2 (MsgIn w) w (fun _ => True) A1 S.messages) (hlen : S.messages.length ≤ 64) (hne : 0 < S.messages.length)
    (hs : ∀ m ∈ S.messages, m.name.size ≤ 1000000 ∧ (∀ f ∈ m.fields, f.name.size ≤ 1000000) ∧ m.fields.length ≤ 1000000)
    (hpath : ∀ m ∈ S.messages, pathB m.name = true) (hun : unlikeB (S.messages.map MD.name) = true) (hmsg : ∀ m ∈ S.messages, messageB 0 S.messages.length m = true)
    (hneeds : ∀ (t : Nat) w', t < S.messages.length → Fr NoB w w' → Calls Tryd.prog 45 #[.agg #[.slice A1 S.messages.length c1, .slice none 0 0, .slice none 0 0], .int .i64 t] w' (NameR false w')) :
    Calls Tryd.prog 25 #[.agg #[.slice A1 S.messages.length c1, .slice none 0 0, .slice none 0 0]] w (NameR true w) := by
  obtain ⟨i0, hi0, hz0, hz1, hz2⟩ := info_parts infoS
  have hmf : ∀ (fn : Fn) (first cap : Array Value) (w : World), (Instr.makeFunc fn first cap).run Tryd.prog w = .ok (.func fn first cap) w := fun _ _ _ _ => rfl
  have HN := Lib.hid hneeds
  clear hneeds
  have k1 : decide ((64 : Int) < (S.messages.length : Int)) = false := decide_eq_false (by omega)
  have hfa : Fr NoB w (w.alloc (.cells #[.slice A1 S.messages.length c1, .slice none 0 0, .slice none 0 0] 56)) := (Fr.refl NoB w).alloc _
  have hbs := Blk.new w 56 #[.slice A1 S.messages.length c1, .slice none 0 0, .slice none 0 0]
  go_enter Tryd.func25, Tryd.ntmps25
  go_wp2_with fail
  generalize w.alloc (.cells #[.slice A1 S.messages.length c1, .slice none 0 0, .slice none 0 0] 56) = w1 at *
  go_loopw [3, 30] (fun sv i wr => ∃ (k : Nat) (v : Value), i = .int .i64 k ∧ sv = v ∧ k ≤ S.messages.length ∧ wr.ownsRow w1.heap.size 9 1 v k (((S.messages.map MD.name).take k).map Value.string) ∧ Fr NoB w1 wr) (fun _ i _ => S.messages.length - (intOf i).toNat)
  case atStart => exact ⟨0, _, rfl, rfl, by omega, World.ownsRow_nil _ _ _ _, Fr.refl _ _⟩
  case round =>
    obtain ⟨k, v, rfl, hv, hk, hown, hf⟩ := hrel
    have hv' := hv.symm
    subst hv'
    by_cases hlt : k < S.messages.length
    · have p1 : (k : Int) < (S.messages.length : Int) := by omega
      have p0 : (0 : Int) ≤ (k : Int) := by omega
      have hfw := hfa.trans hf (fun _ h _ => h)
      obtain ⟨b, o, cs, rfl, _, _, _, ⟨A, c, rfl, hc, h0, hr1⟩, hcell⟩ := hr.at_ k S.messages[k] (List.getElem?_eq_getElem hlt)
      have q0 := hfw.cell_some (hcell 0 _ rfl) id
      have q1 := hfw.cell_some (hcell 1 _ rfl) id
      simp only [Nat.add_zero] at q0
      have hfb : Fr NoB wr (wr.alloc (.cells #[.string S.messages[k].name, .slice A S.messages[k].fields.length c] 51)) := (Fr.refl NoB wr).alloc _
      have hfc : Fr NoB wr ((wr.alloc (.cells #[.string S.messages[k].name, .slice A S.messages[k].fields.length c] 51)).alloc (.cells #[.string S.messages[k].name] 9)) := hfb.alloc _
      have own2 := own_fr hown hfc (fun _ _ => id)
      have hk2 : k < (S.messages.map MD.name).length := by simpa using hlt
      have hts : (S.messages.map MD.name).take (k + 1) = (S.messages.map MD.name).take k ++ [S.messages[k].name] := by rw [List.take_succ_eq_append_getElem hk2]; simp
      have HT := Lib.hid hts
      clear hts
      have hsz := hf.size
      have hlit := Rd.of_blk (n := 1) (size := 1) (fun _ => True) (cs := [.string S.messages[k].name]) (Blk.second wr (.cells #[.string S.messages[k].name, .slice A S.messages[k].fields.length c] 51) 9 #[.string S.messages[k].name]) rfl trivial
      have hszc := Nat.le_trans hsz hfc.size
      have hone : ∀ u ∈ [Value.string S.messages[k].name], u.oneCell' = true := fun u hu => by rw [List.mem_singleton.1 hu]; rfl
      go_wp2_with (at_builtin; refine wpList_app _ rfl (.tmp 34) (.tmp 37) 88 rfl w1.heap.size 9 i0 _ 1 16 Tryd.underlying88 hi0 hz0 hz1 hz2 rfl (by omega) _ k _ rfl own2 (fun _ => True) (some ⟨wr.heap.size + 1, 0, none⟩) 1 1 (fun h => by cases h) [.string S.messages[k].name] rfl hlit hone (by simp only [maxLen]; omega) (by omega) hszc ?_; intro v9 w9 own9 hg9 hat9)
      go_roundw
      case rel => exact ⟨k + 1, _, by go_num, rfl, by omega, by rw [HT.out, List.map_append]; exact own9, (hf.trans hfc (fun _ h _ => h)).trans (Fr.of_grown (S := fun b => (v : Value).ownBlock = some b) hg9 (fun k hk _ => hk)) (fun b hb hl => Nat.lt_irrefl _ (Nat.lt_of_lt_of_le hl (hown.lt b hb).1))⟩
      case measure => simp [intOf]; omega
    · have hkk : k = S.messages.length := by omega
      rw [hkk, List.take_of_length_le (by simp)] at hown
      have hfw := hfa.trans hf (fun _ h _ => h)
      have hbw := hbs.fr hf id
      have s0 := hbw.cell 0
      have s1 := hbw.cell 1
      have s2 := hbw.cell 2
      simp at s0 s1 s2
      obtain ⟨An, cn, rfl, hcn, _, _, _⟩ := own_slice hown
      rw [hkk]
      clear hkk
      have hnl : (S.messages.map MD.name).length = S.messages.length := by simp
      have hst : Strs wr (fun _ => True) An (S.messages.map MD.name) := by
        unfold Strs
        rw [hnl]
        exact Rd.of_own hown (fun _ _ => trivial)
      have hC := containsFuncS (fun (s : ByteArray) cs => cs = [.string s]) 32 #[] (fun x => !pathB x) An cn (S.messages.map MD.name) _ wr (strRow hst) (by omega) (fun _ _ => by kernel_rfl)
        (fun x v w' hx hv hf' => by
          obtain rfl : v = .string x := by simpa using hv
          obtain ⟨m, hm, rfl⟩ := List.mem_map.1 hx
          exact notPath_any m.name w' (hs m hm).1 ((hml.new hfw).new hf'))
      rw [show (S.messages.map MD.name).any (fun x => !pathB x) = false from List.any_eq_false.2 (fun x hx => by
        obtain ⟨m, hm, rfl⟩ := List.mem_map.1 hx
        rw [hpath m hm]
        decide), hnl] at hC
      have hC := Lib.hid hC
      go_wp2_with fail
      refine wp_loop_rounds 1 ?_
      rw [rounds_succ]
      go_wp2_with fail
      refine hC.out.mono ?_
      rintro e w4 ⟨rfl, hf4⟩
      have hU := unlikeS (fun (s : ByteArray) cs => cs = [.string s]) 35 (fun x => x) An cn (S.messages.map MD.name) _ w4 (strRow (hst.new hf4)) (by omega) (fun _ _ => by kernel_rfl)
        (fun x v w' hx hv hf' => by
          obtain rfl : v = .string x := by simpa using hv
          exact itself_any x w')
      rw [hnl, List.map_id', hun] at hU
      have hU := Lib.hid hU
      go_wp2_with fail
      refine hU.out.mono ?_
      rintro e w5 ⟨rfl, hf5⟩
      have hf15 := (hf.trans hf4 (fun _ h _ => h)).trans hf5 (fun _ h _ => h)
      have hfw5 := hfa.trans hf15 (fun _ h _ => h)
      have hb5 := hbs.fr hf15 id
      have t0 := hb5.cell 0
      have t1 := hb5.cell 1
      have t2 := hb5.cell 2
      simp at t0 t1 t2
      have hM := containsFuncM (MsgIn w) 37 #[.pointer (some ⟨w.heap.size, 0, none⟩)] (fun m => !messageB 0 S.messages.length m) A1 c1 S.messages _ w5 (hr.mv (Mv.new hfw5) (fun _ _ _ h => h)) (by omega) (fun _ _ => by kernel_rfl)
        (fun x cs w' hx hR hf' => notMessage_any A1 none none S.messages.length 0 0 c1 0 0 w.heap.size x cs w' (hR.new (hfw5.trans hf' (fun _ h _ => h))) (hs x hx).2.1 (hs x hx).2.2 (hb5.fr hf' id))
      rw [show S.messages.any (fun m => !messageB 0 S.messages.length m) = false from List.any_eq_false.2 (fun x hx => by rw [hmsg x hx]; decide)] at hM
      have hM := Lib.hid hM
      go_wp2_with fail
      refine hM.out.mono ?_
      rintro e w6 ⟨rfl, hf6⟩
      have hb6 := hb5.fr hf6 id
      have v1 := hb6.cell 1
      have v2 := hb6.cell 2
      simp at v1 v2
      have hE : Calls Tryd.prog 39 #[.slice none 0 0, .func (.func 40) #[] #[]] w6 (NameR false w6) :=
        containsFuncE (α := ED) (fun _ _ => True) 40 #[] (fun _ => false) none 0 [] (fun _ => True) w6 (Row.nil _ _ _ _ _) (by decide) (fun _ _ => by kernel_rfl) (fun x cs w' hx => by cases hx)
      have hE := Lib.hid hE
      clear t0 t1 t2
      go_wp2_with fail
      refine hE.out.mono ?_
      rintro e w7 ⟨rfl, hf7⟩
      have hb7 := hb6.fr hf7 id
      have x0 := hb7.cell 0
      have x2 := hb7.cell 2
      simp at x0 x2
      have hQ := Lib.hid (unlikeM_none 44 w7)
      clear v1 v2
      go_wp2_with fail
      refine wp_loop_rounds 1 ?_
      rw [rounds_succ]
      go_wp2_with fail
      refine hQ.out.mono ?_
      rintro e w8 ⟨rfl, hf8⟩
      have hf18 := ((hf15.trans hf6 (fun _ h _ => h)).trans hf7 (fun _ h _ => h)).trans hf8 (fun _ h _ => h)
      have hb8 := hb7.fr hf8 id
      have y0 := hb8.cell 0
      have y1 := hb8.cell 1
      have y2 := hb8.cell 2
      simp at y0 y1 y2
      clear x0 x2
      go_wp2_with fail
      go_loopw [121] (fun i wj => ∃ t : Nat, i = .int .i64 t ∧ t ≤ S.messages.length ∧ Fr NoB w8 wj) (fun i _ => S.messages.length - (intOf i).toNat)
      case atStart => exact ⟨0, rfl, by omega, Fr.refl _ _⟩
      case round =>
        obtain ⟨t, rfl, ht, hft⟩ := hrel
        have z0 := hft.cell_some y0 id
        have z1 := hft.cell_some y1 id
        have z2 := hft.cell_some y2 id
        by_cases hlt2 : t < S.messages.length
        · have p1 : (t : Int) < (S.messages.length : Int) := by omega
          have p0 : (0 : Int) ≤ (t : Int) := by omega
          have hX := Lib.hid (HN.out t wr hlt2 ((hfa.trans hf18 (fun _ h _ => h)).trans hft (fun _ h _ => h)))
          go_wp2_with fail
          refine hX.out.mono ?_
          rintro e w9 ⟨rfl, hf9⟩
          go_wp2_with fail
          go_roundw
          case rel => exact ⟨t + 1, by go_num, by omega, hft.trans hf9 (fun _ h _ => h)⟩
          case measure => simp [intOf]; omega
        · go_wp2_with fail
          go_ret
          exact ⟨rfl, (hfa.trans hf18 (fun _ h _ => h)).trans hft (fun _ h _ => h)⟩
end Go.Proofs.YtcfmcgkngjpdbaaDoor
