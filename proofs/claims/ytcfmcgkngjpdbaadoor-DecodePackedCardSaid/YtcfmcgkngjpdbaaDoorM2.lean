/- schema.unlike: no two of a list have one key. -/
import Derived.Test.YtcfmcgkngjpdbaaDoorI3
import Derived.Test.YtcfmcgkngjpdbaaDoorM1
import Derived.Test.YtcfmcgkngjpdbaaDoorM0
namespace Go.Proofs.YtcfmcgkngjpdbaaDoor
set_option linter.unusedVariables false
set_option linter.unusedSimpArgs false
open Go.RowKit
open Go.ChangeMaps (setBlock)

theorem zeroBool (w : World) : (zeroValue 4).run Tryd.prog w = .ok (.bool false) w := by kernel_rfl
def KeyR (v : Value) (w : World) (e : Ending) (w' : World) : Prop := e = .returned v ∧ Fr NoB w w'
theorem unlikeGo_hit {α : Type} [BEq α] {seen : List α} {k : α} {r : List α} (h : seen.any (fun x => k == x) = true) : unlikeGo seen (k :: r) = false := by simp only [unlikeGo, h, if_true]
theorem unlikeGo_miss {α : Type} [BEq α] {seen : List α} {k : α} {r : List α} (h : seen.any (fun x => k == x) = false) : unlikeGo seen (k :: r) = unlikeGo (seen ++ [k]) r := by simp only [unlikeGo, h]; rfl
set_option maxHeartbeats 2000000 in
set_option maxRecDepth 100000 in
theorem unlikeS {α : Type} (R : α → List Value → Prop) (g : Nat) (key : α → ByteArray) (A : Option Addr) (c : Nat) (l : List α) (ok : Nat → Prop) (w : World) (h : Row 1 R w ok A l) (hl : l.length ≤ 1000000)
    (hg : ∀ args w, (callFunc g args).run Tryd.prog w = .ok (.enter g args) w) (hp : ∀ x v w', x ∈ l → R x [v] → Fr NoB w w' → Calls Tryd.prog g #[v] w' (KeyR (Value.string (key x)) w')) :
    Calls Tryd.prog 34 #[.slice A l.length c, .func (.func g) #[] #[]] w (NameR (unlikeB (l.map key)) w) := by
  have HP := Lib.hid hp
  clear hp
  have hmm := @run_makeMap Tryd.prog
  go_enter Tryd.func34, Tryd.ntmps34
  go_wp2_with fail
  have hM0 := Mp.new w #[] 0
  have hf0 : Fr NoB w (w.alloc (.map #[] 0)) := (Fr.refl NoB w).alloc _
  clear hmm
  go_loopw [11] (fun i wr => ∃ (k : Nat) (es : Array MapEntry) (ck : Nat), i = .int .i64 k ∧ k ≤ l.length ∧ Mp wr w.heap.size es ck ∧ Keys Value.string es ((l.map key).take k) ∧ unlikeGo ((l.map key).take k) ((l.map key).drop k) = unlikeB (l.map key) ∧ Fr NoB w wr) (fun i _ => l.length - (intOf i).toNat)
  case atStart => exact ⟨0, _, _, rfl, by omega, hM0, Keys.nil _, rfl, hf0⟩
  case round =>
    obtain ⟨k, es, ck, rfl, hk, hM, hK, hun, hf⟩ := hrel
    by_cases hlt : k < l.length
    · have p1 : (k : Int) < (l.length : Int) := by omega
      have p0 : (0 : Int) ≤ (k : Int) := by omega
      obtain ⟨b, o, cs, rfl, _, _, hlen, hR, hcell⟩ := h.at_ k l[k] (List.getElem?_eq_getElem hlt)
      obtain ⟨a0, rfl⟩ := lenEqS hlen
      have q0 := hf.cell_some (hcell 0 _ rfl) id
      simp only [Nat.add_zero, Nat.mul_one] at q0
      have hC := Lib.hid (HP.out l[k] _ wr (List.getElem_mem hlt) hR hf)
      have hk2 : k < (l.map key).length := by simpa using hlt
      have hd : (l.map key).drop k = key l[k] :: (l.map key).drop (k + 1) := by rw [List.drop_eq_getElem_cons hk2]; simp
      have hts : (l.map key).take (k + 1) = (l.map key).take k ++ [key l[k]] := by rw [List.take_succ_eq_append_getElem hk2]; simp
      rw [hd] at hun
      have HT := Lib.hid hts
      have HK := Lib.hid hK
      clear hd hts hK
      cases hq : ((l.map key).take k).any (fun x => key l[k] == x) with
      | true =>
        rw [unlikeGo_hit hq] at hun
        have HU := Lib.hid hun
        clear hun
        go_wp2_with fail
        refine hC.out.mono ?_
        rintro e w2 ⟨rfl, hf2'⟩
        have hf2 := (hf).trans hf2' (fun _ h _ => h)
        have hM2 := (show w2.heap[w.heap.size]? = some (.map es ck) from (hf2'.block w.heap.size hM.lt id).trans hM)
        have hlk := lookup_keys (P := Tryd.prog) (w := w2) (t := 127) (kt := 9) (et := 4) (d := .string) (V := Value.string) (fun _ _ => rfl) (fun e a w => checkKey_str Tryd.underlying9 e a w) hM2 HK.out Tryd.underlying127 Tryd.underlying9 zeroBool (key l[k])
        rw [hq] at hlk
        have HQ := Lib.hid hq
        clear hq
        go_wp2_with fail
        go_ret
        exact ⟨by rw [← HU.out]; rfl, hf2⟩
      | false =>
        rw [unlikeGo_miss hq, ← HT.out] at hun
        have HU := Lib.hid hun
        clear hun
        go_wp2_with fail
        refine hC.out.mono ?_
        rintro e w2 ⟨rfl, hfs⟩
        have hf2 := (hf).trans hfs (fun _ h _ => h)
        have hM2 := (show w2.heap[w.heap.size]? = some (.map es ck) from (hfs.block w.heap.size hM.lt id).trans hM)
        have hlk := lookup_keys (P := Tryd.prog) (w := w2) (t := 127) (kt := 9) (et := 4) (d := .string) (V := Value.string) (fun _ _ => rfl) (fun e a w => checkKey_str Tryd.underlying9 e a w) hM2 HK.out Tryd.underlying127 Tryd.underlying9 zeroBool (key l[k])
        rw [hq] at hlk
        have hC2 := Lib.hid (HP.out l[k] _ w2 (List.getElem_mem hlt) hR hf2)
        have HQ := Lib.hid hq
        clear hq
        go_wp2_with fail
        refine hC2.out.mono ?_
        rintro e w3 ⟨rfl, hfs3⟩
        have hf3 := hf2.trans hfs3 (fun _ h _ => h)
        have hM3 : Mp w3 w.heap.size es ck := Mp.fr hM2 hfs3 id
        have hup := update_keys (P := Tryd.prog) (w := w3) (t := 127) (kt := 9) (et := 4) (d := .string) (V := Value.string) (fun _ _ => rfl) (fun e a w => checkKey_str Tryd.underlying9 e a w) hM3 HK.out Tryd.underlying127 Tryd.underlying9 (key l[k]) HQ.out (.bool true)
        clear hlk
        go_wp2_with fail
        go_roundw
        case rel => exact ⟨k + 1, _, _, by go_num, by omega, hM3.set_ _ _, by rw [HT.out]; exact HK.out.push _ _, HU.out, hf3.setBlock (fun hl => absurd hl (Nat.lt_irrefl _)) _⟩
        case measure => simp [intOf]; omega
    · have hkk : k = l.length := by omega
      rw [hkk, List.drop_of_length_le (by simp)] at hun
      have HU := Lib.hid hun
      clear hun hkk
      go_wp2_with fail
      go_ret
      exact ⟨by rw [← HU.out]; rfl, hf⟩
set_option maxHeartbeats 2000000 in
set_option maxRecDepth 100000 in
theorem unlikeF  (g : Nat) (key : FD → ByteArray) (A : Option Addr) (c : Nat) (l : List FD) (ok : Nat → Prop) (w : World) (h : Row 5 (fun (x : FD) cs => cs = x.cells) w ok A l) (hl : l.length ≤ 1000000)
    (hg : ∀ args w, (callFunc g args).run Tryd.prog w = .ok (.enter g args) w) (hp : ∀ x  w', x ∈ l → Fr NoB w w' → Calls Tryd.prog g #[.agg x.cells.toArray] w' (KeyR (Value.string (key x)) w')) :
    Calls Tryd.prog 60 #[.slice A l.length c, .func (.func g) #[] #[]] w (NameR (unlikeB (l.map key)) w) := by
  have HP := Lib.hid hp
  clear hp
  have hmm := @run_makeMap Tryd.prog
  go_enter Tryd.func60, Tryd.ntmps60
  go_wp2_with fail
  have hM0 := Mp.new w #[] 0
  have hf0 : Fr NoB w (w.alloc (.map #[] 0)) := (Fr.refl NoB w).alloc _
  clear hmm
  go_loopw [11] (fun i wr => ∃ (k : Nat) (es : Array MapEntry) (ck : Nat), i = .int .i64 k ∧ k ≤ l.length ∧ Mp wr w.heap.size es ck ∧ Keys Value.string es ((l.map key).take k) ∧ unlikeGo ((l.map key).take k) ((l.map key).drop k) = unlikeB (l.map key) ∧ Fr NoB w wr) (fun i _ => l.length - (intOf i).toNat)
  case atStart => exact ⟨0, _, _, rfl, by omega, hM0, Keys.nil _, rfl, hf0⟩
  case round =>
    obtain ⟨k, es, ck, rfl, hk, hM, hK, hun, hf⟩ := hrel
    by_cases hlt : k < l.length
    · have p1 : (k : Int) < (l.length : Int) := by omega
      have p0 : (0 : Int) ≤ (k : Int) := by omega
      obtain ⟨b, o, cs, rfl, _, _, hlen, hR, hcell⟩ := h.at_ k l[k] (List.getElem?_eq_getElem hlt)
      obtain rfl := hR
      have q0 := hf.cell_some (hcell 0 _ rfl) id
      have q1 := hf.cell_some (hcell 1 _ rfl) id
      have q2 := hf.cell_some (hcell 2 _ rfl) id
      have q3 := hf.cell_some (hcell 3 _ rfl) id
      have q4 := hf.cell_some (hcell 4 _ rfl) id
      simp only [Nat.add_zero, Nat.mul_one] at q0
      have hfa : Fr NoB w (wr.alloc (.cells #[.int .i64 l[k].num, .string l[k].name, .int .i64 l[k].kind, .bool l[k].rep, .int .i64 l[k].typ] 48)) := hf.alloc _
      have hC := Lib.hid (HP.out l[k] (wr.alloc (.cells #[.int .i64 l[k].num, .string l[k].name, .int .i64 l[k].kind, .bool l[k].rep, .int .i64 l[k].typ] 48)) (List.getElem_mem hlt) hfa)
      have hk2 : k < (l.map key).length := by simpa using hlt
      have hd : (l.map key).drop k = key l[k] :: (l.map key).drop (k + 1) := by rw [List.drop_eq_getElem_cons hk2]; simp
      have hts : (l.map key).take (k + 1) = (l.map key).take k ++ [key l[k]] := by rw [List.take_succ_eq_append_getElem hk2]; simp
      rw [hd] at hun
      have HT := Lib.hid hts
      have HK := Lib.hid hK
      clear hd hts hK
      cases hq : ((l.map key).take k).any (fun x => key l[k] == x) with
      | true =>
        rw [unlikeGo_hit hq] at hun
        have HU := Lib.hid hun
        clear hun
        go_wp2_with fail
        refine hC.out.mono ?_
        rintro e w2 ⟨rfl, hf2'⟩
        have hf2 := (hfa).trans hf2' (fun _ h _ => h)
        have hM2 := (show w2.heap[w.heap.size]? = some (.map es ck) from (hf2'.block w.heap.size (Nat.lt_of_lt_of_le hM.lt (by simp)) id).trans ((Below.heap_alloc _ _ _ hM.lt).trans hM))
        have hlk := lookup_keys (P := Tryd.prog) (w := w2) (t := 127) (kt := 9) (et := 4) (d := .string) (V := Value.string) (fun _ _ => rfl) (fun e a w => checkKey_str Tryd.underlying9 e a w) hM2 HK.out Tryd.underlying127 Tryd.underlying9 zeroBool (key l[k])
        rw [hq] at hlk
        have HQ := Lib.hid hq
        clear hq
        go_wp2_with fail
        go_ret
        exact ⟨by rw [← HU.out]; rfl, hf2⟩
      | false =>
        rw [unlikeGo_miss hq, ← HT.out] at hun
        have HU := Lib.hid hun
        clear hun
        go_wp2_with fail
        refine hC.out.mono ?_
        rintro e w2 ⟨rfl, hfs⟩
        have hf2 := (hfa).trans hfs (fun _ h _ => h)
        have hM2 := (show w2.heap[w.heap.size]? = some (.map es ck) from (hfs.block w.heap.size (Nat.lt_of_lt_of_le hM.lt (by simp)) id).trans ((Below.heap_alloc _ _ _ hM.lt).trans hM))
        have hlk := lookup_keys (P := Tryd.prog) (w := w2) (t := 127) (kt := 9) (et := 4) (d := .string) (V := Value.string) (fun _ _ => rfl) (fun e a w => checkKey_str Tryd.underlying9 e a w) hM2 HK.out Tryd.underlying127 Tryd.underlying9 zeroBool (key l[k])
        rw [hq] at hlk
        have hC2 := Lib.hid (HP.out l[k] w2 (List.getElem_mem hlt) hf2)
        have g0 := (Blk.fr (Blk.new wr 48 #[.int .i64 l[k].num, .string l[k].name, .int .i64 l[k].kind, .bool l[k].rep, .int .i64 l[k].typ]) hfs id).cell 0
        have g1 := (Blk.fr (Blk.new wr 48 #[.int .i64 l[k].num, .string l[k].name, .int .i64 l[k].kind, .bool l[k].rep, .int .i64 l[k].typ]) hfs id).cell 1
        have g2 := (Blk.fr (Blk.new wr 48 #[.int .i64 l[k].num, .string l[k].name, .int .i64 l[k].kind, .bool l[k].rep, .int .i64 l[k].typ]) hfs id).cell 2
        have g3 := (Blk.fr (Blk.new wr 48 #[.int .i64 l[k].num, .string l[k].name, .int .i64 l[k].kind, .bool l[k].rep, .int .i64 l[k].typ]) hfs id).cell 3
        have g4 := (Blk.fr (Blk.new wr 48 #[.int .i64 l[k].num, .string l[k].name, .int .i64 l[k].kind, .bool l[k].rep, .int .i64 l[k].typ]) hfs id).cell 4
        simp at g0 g1 g2 g3 g4
        have HQ := Lib.hid hq
        clear hq
        go_wp2_with fail
        refine hC2.out.mono ?_
        rintro e w3 ⟨rfl, hfs3⟩
        have hf3 := hf2.trans hfs3 (fun _ h _ => h)
        have hM3 : Mp w3 w.heap.size es ck := Mp.fr hM2 hfs3 id
        have hup := update_keys (P := Tryd.prog) (w := w3) (t := 127) (kt := 9) (et := 4) (d := .string) (V := Value.string) (fun _ _ => rfl) (fun e a w => checkKey_str Tryd.underlying9 e a w) hM3 HK.out Tryd.underlying127 Tryd.underlying9 (key l[k]) HQ.out (.bool true)
        clear hlk
        go_wp2_with fail
        go_roundw
        case rel => exact ⟨k + 1, _, _, by go_num, by omega, hM3.set_ _ _, by rw [HT.out]; exact HK.out.push _ _, HU.out, hf3.setBlock (fun hl => absurd hl (Nat.lt_irrefl _)) _⟩
        case measure => simp [intOf]; omega
    · have hkk : k = l.length := by omega
      rw [hkk, List.drop_of_length_le (by simp)] at hun
      have HU := Lib.hid hun
      clear hun hkk
      go_wp2_with fail
      go_ret
      exact ⟨by rw [← HU.out]; rfl, hf⟩
set_option maxHeartbeats 2000000 in
set_option maxRecDepth 100000 in
theorem unlikeV  (g : Nat) (key : VD → ByteArray) (A : Option Addr) (c : Nat) (l : List VD) (ok : Nat → Prop) (w : World) (h : Row 2 (fun (x : VD) cs => cs = x.cells) w ok A l) (hl : l.length ≤ 1000000)
    (hg : ∀ args w, (callFunc g args).run Tryd.prog w = .ok (.enter g args) w) (hp : ∀ x  w', x ∈ l → Fr NoB w w' → Calls Tryd.prog g #[.agg x.cells.toArray] w' (KeyR (Value.string (key x)) w')) :
    Calls Tryd.prog 63 #[.slice A l.length c, .func (.func g) #[] #[]] w (NameR (unlikeB (l.map key)) w) := by
  have HP := Lib.hid hp
  clear hp
  have hmm := @run_makeMap Tryd.prog
  go_enter Tryd.func63, Tryd.ntmps63
  go_wp2_with fail
  have hM0 := Mp.new w #[] 0
  have hf0 : Fr NoB w (w.alloc (.map #[] 0)) := (Fr.refl NoB w).alloc _
  clear hmm
  go_loopw [11] (fun i wr => ∃ (k : Nat) (es : Array MapEntry) (ck : Nat), i = .int .i64 k ∧ k ≤ l.length ∧ Mp wr w.heap.size es ck ∧ Keys Value.string es ((l.map key).take k) ∧ unlikeGo ((l.map key).take k) ((l.map key).drop k) = unlikeB (l.map key) ∧ Fr NoB w wr) (fun i _ => l.length - (intOf i).toNat)
  case atStart => exact ⟨0, _, _, rfl, by omega, hM0, Keys.nil _, rfl, hf0⟩
  case round =>
    obtain ⟨k, es, ck, rfl, hk, hM, hK, hun, hf⟩ := hrel
    by_cases hlt : k < l.length
    · have p1 : (k : Int) < (l.length : Int) := by omega
      have p0 : (0 : Int) ≤ (k : Int) := by omega
      obtain ⟨b, o, cs, rfl, _, _, hlen, hR, hcell⟩ := h.at_ k l[k] (List.getElem?_eq_getElem hlt)
      obtain rfl := hR
      have q0 := hf.cell_some (hcell 0 _ rfl) id
      have q1 := hf.cell_some (hcell 1 _ rfl) id
      simp only [Nat.add_zero, Nat.mul_one] at q0
      have hfa : Fr NoB w (wr.alloc (.cells #[.string l[k].name, .int .i64 l[k].num] 134)) := hf.alloc _
      have hC := Lib.hid (HP.out l[k] (wr.alloc (.cells #[.string l[k].name, .int .i64 l[k].num] 134)) (List.getElem_mem hlt) hfa)
      have hk2 : k < (l.map key).length := by simpa using hlt
      have hd : (l.map key).drop k = key l[k] :: (l.map key).drop (k + 1) := by rw [List.drop_eq_getElem_cons hk2]; simp
      have hts : (l.map key).take (k + 1) = (l.map key).take k ++ [key l[k]] := by rw [List.take_succ_eq_append_getElem hk2]; simp
      rw [hd] at hun
      have HT := Lib.hid hts
      have HK := Lib.hid hK
      clear hd hts hK
      cases hq : ((l.map key).take k).any (fun x => key l[k] == x) with
      | true =>
        rw [unlikeGo_hit hq] at hun
        have HU := Lib.hid hun
        clear hun
        go_wp2_with fail
        refine hC.out.mono ?_
        rintro e w2 ⟨rfl, hf2'⟩
        have hf2 := (hfa).trans hf2' (fun _ h _ => h)
        have hM2 := (show w2.heap[w.heap.size]? = some (.map es ck) from (hf2'.block w.heap.size (Nat.lt_of_lt_of_le hM.lt (by simp)) id).trans ((Below.heap_alloc _ _ _ hM.lt).trans hM))
        have hlk := lookup_keys (P := Tryd.prog) (w := w2) (t := 127) (kt := 9) (et := 4) (d := .string) (V := Value.string) (fun _ _ => rfl) (fun e a w => checkKey_str Tryd.underlying9 e a w) hM2 HK.out Tryd.underlying127 Tryd.underlying9 zeroBool (key l[k])
        rw [hq] at hlk
        have HQ := Lib.hid hq
        clear hq
        go_wp2_with fail
        go_ret
        exact ⟨by rw [← HU.out]; rfl, hf2⟩
      | false =>
        rw [unlikeGo_miss hq, ← HT.out] at hun
        have HU := Lib.hid hun
        clear hun
        go_wp2_with fail
        refine hC.out.mono ?_
        rintro e w2 ⟨rfl, hfs⟩
        have hf2 := (hfa).trans hfs (fun _ h _ => h)
        have hM2 := (show w2.heap[w.heap.size]? = some (.map es ck) from (hfs.block w.heap.size (Nat.lt_of_lt_of_le hM.lt (by simp)) id).trans ((Below.heap_alloc _ _ _ hM.lt).trans hM))
        have hlk := lookup_keys (P := Tryd.prog) (w := w2) (t := 127) (kt := 9) (et := 4) (d := .string) (V := Value.string) (fun _ _ => rfl) (fun e a w => checkKey_str Tryd.underlying9 e a w) hM2 HK.out Tryd.underlying127 Tryd.underlying9 zeroBool (key l[k])
        rw [hq] at hlk
        have hC2 := Lib.hid (HP.out l[k] w2 (List.getElem_mem hlt) hf2)
        have g0 := (Blk.fr (Blk.new wr 134 #[.string l[k].name, .int .i64 l[k].num]) hfs id).cell 0
        have g1 := (Blk.fr (Blk.new wr 134 #[.string l[k].name, .int .i64 l[k].num]) hfs id).cell 1
        simp at g0 g1
        have HQ := Lib.hid hq
        clear hq
        go_wp2_with fail
        refine hC2.out.mono ?_
        rintro e w3 ⟨rfl, hfs3⟩
        have hf3 := hf2.trans hfs3 (fun _ h _ => h)
        have hM3 : Mp w3 w.heap.size es ck := Mp.fr hM2 hfs3 id
        have hup := update_keys (P := Tryd.prog) (w := w3) (t := 127) (kt := 9) (et := 4) (d := .string) (V := Value.string) (fun _ _ => rfl) (fun e a w => checkKey_str Tryd.underlying9 e a w) hM3 HK.out Tryd.underlying127 Tryd.underlying9 (key l[k]) HQ.out (.bool true)
        clear hlk
        go_wp2_with fail
        go_roundw
        case rel => exact ⟨k + 1, _, _, by go_num, by omega, hM3.set_ _ _, by rw [HT.out]; exact HK.out.push _ _, HU.out, hf3.setBlock (fun hl => absurd hl (Nat.lt_irrefl _)) _⟩
        case measure => simp [intOf]; omega
    · have hkk : k = l.length := by omega
      rw [hkk, List.drop_of_length_le (by simp)] at hun
      have HU := Lib.hid hun
      clear hun hkk
      go_wp2_with fail
      go_ret
      exact ⟨by rw [← HU.out]; rfl, hf⟩
set_option maxHeartbeats 2000000 in
set_option maxRecDepth 100000 in
theorem unlikeI  (g : Nat) (key : VD → Int) (A : Option Addr) (c : Nat) (l : List VD) (ok : Nat → Prop) (w : World) (h : Row 2 (fun (x : VD) cs => cs = x.cells) w ok A l) (hl : l.length ≤ 1000000)
    (hg : ∀ args w, (callFunc g args).run Tryd.prog w = .ok (.enter g args) w) (hp : ∀ x  w', x ∈ l → Fr NoB w w' → Calls Tryd.prog g #[.agg x.cells.toArray] w' (KeyR ((Value.int .i64) (key x)) w')) :
    Calls Tryd.prog 65 #[.slice A l.length c, .func (.func g) #[] #[]] w (NameR (unlikeB (l.map key)) w) := by
  have HP := Lib.hid hp
  clear hp
  have hmm := @run_makeMap Tryd.prog
  go_enter Tryd.func65, Tryd.ntmps65
  go_wp2_with fail
  have hM0 := Mp.new w #[] 0
  have hf0 : Fr NoB w (w.alloc (.map #[] 0)) := (Fr.refl NoB w).alloc _
  clear hmm
  go_loopw [11] (fun i wr => ∃ (k : Nat) (es : Array MapEntry) (ck : Nat), i = .int .i64 k ∧ k ≤ l.length ∧ Mp wr w.heap.size es ck ∧ Keys (Value.int .i64) es ((l.map key).take k) ∧ unlikeGo ((l.map key).take k) ((l.map key).drop k) = unlikeB (l.map key) ∧ Fr NoB w wr) (fun i _ => l.length - (intOf i).toNat)
  case atStart => exact ⟨0, _, _, rfl, by omega, hM0, Keys.nil _, rfl, hf0⟩
  case round =>
    obtain ⟨k, es, ck, rfl, hk, hM, hK, hun, hf⟩ := hrel
    by_cases hlt : k < l.length
    · have p1 : (k : Int) < (l.length : Int) := by omega
      have p0 : (0 : Int) ≤ (k : Int) := by omega
      obtain ⟨b, o, cs, rfl, _, _, hlen, hR, hcell⟩ := h.at_ k l[k] (List.getElem?_eq_getElem hlt)
      obtain rfl := hR
      have q0 := hf.cell_some (hcell 0 _ rfl) id
      have q1 := hf.cell_some (hcell 1 _ rfl) id
      simp only [Nat.add_zero, Nat.mul_one] at q0
      have hfa : Fr NoB w (wr.alloc (.cells #[.string l[k].name, .int .i64 l[k].num] 134)) := hf.alloc _
      have hC := Lib.hid (HP.out l[k] (wr.alloc (.cells #[.string l[k].name, .int .i64 l[k].num] 134)) (List.getElem_mem hlt) hfa)
      have hk2 : k < (l.map key).length := by simpa using hlt
      have hd : (l.map key).drop k = key l[k] :: (l.map key).drop (k + 1) := by rw [List.drop_eq_getElem_cons hk2]; simp
      have hts : (l.map key).take (k + 1) = (l.map key).take k ++ [key l[k]] := by rw [List.take_succ_eq_append_getElem hk2]; simp
      rw [hd] at hun
      have HT := Lib.hid hts
      have HK := Lib.hid hK
      clear hd hts hK
      cases hq : ((l.map key).take k).any (fun x => key l[k] == x) with
      | true =>
        rw [unlikeGo_hit hq] at hun
        have HU := Lib.hid hun
        clear hun
        go_wp2_with fail
        refine hC.out.mono ?_
        rintro e w2 ⟨rfl, hf2'⟩
        have hf2 := (hfa).trans hf2' (fun _ h _ => h)
        have hM2 := (show w2.heap[w.heap.size]? = some (.map es ck) from (hf2'.block w.heap.size (Nat.lt_of_lt_of_le hM.lt (by simp)) id).trans ((Below.heap_alloc _ _ _ hM.lt).trans hM))
        have hlk := lookup_keys (P := Tryd.prog) (w := w2) (t := 161) (kt := 3) (et := 4) (d := (.int .i64)) (V := (Value.int .i64)) (fun _ _ => rfl) (fun e a w => checkKey_int Tryd.underlying3 e a w) hM2 HK.out Tryd.underlying161 Tryd.underlying3 zeroBool (key l[k])
        rw [hq] at hlk
        have HQ := Lib.hid hq
        clear hq
        go_wp2_with fail
        go_ret
        exact ⟨by rw [← HU.out]; rfl, hf2⟩
      | false =>
        rw [unlikeGo_miss hq, ← HT.out] at hun
        have HU := Lib.hid hun
        clear hun
        go_wp2_with fail
        refine hC.out.mono ?_
        rintro e w2 ⟨rfl, hfs⟩
        have hf2 := (hfa).trans hfs (fun _ h _ => h)
        have hM2 := (show w2.heap[w.heap.size]? = some (.map es ck) from (hfs.block w.heap.size (Nat.lt_of_lt_of_le hM.lt (by simp)) id).trans ((Below.heap_alloc _ _ _ hM.lt).trans hM))
        have hlk := lookup_keys (P := Tryd.prog) (w := w2) (t := 161) (kt := 3) (et := 4) (d := (.int .i64)) (V := (Value.int .i64)) (fun _ _ => rfl) (fun e a w => checkKey_int Tryd.underlying3 e a w) hM2 HK.out Tryd.underlying161 Tryd.underlying3 zeroBool (key l[k])
        rw [hq] at hlk
        have hC2 := Lib.hid (HP.out l[k] w2 (List.getElem_mem hlt) hf2)
        have g0 := (Blk.fr (Blk.new wr 134 #[.string l[k].name, .int .i64 l[k].num]) hfs id).cell 0
        have g1 := (Blk.fr (Blk.new wr 134 #[.string l[k].name, .int .i64 l[k].num]) hfs id).cell 1
        simp at g0 g1
        have HQ := Lib.hid hq
        clear hq
        go_wp2_with fail
        refine hC2.out.mono ?_
        rintro e w3 ⟨rfl, hfs3⟩
        have hf3 := hf2.trans hfs3 (fun _ h _ => h)
        have hM3 : Mp w3 w.heap.size es ck := Mp.fr hM2 hfs3 id
        have hup := update_keys (P := Tryd.prog) (w := w3) (t := 161) (kt := 3) (et := 4) (d := (.int .i64)) (V := (Value.int .i64)) (fun _ _ => rfl) (fun e a w => checkKey_int Tryd.underlying3 e a w) hM3 HK.out Tryd.underlying161 Tryd.underlying3 (key l[k]) HQ.out (.bool true)
        clear hlk
        go_wp2_with fail
        go_roundw
        case rel => exact ⟨k + 1, _, _, by go_num, by omega, hM3.set_ _ _, by rw [HT.out]; exact HK.out.push _ _, HU.out, hf3.setBlock (fun hl => absurd hl (Nat.lt_irrefl _)) _⟩
        case measure => simp [intOf]; omega
    · have hkk : k = l.length := by omega
      rw [hkk, List.drop_of_length_le (by simp)] at hun
      have HU := Lib.hid hun
      clear hun hkk
      go_wp2_with fail
      go_ret
      exact ⟨by rw [← HU.out]; rfl, hf⟩
end Go.Proofs.YtcfmcgkngjpdbaaDoor
