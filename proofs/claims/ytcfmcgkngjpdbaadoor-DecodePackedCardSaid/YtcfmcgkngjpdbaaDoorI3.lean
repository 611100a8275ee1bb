/- slices.IndexFunc, slices.ContainsFunc: the predicate met by its contract. -/
import Derived.Test.YtcfmcgkngjpdbaaDoorI2
import Derived.LoopTactic
namespace Go.Proofs.YtcfmcgkngjpdbaaDoor
set_option linter.unusedVariables false
set_option linter.unusedSimpArgs false
open Go.RowKit

theorem lenEqS {cs : List Value} (h : cs.length = 1) : ∃ a0, cs = [a0] := by
  match cs, h with
  | [a0], _ => exact ⟨a0, rfl⟩
set_option maxHeartbeats 1000000 in
set_option maxRecDepth 100000 in
theorem indexFuncS {α : Type} (R : α → List Value → Prop) (g : Nat) (caps : Array Value) (p : α → Bool) (A : Option Addr) (c : Nat) (l : List α) (ok : Nat → Prop) (w : World) (h : Row 1 R w ok A l) (hl : l.length ≤ 1000000)
    (hg : ∀ args w, (callFunc g args).run Tryd.prog w = .ok (.enter g args) w) (hp : ∀ x v w', x ∈ l → R x [v] → Fr NoB w w' → Calls Tryd.prog g (#[v] ++ caps) w' (NameR (p x) w')) :
    Calls Tryd.prog 55 #[.slice A l.length c, .func (.func g) #[] caps] w (IntR p l w) := by
  have HP := Lib.hid hp
  clear hp
  go_enter Tryd.func55, Tryd.ntmps55
  go_wp2_with fail
  go_loopw [8] (fun i wr => ∃ k : Nat, i = .int .i64 k ∧ k ≤ l.length ∧ (∀ x ∈ l.take k, p x = false) ∧ Fr NoB w wr) (fun i _ => l.length - (intOf i).toNat)
  case atStart => exact ⟨0, rfl, by omega, by simp, Fr.refl _ _⟩
  case round =>
    obtain ⟨k, rfl, hk, hno, hf⟩ := hrel
    by_cases hlt : k < l.length
    · have p1 : (k : Int) < (l.length : Int) := by omega
      have p0 : (0 : Int) ≤ (k : Int) := by omega
      obtain ⟨b, o, cs, rfl, _, _, hlen, hR, hcell⟩ := h.at_ k l[k] (List.getElem?_eq_getElem hlt)
      obtain ⟨a0, rfl⟩ := lenEqS hlen
      have q0 := hf.cell_some (hcell 0 _ rfl) id
      simp only [Nat.add_zero, Nat.mul_one] at q0
      have hC : Calls Tryd.prog g (#[a0] ++ caps) wr (NameR (p l[k]) wr) := HP.out l[k] _ wr (List.getElem_mem hlt) hR hf
      have hC := Lib.hid hC
      have HN := Lib.hid hno
      clear hno
      cases hq : p l[k] with
      | true =>
        rw [hq] at hC
        have HQ := Lib.hid hq
        clear hq
        go_wp2_with fail
        refine hC.out.mono ?_
        rintro e w2 ⟨rfl, hf2⟩
        go_wp2_with fail
        go_ret
        exact ⟨k, rfl, .inl ⟨k, hlt, rfl, HQ.out, HN.out⟩, hf.trans hf2 (fun _ h _ => h)⟩
      | false =>
        rw [hq] at hC
        have HQ := Lib.hid hq
        clear hq
        go_wp2_with fail
        refine hC.out.mono ?_
        rintro e w2 ⟨rfl, hf2⟩
        go_wp2_with fail
        go_roundw
        case rel => exact ⟨k + 1, by go_num, by omega, fun x hx => by
          rw [List.take_succ_eq_append_getElem hlt] at hx
          rcases List.mem_append.1 hx with h1 | h1
          · exact HN.out x h1
          · rw [List.mem_singleton.1 h1]; exact HQ.out, hf.trans hf2 (fun _ h _ => h)⟩
        case measure => simp [intOf]; omega
    · have hkk : k = l.length := by omega
      rw [hkk, List.take_length] at hno
      have HN := Lib.hid hno
      clear hno hkk
      go_wp2_with fail
      go_ret
      exact ⟨-1, rfl, .inr ⟨rfl, HN.out⟩, hf⟩
theorem containsFuncS {α : Type} (R : α → List Value → Prop) (g : Nat) (caps : Array Value) (p : α → Bool) (A : Option Addr) (c : Nat) (l : List α) (ok : Nat → Prop) (w : World) (h : Row 1 R w ok A l) (hl : l.length ≤ 1000000) (hg : ∀ args w, (callFunc g args).run Tryd.prog w = .ok (.enter g args) w) (hp : ∀ x v w', x ∈ l → R x [v] → Fr NoB w w' → Calls Tryd.prog g (#[v] ++ caps) w' (NameR (p x) w')) : Calls Tryd.prog 31 #[.slice A l.length c, .func (.func g) #[] caps] w (NameR (l.any p) w) := by
  have hI := Lib.hid (indexFuncS R g caps p A c l ok w h hl hg hp)
  clear hp
  go_enter Tryd.func31, Tryd.ntmps31
  go_wp2_with fail
  refine hI.out.mono ?_
  rintro e w' ⟨r, rfl, hr, hf⟩
  have ha := hr.any
  have HA := Lib.hid ha
  clear ha
  go_wp2_with fail
  go_ret
  exact ⟨by rw [← HA.out]; rfl, hf⟩
theorem lenEqM {cs : List Value} (h : cs.length = 2) : ∃ a0 a1, cs = [a0, a1] := by
  match cs, h with
  | [a0, a1], _ => exact ⟨a0, a1, rfl⟩
set_option maxHeartbeats 1000000 in
set_option maxRecDepth 100000 in
theorem indexFuncM {α : Type} (R : α → List Value → Prop) (g : Nat) (caps : Array Value) (p : α → Bool) (A : Option Addr) (c : Nat) (l : List α) (ok : Nat → Prop) (w : World) (h : Row 2 R w ok A l) (hl : l.length ≤ 1000000)
    (hg : ∀ args w, (callFunc g args).run Tryd.prog w = .ok (.enter g args) w) (hp : ∀ x cs w', x ∈ l → R x cs → Fr NoB w w' → Calls Tryd.prog g (#[.agg cs.toArray] ++ caps) w' (NameR (p x) w')) :
    Calls Tryd.prog 58 #[.slice A l.length c, .func (.func g) #[] caps] w (IntR p l w) := by
  have HP := Lib.hid hp
  clear hp
  go_enter Tryd.func58, Tryd.ntmps58
  go_wp2_with fail
  go_loopw [8] (fun i wr => ∃ k : Nat, i = .int .i64 k ∧ k ≤ l.length ∧ (∀ x ∈ l.take k, p x = false) ∧ Fr NoB w wr) (fun i _ => l.length - (intOf i).toNat)
  case atStart => exact ⟨0, rfl, by omega, by simp, Fr.refl _ _⟩
  case round =>
    obtain ⟨k, rfl, hk, hno, hf⟩ := hrel
    by_cases hlt : k < l.length
    · have p1 : (k : Int) < (l.length : Int) := by omega
      have p0 : (0 : Int) ≤ (k : Int) := by omega
      obtain ⟨b, o, cs, rfl, _, _, hlen, hR, hcell⟩ := h.at_ k l[k] (List.getElem?_eq_getElem hlt)
      obtain ⟨a0, a1, rfl⟩ := lenEqM hlen
      have q0 := hf.cell_some (hcell 0 _ rfl) id
      have q1 := hf.cell_some (hcell 1 _ rfl) id
      simp only [Nat.add_zero, Nat.mul_one] at q0
      have hC : Calls Tryd.prog g (#[.agg #[a0, a1]] ++ caps) wr (NameR (p l[k]) wr) := HP.out l[k] _ wr (List.getElem_mem hlt) hR hf
      have hC := Lib.hid hC
      have HN := Lib.hid hno
      clear hno
      cases hq : p l[k] with
      | true =>
        rw [hq] at hC
        have HQ := Lib.hid hq
        clear hq
        go_wp2_with fail
        refine hC.out.mono ?_
        rintro e w2 ⟨rfl, hf2⟩
        go_wp2_with fail
        go_ret
        exact ⟨k, rfl, .inl ⟨k, hlt, rfl, HQ.out, HN.out⟩, hf.trans hf2 (fun _ h _ => h)⟩
      | false =>
        rw [hq] at hC
        have HQ := Lib.hid hq
        clear hq
        go_wp2_with fail
        refine hC.out.mono ?_
        rintro e w2 ⟨rfl, hf2⟩
        go_wp2_with fail
        go_roundw
        case rel => exact ⟨k + 1, by go_num, by omega, fun x hx => by
          rw [List.take_succ_eq_append_getElem hlt] at hx
          rcases List.mem_append.1 hx with h1 | h1
          · exact HN.out x h1
          · rw [List.mem_singleton.1 h1]; exact HQ.out, hf.trans hf2 (fun _ h _ => h)⟩
        case measure => simp [intOf]; omega
    · have hkk : k = l.length := by omega
      rw [hkk, List.take_length] at hno
      have HN := Lib.hid hno
      clear hno hkk
      go_wp2_with fail
      go_ret
      exact ⟨-1, rfl, .inr ⟨rfl, HN.out⟩, hf⟩
theorem containsFuncM {α : Type} (R : α → List Value → Prop) (g : Nat) (caps : Array Value) (p : α → Bool) (A : Option Addr) (c : Nat) (l : List α) (ok : Nat → Prop) (w : World) (h : Row 2 R w ok A l) (hl : l.length ≤ 1000000) (hg : ∀ args w, (callFunc g args).run Tryd.prog w = .ok (.enter g args) w) (hp : ∀ x cs w', x ∈ l → R x cs → Fr NoB w w' → Calls Tryd.prog g (#[.agg cs.toArray] ++ caps) w' (NameR (p x) w')) : Calls Tryd.prog 36 #[.slice A l.length c, .func (.func g) #[] caps] w (NameR (l.any p) w) := by
  have hI := Lib.hid (indexFuncM R g caps p A c l ok w h hl hg hp)
  clear hp
  go_enter Tryd.func36, Tryd.ntmps36
  go_wp2_with fail
  refine hI.out.mono ?_
  rintro e w' ⟨r, rfl, hr, hf⟩
  have ha := hr.any
  have HA := Lib.hid ha
  clear ha
  go_wp2_with fail
  go_ret
  exact ⟨by rw [← HA.out]; rfl, hf⟩
theorem lenEqE {cs : List Value} (h : cs.length = 2) : ∃ a0 a1, cs = [a0, a1] := by
  match cs, h with
  | [a0, a1], _ => exact ⟨a0, a1, rfl⟩
set_option maxHeartbeats 1000000 in
set_option maxRecDepth 100000 in
theorem indexFuncE {α : Type} (R : α → List Value → Prop) (g : Nat) (caps : Array Value) (p : α → Bool) (A : Option Addr) (c : Nat) (l : List α) (ok : Nat → Prop) (w : World) (h : Row 2 R w ok A l) (hl : l.length ≤ 1000000)
    (hg : ∀ args w, (callFunc g args).run Tryd.prog w = .ok (.enter g args) w) (hp : ∀ x cs w', x ∈ l → R x cs → Fr NoB w w' → Calls Tryd.prog g (#[.agg cs.toArray] ++ caps) w' (NameR (p x) w')) :
    Calls Tryd.prog 62 #[.slice A l.length c, .func (.func g) #[] caps] w (IntR p l w) := by
  have HP := Lib.hid hp
  clear hp
  go_enter Tryd.func62, Tryd.ntmps62
  go_wp2_with fail
  go_loopw [8] (fun i wr => ∃ k : Nat, i = .int .i64 k ∧ k ≤ l.length ∧ (∀ x ∈ l.take k, p x = false) ∧ Fr NoB w wr) (fun i _ => l.length - (intOf i).toNat)
  case atStart => exact ⟨0, rfl, by omega, by simp, Fr.refl _ _⟩
  case round =>
    obtain ⟨k, rfl, hk, hno, hf⟩ := hrel
    by_cases hlt : k < l.length
    · have p1 : (k : Int) < (l.length : Int) := by omega
      have p0 : (0 : Int) ≤ (k : Int) := by omega
      obtain ⟨b, o, cs, rfl, _, _, hlen, hR, hcell⟩ := h.at_ k l[k] (List.getElem?_eq_getElem hlt)
      obtain ⟨a0, a1, rfl⟩ := lenEqE hlen
      have q0 := hf.cell_some (hcell 0 _ rfl) id
      have q1 := hf.cell_some (hcell 1 _ rfl) id
      simp only [Nat.add_zero, Nat.mul_one] at q0
      have hC : Calls Tryd.prog g (#[.agg #[a0, a1]] ++ caps) wr (NameR (p l[k]) wr) := HP.out l[k] _ wr (List.getElem_mem hlt) hR hf
      have hC := Lib.hid hC
      have HN := Lib.hid hno
      clear hno
      cases hq : p l[k] with
      | true =>
        rw [hq] at hC
        have HQ := Lib.hid hq
        clear hq
        go_wp2_with fail
        refine hC.out.mono ?_
        rintro e w2 ⟨rfl, hf2⟩
        go_wp2_with fail
        go_ret
        exact ⟨k, rfl, .inl ⟨k, hlt, rfl, HQ.out, HN.out⟩, hf.trans hf2 (fun _ h _ => h)⟩
      | false =>
        rw [hq] at hC
        have HQ := Lib.hid hq
        clear hq
        go_wp2_with fail
        refine hC.out.mono ?_
        rintro e w2 ⟨rfl, hf2⟩
        go_wp2_with fail
        go_roundw
        case rel => exact ⟨k + 1, by go_num, by omega, fun x hx => by
          rw [List.take_succ_eq_append_getElem hlt] at hx
          rcases List.mem_append.1 hx with h1 | h1
          · exact HN.out x h1
          · rw [List.mem_singleton.1 h1]; exact HQ.out, hf.trans hf2 (fun _ h _ => h)⟩
        case measure => simp [intOf]; omega
    · have hkk : k = l.length := by omega
      rw [hkk, List.take_length] at hno
      have HN := Lib.hid hno
      clear hno hkk
      go_wp2_with fail
      go_ret
      exact ⟨-1, rfl, .inr ⟨rfl, HN.out⟩, hf⟩
theorem containsFuncE {α : Type} (R : α → List Value → Prop) (g : Nat) (caps : Array Value) (p : α → Bool) (A : Option Addr) (c : Nat) (l : List α) (ok : Nat → Prop) (w : World) (h : Row 2 R w ok A l) (hl : l.length ≤ 1000000) (hg : ∀ args w, (callFunc g args).run Tryd.prog w = .ok (.enter g args) w) (hp : ∀ x cs w', x ∈ l → R x cs → Fr NoB w w' → Calls Tryd.prog g (#[.agg cs.toArray] ++ caps) w' (NameR (p x) w')) : Calls Tryd.prog 39 #[.slice A l.length c, .func (.func g) #[] caps] w (NameR (l.any p) w) := by
  have hI := Lib.hid (indexFuncE R g caps p A c l ok w h hl hg hp)
  clear hp
  go_enter Tryd.func39, Tryd.ntmps39
  go_wp2_with fail
  refine hI.out.mono ?_
  rintro e w' ⟨r, rfl, hr, hf⟩
  have ha := hr.any
  have HA := Lib.hid ha
  clear ha
  go_wp2_with fail
  go_ret
  exact ⟨by rw [← HA.out]; rfl, hf⟩
theorem lenEqF {cs : List Value} (h : cs.length = 5) : ∃ a0 a1 a2 a3 a4, cs = [a0, a1, a2, a3, a4] := by
  match cs, h with
  | [a0, a1, a2, a3, a4], _ => exact ⟨a0, a1, a2, a3, a4, rfl⟩
set_option maxHeartbeats 1000000 in
set_option maxRecDepth 100000 in
theorem indexFuncF {α : Type} (R : α → List Value → Prop) (g : Nat) (caps : Array Value) (p : α → Bool) (A : Option Addr) (c : Nat) (l : List α) (ok : Nat → Prop) (w : World) (h : Row 5 R w ok A l) (hl : l.length ≤ 1000000)
    (hg : ∀ args w, (callFunc g args).run Tryd.prog w = .ok (.enter g args) w) (hp : ∀ x cs w', x ∈ l → R x cs → Fr NoB w w' → Calls Tryd.prog g (#[.agg cs.toArray] ++ caps) w' (NameR (p x) w')) :
    Calls Tryd.prog 72 #[.slice A l.length c, .func (.func g) #[] caps] w (IntR p l w) := by
  have HP := Lib.hid hp
  clear hp
  go_enter Tryd.func72, Tryd.ntmps72
  go_wp2_with fail
  go_loopw [8] (fun i wr => ∃ k : Nat, i = .int .i64 k ∧ k ≤ l.length ∧ (∀ x ∈ l.take k, p x = false) ∧ Fr NoB w wr) (fun i _ => l.length - (intOf i).toNat)
  case atStart => exact ⟨0, rfl, by omega, by simp, Fr.refl _ _⟩
  case round =>
    obtain ⟨k, rfl, hk, hno, hf⟩ := hrel
    by_cases hlt : k < l.length
    · have p1 : (k : Int) < (l.length : Int) := by omega
      have p0 : (0 : Int) ≤ (k : Int) := by omega
      obtain ⟨b, o, cs, rfl, _, _, hlen, hR, hcell⟩ := h.at_ k l[k] (List.getElem?_eq_getElem hlt)
      obtain ⟨a0, a1, a2, a3, a4, rfl⟩ := lenEqF hlen
      have q0 := hf.cell_some (hcell 0 _ rfl) id
      have q1 := hf.cell_some (hcell 1 _ rfl) id
      have q2 := hf.cell_some (hcell 2 _ rfl) id
      have q3 := hf.cell_some (hcell 3 _ rfl) id
      have q4 := hf.cell_some (hcell 4 _ rfl) id
      simp only [Nat.add_zero, Nat.mul_one] at q0
      have hC : Calls Tryd.prog g (#[.agg #[a0, a1, a2, a3, a4]] ++ caps) wr (NameR (p l[k]) wr) := HP.out l[k] _ wr (List.getElem_mem hlt) hR hf
      have hC := Lib.hid hC
      have HN := Lib.hid hno
      clear hno
      cases hq : p l[k] with
      | true =>
        rw [hq] at hC
        have HQ := Lib.hid hq
        clear hq
        go_wp2_with fail
        refine hC.out.mono ?_
        rintro e w2 ⟨rfl, hf2⟩
        go_wp2_with fail
        go_ret
        exact ⟨k, rfl, .inl ⟨k, hlt, rfl, HQ.out, HN.out⟩, hf.trans hf2 (fun _ h _ => h)⟩
      | false =>
        rw [hq] at hC
        have HQ := Lib.hid hq
        clear hq
        go_wp2_with fail
        refine hC.out.mono ?_
        rintro e w2 ⟨rfl, hf2⟩
        go_wp2_with fail
        go_roundw
        case rel => exact ⟨k + 1, by go_num, by omega, fun x hx => by
          rw [List.take_succ_eq_append_getElem hlt] at hx
          rcases List.mem_append.1 hx with h1 | h1
          · exact HN.out x h1
          · rw [List.mem_singleton.1 h1]; exact HQ.out, hf.trans hf2 (fun _ h _ => h)⟩
        case measure => simp [intOf]; omega
    · have hkk : k = l.length := by omega
      rw [hkk, List.take_length] at hno
      have HN := Lib.hid hno
      clear hno hkk
      go_wp2_with fail
      go_ret
      exact ⟨-1, rfl, .inr ⟨rfl, HN.out⟩, hf⟩
theorem lenEqW {cs : List Value} (h : cs.length = 4) : ∃ a0 a1 a2 a3, cs = [a0, a1, a2, a3] := by
  match cs, h with
  | [a0, a1, a2, a3], _ => exact ⟨a0, a1, a2, a3, rfl⟩
set_option maxHeartbeats 1000000 in
set_option maxRecDepth 100000 in
theorem indexFuncW {α : Type} (R : α → List Value → Prop) (g : Nat) (caps : Array Value) (p : α → Bool) (A : Option Addr) (c : Nat) (l : List α) (ok : Nat → Prop) (w : World) (h : Row 4 R w ok A l) (hl : l.length ≤ 1000000)
    (hg : ∀ args w, (callFunc g args).run Tryd.prog w = .ok (.enter g args) w) (hp : ∀ x cs w', x ∈ l → R x cs → Fr NoB w w' → Calls Tryd.prog g (#[.agg cs.toArray] ++ caps) w' (NameR (p x) w')) :
    Calls Tryd.prog 79 #[.slice A l.length c, .func (.func g) #[] caps] w (IntR p l w) := by
  have HP := Lib.hid hp
  clear hp
  go_enter Tryd.func79, Tryd.ntmps79
  go_wp2_with fail
  go_loopw [8] (fun i wr => ∃ k : Nat, i = .int .i64 k ∧ k ≤ l.length ∧ (∀ x ∈ l.take k, p x = false) ∧ Fr NoB w wr) (fun i _ => l.length - (intOf i).toNat)
  case atStart => exact ⟨0, rfl, by omega, by simp, Fr.refl _ _⟩
  case round =>
    obtain ⟨k, rfl, hk, hno, hf⟩ := hrel
    by_cases hlt : k < l.length
    · have p1 : (k : Int) < (l.length : Int) := by omega
      have p0 : (0 : Int) ≤ (k : Int) := by omega
      obtain ⟨b, o, cs, rfl, _, _, hlen, hR, hcell⟩ := h.at_ k l[k] (List.getElem?_eq_getElem hlt)
      obtain ⟨a0, a1, a2, a3, rfl⟩ := lenEqW hlen
      have q0 := hf.cell_some (hcell 0 _ rfl) id
      have q1 := hf.cell_some (hcell 1 _ rfl) id
      have q2 := hf.cell_some (hcell 2 _ rfl) id
      have q3 := hf.cell_some (hcell 3 _ rfl) id
      simp only [Nat.add_zero, Nat.mul_one] at q0
      have hC : Calls Tryd.prog g (#[.agg #[a0, a1, a2, a3]] ++ caps) wr (NameR (p l[k]) wr) := HP.out l[k] _ wr (List.getElem_mem hlt) hR hf
      have hC := Lib.hid hC
      have HN := Lib.hid hno
      clear hno
      cases hq : p l[k] with
      | true =>
        rw [hq] at hC
        have HQ := Lib.hid hq
        clear hq
        go_wp2_with fail
        refine hC.out.mono ?_
        rintro e w2 ⟨rfl, hf2⟩
        go_wp2_with fail
        go_ret
        exact ⟨k, rfl, .inl ⟨k, hlt, rfl, HQ.out, HN.out⟩, hf.trans hf2 (fun _ h _ => h)⟩
      | false =>
        rw [hq] at hC
        have HQ := Lib.hid hq
        clear hq
        go_wp2_with fail
        refine hC.out.mono ?_
        rintro e w2 ⟨rfl, hf2⟩
        go_wp2_with fail
        go_roundw
        case rel => exact ⟨k + 1, by go_num, by omega, fun x hx => by
          rw [List.take_succ_eq_append_getElem hlt] at hx
          rcases List.mem_append.1 hx with h1 | h1
          · exact HN.out x h1
          · rw [List.mem_singleton.1 h1]; exact HQ.out, hf.trans hf2 (fun _ h _ => h)⟩
        case measure => simp [intOf]; omega
    · have hkk : k = l.length := by omega
      rw [hkk, List.take_length] at hno
      have HN := Lib.hid hno
      clear hno hkk
      go_wp2_with fail
      go_ret
      exact ⟨-1, rfl, .inr ⟨rfl, HN.out⟩, hf⟩
theorem containsFuncW {α : Type} (R : α → List Value → Prop) (g : Nat) (caps : Array Value) (p : α → Bool) (A : Option Addr) (c : Nat) (l : List α) (ok : Nat → Prop) (w : World) (h : Row 4 R w ok A l) (hl : l.length ≤ 1000000) (hg : ∀ args w, (callFunc g args).run Tryd.prog w = .ok (.enter g args) w) (hp : ∀ x cs w', x ∈ l → R x cs → Fr NoB w w' → Calls Tryd.prog g (#[.agg cs.toArray] ++ caps) w' (NameR (p x) w')) : Calls Tryd.prog 51 #[.slice A l.length c, .func (.func g) #[] caps] w (NameR (l.any p) w) := by
  have hI := Lib.hid (indexFuncW R g caps p A c l ok w h hl hg hp)
  clear hp
  go_enter Tryd.func51, Tryd.ntmps51
  go_wp2_with fail
  refine hI.out.mono ?_
  rintro e w' ⟨r, rfl, hr, hf⟩
  have ha := hr.any
  have HA := Lib.hid ha
  clear ha
  go_wp2_with fail
  go_ret
  exact ⟨by rw [← HA.out]; rfl, hf⟩
end Go.Proofs.YtcfmcgkngjpdbaaDoor
