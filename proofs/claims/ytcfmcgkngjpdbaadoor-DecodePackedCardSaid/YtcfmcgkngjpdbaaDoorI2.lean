/- ident: reserved words, plain names; slices.Index, Contains of strings. -/
import Derived.Test.YtcfmcgkngjpdbaaDoorI1
import Derived.Test.YtcfmcgkngjpdbaaDoorV0
import Derived.Laws.StructEq
namespace Go.Proofs.YtcfmcgkngjpdbaaDoor
set_option linter.unusedVariables false
set_option linter.unusedSimpArgs false
open Go.RowKit

/-- A slice of strings. -/
def Strs (w : World) (ok : Nat → Prop) (A : Option Addr) (l : List ByteArray) : Prop := Rd w ok 1 A l.length (l.map Value.string)
theorem Strs.at_ {w : World} {ok : Nat → Prop} {A : Option Addr} {l : List ByteArray} (h : Strs w ok A l) (i : Nat) (hi : i < l.length) : ∃ b o, A = some ⟨b, o, none⟩ ∧ w.cell? ⟨b, o + i, none⟩ = some (.string l[i]) := by
  obtain ⟨b, o, e, _, _, hc⟩ := h.2 (by omega)
  exact ⟨b, o, e, hc i _ (by simp [hi])⟩
theorem Strs.new {w w' : World} {ok : Nat → Prop} {A : Option Addr} {l : List ByteArray} (h : Strs w ok A l) (hf : Fr NoB w w') : Strs w' ok A l := Rd.mv h (Mv.new hf)
theorem Strs.of_blk {w : World} {g : Nat} {t : TypeId} {cs : Array Value} {l : List ByteArray} (h : Blk w g t cs) (hc : cs.toList = l.map Value.string) : Strs w (fun _ => True) (some ⟨g, 0, none⟩) l :=
  ⟨by simp, fun _ => ⟨g, 0, rfl, trivial, h.lt, fun j u hu => by rw [Nat.zero_add, h.cell j, ← Array.getElem?_toList, hc]; exact hu⟩⟩

/-- Where the first one lies that p answers yes of; -1: nowhere. -/
def IdxR {α : Type} (p : α → Bool) (l : List α) (r : Int) : Prop := (∃ i : Nat, ∃ h : i < l.length, r = i ∧ p l[i] = true ∧ ∀ x ∈ l.take i, p x = false) ∨ (r = -1 ∧ ∀ x ∈ l, p x = false)
theorem IdxR.any {α : Type} {p : α → Bool} {l : List α} {r : Int} (h : IdxR p l r) : decide (0 ≤ r) = l.any p := by
  rcases h with ⟨i, hi, rfl, hp, _⟩ | ⟨rfl, hp⟩
  · rw [decide_eq_true (by omega)]
    exact (List.any_eq_true.2 ⟨l[i], List.getElem_mem hi, hp⟩).symm
  · rw [decide_eq_false (by decide)]
    exact (List.any_eq_false.2 (fun x hx => by rw [hp x hx]; decide)).symm
def IntR {α : Type} (p : α → Bool) (l : List α) (w : World) (e : Ending) (w' : World) : Prop := ∃ r : Int, e = .returned (.int .i64 r) ∧ IdxR p l r ∧ Fr NoB w w'

set_option maxHeartbeats 1000000 in
theorem indexS_any (A : Option Addr) (c : Nat) (l : List ByteArray) (s : ByteArray) (ok : Nat → Prop) (w : World) (h : Strs w ok A l) (hl : l.length ≤ 1000000) :
    Calls Tryd.prog 99 #[.slice A l.length c, .string s] w (IntR (fun x => s == x) l w) := by
  go_enter Tryd.func99, Tryd.ntmps99
  go_wp2_with fail
  go_loop [8] (fun i => ∃ k : Nat, i = .int .i64 k ∧ k ≤ l.length ∧ ∀ x ∈ l.take k, (s == x) = false) (fun i => l.length - (intOf i).toNat)
  case atStart => exact ⟨0, rfl, by omega, by simp⟩
  case round =>
    obtain ⟨k, rfl, hk, hno⟩ := hrel
    by_cases hlt : k < l.length
    · have p1 : (k : Int) < (l.length : Int) := by omega
      have p0 : (0 : Int) ≤ (k : Int) := by omega
      obtain ⟨b, o, rfl, hc⟩ := h.at_ k hlt
      cases hq : (s == l[k]) with
      | true =>
        have hq2 : (s.toList == l[k].toList) = true := by rw [← beq_toListBytes]; exact hq
        have HN := Lib.hid hno
        have HQ := Lib.hid hq
        clear hno hq
        go_wp2_with fail
        go_ret
        exact ⟨k, rfl, .inl ⟨k, hlt, rfl, HQ.out, HN.out⟩, Fr.refl _ _⟩
      | false =>
        have hq2 : (s.toList == l[k].toList) = false := by rw [← beq_toListBytes]; exact hq
        have HN := Lib.hid hno
        have HQ := Lib.hid hq
        clear hno hq
        go_wp2_with fail
        go_round
        case rel => exact ⟨k + 1, by go_num, by omega, fun x hx => by
          rw [List.take_succ_eq_append_getElem hlt] at hx
          rcases List.mem_append.1 hx with h1 | h1
          · exact HN.out x h1
          · rw [List.mem_singleton.1 h1]; exact HQ.out⟩
        case measure => simp [intOf]; omega
    · have hkk : k = l.length := by omega
      rw [hkk, List.take_length] at hno
      have HN := Lib.hid hno
      clear hno hkk
      go_wp2_with fail
      go_ret
      exact ⟨-1, rfl, .inr ⟨rfl, HN.out⟩, Fr.refl _ _⟩

theorem containsS_any (A : Option Addr) (c : Nat) (l : List ByteArray) (s : ByteArray) (ok : Nat → Prop) (w : World) (h : Strs w ok A l) (hl : l.length ≤ 1000000) :
    Calls Tryd.prog 86 #[.slice A l.length c, .string s] w (NameR (l.any (fun x => s == x)) w) := by
  have hI := Lib.hid (indexS_any A c l s ok w h hl)
  go_enter Tryd.func86, Tryd.ntmps86
  go_wp2_with fail
  refine hI.out.mono ?_
  rintro e w' ⟨r, rfl, hr, hf⟩
  have ha := hr.any
  have HA := Lib.hid ha
  clear ha
  go_wp2_with fail
  go_ret
  exact ⟨by rw [← HA.out]; rfl, hf⟩

def wordsA : List ByteArray := [⟨#[109, 101, 115, 115, 97, 103, 101]⟩, ⟨#[101, 110, 117, 109]⟩, ⟨#[115, 101, 114, 118, 105, 99, 101]⟩, ⟨#[114, 112, 99]⟩, ⟨#[114, 101, 116, 117, 114, 110, 115]⟩, ⟨#[114, 101, 112, 101, 97, 116, 101, 100]⟩]
def wordsB : List ByteArray := [⟨#[]⟩, ⟨#[105, 110, 116, 54, 52]⟩, ⟨#[117, 105, 110, 116, 54, 52]⟩, ⟨#[115, 105, 110, 116, 54, 52]⟩, ⟨#[98, 111, 111, 108]⟩, ⟨#[115, 116, 114, 105, 110, 103]⟩, ⟨#[98, 121, 116, 101, 115]⟩, ⟨#[102, 105, 120, 101, 100, 51, 50]⟩, ⟨#[102, 105, 120, 101, 100, 54, 52]⟩]
def ScalarsR (w : World) (e : Ending) (w' : World) : Prop := ∃ A c, e = .returned (.slice A wordsB.length c) ∧ Strs w' (fun _ => True) A wordsB ∧ Fr NoB w w'
theorem scalars_any (w : World) : Calls Tryd.prog 87 #[] w (ScalarsR w) := by
  go_enter Tryd.func87, Tryd.ntmps87
  go_wp2_with fail
  go_ret
  exact ⟨_, _, rfl, Strs.of_blk (Blk.new w 9 _) rfl, (Fr.refl NoB w).alloc _⟩

def reservedB (s : ByteArray) : Bool := !(s == ⟨#[]⟩) && (wordsA.any (fun x => s == x) || wordsB.any (fun x => s == x))
theorem reserved_any (s : ByteArray) (w : World) : Calls Tryd.prog 68 #[.string s] w (NameR (reservedB s) w) := by
  have H : ∀ b, reservedB s = b → Calls Tryd.prog 68 #[.string s] w (NameR b w) := by
    intro b hb
    unfold reservedB at hb
    by_cases h0 : s = ⟨#[]⟩
    · subst h0
      have : b = false := by rw [← hb]; rfl
      subst this
      go_enter Tryd.func68, Tryd.ntmps68
      go_wp2_with fail
      go_ret
      exact ⟨rfl, by first | exact Fr.refl NoB w | exact (Fr.refl NoB w).alloc _⟩
    · have e1 : (s.toList == []) = false := by
        refine beq_eq_false_iff_ne.2 (fun h => h0 ?_)
        rw [ByteArray.toList_eq] at h
        cases s with
        | mk a =>
          cases a with
          | mk l =>
            have h : l = [] := h
            rw [h]
      have e0 : (s == (⟨#[]⟩ : ByteArray)) = false := by
        rw [beq_toListBytes, show (⟨#[]⟩ : ByteArray).toList = [] by rw [ByteArray.toList_eq]]
        exact e1
      rw [e0] at hb
      have hs1 : ¬ s.toList = [] := by simpa using e1
      have hs2 : s.toList.isEmpty = false := by simpa using hs1
      clear h0 e0 e1
      go_enter Tryd.func68, Tryd.ntmps68
      go_wp2_with fail
      have hfa : Fr NoB w (w.alloc (.cells #[.string ⟨#[109, 101, 115, 115, 97, 103, 101]⟩, .string ⟨#[101, 110, 117, 109]⟩, .string ⟨#[115, 101, 114, 118, 105, 99, 101]⟩, .string ⟨#[114, 112, 99]⟩, .string ⟨#[114, 101, 116, 117, 114, 110, 115]⟩, .string ⟨#[114, 101, 112, 101, 97, 116, 101, 100]⟩] 9)) := (Fr.refl NoB w).alloc _
      have hC := containsS_any (some ⟨w.heap.size, 0, none⟩) 6 wordsA s (fun _ => True) _ (Strs.of_blk (Blk.new w 9 #[.string ⟨#[109, 101, 115, 115, 97, 103, 101]⟩, .string ⟨#[101, 110, 117, 109]⟩, .string ⟨#[115, 101, 114, 118, 105, 99, 101]⟩, .string ⟨#[114, 112, 99]⟩, .string ⟨#[114, 101, 116, 117, 114, 110, 115]⟩, .string ⟨#[114, 101, 112, 101, 97, 116, 101, 100]⟩]) rfl) (by decide)
      refine hC.mono ?_
      rintro e w2 ⟨rfl, hf2⟩
      have hf2 := hfa.trans hf2 (fun _ h _ => h)
      cases ha : wordsA.any (fun x => s == x) with
      | true =>
        rw [ha] at hb
        have HB := Lib.hid hb
        clear ha hb
        go_wp2_with fail
        go_ret
        exact ⟨by rw [← HB.out]; rfl, hf2⟩
      | false =>
        rw [ha] at hb
        have HB := Lib.hid hb
        clear ha hb
        go_wp2_with fail
        refine (scalars_any w2).mono ?_
        rintro e w3 ⟨A, c, rfl, hS, hf3⟩
        have hD := Lib.hid (containsS_any A c wordsB s (fun _ => True) w3 hS (by decide))
        go_wp2_with fail
        refine hD.out.mono ?_
        rintro e w4 ⟨rfl, hf4⟩
        go_wp2_with fail
        go_ret
        exact ⟨by rw [← HB.out]; rfl, (hf2.trans hf3 (fun _ h _ => h)).trans hf4 (fun _ h _ => h)⟩
  exact H _ rfl

def plainB (s : ByteArray) : Bool := nameB s && !reservedB s
theorem plain_any (s : ByteArray) (w : World) (hs : s.size < 9223372036854775807) : Calls Tryd.prog 42 #[.string s] w (NameR (plainB s) w) := by
  have hN := Lib.hid (name_any s w hs)
  unfold plainB
  cases hn : nameB s with
  | false =>
    rw [hn] at hN
    clear hn
    go_enter Tryd.func42, Tryd.ntmps42
    go_wp2_with fail
    refine hN.out.mono ?_
    rintro e w2 ⟨rfl, hf2⟩
    go_wp2_with fail
    go_ret
    exact ⟨rfl, hf2⟩
  | true =>
    rw [hn] at hN
    clear hn
    go_enter Tryd.func42, Tryd.ntmps42
    go_wp2_with fail
    refine hN.out.mono ?_
    rintro e w2 ⟨rfl, hf2⟩
    have hR := Lib.hid (reserved_any s w2)
    go_wp2_with fail
    refine hR.out.mono ?_
    rintro e w3 ⟨rfl, hf3⟩
    go_wp2_with fail
    go_ret
    exact ⟨by simp, hf2.trans hf3 (fun _ h _ => h)⟩
end Go.Proofs.YtcfmcgkngjpdbaaDoor
