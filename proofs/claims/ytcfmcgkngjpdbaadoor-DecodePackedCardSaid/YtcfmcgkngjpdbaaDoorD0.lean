/- Bytes; the numbers' functions of layers 1, 2 and 9. -/
import Derived.Test.YtcfmcgkngjpdbaaDoorR1
import Derived.Laws.BitsAllLaws
namespace Go.Proofs.YtcfmcgkngjpdbaaDoor
set_option linter.unusedVariables false
set_option linter.unusedSimpArgs false
open Go.RowKit

/-- Bytes as cells. -/
def ub (b : UInt8) : Value := .int .u8 (b.toNat : Int)
def Bys (w : World) (ok : Nat → Prop) (A : Option Addr) (l : List UInt8) : Prop := Rd w ok 1 A l.length (l.map ub)
theorem Bys.at_ {w : World} {ok : Nat → Prop} {A : Option Addr} {l : List UInt8} (h : Bys w ok A l) (i : Nat) (hi : i < l.length) : ∃ b o, A = some ⟨b, o, none⟩ ∧ ok b ∧ b < w.heap.size ∧ w.cell? ⟨b, o + i, none⟩ = some (.int .u8 (l[i].toNat : Int)) := by
  obtain ⟨b, o, e, hb, hl, hc⟩ := h.2 (by omega)
  exact ⟨b, o, e, hb, hl, hc i _ (by rw [List.getElem?_map, List.getElem?_eq_getElem hi]; rfl)⟩

/-! ### value.Wire, Packed; decode.number; Zag; Zero -/
def wireP (k : Int) : Int := if k = 7 then 5 else if k = 8 then 1 else if k = 5 ∨ k = 6 ∨ k = 10 then 2 else 0
theorem Wire_any (k : Int) (w : World) : Calls Tryd.prog 74 #[.int .i64 k] w fun e w' => e = .returned (.int .i64 (wireP k)) ∧ Fr NoB w w' := by
  go_enter Tryd.func74, Tryd.ntmps74
  go_wp2_with fail
  all_goals go_ret
  all_goals refine ⟨?_, Fr.refl _ _⟩
  all_goals simp_all [wireP]
theorem Packed_any (k : Int) (w : World) : Calls Tryd.prog 75 #[.int .i64 k] w fun e w' => e = .returned (.bool (wireP k != 2)) ∧ Fr NoB w w' := by
  go_enter Tryd.func75, Tryd.ntmps75
  go_wp2_with fail
  refine (Wire_any _ _).mono ?_
  rintro e w' ⟨rfl, hf⟩
  go_wp2_with fail
  go_ret
  exact ⟨rfl, hf⟩

/-! ### varint.Take -/
/-- What is read: the number, how many bytes, the error. -/
def takeN : Nat → Nat → List UInt8 → Nat × Nat × Nat
  | _, _, [] => (0, 0, 5)
  | k, n, c :: r => if k = 9 ∧ 1 < c.toNat then (0, 0, 2) else if c.toNat < 128 then (n + c.toNat % 128 * 2 ^ (7 * k), k + 1, 0) else takeN (k + 1) (n + c.toNat % 128 * 2 ^ (7 * k)) r
theorem and127 : ∀ c, c < 256 → bits .and .u8 (c : Nat) 127 = ((c % 128 : Nat) : Int) := by decide +kernel
theorem and128 : ∀ c, c < 256 → (bits .and .u8 (c : Nat) 128 == 0) = decide (c < 128) := by decide +kernel
theorem u64_id (n : Nat) (h : n < 2 ^ 64) : IntKind.u64.wrap (n : Int) = n := IntWalk.u64_in _ ⟨by omega, by omega⟩
theorem or_step (n c k : Nat) (hn : n < 2 ^ (7 * k)) (hc : c * 2 ^ (7 * k) + 2 ^ (7 * k) ≤ 2 ^ 64) : bits .or .u64 (n : Int) (IntKind.u64.wrap (((c : Nat) : Int) * 2 ^ (7 * k))) = ((n + c * 2 ^ (7 * k) : Nat) : Int) := by
  have e1 : (((c : Nat) : Int) * 2 ^ (7 * k)) = ((c * 2 ^ (7 * k) : Nat) : Int) := by push_cast; rfl
  rw [e1, u64_id _ (by omega), u64_or_nat n _ (by omega) (by omega)]
  have := Nat.two_pow_add_eq_or_of_lt hn c
  rw [Nat.mul_comm] at this
  rw [Nat.or_comm, ← this, Nat.add_comm]

theorem take_any (A : Option Addr) (l : List UInt8) (c : Nat) (ok : Nat → Prop) (w : World) (h : Bys w ok A l) (hl : l.length ≤ 1000000000) :
    Calls Tryd.prog 88 #[.slice A l.length c] w fun e w' => e = .returned (.tuple #[.int .u64 (takeN 0 0 l).1, .int .i64 (takeN 0 0 l).2.1, .int .i64 (takeN 0 0 l).2.2]) ∧ Fr NoB w w' := by
  go_enter Tryd.func88, Tryd.ntmps88
  go_wp2_with fail
  go_loopw [10, 5] (fun sv nv wr => ∃ (k n : Nat), sv = .int .i64 k ∧ nv = .int .u64 n ∧ k ≤ l.length ∧ k ≤ 9 ∧ n < 2 ^ (7 * k) ∧ takeN 0 0 l = takeN k n (l.drop k) ∧ wr = w) (fun sv _ _ => l.length - (intOf sv).toNat)
  case atStart => exact ⟨0, 0, rfl, rfl, by omega, by omega, by decide, rfl, rfl⟩
  case round =>
    obtain ⟨k, n, rfl, rfl, hk, hk9, hn, htk, rfl⟩ := hrel
    have HK := Lib.hid htk
    clear htk
    by_cases hlt : k < l.length
    · have p1 : (k : Int) < (l.length : Int) := by omega
      have p0 : (0 : Int) ≤ (k : Int) := by omega
      obtain ⟨b, o, rfl, _, _, hc⟩ := h.at_ k hlt
      have hcl : l[k].toNat < 256 := l[k].toNat_lt
      have a1 := and127 _ hcl
      have a2 := and128 _ hcl
      have a3 := u64_id (l[k].toNat % 128) (by omega)
      have hdrop : l.drop k = l[k] :: l.drop (k + 1) := List.drop_eq_getElem_cons hlt
      have HD := Lib.hid hdrop
      clear hdrop
      generalize l[k] = cc at *
      have a5 : (bits .and .u8 ((cc.toNat : Nat) : Int) 128 = 0) ↔ cc.toNat < 128 := by
        constructor
        · intro h
          rw [h] at a2
          exact of_decide_eq_true a2.symm
        · intro h
          rw [decide_eq_true h] at a2
          exact eq_of_beq a2
      clear a2
      go_wp2_with fail
      · have h9 : (k : Int) = 9 := by assumption
        have hc1 : (1 : Int) < (cc.toNat : Int) := by assumption
        have q9 : k = 9 := by omega
        have q1 : 1 < cc.toNat := by omega
        go_ret3
        exact ⟨by rw [HK.out, HD.out]; simp [takeN, q1, q9], Fr.refl _ _⟩
      · have h9 : (k : Int) = 9 := by assumption
        have hc1 : (cc.toNat : Int) ≤ 1 := by assumption
        have q9 : k = 9 := by omega
        have q1 : ¬ 1 < cc.toNat := by omega
        have q2 : cc.toNat < 128 := by omega
        rw [q9] at hn
        have hst := or_step n (cc.toNat % 128) 9 hn (by omega)
        have hst' : bits .or .u64 (n : Int) (IntKind.u64.wrap ((cc.toNat : Int) % 128 * 9223372036854775808)) = ((n + cc.toNat % 128 * 2 ^ (7 * 9) : Nat) : Int) := by
          have e : ((cc.toNat : Int) % 128) = ((cc.toNat % 128 : Nat) : Int) := by push_cast; rfl
          rw [e]
          exact hst
        have hst2 : bits .or .u64 (n : Int) ((cc.toNat : Int) % 128 * 9223372036854775808) = ((n + cc.toNat % 128 * 2 ^ (7 * 9) : Nat) : Int) := by
          rw [← hst', IntWalk.u64_in _ ⟨by omega, by omega⟩]
        have ht : takeN k n (cc :: l.drop (k + 1)) = (n + cc.toNat % 128 * 2 ^ (7 * 9), 9 + 1, 0) := by simp only [takeN, q9, q1, q2, and_false, if_false, if_true]
        go_ret3
        refine ⟨?_, Fr.refl _ _⟩
        rw [HK.out, HD.out, ht]
        rw [hst2]
        rfl
      · have h9 : ¬ (k : Int) = 9 := by assumption
        have h2 : (bits .and .u8 ((cc.toNat : Nat) : Int) 128 == 0) = true := by assumption
        have q9 : ¬ k = 9 := by omega
        have q2 : cc.toNat < 128 := a5.1 (eq_of_beq h2)
        have hp : 2 ^ (7 * k) ≤ 2 ^ 56 := Nat.pow_le_pow_right (by omega) (by omega)
        have hm : cc.toNat % 128 * 2 ^ (7 * k) ≤ 127 * 2 ^ (7 * k) := Nat.mul_le_mul_right _ (by omega)
        have hst := or_step n (cc.toNat % 128) k hn (by omega)
        have hst2 : bits .or .u64 (n : Int) (IntKind.u64.wrap ((cc.toNat : Int) % 128 * 2 ^ (7 * k))) = ((n + cc.toNat % 128 * 2 ^ (7 * k) : Nat) : Int) := by
          have e : ((cc.toNat : Int) % 128) = ((cc.toNat % 128 : Nat) : Int) := by push_cast; rfl
          rw [e]
          exact hst
        have ht : takeN k n (cc :: l.drop (k + 1)) = (n + cc.toNat % 128 * 2 ^ (7 * k), k + 1, 0) := by simp only [takeN, q9, q2, false_and, if_false, if_true]
        go_ret3
        refine ⟨?_, Fr.refl _ _⟩
        rw [HK.out, HD.out, ht]
        rw [hst2]
        rfl
      · have h9 : ¬ (k : Int) = 9 := by assumption
        have h2 : (bits .and .u8 ((cc.toNat : Nat) : Int) 128 == 0) = false := by assumption
        have q9 : ¬ k = 9 := by omega
        have q2 : ¬ cc.toNat < 128 := fun h => by rw [a5.2 h] at h2; cases h2
        have hp : 2 ^ (7 * k) ≤ 2 ^ 56 := Nat.pow_le_pow_right (by omega) (by omega)
        have hm : cc.toNat % 128 * 2 ^ (7 * k) ≤ 127 * 2 ^ (7 * k) := Nat.mul_le_mul_right _ (by omega)
        have hst := or_step n (cc.toNat % 128) k hn (by omega)
        have hst2 : bits .or .u64 (n : Int) (IntKind.u64.wrap ((cc.toNat : Int) % 128 * 2 ^ (7 * k))) = ((n + cc.toNat % 128 * 2 ^ (7 * k) : Nat) : Int) := by
          have e : ((cc.toNat : Int) % 128) = ((cc.toNat % 128 : Nat) : Int) := by push_cast; rfl
          rw [e]
          exact hst
        have ht : takeN k n (cc :: l.drop (k + 1)) = takeN (k + 1) (n + cc.toNat % 128 * 2 ^ (7 * k)) (l.drop (k + 1)) := by simp only [takeN, q9, q2, false_and, if_false]
        have hn2 : n + cc.toNat % 128 * 2 ^ (7 * k) < 2 ^ (7 * (k + 1)) := by
          have : 2 ^ (7 * (k + 1)) = 128 * 2 ^ (7 * k) := by rw [Nat.mul_add, Nat.pow_add, Nat.mul_comm]
          omega
        go_roundw
        case rel => exact ⟨k + 1, _, by go_num, by rw [hst2], by omega, by omega, hn2, by rw [HK.out, HD.out, ht], trivial⟩
        case measure => simp [intOf]; omega
    · have hkk : k = l.length := by omega
      have hnil : l.drop k = [] := List.drop_eq_nil_of_le (by omega)
      have HN := Lib.hid hnil
      clear hnil
      have p1 : ¬ (k : Int) < (l.length : Int) := by omega
      go_wp2_with fail
      go_ret3
      exact ⟨by rw [HK.out, HN.out]; rfl, Fr.refl _ _⟩

/-! ### varint.Zag, decode.number, wire.Formed -/
def zagP (n : Nat) : Int := bits .xor .i64 (wrap64 ((n : Int) / 2)) (wrap64 (-wrap64 (bits .and .u64 (n : Int) 1)))
theorem zag_any (n : Nat) (w : World) : Calls Tryd.prog 93 #[.int .u64 n] w fun e w' => e = .returned (.int .i64 (zagP n)) ∧ Fr NoB w w' := by
  go_enter Tryd.func93, Tryd.ntmps93
  go_wp2_with fail
  go_ret
  exact ⟨rfl, Fr.refl _ _⟩
/-- A number's value, as a leaf. -/
def numV (k : Int) (n : Nat) : Value :=
  if k = 1 then .iface 72 (.int .i64 (wrap64 n)) else if k = 3 then .iface 72 (.int .i64 (zagP n)) else if k = 4 then .iface 73 (.bool ((n : Int) != 0)) else
  if k = 9 then .iface 76 (.int .i32 (wrap32 ((n : Int) % 4294967296))) else .iface 68 (.int .u64 n)
theorem number_any (k : Int) (n : Nat) (w : World) : Calls Tryd.prog 78 #[.int .i64 k, .int .u64 n] w fun e w' => e = .returned (numV k n) ∧ Fr NoB w w' := by
  have hz := Lib.hid (zag_any n w)
  go_enter Tryd.func78, Tryd.ntmps78
  by_cases h1 : k = 1
  · subst h1
    go_wp2_with fail
    go_ret
    exact ⟨rfl, Fr.refl _ _⟩
  · have q1 : (k == 1) = false := by simp [h1]
    by_cases h3 : k = 3
    · subst h3
      go_wp2_with fail
      refine hz.out.mono ?_
      rintro e w' ⟨rfl, hf⟩
      go_wp2_with fail
      go_ret
      exact ⟨rfl, hf⟩
    · have q3 : (k == 3) = false := by simp [h3]
      by_cases h4 : k = 4
      · subst h4
        go_wp2_with fail
        go_ret
        exact ⟨rfl, Fr.refl _ _⟩
      · have q4 : (k == 4) = false := by simp [h4]
        by_cases h9 : k = 9
        · subst h9
          go_wp2_with fail
          go_ret
          exact ⟨rfl, Fr.refl _ _⟩
        · have q9 : (k == 9) = false := by simp [h9]
          go_wp2_with fail
          go_ret
          exact ⟨by simp only [numV, h1, h3, h4, h9, if_false]; rfl, Fr.refl _ _⟩
theorem beq0 (n : Nat) : (((n : Nat) : Int) == 0) = (n == 0) := by
  cases n with
  | zero => rfl
  | succ n => rfl
def wireFormed (n t : Int) (u : Nat) (l : Nat) : Bool := decide (1 ≤ n) && decide (n ≤ 536870911) && (if t = 0 ∨ t = 1 then l == 0 else if t = 5 then l == 0 && decide (u ≤ 4294967295) else decide (t = 2) && (u == 0))
theorem wireFormed_any (n t : Int) (u : Nat) (A : Option Addr) (l c : Nat) (w : World) : Calls Tryd.prog 89 #[.agg #[.int .i64 n, .int .i64 t, .int .u64 u, .slice A l c]] w (NameR (wireFormed n t u l) w) := by
  go_enter Tryd.func89, Tryd.ntmps89
  go_wp2_with fail
  all_goals go_ret
  all_goals refine ⟨?_, (Fr.refl NoB w).alloc _⟩
  all_goals simp_all [wireFormed, beq0]
  all_goals first | omega | (intro h1 h2; omega) | (intro h1; omega)
end Go.Proofs.YtcfmcgkngjpdbaaDoor
