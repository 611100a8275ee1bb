/- courierref01.Varint, Bytes. -/
import Derived.Test.YtcfmcgkngjpdbaaDoorD1
namespace Go.Proofs.YtcfmcgkngjpdbaaDoor
set_option linter.unusedVariables false
set_option linter.unusedSimpArgs false
open Go.RowKit

def varF : Nat → Nat → List UInt8
  | 0, n => [UInt8.ofNat n]
  | k + 1, n => if 127 < n then UInt8.ofNat (n % 128 + 128) :: varF k (n / 128) else [UInt8.ofNat n]
def varL (n : Nat) : List UInt8 := varF 9 n
theorem varF_len : ∀ k n, 1 ≤ (varF k n).length ∧ (varF k n).length ≤ k + 1
  | 0, n => by simp [varF]
  | k + 1, n => by
    unfold varF
    have := varF_len k (n / 128)
    split
    · simp; omega
    · simp
theorem take_varF : ∀ (f k acc n : Nat) (rest : List UInt8), k + f = 9 → n < 2 ^ (64 - 7 * k) → takeN k acc (varF f n ++ rest) = (acc + n * 2 ^ (7 * k), k + (varF f n).length, 0)
  | 0, k, acc, n, rest, hk, hn => by
    obtain rfl : k = 9 := by omega
    have hn : n < 2 := by simpa using hn
    have hc : (UInt8.ofNat n).toNat = n := by simp; omega
    have h1 : ¬ (9 = 9 ∧ 1 < (UInt8.ofNat n).toNat) := by rw [hc]; omega
    have h2 : (UInt8.ofNat n).toNat < 128 := by omega
    show takeN 9 acc (UInt8.ofNat n :: rest) = _
    unfold takeN
    rw [if_neg h1, if_pos h2, hc, Nat.mod_eq_of_lt (by omega)]
    rfl
  | f + 1, k, acc, n, rest, hk, hn => by
    have h9 : k ≠ 9 := by omega
    have hk8 : k ≤ 8 := by omega
    by_cases hb : 127 < n
    · have e : varF (f + 1) n = UInt8.ofNat (n % 128 + 128) :: varF f (n / 128) := if_pos hb
      have hc : (UInt8.ofNat (n % 128 + 128)).toNat = n % 128 + 128 := by simp; omega
      have h1 : ¬ (k = 9 ∧ 1 < (UInt8.ofNat (n % 128 + 128)).toNat) := by omega
      have h2 : ¬ (UInt8.ofNat (n % 128 + 128)).toNat < 128 := by omega
      rw [e, List.cons_append]
      unfold takeN
      rw [if_neg h1, if_neg h2, hc, show (n % 128 + 128) % 128 = n % 128 by omega]
      have hp : 2 ^ (64 - 7 * k) = 128 * 2 ^ (64 - 7 * (k + 1)) := by
        rw [show 64 - 7 * k = 7 + (64 - 7 * (k + 1)) by omega, Nat.pow_add]
      rw [take_varF f (k + 1) _ (n / 128) rest (by omega) (by omega)]
      have hq : 2 ^ (7 * (k + 1)) = 128 * 2 ^ (7 * k) := by rw [Nat.mul_add, Nat.pow_add, Nat.mul_comm]
      have hm : n / 128 * (128 * 2 ^ (7 * k)) = (128 * (n / 128)) * 2 ^ (7 * k) := by rw [← Nat.mul_assoc, Nat.mul_comm (n / 128) 128]
      have hd : n % 128 * 2 ^ (7 * k) + (128 * (n / 128)) * 2 ^ (7 * k) = n * 2 ^ (7 * k) := by
        rw [← Nat.add_mul, show n % 128 + 128 * (n / 128) = n from Nat.mod_add_div n 128]
      rw [hq, hm, Nat.add_assoc, hd]
      simp only [List.length_cons]
      rw [show k + 1 + (varF f (n / 128)).length = k + ((varF f (n / 128)).length + 1) by omega]
    · have e : varF (f + 1) n = [UInt8.ofNat n] := if_neg hb
      have hc : (UInt8.ofNat n).toNat = n := by simp; omega
      have h1 : ¬ (k = 9 ∧ 1 < (UInt8.ofNat n).toNat) := by omega
      have h2 : (UInt8.ofNat n).toNat < 128 := by omega
      rw [e]
      show takeN k acc (UInt8.ofNat n :: rest) = _
      unfold takeN
      rw [if_neg h1, if_pos h2, hc, Nat.mod_eq_of_lt (by omega)]
      rfl
theorem take_varL (n : Nat) (rest : List UInt8) (hn : n < 2 ^ 64) : takeN 0 0 (varL n ++ rest) = (n, (varL n).length, 0) := by
  have := take_varF 9 0 0 n rest rfl hn
  simpa [varL] using this

theorem or128 : ∀ c, c < 256 → bits .or .u8 (c : Nat) 128 = ((c % 128 + 128 : Nat) : Int) := by decide +kernel
theorem ub_ofNat (n : Nat) (h : n < 256) : ub (UInt8.ofNat n) = .int .u8 (n : Int) := by
  unfold ub
  have : (UInt8.ofNat n).toNat = n := by simp; omega
  rw [this]

def VarR (base : Nat) (v : Value) (l : List UInt8) (w : World) (e : Ending) (w' : World) : Prop := ∃ v', e = .returned v' ∧ w'.ownsRow base 5 1 v' l.length (l.map ub) ∧ (v'.ownBlock = v.ownBlock ∨ ∀ k, v'.ownBlock = some k → w.heap.size ≤ k) ∧ Fr (fun k => v.ownBlock = some k) w w'
set_option maxHeartbeats 1000000 in
set_option maxRecDepth 100000 in
theorem varint_any (base : Nat) (A : Option Addr) (c : Nat) (l : List UInt8) (n : Nat) (w : World) (hown : w.ownsRow base 5 1 (.slice A l.length c) l.length (l.map ub)) (hl : l.length ≤ 1000000) (hn : n < 2 ^ 64) (hb : base ≤ w.heap.size) :
    Calls Tryd.prog 14 #[.slice A l.length c, .int .u64 n] w (VarR base (.slice A l.length c) (l ++ varL n) w) := by
  obtain ⟨i0, hi0, hz0, hz1, hz2⟩ := info_parts infoU8
  go_enter Tryd.func14, Tryd.ntmps14
  go_wp2_with fail
  go_loopw [0, 1] (fun bv nv wr => ∃ (f m : Nat) (dn : List UInt8), nv = .int .u64 m ∧ f ≤ 9 ∧ m < 2 ^ (64 - 7 * (9 - f)) ∧ varL n = dn ++ varF f m ∧ wr.ownsRow base 5 1 bv (l ++ dn).length ((l ++ dn).map ub) ∧ ((bv : Value).ownBlock = (Value.slice A l.length c).ownBlock ∨ ∀ k, (bv : Value).ownBlock = some k → w.heap.size ≤ k) ∧ Fr (fun k => (Value.slice A l.length c).ownBlock = some k) w wr) (fun _ nv _ => (intOf nv).toNat)
  case atStart => exact ⟨9, n, [], rfl, by omega, by simpa using hn, rfl, by simpa using hown, .inl rfl, Fr.refl _ _⟩
  case round =>
    obtain ⟨f, m, dn, rfl, hf9, hm, hv, own1, hob, hf⟩ := hrel
    have hvl := varF_len 9 n
    have hdl : dn.length + (varF f m).length ≤ 10 := by
      have : (varL n).length = dn.length + (varF f m).length := by rw [hv, List.length_append]
      unfold varL at this
      omega
    have hfl := varF_len f m
    have hll : (l ++ dn).length = l.length + dn.length := List.length_append
    have HV := Lib.hid hv
    clear hv hvl
    have hT0 : Fr NoB wr (wr.alloc (.cells #[.int .u8 (0 : Int)] 5)) := (Fr.refl NoB wr).alloc _
    by_cases h127 : 127 < m
    · have p1 : (127 : Int) < (m : Int) := by omega
      go_wp2_with (at_builtin; refine wpList_app _ rfl (.tmp 7) (.tmp 11) 57 rfl base 5 i0 _ 1 1 Tryd.underlying57 hi0 hz0 hz1 hz2 rfl (by omega) u0 (l ++ dn).length ((l ++ dn).map ub) rfl (own_fr own1 ((Fr.refl NoB wr).alloc _) (fun _ _ => id)) (fun _ => True) (some ⟨wr.heap.size, 0, none⟩) 1 1 (fun h => by cases h) [.int .u8 (bits .or .u8 ((m : Int) % 256) 128)] rfl (Rd.lit wr (fun _ => True) 5 1 1 [.int .u8 (bits .or .u8 ((m : Int) % 256) 128)] rfl trivial) (fun u hu => by rw [List.mem_singleton.1 hu]; rfl) (by simp only [maxLen]; omega) (by omega) (by have := hf.size; simp; omega) ?_; intro v9 w9 own9 hg9 hat9)
      have hT := Fr.of_grown (S := fun k => (u0 : Value).ownBlock = some k) hg9 (fun k hk _ => hk)
      have hfa : Fr NoB wr (wr.alloc (.cells #[.int .u8 (bits .or .u8 ((m : Int) % 256) 128)] 5)) := (Fr.refl NoB wr).alloc _
      have hob9 : (v9 : Value).ownBlock = (Value.slice A l.length c).ownBlock ∨ ∀ k, (v9 : Value).ownBlock = some k → w.heap.size ≤ k := by
        rcases hat9 with h | h
        · rcases hob with h2 | h2
          · exact .inl (h.trans h2)
          · exact .inr (fun k hk => h2 k (h ▸ hk))
        · exact .inr (fun k hk => by
            rw [h] at hk
            injection hk with hk
            have := hf.size
            have := hfa.size
            omega)
      have hf9' : Fr (fun k => (Value.slice A l.length c).ownBlock = some k) w w9 := (hf.trans hfa (fun _ h _ => h.elim)).trans hT (fun b hb hl => by
        rcases hob with h2 | h2
        · exact h2 ▸ hb
        · exact absurd hl (Nat.not_lt.2 (h2 b hb)))
      obtain ⟨f', rfl⟩ : ∃ f', f = f' + 1 := by
        rcases f with _ | f'
        · exfalso
          have : m < 2 := by simpa using hm
          omega
        · exact ⟨f', rfl⟩
      have hvf : varF (f' + 1) m = UInt8.ofNat (m % 128 + 128) :: varF f' (m / 128) := if_pos h127
      have hz : bits .or .u8 ((m : Int) % 256) 128 = ((m % 128 + 128 : Nat) : Int) := by
        have h := or128 (m % 256) (by omega)
        rw [show m % 256 % 128 = m % 128 by omega] at h
        rw [← h]
        congr 1
      have e1 : (l ++ (dn ++ [UInt8.ofNat (m % 128 + 128)])).map ub = (l ++ dn).map ub ++ [.int .u8 (bits .or .u8 ((m : Int) % 256) 128)] := by
        rw [hz, ← ub_ofNat _ (by omega)]
        simp
      have e2 : (l ++ (dn ++ [UInt8.ofNat (m % 128 + 128)])).length = (l ++ dn).length + 1 := by simp; omega
      have hm2 : m / 128 < 2 ^ (64 - 7 * (9 - f')) := by
        have : 2 ^ (64 - 7 * (9 - f')) * 128 = 2 ^ (64 - 7 * (9 - (f' + 1))) := by
          rw [show 64 - 7 * (9 - (f' + 1)) = (64 - 7 * (9 - f')) + 7 by omega, Nat.pow_add]
        rw [← this] at hm
        exact (Nat.div_lt_iff_lt_mul (by decide)).2 hm
      go_roundw
      case rel => exact ⟨f', m / 128, dn ++ [UInt8.ofNat (m % 128 + 128)], by go_num, by omega, hm2, by rw [HV.out, hvf]; simp, by rw [e1, e2]; exact own9, hob9, hf9'⟩
      case measure => simp [intOf]; omega
    · have p1 : (m : Int) ≤ 127 := by omega
      go_wp2_with (at_builtin; refine wpList_app _ rfl (.tmp 15) (.tmp 18) 57 rfl base 5 i0 _ 1 1 Tryd.underlying57 hi0 hz0 hz1 hz2 rfl (by omega) u0 (l ++ dn).length ((l ++ dn).map ub) rfl (own_fr own1 ((Fr.refl NoB wr).alloc _) (fun _ _ => id)) (fun _ => True) (some ⟨wr.heap.size, 0, none⟩) 1 1 (fun h => by cases h) [.int .u8 (m : Int)] rfl (Rd.lit wr (fun _ => True) 5 1 1 [.int .u8 (m : Int)] rfl trivial) (fun u hu => by rw [List.mem_singleton.1 hu]; rfl) (by simp only [maxLen]; omega) (by omega) (by have := hf.size; simp; omega) ?_; intro v9 w9 own9 hg9 hat9)
      go_ret
      have hT := Fr.of_grown (S := fun k => (u0 : Value).ownBlock = some k) hg9 (fun k hk _ => hk)
      have hfa : Fr NoB wr (wr.alloc (.cells #[.int .u8 (m : Int)] 5)) := (Fr.refl NoB wr).alloc _
      have hob9 : (v9 : Value).ownBlock = (Value.slice A l.length c).ownBlock ∨ ∀ k, (v9 : Value).ownBlock = some k → w.heap.size ≤ k := by
        rcases hat9 with h | h
        · rcases hob with h2 | h2
          · exact .inl (h.trans h2)
          · exact .inr (fun k hk => h2 k (h ▸ hk))
        · exact .inr (fun k hk => by
            rw [h] at hk
            injection hk with hk
            have := hf.size
            have := hfa.size
            omega)
      have hf9' : Fr (fun k => (Value.slice A l.length c).ownBlock = some k) w w9 := (hf.trans hfa (fun _ h _ => h.elim)).trans hT (fun b hb hl => by
        rcases hob with h2 | h2
        · exact h2 ▸ hb
        · exact absurd hl (Nat.not_lt.2 (h2 b hb)))
      have hvf : varF f m = [UInt8.ofNat m] := by
        cases f with
        | zero => rfl
        | succ f => exact if_neg h127
      have e0 : l ++ varL n = l ++ (dn ++ [UInt8.ofNat m]) := by rw [HV.out, hvf]
      have e1 : (l ++ varL n).map ub = (l ++ dn).map ub ++ [.int .u8 (m : Int)] := by
        rw [e0, ← ub_ofNat m (by omega)]
        simp
      have e2 : (l ++ varL n).length = (l ++ dn).length + 1 := by rw [e0]; simp; omega
      exact ⟨v9, rfl, by rw [e1, e2]; exact own9, hob9, hf9'⟩
end Go.Proofs.YtcfmcgkngjpdbaaDoor
