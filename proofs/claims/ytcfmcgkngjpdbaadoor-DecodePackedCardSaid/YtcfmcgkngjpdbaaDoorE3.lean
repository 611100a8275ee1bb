/- The plain law of DecodePacked: what the three texts split into, and which numbers these are. -/
import Derived.Test.YtcfmcgkngjpdbaaDoorE0
import Derived.Test.YtcfmcgkngjpdbaaDoorD8
namespace Go.Proofs.YtcfmcgkngjpdbaaDoor
set_option linter.unusedVariables false
set_option linter.unusedSimpArgs false
open Go.RowKit

theorem splitP_more : ∀ (m : Nat) (l : List UInt8) (r : List (WF × List UInt8)), splitP m l = some r → splitP (m + 1) l = some r
  | m, [], r, h => by cases m <;> simpa [splitP] using h
  | 0, c :: l, r, h => by simp [splitP] at h
  | m + 1, c :: l, r, h => by
    unfold splitP at h ⊢
    cases hw : wtakeP (c :: l) with
    | none => rw [hw] at h; cases h
    | some fk =>
      obtain ⟨f, k⟩ := fk
      rw [hw] at h
      dsimp only at h ⊢
      obtain ⟨r', hr', rfl⟩ := Option.map_eq_some_iff.1 h
      rw [splitP_more m _ r' hr']
      rfl
theorem splitP_le {m m' : Nat} {l : List UInt8} {r : List (WF × List UInt8)} (h : splitP m l = some r) (hm : m ≤ m') : splitP m' l = some r := by
  obtain ⟨d, rfl⟩ := Nat.exists_eq_add_of_le hm
  induction d with
  | zero => exact h
  | succ d ih => exact splitP_more _ _ _ (ih (by omega))
theorem splitP_cons {m : Nat} {x rest : List UInt8} {f : WF} {r : List (WF × List UInt8)} (hx : 0 < x.length) (hw : wtakeP (x ++ rest) = some (f, x.length)) (h : splitP m rest = some r) : splitP (m + 1) (x ++ rest) = some ((f, x) :: r) := by
  obtain ⟨c, x', rfl⟩ : ∃ c x', x = c :: x' := by
    cases x with
    | nil => simp at hx
    | cons c x' => exact ⟨c, x', rfl⟩
  rw [List.cons_append] at hw ⊢
  unfold splitP
  rw [hw]
  dsimp only
  rw [show (c :: (x' ++ rest)).drop (c :: x').length = rest from List.drop_left (l₁ := c :: x'), show (c :: (x' ++ rest)).take (c :: x').length = c :: x' from List.take_left (l₁ := c :: x'), h]
  rfl
theorem unpackP_more : ∀ (m : Nat) (l : List UInt8) (r : List Nat), unpackP m l = some r → unpackP (m + 1) l = some r
  | m, [], r, h => by cases m <;> simpa [unpackP] using h
  | 0, c :: l, r, h => by simp [unpackP] at h
  | m + 1, c :: l, r, h => by
    unfold unpackP at h ⊢
    split at h
    · cases h
    · rename_i h0
      rw [if_neg h0]
      obtain ⟨r', hr', rfl⟩ := Option.map_eq_some_iff.1 h
      rw [unpackP_more m _ r' hr']
      rfl
theorem unpackP_le {m m' : Nat} {l : List UInt8} {r : List Nat} (h : unpackP m l = some r) (hm : m ≤ m') : unpackP m' l = some r := by
  obtain ⟨d, rfl⟩ := Nat.exists_eq_add_of_le hm
  induction d with
  | zero => exact h
  | succ d ih => exact unpackP_more _ _ _ (ih (by omega))
theorem varL_pos (n : Nat) : 0 < (varL n).length := (varF_len 9 n).1
theorem varL_le (n : Nat) : (varL n).length ≤ 10 := (varF_len 9 n).2
theorem unpack_vars : ∀ (ns : List Nat), (∀ n ∈ ns, n < 2 ^ 64) → unpackP ns.length (ns.flatMap varL) = some ns
  | [], _ => rfl
  | n :: ns, h => by
    have ih := unpack_vars ns (fun x hx => h x (List.mem_cons_of_mem _ hx))
    have ht := take_varL n (ns.flatMap varL) (h n (List.mem_cons_self ..))
    have hp := varL_pos n
    rw [List.flatMap_cons]
    obtain ⟨c, x', hcx⟩ : ∃ c x', varL n = c :: x' := by
      cases hv : varL n with
      | nil => rw [hv] at hp; simp at hp
      | cons c x' => exact ⟨c, x', rfl⟩
    show unpackP (ns.length + 1) (varL n ++ ns.flatMap varL) = _
    rw [hcx] at ht ⊢
    rw [List.cons_append] at ht ⊢
    unfold unpackP
    rw [ht, if_neg (by simp)]
    dsimp only
    rw [show (c :: (x' ++ ns.flatMap varL)).drop (c :: x').length = ns.flatMap varL from List.drop_left (l₁ := c :: x'), ih]
    rfl
theorem flat_len : ∀ (ns : List Nat), ns.length ≤ (ns.flatMap varL).length ∧ (ns.flatMap varL).length ≤ 10 * ns.length
  | [] => by simp
  | n :: ns => by
    have := flat_len ns
    have := varL_pos n
    have := varL_le n
    rw [List.flatMap_cons, List.length_append, List.length_cons]
    omega
theorem unpack_flat (ns : List Nat) (h : ∀ n ∈ ns, n < 2 ^ 64) : unpackP (ns.flatMap varL).length (ns.flatMap varL) = some ns := unpackP_le (unpack_vars ns h) (flat_len ns).1
theorem wtake_num (n : Nat) (rest : List UInt8) (hn : n < 2 ^ 64) : wtakeP ((varL 32 ++ varL n) ++ rest) = some (⟨4, 0, n, []⟩, (varL 32 ++ varL n).length) := by
  unfold wtakeP
  rw [List.append_assoc, take_varL 32 _ (by decide)]
  dsimp only
  rw [if_neg (by simp), show List.drop (varL 32).length (varL 32 ++ (varL n ++ rest)) = varL n ++ rest from List.drop_left, take_varL n rest hn]
  rw [if_neg (by decide), if_pos rfl, if_neg (by simp), List.length_append]
  rfl
theorem wtake_bytes (d rest : List UInt8) (hd : d.length < 2 ^ 64) : wtakeP ((varL 34 ++ varL d.length ++ d) ++ rest) = some (⟨4, 2, 0, d⟩, (varL 34 ++ varL d.length ++ d).length) := by
  unfold wtakeP
  rw [List.append_assoc, List.append_assoc, take_varL 34 _ (by decide)]
  dsimp only
  rw [if_neg (by simp), show List.drop (varL 34).length (varL 34 ++ (varL d.length ++ (d ++ rest))) = varL d.length ++ (d ++ rest) from List.drop_left, take_varL d.length _ hd]
  dsimp only
  rw [show List.drop (varL d.length).length (varL d.length ++ (d ++ rest)) = d ++ rest from List.drop_left, show List.take d.length (d ++ rest) = d from List.take_left]
  rw [if_neg (by decide), if_neg (by decide), if_pos rfl, if_neg (by simp), List.length_append, List.length_append]
  simp [Nat.add_assoc]
/-- A field of bytes. -/
def pk (d : List UInt8) : List UInt8 := varL 34 ++ varL d.length ++ d
def one8 (n : Nat) : List UInt8 := varL 32 ++ varL n
theorem pk_len (d : List UInt8) : 0 < (pk d).length ∧ (pk d).length ≤ 20 + d.length := by
  have := varL_pos 34
  have := varL_le 34
  have := varL_le d.length
  unfold pk
  simp only [List.length_append]
  omega
theorem one8_len (n : Nat) : 0 < (one8 n).length ∧ (one8 n).length ≤ 20 := by
  have := varL_pos 32
  have := varL_le 32
  have := varL_le n
  unfold one8
  simp only [List.length_append]
  omega
theorem split_pk (d : List UInt8) (hd : d.length < 2 ^ 64) : splitP (pk d).length (pk d) = some [(⟨4, 2, 0, d⟩, pk d)] := by
  have h := splitP_cons (m := 0) (rest := []) (pk_len d).1 (wtake_bytes d [] hd) rfl
  rw [List.append_nil] at h
  exact splitP_le h (pk_len d).1
theorem split_pk2 (d d2 : List UInt8) (hd : d.length < 2 ^ 64) (hd2 : d2.length < 2 ^ 64) : splitP (pk d ++ pk d2).length (pk d ++ pk d2) = some [(⟨4, 2, 0, d⟩, pk d), (⟨4, 2, 0, d2⟩, pk d2)] := by
  have h := splitP_cons (m := 0) (rest := []) (pk_len d2).1 (wtake_bytes d2 [] hd2) rfl
  rw [List.append_nil] at h
  have h2 := splitP_cons (pk_len d).1 (wtake_bytes d (pk d2) hd) h
  refine splitP_le h2 ?_
  have := (pk_len d).1
  have := (pk_len d2).1
  rw [List.length_append]
  omega
theorem alone_len : ∀ (ns : List Nat), ns.length ≤ (ns.flatMap one8).length ∧ (ns.flatMap one8).length ≤ 20 * ns.length
  | [] => by simp
  | n :: ns => by
    have := alone_len ns
    have := one8_len n
    rw [List.flatMap_cons, List.length_append, List.length_cons]
    omega
theorem split_alone0 : ∀ (ns : List Nat), (∀ n ∈ ns, n < 2 ^ 64) → splitP ns.length (ns.flatMap one8) = some (ns.map (fun n => (⟨4, 0, n, []⟩, one8 n)))
  | [], _ => rfl
  | n :: ns, h => by
    have ih := split_alone0 ns (fun x hx => h x (List.mem_cons_of_mem _ hx))
    exact splitP_cons (one8_len n).1 (wtake_num n _ (h n (List.mem_cons_self ..))) ih
theorem split_alone (ns : List Nat) (h : ∀ n ∈ ns, n < 2 ^ 64) : splitP (ns.flatMap one8).length (ns.flatMap one8) = some (ns.map (fun n => (⟨4, 0, n, []⟩, one8 n))) := splitP_le (split_alone0 ns h) (alone_len ns).1
theorem valuesP_pk (ns : List Nat) (h : ∀ n ∈ ns, n < 2 ^ 64) : valuesP ⟨4, 2, 0, ns.flatMap varL⟩ = some ns := by
  unfold valuesP
  rw [if_pos rfl]
  exact unpack_flat ns h
theorem vals_pk (ns : List Nat) (h : ∀ n ∈ ns, n < 2 ^ 64) : valsP [⟨4, 2, 0, ns.flatMap varL⟩] = some ns := by
  simp only [valsP, valuesP_pk ns h]
  simp
theorem vals_pk2 (ns ms : List Nat) (h : ∀ n ∈ ns, n < 2 ^ 64) (h2 : ∀ n ∈ ms, n < 2 ^ 64) : valsP [⟨4, 2, 0, ns.flatMap varL⟩, ⟨4, 2, 0, ms.flatMap varL⟩] = some (ns ++ ms) := by
  simp only [valsP, valuesP_pk ns h, valuesP_pk ms h2]
  simp
theorem vals_alone : ∀ (ns : List Nat), valsP (ns.map (fun n => (⟨4, 0, n, []⟩ : WF))) = some ns
  | [] => rfl
  | n :: ns => by
    have hv : valuesP ⟨4, 0, n, []⟩ = some [n] := by unfold valuesP; rw [if_neg (by simp)]
    simp only [List.map_cons, valsP, hv, vals_alone ns]
    rfl
theorem known4 (k : Int) (nm : ByteArray) (t : Int) (hk : wireP k = 0) (ht : t = 0 ∨ t = 2) : knownB [⟨4, nm, k, true, 0⟩] 4 t = true := by
  unfold knownB
  simp only [List.find?_cons, beq_self_eq_true]
  rw [hk]
  rcases ht with rfl | rfl <;> decide
end Go.Proofs.YtcfmcgkngjpdbaaDoor
