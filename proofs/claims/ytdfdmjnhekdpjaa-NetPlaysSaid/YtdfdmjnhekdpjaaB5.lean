import Derived.Test.YtdfdmjnhekdpjaaB4
namespace Go.Proofs.Ytdfdmjnhekdpjaa
set_option linter.unusedVariables false
set_option linter.unusedSimpArgs false
open Go.RowKit

def Pk.key (p : Pk) : Int × Int × Int × List Value := (p.n, p.f, p.t, p.bs)
def In (lo hi : Nat) : Nat → Prop := fun k => lo ≤ k ∧ k < hi
theorem key_get {ps qs : List Pk} (hk : ps.map Pk.key = qs.map Pk.key) {i : Nat} {p : Pk} (h : ps[i]? = some p) : ∃ q, qs[i]? = some q ∧ q.n = p.n ∧ q.f = p.f ∧ q.t = p.t ∧ q.bs = p.bs := by
  have h1 : (qs.map Pk.key)[i]? = some p.key := by rw [← hk, List.getElem?_map, h]; rfl
  rw [List.getElem?_map] at h1
  obtain ⟨q, hq, he⟩ := Option.map_eq_some_iff.1 h1
  simp only [Pk.key, Prod.mk.injEq] at he
  exact ⟨q, hq, he.1, he.2.1, he.2.2.1, he.2.2.2⟩
theorem key_len {ps qs : List Pk} (hk : ps.map Pk.key = qs.map Pk.key) : qs.length = ps.length := by
  have := congrArg List.length hk
  simpa using this.symm
theorem key_app {ps qs : List Pk} (hk : ps.map Pk.key = qs.map Pk.key) {p q : Pk} (h : p.key = q.key) : (ps ++ [p]).map Pk.key = (qs ++ [q]).map Pk.key := by simp [hk, h]
theorem key_erase {ps qs : List Pk} (hk : ps.map Pk.key = qs.map Pk.key) (i : Nat) : (ps.eraseIdx i).map Pk.key = (qs.eraseIdx i).map Pk.key := by
  simp only [List.eraseIdx_eq_take_drop_succ, List.map_append, List.map_take, List.map_drop, hk]
theorem key_set {ps qs : List Pk} (hk : ps.map Pk.key = qs.map Pk.key) (i : Nat) {p q : Pk} (h : p.key = q.key) : (ps.set i p).map Pk.key = (qs.set i q).map Pk.key := by rw [List.map_set, List.map_set, hk, h]
theorem key_moved {ps qs : List Pk} (hk : ps.map Pk.key = qs.map Pk.key) (i k : Nat) {p q : Pk} (h : p.key = q.key) : (moved ps i k p).map Pk.key = (moved qs i k q).map Pk.key := by
  have he := key_erase hk i
  unfold moved
  rw [List.map_append, List.map_append, List.map_cons, List.map_cons, List.map_take, List.map_take, List.map_drop, List.map_drop, he, h]

/-- Both nets of one play: the same packets, apart in memory. -/
def Pair (w : World) (lo hi bn bw : Nat) (last : Int) : Prop := ∃ (SR SF : Nat → Prop) (lr lf : Value) (ps qs : List Pk), RNet w SR bn lr ps last ∧ FNet w SF bw lf qs last ∧ ps.map Pk.key = qs.map Pk.key ∧
  (∀ k, SR k → ¬ SF k) ∧ (∀ k, SR k → In lo hi k) ∧ (∀ k, SF k → In lo hi k)

theorem Pair.far {w w' : World} {lo hi bn bw : Nat} {last : Int} {T : Nat → Prop} (h : Pair w lo hi bn bw last) (hf : Fr T w w') (hT : ∀ k, In lo hi k → ¬ T k) : Pair w' lo hi bn bw last := by
  obtain ⟨SR, SF, lr, lf, ps, qs, hR, hF, hk, hd, h1, h2⟩ := h
  exact ⟨SR, SF, lr, lf, ps, qs, hR.far hf (fun k hs _ => hT k (h1 k hs)), hF.far hf (fun k hs _ => hT k (h2 k hs)), hk, hd, h1, h2⟩

theorem Pair.up {w : World} {lo hi hi' bn bw : Nat} {last : Int} (h : Pair w lo hi bn bw last) (hh : hi ≤ hi') : Pair w lo hi' bn bw last := by
  obtain ⟨SR, SF, lr, lf, ps, qs, hR, hF, hk, hd, h1, h2⟩ := h
  exact ⟨SR, SF, lr, lf, ps, qs, hR, hF, hk, hd, fun k h => ⟨(h1 k h).1, Nat.lt_of_lt_of_le (h1 k h).2 hh⟩, fun k h => ⟨(h2 k h).1, Nat.lt_of_lt_of_le (h2 k h).2 hh⟩⟩

/-- The real call, then (whatever is laid anew between) the ref's. -/
theorem Pair.join {w w1 w1' w2 : World} {lo hi bn bw : Nat} {last : Int} {SR SF : Nat → Prop} {lr lf : Value} {ps qs : List Pk} (hhi : lo ≤ hi ∧ hi ≤ w.heap.size)
    (hd : ∀ k, SR k → ¬ SF k) (h1 : ∀ k, SR k → In lo hi k) (h2 : ∀ k, SF k → In lo hi k)
    (hR : RNet w1 (fun k => SR k ∨ w.heap.size ≤ k) bn lr ps last) (hf1 : Fr SR w w1) (hf1' : Fr NoB w1 w1') (hF : FNet w2 (fun k => SF k ∨ w1'.heap.size ≤ k) bw lf qs last) (hf2 : Fr SF w1' w2)
    (hk : ps.map Pk.key = qs.map Pk.key) : Pair w2 lo w2.heap.size bn bw last ∧ Fr (In lo hi) w1' w2 := by
  have s1 := hf1.size
  have s2 := hf1'.size
  have s3 := hf2.size
  refine ⟨⟨_, _, lr, lf, ps, qs, (hR.tight.far hf1' (fun _ _ _ => id)).far hf2 (fun k hk _ hS => ?_), hF.tight, hk, fun k hk hS => ?_, fun k hk => ?_, fun k hk => ?_⟩, hf2.mono (fun b hb _ => h2 b hb)⟩
  · rcases hk.1 with h | h
    · exact hd k h hS
    · have := (h2 k hS).2; omega
  · rcases hk.1 with h | h <;> rcases hS.1 with h' | h'
    · exact hd k h h'
    · have := (h1 k h).2; have := hk.2; omega
    · have := (h2 k h').2; omega
    · have := hk.2; omega
  · have := hk.2
    rcases hk.1 with h | h
    · exact ⟨(h1 k h).1, by omega⟩
    · exact ⟨by omega, by omega⟩
  · have := hk.2
    rcases hk.1 with h | h
    · exact ⟨(h2 k h).1, by omega⟩
    · exact ⟨by omega, by omega⟩

theorem RNet.c0 {w : World} {S : Nat → Prop} {bn : Nat} {line : Value} {ps : List Pk} {last : Int} (h : RNet w S bn line ps last) : ∃ A c, line = .slice A ps.length c ∧ w.cell? ⟨bn, 0, none⟩ = some (.slice A ps.length c) := by
  obtain ⟨A, c, rfl, _⟩ := own_slice h.own
  have d0 := h.blk.cell 0
  simp at d0
  exact ⟨A, c, rfl, d0⟩
theorem FNet.c0 {w : World} {S : Nat → Prop} {bn : Nat} {line : Value} {ps : List Pk} {last : Int} (h : FNet w S bn line ps last) : ∃ A c, line = .slice A ps.length c ∧ w.cell? ⟨bn, 0, none⟩ = some (.slice A ps.length c) := by
  obtain ⟨A, c, rfl, _⟩ := own_slice h.own
  have d0 := h.blk.cell 0
  simp at d0
  exact ⟨A, c, rfl, d0⟩

/-- What follows the real call: the ref's, with the same answer. -/
def Next2 (lo hi bn bw : Nat) (last : Int) (f : FuncId) (args : Array Value) (r : Value) (w w1 : World) : Prop :=
  Fr (In lo hi) w w1 ∧ ∀ w1', Fr NoB w1 w1' → Calls Try.prog f args w1' fun e w2 => e = .returned r ∧ Fr (In lo hi) w1' w2 ∧ ∃ last', last ≤ last' ∧ last' ≤ last + 1 ∧ Pair w2 lo w2.heap.size bn bw last'

section
variable {w : World} {lo hi bn bw : Nat} {last : Int} (h : Pair w lo hi bn bw last) (hhi : lo ≤ hi ∧ hi ≤ w.heap.size)
include h hhi

theorem pair_drop (a : Int) : Calls Try.prog 21 #[.pointer (some ⟨bn, 0, none⟩), .int .i64 a] w fun e w1 => ∃ r : Bool, e = .returned (.bool r) ∧ Next2 lo hi bn bw last 22 #[.pointer (some ⟨bw, 0, none⟩), .int .i64 a] (.bool r) w w1 := by
  obtain ⟨SR, SF, lr, lf, ps, qs, hR, hF, hk, hd, h1, h2⟩ := h
  have hq := key_len hk
  by_cases ha : 0 ≤ a ∧ a < ps.length
  · obtain ⟨i, rfl⟩ := Int.eq_ofNat_of_zero_le ha.1
    refine (drop_in SR bn lr ps last i w hR (by omega)).mono ?_
    rintro e w1 ⟨rfl, line', hR', hf⟩
    have hfS := hf.mono (fun b hb _ => hR.netB b hb)
    refine ⟨true, rfl, hfS.mono (fun b hb _ => h1 b hb), fun w1' hf1 => ?_⟩
    have hF1 := (hF.far hfS (fun k hS _ hT => hd k hT hS)).far hf1 (fun _ _ _ => id)
    refine (fdrop_in SF bw lf qs last i w1' hF1 (by omega)).mono ?_
    rintro e w2 ⟨rfl, line2, _, hF', hf2⟩
    have hj := Pair.join hhi hd h1 h2 (hR'.more (fun k hk => .inl hk)) hfS hf1 hF' (hf2.mono (fun b hb _ => by rw [show b = bw from hb]; exact hF.sb)) (key_erase hk i)
    exact ⟨rfl, hj.2, last, by omega, by omega, hj.1⟩
  · obtain ⟨A, c, rfl, d0⟩ := hR.c0
    refine (drop_out bn A _ c a w d0 (by omega)).mono ?_
    rintro e w1 ⟨rfl, rfl⟩
    refine ⟨false, rfl, Fr.refl _ _, fun w1' hf1 => ?_⟩
    have hF1 := hF.far hf1 (fun _ _ _ => id)
    obtain ⟨A', c', rfl, d1⟩ := hF1.c0
    refine (fdrop_out bw A' _ c' a w1' d1 (by omega)).mono ?_
    rintro e w2 ⟨rfl, rfl⟩
    have hj := Pair.join hhi hd h1 h2 (hR.more (fun k hk => .inl hk)) (Fr.refl _ _) hf1 (hF1.more (fun k hk => .inl hk)) (Fr.refl _ _) hk
    exact ⟨rfl, hj.2, last, by omega, by omega, hj.1⟩

theorem pair_send (x y : Int) (ok : Nat → Prop) (A : Option Addr) (n c : Nat) (xs : List Value) (hl : 0 ≤ last ∧ last < 1000000) (hA : A = none → c = 0) (hr : Rd w ok 1 A n xs) (hok : ∀ b, ok b → ¬ In lo hi b) (hx : ∀ u ∈ xs, ∃ k : Int, u = .int .u8 k) (hn : n ≤ 20000) :
    Calls Try.prog 19 #[.pointer (some ⟨bn, 0, none⟩), .int .i64 x, .int .i64 y, .slice A n c] w fun e w1 => ∃ r s : Int, e = .returned (.tuple #[.int .i64 r, .int .i64 s]) ∧ Next2 lo hi bn bw last 20 #[.pointer (some ⟨bw, 0, none⟩), .int .i64 x, .int .i64 y, .slice A n c] (.tuple #[.int .i64 r, .int .i64 s]) w w1 := by
  obtain ⟨SR, SF, lr, lf, ps, qs, hR, hF, hk, hd, h1, h2⟩ := h
  have hq := key_len hk
  by_cases ha : ps.length < 200
  · refine (send_any SR bn lr ps last x y ok A n c xs w hR hl hA hr (fun hb => hok bn hb (h1 bn hR.sb)) hx hn ha).mono ?_
    rintro e w1 ⟨rfl, line', v, hR', hf⟩
    refine ⟨_, _, rfl, hf.mono (fun b hb _ => h1 b hb), fun w1' hf1 => ?_⟩
    have hF1 := (hF.far hf (fun k hS _ hT => hd k hT hS)).far hf1 (fun _ _ _ => id)
    have hr1 := (hr.fr hf (fun b hb _ hS => hok b hb (h1 b hS))).fr hf1 (fun _ _ _ => id)
    refine (fsend_any SF bw lf qs last x y ok A n c xs w1' hF1 hl hA hr1 (fun hb => hok bw hb (h2 bw hF.sb)) hx hn (by omega)).mono ?_
    rintro e w2 ⟨rfl, line2, v2, hF', hf2⟩
    have hj := Pair.join hhi hd h1 h2 hR' hf hf1 hF' (hf2.mono (fun b hb _ => by rw [show b = bw from hb]; exact hF.sb)) (key_app hk rfl)
    exact ⟨rfl, hj.2, last + 1, by omega, by omega, hj.1⟩
  · obtain ⟨B, cb, rfl, d0⟩ := hR.c0
    refine (send_full bn B _ cb _ _ _ w d0 (by omega)).mono ?_
    rintro e w1 ⟨rfl, rfl⟩
    refine ⟨_, _, rfl, Fr.refl _ _, fun w1' hf1 => ?_⟩
    have hF1 := hF.far hf1 (fun _ _ _ => id)
    obtain ⟨A', c', rfl, d1⟩ := hF1.c0
    refine (fsend_full bw A' _ c' _ _ _ w1' d1 (by omega)).mono ?_
    rintro e w2 ⟨rfl, rfl⟩
    have hj := Pair.join hhi hd h1 h2 (hR.more (fun k hk => .inl hk)) (Fr.refl _ _) hf1 (hF1.more (fun k hk => .inl hk)) (Fr.refl _ _) hk
    exact ⟨rfl, hj.2, last, by omega, by omega, hj.1⟩

theorem pair_double (a : Int) (hl : 0 ≤ last ∧ last < 1000000) :
    Calls Try.prog 23 #[.pointer (some ⟨bn, 0, none⟩), .int .i64 a] w fun e w1 => ∃ r s : Int, e = .returned (.tuple #[.int .i64 r, .int .i64 s]) ∧ Next2 lo hi bn bw last 24 #[.pointer (some ⟨bw, 0, none⟩), .int .i64 a] (.tuple #[.int .i64 r, .int .i64 s]) w w1 := by
  obtain ⟨SR, SF, lr, lf, ps, qs, hR, hF, hk, hd, h1, h2⟩ := h
  have hq := key_len hk
  by_cases ha : 0 ≤ a ∧ a < ps.length
  · obtain ⟨i, rfl⟩ := Int.eq_ofNat_of_zero_le ha.1
    have hi : i < ps.length := by omega
    obtain ⟨p, hp⟩ : ∃ p, ps[i]? = some p := ⟨_, List.getElem?_eq_getElem hi⟩
    obtain ⟨q, hqi, e1, e2, e3, e4⟩ := key_get hk hp
    by_cases hlen : ps.length < 200
    · refine (double_in SR bn lr ps last i p w hR hp hl hlen).mono ?_
      rintro e w1 ⟨rfl, line', v, hR', hf⟩
      refine ⟨_, _, rfl, hf.mono (fun b hb _ => h1 b hb), fun w1' hf1 => ?_⟩
      have hF1 := (hF.far hf (fun k hS _ hT => hd k hT hS)).far hf1 (fun _ _ _ => id)
      refine (fdouble_in SF bw lf qs last i q w1' hF1 hqi hl (by omega)).mono ?_
      rintro e w2 ⟨rfl, line2, v2, hF', hf2⟩
      have hj := Pair.join hhi hd h1 h2 hR' hf hf1 hF' (hf2.mono (fun b hb _ => by rw [show b = bw from hb]; exact hF.sb)) (key_app hk (by simp [Pk.key, e2, e3, e4]))
      exact ⟨rfl, hj.2, last + 1, by omega, by omega, hj.1⟩
    · refine (double_full SR bn lr ps last i w hR hi (by omega)).mono ?_
      rintro e w1 ⟨rfl, hf⟩
      refine ⟨_, _, rfl, hf.mono (fun b hb _ => hb.elim), fun w1' hf1 => ?_⟩
      have hF1 := (hF.far hf (fun _ _ _ => id)).far hf1 (fun _ _ _ => id)
      refine (fdouble_full SF bw lf qs last i w1' hF1 (by omega) (by omega)).mono ?_
      rintro e w2 ⟨rfl, hf2⟩
      have hj := Pair.join hhi hd h1 h2 ((hR.far hf (fun _ _ _ => id)).more (fun k hk => .inl hk)) (hf.mono (fun b hb _ => hb.elim)) hf1 ((hF1.far hf2 (fun _ _ _ => id)).more (fun k hk => .inl hk)) (hf2.mono (fun b hb _ => hb.elim)) hk
      exact ⟨rfl, hj.2, last, by omega, by omega, hj.1⟩
  · obtain ⟨A, c, rfl, d0⟩ := hR.c0
    refine (double_out bn A _ c a w d0 (by omega)).mono ?_
    rintro e w1 ⟨rfl, rfl⟩
    refine ⟨_, _, rfl, Fr.refl _ _, fun w1' hf1 => ?_⟩
    have hF1 := hF.far hf1 (fun _ _ _ => id)
    obtain ⟨A', c', rfl, d1⟩ := hF1.c0
    refine (fdouble_out bw A' _ c' a w1' d1 (by omega)).mono ?_
    rintro e w2 ⟨rfl, rfl⟩
    have hj := Pair.join hhi hd h1 h2 (hR.more (fun k hk => .inl hk)) (Fr.refl _ _) hf1 (hF1.more (fun k hk => .inl hk)) (Fr.refl _ _) hk
    exact ⟨rfl, hj.2, last, by omega, by omega, hj.1⟩

theorem pair_move (a b : Int) : Calls Try.prog 29 #[.pointer (some ⟨bn, 0, none⟩), .int .i64 a, .int .i64 b] w fun e w1 => ∃ r : Bool, e = .returned (.bool r) ∧ Next2 lo hi bn bw last 30 #[.pointer (some ⟨bw, 0, none⟩), .int .i64 a, .int .i64 b] (.bool r) w w1 := by
  obtain ⟨SR, SF, lr, lf, ps, qs, hR, hF, hk, hd, h1, h2⟩ := h
  have hq := key_len hk
  by_cases ha : (0 ≤ a ∧ a < ps.length) ∧ (0 ≤ b ∧ b < ps.length)
  · obtain ⟨i, rfl⟩ := Int.eq_ofNat_of_zero_le ha.1.1
    obtain ⟨j, rfl⟩ := Int.eq_ofNat_of_zero_le ha.2.1
    have hi : i < ps.length := by omega
    obtain ⟨p, hp⟩ : ∃ p, ps[i]? = some p := ⟨_, List.getElem?_eq_getElem hi⟩
    obtain ⟨q, hqi, e1, e2, e3, e4⟩ := key_get hk hp
    refine (move_in SR bn lr ps last i j p w hR hp (by omega)).mono ?_
    rintro e w1 ⟨rfl, line', hR', hf⟩
    refine ⟨true, rfl, hf.mono (fun b hb _ => h1 b hb), fun w1' hf1 => ?_⟩
    have hF1 := (hF.far hf (fun k hS _ hT => hd k hT hS)).far hf1 (fun _ _ _ => id)
    refine (fmove_in SF bw lf qs last i j q w1' hF1 hqi (by omega)).mono ?_
    rintro e w2 ⟨rfl, line2, hF', hf2⟩
    have hj := Pair.join hhi hd h1 h2 (hR'.more (fun k hk => .inl hk)) hf hf1 hF' (hf2.mono (fun b hb _ => by rw [show b = bw from hb]; exact hF.sb)) (key_moved hk i j (by simp [Pk.key, e1, e2, e3, e4]))
    exact ⟨rfl, hj.2, last, by omega, by omega, hj.1⟩
  · obtain ⟨A, c, rfl, d0⟩ := hR.c0
    refine (move_out bn A _ c a b w d0 (by omega)).mono ?_
    rintro e w1 ⟨rfl, rfl⟩
    refine ⟨false, rfl, Fr.refl _ _, fun w1' hf1 => ?_⟩
    have hF1 := hF.far hf1 (fun _ _ _ => id)
    obtain ⟨A', c', rfl, d1⟩ := hF1.c0
    refine (fmove_out bw A' _ c' a b w1' d1 (by omega)).mono ?_
    rintro e w2 ⟨rfl, rfl⟩
    have hj := Pair.join hhi hd h1 h2 (hR.more (fun k hk => .inl hk)) (Fr.refl _ _) hf1 (hF1.more (fun k hk => .inl hk)) (Fr.refl _ _) hk
    exact ⟨rfl, hj.2, last, by omega, by omega, hj.1⟩

theorem pair_damage (a b by_ : Int) : Calls Try.prog 27 #[.pointer (some ⟨bn, 0, none⟩), .int .i64 a, .int .i64 b, .int .u8 by_] w fun e w1 => ∃ r : Bool, e = .returned (.bool r) ∧ Next2 lo hi bn bw last 28 #[.pointer (some ⟨bw, 0, none⟩), .int .i64 a, .int .i64 b, .int .u8 by_] (.bool r) w w1 := by
  obtain ⟨SR, SF, lr, lf, ps, qs, hR, hF, hk, hd, h1, h2⟩ := h
  have hq := key_len hk
  by_cases ha : 0 ≤ a ∧ a < ps.length
  · obtain ⟨i, rfl⟩ := Int.eq_ofNat_of_zero_le ha.1
    have hi : i < ps.length := by omega
    obtain ⟨p, hp⟩ : ∃ p, ps[i]? = some p := ⟨_, List.getElem?_eq_getElem hi⟩
    obtain ⟨q, hqi, e1, e2, e3, e4⟩ := key_get hk hp
    by_cases hb : 0 ≤ b ∧ b < p.bs.length
    · obtain ⟨j, rfl⟩ := Int.eq_ofNat_of_zero_le hb.1
      obtain ⟨u, hu⟩ : ∃ u, p.bs[j]? = some u := ⟨_, List.getElem?_eq_getElem (by omega)⟩
      obtain ⟨z, rfl⟩ := (hR.pk p (List.mem_of_getElem? hp)).2.1 u (List.mem_of_getElem? hu)
      refine (damage_in SR bn lr ps last i j z by_ p w hR hp hu).mono ?_
      rintro e w1 ⟨rfl, hR', hf⟩
      refine ⟨true, rfl, hf.mono (fun b hb _ => h1 b hb), fun w1' hf1 => ?_⟩
      have hF1 := (hF.far hf (fun k hS _ hT => hd k hT hS)).far hf1 (fun _ _ _ => id)
      refine (fdamage_in SF bw lf qs last i j z by_ q w1' hF1 hqi (by rw [e4]; exact hu)).mono ?_
      rintro e w2 ⟨rfl, v2, hF', hf2⟩
      have hj := Pair.join hhi hd h1 h2 (hR'.more (fun k hk => .inl hk)) hf hf1 hF' hf2 (key_set hk i (by simp [Pk.key, e1, e2, e3, e4]))
      exact ⟨rfl, hj.2, last, by omega, by omega, hj.1⟩
    · refine (damage_place SR bn lr ps last i b _ p w hR hp (by omega)).mono ?_
      rintro e w1 ⟨rfl, rfl⟩
      refine ⟨false, rfl, Fr.refl _ _, fun w1' hf1 => ?_⟩
      have hF1 := hF.far hf1 (fun _ _ _ => id)
      refine (fdamage_place SF bw lf qs last i b _ q w1' hF1 hqi (by rw [e4]; omega)).mono ?_
      rintro e w2 ⟨rfl, rfl⟩
      have hj := Pair.join hhi hd h1 h2 (hR.more (fun k hk => .inl hk)) (Fr.refl _ _) hf1 (hF1.more (fun k hk => .inl hk)) (Fr.refl _ _) hk
      exact ⟨rfl, hj.2, last, by omega, by omega, hj.1⟩
  · obtain ⟨A, c, rfl, d0⟩ := hR.c0
    refine (damage_out bn A _ c a _ _ w d0 (by omega)).mono ?_
    rintro e w1 ⟨rfl, rfl⟩
    refine ⟨false, rfl, Fr.refl _ _, fun w1' hf1 => ?_⟩
    have hF1 := hF.far hf1 (fun _ _ _ => id)
    obtain ⟨A', c', rfl, d1⟩ := hF1.c0
    refine (fdamage_out bw A' _ c' a _ _ w1' d1 (by omega)).mono ?_
    rintro e w2 ⟨rfl, rfl⟩
    have hj := Pair.join hhi hd h1 h2 (hR.more (fun k hk => .inl hk)) (Fr.refl _ _) hf1 (hF1.more (fun k hk => .inl hk)) (Fr.refl _ _) hk
    exact ⟨rfl, hj.2, last, by omega, by omega, hj.1⟩

theorem pair_deliver (a : Int) : Calls Try.prog 25 #[.pointer (some ⟨bn, 0, none⟩), .int .i64 a] w fun e w1 => ∃ (r : Bool) (p : Pk), e = .returned (.tuple #[.agg #[.int .i64 p.n, .int .i64 p.f, .int .i64 p.t, p.v], .bool r]) ∧ PkRd w1 p ∧ Fr (In lo hi) w w1 ∧
    (∀ w1', Fr NoB w1 w1' → Calls Try.prog 26 #[.pointer (some ⟨bw, 0, none⟩), .int .i64 a] w1' fun e w2 => ∃ q : Pk, e = .returned (.tuple #[.agg #[.int .i64 q.n, .int .i64 q.f, .int .i64 q.t, q.v], .bool r]) ∧ q.key = p.key ∧ PkRd w2 q ∧ PkRd w2 p ∧
      Fr (In lo hi) w1' w2 ∧ Pair w2 lo w2.heap.size bn bw last) := by
  obtain ⟨SR, SF, lr, lf, ps, qs, hR, hF, hk, hd, h1, h2⟩ := h
  have hq := key_len hk
  by_cases ha : 0 ≤ a ∧ a < ps.length
  · obtain ⟨i, rfl⟩ := Int.eq_ofNat_of_zero_le ha.1
    have hi : i < ps.length := by omega
    obtain ⟨p, hp⟩ : ∃ p, ps[i]? = some p := ⟨_, List.getElem?_eq_getElem hi⟩
    obtain ⟨q, hqi, e1, e2, e3, e4⟩ := key_get hk hp
    refine (deliver_in SR bn lr ps last i p w hR hp).mono ?_
    rintro e w1 ⟨v, line', rfl, hv, hR', hf⟩
    have hx := (hR.pk p (List.mem_of_getElem? hp)).2
    have hfS := hf.mono (fun b hb _ => hR.netB b hb)
    have hrd : PkRd w1 ⟨p.n, p.f, p.t, p.bs, v⟩ := PkRd.of_own hv hx.1 hx.2
    refine ⟨true, ⟨p.n, p.f, p.t, p.bs, v⟩, rfl, hrd, hfS.mono (fun b hb _ => h1 b hb), fun w1' hf1 => ?_⟩
    have hF1 := (hF.far hfS (fun k hS _ hT => hd k hT hS)).far hf1 (fun _ _ _ => id)
    refine (fdeliver_in SF bw lf qs last i q w1' hF1 hqi).mono ?_
    rintro e w2 ⟨line2, rfl, hF', hf2⟩
    have hfF := hf2.mono (S' := SF) (fun b hb _ => by rw [show b = bw from hb]; exact hF.sb)
    have hj := Pair.join hhi hd h1 h2 (hR'.more (fun k hk => .inl hk)) hfS hf1 hF' hfF (key_erase hk i)
    have hq2 := hF1.pk q (List.mem_of_getElem? hqi)
    have hown2 := own_fr hq2.1 hf2 (fun k hk hb => own_blk_ne hq2.1 hF1.blk (by decide) (by rw [hk, show k = bw from hb]))
    have hp2 : w2.ownsRow w.heap.size 5 1 v p.bs.length p.bs := own_fr (own_fr hv hf1 (fun _ _ => id)) hfF (fun k hk hS => by have := (hv.lt k hk).1; have := (h2 k hS).2; omega)
    exact ⟨q, rfl, by simp [Pk.key, e1, e2, e3, e4], PkRd.of_own hown2 hq2.2.1 hq2.2.2, PkRd.of_own hp2 hx.1 hx.2, hj.2, hj.1⟩
  · obtain ⟨A, c, rfl, d0⟩ := hR.c0
    have hz : ∀ w : World, PkRd w ⟨0, 0, 0, [], .slice none 0 0⟩ := fun w => ⟨none, 0, rfl, Nat.le_refl _, ⟨rfl, fun h => absurd h (by decide)⟩, (fun u hu => (by cases hu)), by decide⟩
    refine (deliver_out bn A _ c a w d0 (by omega) hR.blk.lt).mono ?_
    rintro e w1 ⟨rfl, hf⟩
    refine ⟨false, ⟨0, 0, 0, [], .slice none 0 0⟩, rfl, hz _, hf.mono (fun b hb _ => hb.elim), fun w1' hf1 => ?_⟩
    have hF1 := (hF.far hf (fun _ _ _ => id)).far hf1 (fun _ _ _ => id)
    obtain ⟨A', c', rfl, d1⟩ := hF1.c0
    refine (fdeliver_out bw A' _ c' a w1' d1 (by omega) hF1.blk.lt).mono ?_
    rintro e w2 ⟨rfl, hf2⟩
    have hj := Pair.join hhi hd h1 h2 ((hR.far hf (fun _ _ _ => id)).more (fun k hk => .inl hk)) (hf.mono (fun b hb _ => hb.elim)) hf1 ((hF1.far hf2 (fun _ _ _ => id)).more (fun k hk => .inl hk)) (hf2.mono (fun b hb _ => hb.elim)) hk
    exact ⟨⟨0, 0, 0, [], .slice none 0 0⟩, rfl, rfl, hz _, hz _, hj.2, hj.1⟩
end
end Go.Proofs.Ytdfdmjnhekdpjaa
