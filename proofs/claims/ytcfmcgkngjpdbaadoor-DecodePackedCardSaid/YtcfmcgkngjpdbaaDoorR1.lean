/- A node that came in, read as a tree. -/
import Derived.Test.YtcfmcgkngjpdbaaDoorV9
import Derived.WalkKit
import Derived.ProofKit
import Derived.ChangeArms
import Derived.Deep.Slices
import GoSem.ClaimJoined
namespace Go.Proofs.YtcfmcgkngjpdbaaDoor
set_option linter.unusedVariables false
set_option linter.unusedSimpArgs false
open Go.RowKit

section
variable {α : Type} {sz : Nat} {R : α → List Value → Prop} {w : World} {ok : Nat → Prop}
/-- Elements one by one, as a row. -/
theorem rep_of {xsAt : Nat → List Value} : ∀ (n : Nat), (∀ i, i < n → ∃ x, (xsAt i).length = sz ∧ R x (xsAt i)) → ∃ l : List α, l.length = n ∧ RepL sz R l ((List.range n).flatMap xsAt)
  | 0, _ => ⟨[], rfl, rfl⟩
  | n + 1, h => by
    obtain ⟨l, hl, hr⟩ := rep_of n (fun i hi => h i (by omega))
    obtain ⟨x, hs, hx⟩ := h n (by omega)
    refine ⟨l ++ [x], by simp [hl], ?_⟩
    rw [List.range_succ, List.flatMap_append]
    exact hr.snoc (by simpa using hs) (by simpa using hx)
theorem flat_at {xsAt : Nat → List Value} (hsz : 0 < sz) : ∀ (n : Nat), (∀ i, i < n → (xsAt i).length = sz) → ∀ j u, ((List.range n).flatMap xsAt)[j]? = some u → j / sz < n ∧ (xsAt (j / sz))[j % sz]? = some u
  | 0, _, j, u, hu => by simp at hu
  | n + 1, h, j, u, hu => by
    have hlen : ((List.range n).flatMap xsAt).length = n * sz := by
      clear hu
      induction n with
      | zero => simp
      | succ n ih =>
        rw [List.range_succ, List.flatMap_append, List.length_append, ih (fun i hi => h i (by omega))]
        simp [h n (by omega), Nat.succ_mul]
    rw [List.range_succ, List.flatMap_append] at hu
    by_cases hj : j < n * sz
    · rw [List.getElem?_append_left (by omega)] at hu
      obtain ⟨h1, h2⟩ := flat_at hsz n (fun i hi => h i (by omega)) j u hu
      exact ⟨by omega, h2⟩
    · rw [List.getElem?_append_right (by omega), hlen] at hu
      simp only [List.flatMap_cons, List.flatMap_nil, List.append_nil] at hu
      have hl := (List.getElem?_eq_some_iff.1 hu).1
      rw [h n (by omega)] at hl
      have e1 : j / sz = n := by
        rw [Nat.div_eq_iff hsz]
        omega
      have e2 : j % sz = j - n * sz := by
        have := Nat.div_add_mod j sz
        rw [e1] at this
        have : sz * n = n * sz := Nat.mul_comm ..
        omega
      rw [e1, e2]
      exact ⟨by omega, hu⟩
theorem row_of (hsz : 0 < sz) (a : Addr) (n : Nat) (hok : ok a.block) (h : ∀ i, i < n → ∃ x cs, w.cells? 0 (a.add (i * sz)) sz = some cs ∧ R x cs) : ∃ l : List α, l.length = n ∧ Row sz R w ok (some a) l := by
  classical
  have h2 : ∃ g : Nat → List Value, ∀ i, i < n → w.cells? 0 (a.add (i * sz)) sz = some (g i) ∧ ∃ x, R x (g i) :=
    Deep.choose_lt (p := fun i g => w.cells? 0 (a.add (i * sz)) sz = some g ∧ ∃ x, R x g) (fun i hi => by obtain ⟨x, cs, h1, h2⟩ := h i hi; exact ⟨cs, h1, x, h2⟩)
  obtain ⟨g, hg⟩ := h2
  have hlen : ∀ i, i < n → (g i).length = sz := fun i hi => (World.cells?_some (hg i hi).1).2.1
  obtain ⟨l, hl, hr⟩ := rep_of (sz := sz) (R := R) (xsAt := g) n (fun i hi => by obtain ⟨h1, x, hx⟩ := hg i hi; exact ⟨x, hlen i hi, hx⟩)
  refine ⟨l, hl, _, hr, by rw [hr.len], fun hn => ?_⟩
  rw [hl] at hn
  have hc0 := (World.cells?_some (hg 0 hn).1).2.2 0 hsz
  obtain ⟨b, o, s⟩ := a
  simp only [Nat.zero_mul, Addr.add, if_pos] at hc0
  have hls := hlen 0 hn
  have hs : ∃ u, w.cell? ⟨b, o, s⟩ = some u := by
    rw [hc0]
    exact ⟨(g 0)[0]'(by omega), List.getElem?_eq_getElem (by omega)⟩
  obtain ⟨u0, hu0⟩ := hs
  have hns : s = none := by
    unfold World.cell? at hu0
    split at hu0
    · simp only at hu0
      split at hu0
      · cases hu0
      · rename_i h
        cases s with
        | none => rfl
        | some _ => exact absurd rfl h
    · cases hu0
  subst hns
  refine ⟨b, o, rfl, hok, ?_, fun j u hu => ?_⟩
  · unfold World.cell? at hu0
    split at hu0
    · rename_i heq
      simp only at heq
      exact (Array.getElem?_eq_some_iff.1 heq).1
    · cases hu0
  · obtain ⟨h1, h2⟩ := flat_at hsz n hlen j u hu
    have hcj := (World.cells?_some (hg _ h1).1).2.2 (j % sz) (Nat.mod_lt _ hsz)
    rw [Deep.add_add] at hcj
    have e : j / sz * sz + j % sz = j := by rw [Nat.mul_comm]; exact Nat.div_add_mod j sz
    rw [e, h2] at hcj
    unfold Addr.add at hcj
    split at hcj
    · rename_i h0; subst h0; simpa using hcj
    · exact hcj
end

theorem weightsAll_mem {H : Type} (P : Program) (e : TypeId) (p : Nat → Bool) : ∀ (l : List (DataW H)), (DataW.weightsAll P e l).all p = true → ∀ d ∈ l, (DataW.weights P e d).all p = true
  | [], _, d, hd => by cases hd
  | x :: r, h, d, hd => by
    unfold DataW.weightsAll at h
    rw [List.all_append, Bool.and_eq_true] at h
    rcases List.mem_cons.1 hd with rfl | h1
    · exact h.1
    · exact weightsAll_mem P e p r h.2 d h1

section
variable {H : Type} {enc : TypeId × Value → H} {w : World} {spare : Nat → Bool} {held : Bool}
theorem c3 : Tryd.prog.cellsOf 3 = 1 := by kernel_rfl
theorem c64 : Tryd.prog.cellsOf 2 = 1 := by kernel_rfl
theorem cu64 : Tryd.prog.cellsOf 22 = 1 := by kernel_rfl
theorem cb : Tryd.prog.cellsOf 4 = 1 := by kernel_rfl
theorem cs_ : Tryd.prog.cellsOf 9 = 1 := by kernel_rfl
theorem cN : Tryd.prog.cellsOf 25 = 7 := by kernel_rfl
theorem cF : Tryd.prog.cellsOf 43 = 2 := by kernel_rfl
theorem cNs : Tryd.prog.cellsOf 41 = 1 := by kernel_rfl
theorem cFs : Tryd.prog.cellsOf 23 = 1 := by kernel_rfl
theorem bN : 0 < Tryd.prog.bytesOf 25 := of_decide_eq_true (by kernel_rfl)
theorem bF : 0 < Tryd.prog.bytesOf 43 := of_decide_eq_true (by kernel_rfl)

/-- A slice that came in: its elements as a row. -/
theorem slice_open {α : Type} {t e : TypeId} {sz fuel : Nat} {cs : List Value} {x : DataW H × List MemPlace} (R : α → List Value → Prop) (ht : Tryd.prog.underlying t = some (.slice e)) (hsz : Tryd.prog.cellsOf e = sz) (h0 : 0 < sz) (hb : 0 < Tryd.prog.bytesOf e)
    (hel : ∀ n cs y, n < fuel → DataW.trod enc Tryd.prog w 0 spare held n e cs = some y → (DataW.weights Tryd.prog e y.1).all (· ≤ reachBytes) = true → ∃ x, R x cs)
    (h : DataW.trod enc Tryd.prog w 0 spare held fuel t cs = some x) (hwt : (DataW.weights Tryd.prog t x.1).all (· ≤ reachBytes) = true) :
    ∃ (A : Option Addr) (l : List α) (c : Nat), cs = [.slice A l.length c] ∧ l.length ≤ c ∧ (A = none → c = 0) ∧ Row sz R w (fun _ => True) A l ∧ l.length ≤ 140737488355328 := by
  rcases DataW.trod_slice ht h with ⟨rfl, rfl⟩ | ⟨a, len, cap, elems, rest, n, rfl, rfl, rfl, _, hl, _, hlen, hE, _, _⟩
  · exact ⟨none, [], 0, rfl, Nat.le_refl _, fun _ => rfl, Row.nil _ _ _ _ _, by simp⟩
  · unfold DataW.weights at hwt
    rw [ht] at hwt
    simp only [List.all_cons, List.all_append, Bool.and_eq_true, decide_eq_true_eq] at hwt
    obtain ⟨hw1, hw2, _⟩ := hwt
    rw [hsz] at hE
    obtain ⟨l, hll, hr⟩ := row_of (sz := sz) (R := R) (w := w) (ok := fun _ => True) h0 a len trivial (fun i hi => by
      have hi2 : i < elems.length := by omega
      have hEi := hE i hi
      rw [List.getElem?_eq_getElem hi2] at hEi
      obtain ⟨cs', hc1, hc2⟩ := Option.bind_eq_some_iff.1 hEi
      obtain ⟨y, hy⟩ := hel n cs' _ (by omega) hc2 (weightsAll_mem _ _ _ _ hw2 _ (List.mem_map.2 ⟨_, List.getElem_mem hi2, rfl⟩))
      exact ⟨y, cs', hc1, hy⟩)
    refine ⟨some a, l, cap, by rw [hll], by omega, (fun h => (by cases h)), hr, ?_⟩
    have hle : len ≤ (elems.length + rest.length) * Tryd.prog.bytesOf e := by
      have := Nat.le_mul_of_pos_right (elems.length + rest.length) hb
      omega
    have hw1' : (elems.length + rest.length) * Tryd.prog.bytesOf e ≤ reachBytes := by simpa using hw1
    have : reachBytes ≤ 140737488355328 := by decide
    omega

set_option maxRecDepth 100000 in
theorem node_open : ∀ (d fuel : Nat) (cs : List Value) (x : DataW H × List MemPlace), fuel ≤ d → DataW.trod enc Tryd.prog w 0 spare held fuel 25 cs = some x →
    (DataW.weights Tryd.prog 25 x.1).all (· ≤ reachBytes) = true → ∃ y : Nd d, NodeAt d w (fun _ => True) y cs
  | 0, fuel, cs, x, hf, h, _ => by
    obtain rfl : fuel = 0 := by omega
    simp [DataW.trod] at h
  | d + 1, fuel, cs, x, hf, h, hwt => by
    obtain ⟨xs, n, rfl, rfl, hlen, hxl, hfs⟩ := DataW.trod_struct Tryd.underlying25 h
    rw [cN] at hlen
    obtain ⟨v0, v1, v2, v3, v4, v5, v6, rfl⟩ := len7 hlen
    have e0 : DataW.trod enc Tryd.prog w 0 spare held n 3 (List.take (Tryd.prog.cellsOf 3) (List.drop 0 [v0, v1, v2, v3, v4, v5, v6])) = xs[0]? := hfs 0 _ rfl
    have e1 : DataW.trod enc Tryd.prog w 0 spare held n 2 (List.take (Tryd.prog.cellsOf 2) (List.drop 1 [v0, v1, v2, v3, v4, v5, v6])) = xs[1]? := hfs 1 _ rfl
    have e2 : DataW.trod enc Tryd.prog w 0 spare held n 22 (List.take (Tryd.prog.cellsOf 22) (List.drop 2 [v0, v1, v2, v3, v4, v5, v6])) = xs[2]? := hfs 2 _ rfl
    have e3 : DataW.trod enc Tryd.prog w 0 spare held n 4 (List.take (Tryd.prog.cellsOf 4) (List.drop 3 [v0, v1, v2, v3, v4, v5, v6])) = xs[3]? := hfs 3 _ rfl
    have e4 : DataW.trod enc Tryd.prog w 0 spare held n 9 (List.take (Tryd.prog.cellsOf 9) (List.drop 4 [v0, v1, v2, v3, v4, v5, v6])) = xs[4]? := hfs 4 _ rfl
    have e5 : DataW.trod enc Tryd.prog w 0 spare held n 3 (List.take (Tryd.prog.cellsOf 3) (List.drop 5 [v0, v1, v2, v3, v4, v5, v6])) = xs[5]? := hfs 5 _ rfl
    have e6 : DataW.trod enc Tryd.prog w 0 spare held n 23 (List.take (Tryd.prog.cellsOf 23) (List.drop 6 [v0, v1, v2, v3, v4, v5, v6])) = xs[6]? := hfs 6 _ rfl
    simp only [c3, c64, cu64, cb, cs_, cFs, List.drop_succ_cons, List.drop_zero, List.take_succ_cons, List.take_zero] at e0 e1 e2 e3 e4 e5 e6
    clear hfs
    match xs, hxl with
    | [x0, x1, x2, x3, x4, x5, x6], _ =>
      simp only [List.getElem?_cons_succ, List.getElem?_cons_zero] at e0 e1 e2 e3 e4 e5 e6
      unfold DataW.weights at hwt
      rw [Tryd.underlying25] at hwt
      simp only [List.map_cons, List.map_nil, DataW.weightsEach, List.all_append, Bool.and_eq_true] at hwt
      obtain ⟨k, q0, r0, f0⟩ := DataW.trod_int Tryd.underlying3 e0
      obtain ⟨nn, q1, r1, f1⟩ := DataW.trod_int Tryd.underlying2 e1
      obtain ⟨u, q2, r2, f2⟩ := DataW.trod_int Tryd.underlying22 e2
      obtain ⟨b, q3, r3⟩ := DataW.trod_bool Tryd.underlying4 e3
      obtain ⟨s, q4, r4, f4⟩ := DataW.trod_string Tryd.underlying9 e4
      obtain ⟨t, q5, r5, f5⟩ := DataW.trod_int Tryd.underlying3 e5
      simp only [List.cons.injEq, and_true] at q0 q1 q2 q3 q4 q5
      subst q0 q1 q2 q3 q4 q5 r0 r1 r2 r3 r4 r5
      obtain ⟨-, -, -, -, w4, -, w6, -⟩ := hwt
      obtain ⟨A, l, c, q6, hlc, hA, hrow, hll⟩ := slice_open (sz := 2) (α := Int × List (Nd d)) (fun p cs => (∃ A c, cs = [.int .i64 p.1, .slice A p.2.length c] ∧ p.2.length ≤ c ∧ (A = none → c = 0) ∧ Row 7 (NodeAt d w (fun _ => True)) w (fun _ => True) A p.2) ∧ (Lit.int .i64 p.1).wf = true ∧ p.2.length ≤ 140737488355328)
        Tryd.underlying23 cF (by decide) bF (fun n2 cs2 y2 hn2 h2 hw2 => by
          obtain ⟨xs, n3, rfl, rfl, hlen, hxl, hfs⟩ := DataW.trod_struct Tryd.underlying43 h2
          rw [cF] at hlen
          obtain ⟨v0, v1, rfl⟩ := len2 hlen
          have e0 : DataW.trod enc Tryd.prog w 0 spare held n3 3 (List.take (Tryd.prog.cellsOf 3) (List.drop 0 [v0, v1])) = xs[0]? := hfs 0 _ rfl
          have e1 : DataW.trod enc Tryd.prog w 0 spare held n3 41 (List.take (Tryd.prog.cellsOf 41) (List.drop 1 [v0, v1])) = xs[1]? := hfs 1 _ rfl
          simp only [c3, cNs, List.drop_succ_cons, List.drop_zero, List.take_succ_cons, List.take_zero] at e0 e1
          clear hfs
          match xs, hxl with
          | [y0, y1], _ =>
            simp only [List.getElem?_cons_succ, List.getElem?_cons_zero] at e0 e1
            unfold DataW.weights at hw2
            rw [Tryd.underlying43] at hw2
            simp only [List.map_cons, List.map_nil, DataW.weightsEach, List.all_append, Bool.and_eq_true] at hw2
            obtain ⟨k2, q0, r0, f0⟩ := DataW.trod_int Tryd.underlying3 e0
            obtain ⟨-, u1, -⟩ := hw2
            obtain ⟨A2, l2, c2, q1, hlc2, hA2, hrow2, hll2⟩ := slice_open (sz := 7) (α := Nd d) (NodeAt d w (fun _ => True)) Tryd.underlying41 cN (by decide) bN
              (fun n4 cs4 y4 hn4 h4 hw4 => node_open d n4 cs4 y4 (by omega) h4 hw4) e1 u1
            simp only [List.cons.injEq, and_true] at q0 q1
            subst q0 q1
            exact ⟨(k2, l2), ⟨A2, c2, rfl, hlc2, hA2, hrow2⟩, f0, hll2⟩) e6 w6
      simp only [List.cons.injEq, and_true] at q6
      subst q6
      have hsz : s.size ≤ 140737488355328 := by
        simp only [DataW.weights, List.all_cons, Bool.and_eq_true, decide_eq_true_eq] at w4
        have h1 : s.data.toList.length ≤ reachBytes := w4.1
        have h2 : s.data.toList.length = s.size := Array.length_toList ..
        have : reachBytes ≤ 140737488355328 := by decide
        omega
      obtain ⟨xs, hrep, hrd⟩ := hrow
      have hall : ∀ p ∈ l, (Lit.int .i64 p.1).wf = true ∧ p.2.length ≤ 140737488355328 := fun p hp => by
        obtain ⟨i, hi, rfl⟩ := List.mem_iff_getElem.1 hp
        obtain ⟨cs, _, hR, _⟩ := hrep.at_ i _ (List.getElem?_eq_getElem hi)
        exact hR.2
      exact ⟨(⟨k, nn, u, b, s, t, l⟩ : Rec (Nd d)), ⟨f0, f1, f2, f5, hall, hsz, hll⟩, A, c, rfl, hlc, hA, xs, hrep.mono (fun _ _ _ h => h.1), hrd⟩
end
end Go.Proofs.YtcfmcgkngjpdbaaDoor
