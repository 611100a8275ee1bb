/- The law NetPlays, whatever its script and its switch: it answers true, and the script reads as it did. No condition. -/
import Derived.Test.YtdfdmjnhekdpjaaRows
import Derived.Test.YtdfdmjnhekdpjaaB9
import Derived.WalkKit
import Derived.ProofKit
import Derived.OpenShut
import Derived.ShutString
import Derived.ChangeOld
import Derived.Below
import Derived.SizedLaws
import Derived.ChangeSlices
import Derived.Deep.Slices
namespace Go.Proofs.Ytdfdmjnhekdpjaa.NetPlaysRow
set_option linter.unusedSimpArgs false
open Go.ChangeShapes Go.WideShapes Go.ChangeAt Go.RowKit PNetPlays Go.Proofs.YtdfdmjnhekdpjaaW.PrintWords
set_option linter.unusedVariables false
theorem own : ownKnob Try.prog.godebug = none := by kernel_rfl
theorem laidOut : laidOutB Try.prog = true := by kernel_rfl

theorem pick_list {α : Type} (Q : Nat → α → Prop) : ∀ n : Nat, (∀ i, i < n → ∃ o, Q i o) → ∃ l : List α, l.length = n ∧ ∀ i o, l[i]? = some o → Q i o
  | 0, _ => ⟨[], rfl, fun i o h => by simp at h⟩
  | n + 1, h => by
    obtain ⟨l, hl, hq⟩ := pick_list Q n (fun i hi => h i (by omega))
    obtain ⟨o, ho⟩ := h n (by omega)
    refine ⟨l ++ [o], by simp [hl], fun i x hx => ?_⟩
    rcases Nat.lt_or_ge i l.length with hi | hi
    · rw [List.getElem?_append_left hi] at hx
      exact hq i x hx
    · rw [List.getElem?_append_right hi] at hx
      have : i - l.length = 0 := by
        have := (List.getElem?_eq_some_iff.1 hx).1
        simp at this
        omega
      rw [this] at hx
      simp at hx
      subst hx
      rw [show i = n by omega]
      exact ho

section
variable {H : Type} {enc : TypeId × Value → H} {w : World} {base : Nat} {spare : Nat → Bool} {held : Bool}

set_option maxRecDepth 100000 in
/-- A slice of bytes that came in. -/
theorem bytes_of {fuel : Nat} {v : Value} {x : DataW H × List MemPlace} (h : DataW.trod enc Try.prog w base spare held fuel 35 [v] = some x) :
    ∃ (B : Option Addr) (c : Nat) (bs : List Int), v = .slice B bs.length c ∧ bs.length ≤ c ∧ (B = none → c = 0) ∧ (Kd.int .u8).C w B bs.length bs ∧ ∀ b, (DataW.weights Try.prog 35 x.1).all (· ≤ b) = true → bs.length ≤ b := by
  rcases open_ints Try.underlying35 Try.underlying5 (by kernel_rfl) h with ⟨hcs, _⟩ | ⟨a, len, cap, zs, hcs, _, hl, hm, hz, hx, hcell, hwz⟩
  · exact ⟨none, 0, [], by simpa using hcs, Nat.le_refl _, fun _ => rfl, Kd.C_nil _ _, fun b _ => Nat.zero_le _⟩
  · have hzl : len ≤ zs.length := by rw [hz]; split <;> omega
    have ht : (zs.take len).length = len := by rw [List.length_take]; omega
    refine ⟨some a, cap, zs.take len, by rw [ht]; simpa using hcs, by rw [ht]; exact hl, (fun h => (by cases h)), ?_, fun b hb => ?_⟩
    · refine ⟨rfl, by rw [ht]; have : maxLen ≤ 9223372036854775807 := by decide
                      omega, fun _ => ⟨a, rfl, fun j p hj => ?_⟩⟩
      have hjl : j < len := by have := (List.getElem?_eq_some_iff.1 hj).1; omega
      have hp : zs.getD j 0 = p := by
        rw [List.getElem?_take] at hj
        rw [if_pos hjl] at hj
        simp [List.getD, hj]
      refine ⟨[.int .u8 p], rfl, rfl, fun i u hu => ?_⟩
      rcases i with _ | i
      · have : u = .int .u8 p := by simpa using hu.symm
        subst this
        rw [← hp]
        have := hcell j (by omega)
        simpa [Kd.int, Kd.scalar] using this
      · simp at hu
    · rw [hx] at hb
      unfold DataW.weights at hb
      rw [Try.underlying35] at hb
      have h5 : Try.prog.bytesOf 5 = 1 := by kernel_rfl
      have hb1 : ((lits (H := H) .u8 (zs.take len)).length + (lits (H := H) .u8 (zs.drop len)).length) * Try.prog.bytesOf 5 ≤ b := of_decide_eq_true (List.all_eq_true.1 hb _ (List.mem_cons_self ..))
      clear hb
      rw [h5] at hb1
      simp [lits] at hb1
      rw [ht]
      omega

/-- One operation of the script that came in: its five cells. -/
def OpCells (w : World) (o : S37) (cs : List Value) : Prop :=
  ∃ (B : Option Addr) (c : Nat), cs = [.int .i64 o.f0, .int .i64 o.f1, .int .i64 o.f2, .int .u8 o.f3, .slice B o.f4.length c] ∧ o.f4.length ≤ c ∧ (B = none → c = 0) ∧ (Kd.int .u8).C w B o.f4.length o.f4
set_option maxRecDepth 100000 in
theorem op_of {fuel : Nat} {cs : List Value} {x : DataW H × List MemPlace} (h : DataW.trod enc Try.prog w base spare held fuel 37 cs = some x) :
    ∃ o : S37, OpCells w o cs ∧ ∀ b, (DataW.weights Try.prog 37 x.1).all (· ≤ b) = true → o.f4.length ≤ b := by
  obtain ⟨xs, n, _, rfl, hl, hlen, hf⟩ := DataW.trod_struct Try.underlying37 h
  have hc : cs.length = 5 := hl.trans (by kernel_rfl)
  match cs, hc with
  | [v0, v1, v2, v3, v4], _ =>
    match xs, hlen with
    | [y0, y1, y2, y3, y4], _ =>
      have g0 := hf 0 _ rfl
      have g1 := hf 1 _ rfl
      have g2 := hf 2 _ rfl
      have g3 := hf 3 _ rfl
      have g4 := hf 4 _ rfl
      have c3 : Try.prog.cellsOf 3 = 1 := by kernel_rfl
      have c5 : Try.prog.cellsOf 5 = 1 := by kernel_rfl
      have c35 : Try.prog.cellsOf 35 = 1 := by kernel_rfl
      simp [c3, c5, c35] at g0 g1 g2 g3 g4
      obtain ⟨n0, e0, _⟩ := DataW.trod_int Try.underlying3 g0
      obtain ⟨n1, e1, _⟩ := DataW.trod_int Try.underlying3 g1
      obtain ⟨n2, e2, _⟩ := DataW.trod_int Try.underlying3 g2
      obtain ⟨n3, e3, _⟩ := DataW.trod_int Try.underlying5 g3
      obtain ⟨B, c, bs, e4, hle, hn, hC, hw⟩ := bytes_of g4
      simp at e0 e1 e2 e3
      subst e0 e1 e2 e3 e4
      refine ⟨⟨n0, n1, n2, n3, bs⟩, ⟨B, c, rfl, hle, hn, hC⟩, fun b hb => hw b ?_⟩
      unfold DataW.weights at hb
      rw [Try.underlying37] at hb
      simp [DataW.weightsEach] at hb
      simp only [List.all_eq_true, decide_eq_true_eq]
      intro z hz
      exact hb.2.2.2.2 z hz

theorem weights_mem {P : Program} {e : TypeId} {d : DataW H} : ∀ {l : List (DataW H)}, d ∈ l → ∀ z ∈ d.weights P e, z ∈ DataW.weightsAll P e l
  | x :: l, hd, z, hz => by
    unfold DataW.weightsAll
    rcases List.mem_cons.1 hd with rfl | hd
    · exact List.mem_append_left _ hz
    · exact List.mem_append_right _ (weights_mem hd z hz)

set_option maxRecDepth 100000 in
/-- The script that came in. -/
theorem script_of {fuel : Nat} {v : Value} {x : DataW H × List MemPlace} (h : DataW.trod enc Try.prog w base spare held fuel 22 [v] = some x) :
    ∃ (A : Option Addr) (c : Nat) (l : List S37), v = .slice A l.length c ∧ l.length ≤ c ∧ Kd.C k37 w A l.length l ∧
      (∀ ad, A = some ad → ∀ i m A4 c4, i < l.length → w.cell? ⟨(ad.add (i * 5)).block, (ad.add (i * 5)).off + 4, none⟩ = some (.slice A4 m c4) → A4 = none → c4 = 0) ∧
      ∀ b, (DataW.weights Try.prog 22 x.1).all (· ≤ b) = true → ∀ o ∈ l, o.f4.length ≤ b := by
  have c37 : Try.prog.cellsOf 37 = 5 := by kernel_rfl
  have hM : maxLen ≤ 9223372036854775807 := by decide
  rcases Deep.open_slice Try.underlying22 h with ⟨hcs, _⟩ | ⟨a, len, cap, m, n, D, Pl, hcs, _, hl, hm, hmm, hx, hi⟩
  · exact ⟨none, 0, [], by simpa using hcs, Nat.le_refl _, Kd.C_nil _ _, (fun ad h => (by cases h)), fun b _ o ho => (by cases ho)⟩
  · have hlm : len ≤ m := by rw [hmm]; split <;> omega
    obtain ⟨l, hll, hq⟩ := pick_list (fun i (o : S37) => ∃ cs, cs.length = 5 ∧ (∀ j u, cs[j]? = some u → w.cell? (a.add (i * 5 + j)) = some u) ∧ OpCells w o cs ∧ ∀ b, (DataW.weights Try.prog 37 (D i)).all (· ≤ b) = true → o.f4.length ≤ b) len (fun i hil => by
      obtain ⟨cs, hcs, ht⟩ := hi i (by omega)
      rw [c37] at hcs
      obtain ⟨_, hcl, hat⟩ := World.cells?_some hcs
      obtain ⟨o, ho, hw⟩ := op_of ht
      refine ⟨o, cs, hcl, fun j u hu => ?_, ho, hw⟩
      have := hat j (by have := (List.getElem?_eq_some_iff.1 hu).1; omega)
      rw [← Deep.add_add, this, hu])
    subst hll
    refine ⟨some a, cap, l, by simpa using hcs, hl, ⟨rfl, Nat.le_trans hl (Nat.le_trans hm hM), fun _ => ⟨a, rfl, fun j p hj => ?_⟩⟩, fun ad had i m A4 c4 hil hcell hA4 => ?_, fun b hb o ho => ?_⟩
    · obtain ⟨cs, hcl, hat, ⟨B, c, rfl, hle, hn, hC⟩, _⟩ := hq j p hj
      exact ⟨_, hcl, k37_mk w p hle hC, hat⟩
    · injection had with had
      subst had
      obtain ⟨cs, hcl, hat, ⟨B, c, rfl, hle, hn, hC⟩, _⟩ := hq i _ (List.getElem?_eq_getElem hil)
      have h4 := hat 4 _ rfl
      rw [add_field _ _ 4 (by omega), hcell] at h4
      injection h4 with h4
      injection h4 with e1 _ e2
      subst e1 e2
      exact hn hA4
    · obtain ⟨i, hio⟩ := List.mem_iff_getElem?.1 ho
      obtain ⟨cs, _, _, _, hw⟩ := hq i o hio
      refine hw b ?_
      rw [hx] at hb
      unfold DataW.weights at hb
      rw [Try.underlying22] at hb
      simp only [List.all_cons, List.all_append, Bool.and_eq_true, List.all_eq_true] at hb
      rw [List.all_eq_true]
      intro z hz
      exact hb.2.1 z (weights_mem (List.mem_map.2 ⟨i, List.mem_range.2 (List.getElem?_eq_some_iff.1 hio).1, rfl⟩) z hz)
end

set_option maxRecDepth 100000 in
theorem lifted (os : Os) (started : os.Started) (H : Type) (enc : TypeId × Value → H) :
    ReturnsInHanded {} Try.checked os 3 .any (Rows.netPlaysSpec.pre6 enc Try.prog Try.f3 Rows.netPlaysRow.domain false) (Rows.netPlaysSpec.post enc Try.prog Try.f3 false true false false) := by
  refine returnsInHanded_of_change_sized (C := Try.checked) own started (by kernel_rfl) Try.func3
    (ChangeSpec.witness6 (enc := enc) (C := Try.checked) false ⟨#[], #[.slice none 0 0, .bool false], []⟩ 8 (by kernel_rfl) (by kernel_rfl) (by kernel_rfl) (by kernel_rfl)) ?_
  intro W base args ds gs before hval0 hW hcnd hsz0 _
  have hsz : (DataW.weightsEach Try.prog (Try.f3.params.toList ++ Rows.netPlaysSpec.plain.varTypes Try.prog) (ds ++ gs)).all (· ≤ reachBytes) = true := hsz0
  have hval : ∀ (j : Nat) t v, Try.f3.params[j]? = some t → args[j]? = some v → Value.okWide Try.prog W .any base t v := hval0
  have hW' := hW
  obtain ⟨p, q, hA0, hV, rfl, hfz, hnd⟩ := hW
  have hA : DataW.TrodAll enc Try.prog W 0 (fun _ => true) true Try.f3.params.toList args.toList ds p := hA0
  rw [Try.params3] at hA hval hsz
  obtain ⟨v0, vs0, d0, ds0, p0, q0, hargs, rfl, rfl, h0, r0⟩ := trodAll_cons hA
  obtain ⟨v1, vs1, d1, ds1, p1, q1, rfl, rfl, rfl, h1, r1⟩ := trodAll_cons r0
  obtain ⟨rfl, rfl, rfl⟩ := trodAll_nil r1
  obtain rfl : args = #[v0, v1] := by cases args; simp_all
  obtain ⟨rfl, rfl⟩ := trodVars_none hV
  obtain ⟨a1, rfl, rfl, rfl⟩ := open_bool Try.underlying4 (hval 1 4 v1 rfl rfl) h1
  obtain ⟨a0, len0, cap0, rfl⟩ := okWide_slice Try.underlying22 (hval 0 22 v0 rfl rfl)
  have k0 := h0
  have lt0 : ∀ x ∈ p0, x.block < W.heap.size := by
    obtain ⟨m, hm⟩ := k0
    exact DataW.trod_lt m _ _ _ hm
  obtain ⟨fuel, hf⟩ := h0
  obtain ⟨A, c, l, hv, hc, hC, hnil, hw⟩ := script_of (x := (d0, p0)) (by simpa [Value.cells] using hf)
  injection hv with e1 e2 e3
  subst e1 e2 e3
  have hb : ∀ o ∈ l, o.f4.length ≤ 140737488355328 := fun o ho => Nat.le_trans (hw reachBytes (by
    rw [List.all_eq_true] at hsz ⊢
    exact fun z hz => hsz z (by
      show z ∈ DataW.weightsEach Try.prog (22 :: [4] ++ _) (d0 :: [_] ++ _)
      simp only [List.cons_append, DataW.weightsEach]
      exact List.mem_append_left _ hz)) o ho) (by decide)
  clear hA0 hval0 hsz0 hsz hf
  refine (plays_any W a0 cap0 l a1 hC hc hb hnil).mono fun e W' ⟨he, hF⟩ => ?_
  subst he
  have bel := hF.below_all
  exact ⟨_, rfl, _, _, _, [], _, [], hW', trodAll_mk1 (shut_bool Try.underlying4 _), (trodAll_cons_mk (Below.trod laidOut (by kernel_rfl) (of_decide_eq_true (by kernel_rfl)) k0 bel lt0) (trodAll_cons_mk (shut_bool Try.underlying4 _) trodAll_mk0)), rfl, bel.frame _, fun h => by cases h⟩

theorem over : Rows.netPlaysRow.holds Try.pinned (OpenSpec.ofChange Rows.netPlaysSpec) :=
  OpenClaim.holds_of_wide 3 Try.f3 rfl rfl rfl rfl rfl rfl rfl ⟨rfl, rfl, rfl, rfl, rfl⟩ rfl rfl rfl rfl rfl (by kernel_rfl) Try.func3 (by kernel_rfl)
    (of_decide_eq_true (by kernel_rfl)) (by unfold Func.isWrapper; first | (rw [if_pos (by decide +kernel)]; kernel_rfl) | (rw [if_neg (by decide +kernel)]; exact ⟨rfl, rfl⟩))
    (fun os started H enc _ => lifted os started H enc)
theorem proved : Rows.NetPlaysSaid := over
#print axioms proved
end Go.Proofs.Ytdfdmjnhekdpjaa.NetPlaysRow
namespace Go.Proofs.Ytdfdmjnhekdpjaa
/-- The row, under a short name, for the claim. -/
theorem netPlays_holds : Rows.NetPlaysSaid := NetPlaysRow.proved
end Go.Proofs.Ytdfdmjnhekdpjaa
