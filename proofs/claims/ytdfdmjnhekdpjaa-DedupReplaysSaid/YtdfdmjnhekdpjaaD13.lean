import Derived.Test.YtdfdmjnhekdpjaaD12
import Derived.Test.YtdfdmjnhekdpjaaD0
namespace Go.Proofs.Ytdfdmjnhekdpjaa
set_option linter.unusedVariables false
set_option linter.unusedSimpArgs false
open Go.RowKit Go.Proofs.YtdfdmjnhekdpjaaW.PrintWords

set_option maxRecDepth 100000 in
/-- An input that is not looked at. -/
theorem replays_off (w : World) (num token status times more : Int) (A : Option Addr) (n c : Nat) (h : (2000 : Int) < n ∨ token = 0 ∨ 1152921504606846976 < token) :
    Calls Try.prog 4 #[.int .i64 num, .int .u64 token, .int .i64 status, .slice A n c, .int .u8 times, .int .u64 more] w fun e w' => e = .returned (.bool true) ∧ Fr NoB w w' := by
  by_cases h1 : (2000 : Int) < n
  · have k1 : decide ((2000 : Int) < n) = true := decide_eq_true h1
    go_enter Try.func4, Try.ntmps4
    go_wp2_with fail
    refine (awake19 _).mono ?_
    rintro e w1 ⟨rfl, hf1⟩
    go_wp2_with fail
    refine (awake19 _).mono ?_
    rintro e w2 ⟨rfl, hf2⟩
    go_wp2
    go_ret
    exact ⟨rfl, hf1.trans hf2 (fun _ h _ => h)⟩
  · have k1 : decide ((2000 : Int) < n) = false := decide_eq_false h1
    by_cases h2 : token = 0
    · subst h2
      go_enter Try.func4, Try.ntmps4
      go_wp2_with fail
      refine (awake19 _).mono ?_
      rintro e w1 ⟨rfl, hf1⟩
      go_wp2_with fail
      refine (awake19 _).mono ?_
      rintro e w2 ⟨rfl, hf2⟩
      go_wp2
      go_ret
      exact ⟨rfl, hf1.trans hf2 (fun _ h _ => h)⟩
    · have k2 : (token == 0) = false := beq_eq_false_iff_ne.2 h2
      have h3 : 1152921504606846976 < token := by omega
      have k3 : decide (1152921504606846976 < token) = true := decide_eq_true h3
      go_enter Try.func4, Try.ntmps4
      go_wp2_with fail
      refine (awake19 _).mono ?_
      rintro e w1 ⟨rfl, hf1⟩
      go_wp2_with fail
      refine (awake19 _).mono ?_
      rintro e w2 ⟨rfl, hf2⟩
      go_wp2
      go_ret
      exact ⟨rfl, hf1.trans hf2 (fun _ h _ => h)⟩

set_option maxHeartbeats 4000000 in
set_option maxRecDepth 100000 in
theorem replays_on (w : World) (num token status times more : Int) (A : Option Addr) (n c : Nat) (xs : List Int) (hn : n ≤ 2000) (ht0 : 1 ≤ token) (ht1 : token ≤ 1152921504606846976) (htm : 0 ≤ times ∧ times < 256) (hmo : 0 ≤ more)
    (hA : A = none → c = 0) (hC : (Kd.int .u8).C w A n xs) :
    Calls Try.prog 4 #[.int .i64 num, .int .u64 token, .int .i64 status, .slice A n c, .int .u8 times, .int .u64 more] w fun e w' => e = .returned (.bool true) ∧ Fr NoB w w' := by
  have k1 : decide ((2000 : Int) < n) = false := decide_eq_false (by omega)
  have k2 : (token == 0) = false := beq_eq_false_iff_ne.2 (by omega)
  have k3 : decide (1152921504606846976 < token) = false := decide_eq_false (by omega)
  have hrd := rd_of_C hC
  have hx8 : ∀ u ∈ xs.map (Value.int .u8), ∃ k : Int, u = .int .u8 k := fun u hu => by
    obtain ⟨z, _, rfl⟩ := List.mem_map.1 hu
    exact ⟨z, rfl⟩
  have hx1 : ∀ u ∈ xs.map (Value.int .u8), u.oneCell' = true := fun u hu => by obtain ⟨z, rfl⟩ := hx8 u hu; rfl
  have HC := Aside0.mk hC
  clear hC
  go_enter Try.func4, Try.ntmps4
  go_wp2_with (go_at_call 13; refine (awake19 _).mono ?_; rintro e w1 ⟨rfl, hf1⟩)
  refine (New_any _).mono ?_
  rintro e w2 ⟨rfl, hT0, hz, hf2⟩
  have hf02 := hf1.trans hf2 (fun _ h _ => h)
  have hs1 := hf1.size
  generalize w1.heap.size = bt at *
  have hO := Lib.hid (Offer_new w2 bt num token token hT0 ht0 (Int.le_refl _) (by omega) (by omega))
  clear hT0
  go_wp2_with fail
  refine hO.out.mono ?_
  rintro e w3 ⟨rfl, bs, bc, bm, hT, hM, hf3⟩
  have hf03 := hf02.trans hf3 (fun b hb hl => absurd hl (by have : b = bt := hb; omega))
  have hF := Lib.hid (finish_any token status hT hM (by decide) (decide_eq_false (by omega)) (fun k => k < w.heap.size) (xs.map (Value.int .u8)) hA (hrd.fr hf03 (fun _ _ _ => id)) hx1 (by omega))
  have hfd := field47 w3 1 0 none 0 0
  clear hM hO hf3 hf02 hf2 hf1
  go_wp2_with fail
  refine hF.out.mono ?_
  rintro e w4 ⟨rfl, A4, c4, hT4, hM4, hv4, hf4⟩
  have hsm := hT.sm
  have hs3 := hf03.size
  have hlow : ∀ k, (k = bt ∨ w2.heap.size ≤ k) → w.heap.size ≤ k := fun k hk => by omega
  have hf04 := hf03.trans hf4 (fun b hb hl => absurd hl (by have : b = bm := hb; have := hlow _ hsm; omega))
  have hT4 := hT4.more hlow
  have hv4 := own_low hv4 hs3
  clear hT hF hfd hf4 hf03
  go_wp2_with fail
  have hq0 : 0 ≤ times % 5 := Int.emod_nonneg _ (by decide)
  have hq5 : times % 5 < 5 := Int.emod_lt_of_pos _ (by decide)
  have HF := Lib.hid hf04
  have HT := Lib.hid hT4
  have HM := Lib.hid hM4
  have HV := Lib.hid hv4
  clear hf04 hT4 hM4 hv4
  have hlenC : xs.length = n := HC.out.1
  go_loopw [51] (fun i wr => ∃ k : Nat, i = .int .u8 k ∧ (k : Int) ≤ times % 5 ∧ Tab1 wr (fun k => w.heap.size ≤ k) bt bs bc bm num token 0 1 ∧ Mp wr bm #[⟨.int .u64 token, .agg #[.bool true, .int .i64 status, .slice A4 n c4], 0⟩] 1 ∧
    wr.ownsRow w.heap.size 5 1 (.slice A4 n c4) n (xs.map (Value.int .u8)) ∧ Fr NoB w wr) (fun i _ => 5 - (intOf i).toNat)
  case atStart => exact ⟨0, rfl, hq0, HT.out, HM.out, HV.out, HF.out⟩
  case round =>
    obtain ⟨k, rfl, hk, hT, hM, hv, hf⟩ := hrel
    by_cases hlt : (k : Int) < times % 5
    · have q1 : decide ((k : Int) < times % 5) = true := decide_eq_true hlt
      have hA4 : A4 = none → c4 = 0 := by
        obtain ⟨A', c', hs, _, _, h0, _⟩ := own_slice hv
        injection hs with e1 _ e2
        subst e1 e2
        exact h0
      have hO := Lib.hid (Offer_done hT hM (by decide) token 1 (if_neg (by omega)) (if_neg (by omega)) rfl (decide_eq_false (by omega)) rfl (fun b => (Value.slice A4 n c4).ownBlock = some b) (xs.map (Value.int .u8)) hA4 (Rd.of_own hv (fun _ h => h))
        (fun b hb _ e => own_blk_ne hv hT.c (by decide) (by rw [hb, show b = bc from e])) hx1 (by omega))
      have l1 := hT.t.lt
      have l2 := hT.s.lt
      have l3 := hT.c.lt
      have l4 := hM.lt
      have hvl := fun g hg => (hv.lt g hg).2
      go_wp2_with fail
      refine hO.out.mono ?_
      rintro e w5 ⟨A5, c5, rfl, hT5, hM5, hv5, hf5⟩
      have hvk := own_fr hv hf5 (fun g hg e => own_blk_ne hv hT.c (by decide) (by rw [hg, show g = bc from e]))
      have hf05 := hf.trans hf5 (fun b hb hl => absurd hl (Nat.not_lt.2 (by have : b = bc := hb; rw [this]; exact hT.sc)))
      have hs5 := hf5.size
      clear hO hT hM hv hf hf5
      have fa := (Fr.refl NoB w5).alloc (.cells #[.int .i64 3, .int .i64 status, .slice A5 n c5] 47)
      have hbx := Blk.new w5 47 #[.int .i64 3, .int .i64 status, .slice A5 n c5]
      have hT6 := hT5.fr fa id id id
      have hM6 := hM5.fr fa id
      have hv6 := own_fr hv5 fa (fun _ _ => id)
      have hvk6 := own_fr hvk fa (fun _ _ => id)
      have hf06 := hf05.trans fa (fun _ h _ => h)
      have hs6 := fa.size
      have hxx : (xs.map (Value.int .u8)).map num8 = xs := by rw [List.map_map]; exact (List.map_congr_left (fun _ _ => rfl)).trans (List.map_id xs)
      have hC6 := C_of_rd (Rd.of_own (ok := fun _ => True) hv6 (fun _ _ => trivial)) hx8 (by omega)
      rw [hxx] at hC6
      have hs1' := Kd.C_string (P := Try.prog) (c := c5) Try.underlying35 Try.underlying5 Try.underlying9 hC6
      have hs2' := Kd.C_string (P := Try.prog) (c := c) Try.underlying35 Try.underlying5 Try.underlying9 (Kd.C_below HC.out hf06.below_all)
      have hw8 : IntKind.u8.wrap ((k : Int) + 1) = ((k + 1 : Nat) : Int) := by
        show ((k : Int) + 1) % 256 = _
        omega
      by_cases h0 : 0 < n
      · have kz : decide ((0 : Int) < (n : Int)) = true := decide_eq_true (by omega)
        have kz2 : decide (0 < n) = true := decide_eq_true h0
        obtain ⟨g, cap, L, hsl, hg, hgb, hll, hlc, hlm, hlt2⟩ := own_open hv6 h0
        injection hsl with e1 _ e2
        subst e1 e2
        obtain ⟨x0, hx0⟩ : ∃ x0, xs[0]? = some x0 := ⟨_, List.getElem?_eq_getElem (by omega)⟩
        have hcell : (w5.alloc (.cells #[.int .i64 3, .int .i64 status, .slice (some ⟨g, 0, none⟩) n c5] 47)).cell? ⟨g, 0, none⟩ = some (.int .u8 x0) := by
          have := hv6.cells (g := g) rfl 0 (.int .u8 x0) (by simp [hx0])
          simpa [Addr.add] using this
        have hfz := hgb.frozen 0
        have ki : ((0 : Int) < (n : Int)) = True := eq_true (by omega)
        have ki2 : (0 < n) = True := eq_true h0
        have fs : Fr (OneB g) (w5.alloc (.cells #[.int .i64 3, .int .i64 status, .slice (some ⟨g, 0, none⟩) n c5] 47)) ((w5.alloc (.cells #[.int .i64 3, .int .i64 status, .slice (some ⟨g, 0, none⟩) n c5] 47)).setCell ⟨g, 0, none⟩ (.int .u8 (IntKind.u8.wrap (x0 + 1)))) := (Fr.refl (OneB g) _).setCell (p := ⟨g, 0, none⟩) (fun _ => rfl) _
        have hf0' : ¬ OneB g bt := fun e => by have : bt = g := e; omega
        have hf1' : ¬ OneB g bs := fun e => by have : bs = g := e; omega
        have hf2' : ¬ OneB g bc := fun e => by have : bc = g := e; omega
        have hf3' : ¬ OneB g bm := fun e => by have : bm = g := e; omega
        have hT7 := hT6.fr fs hf0' hf1' hf2'
        have hM7 := hM6.fr fs hf3'
        have hvk7 := own_fr hvk6 fs (fun q hq e => by have h1 := hvl q hq; have : q = g := e; omega)
        have hf07 := hf06.trans fs (fun b hb hl => absurd hl (by have : b = g := hb; have := hf06.size; omega))
        clear h0
        go_wp2
        go_roundw
        case rel => exact ⟨k + 1, by first | rfl | (simp; omega) | go_num, by omega, hT7, hM7, hvk7, hf07⟩
        case measure => simp [intOf]; omega
      · have kz : decide ((0 : Int) < (n : Int)) = false := decide_eq_false (by omega)
        have kz2 : decide (0 < n) = false := decide_eq_false h0
        clear h0
        go_wp2
        go_roundw
        case rel => exact ⟨k + 1, by first | rfl | (simp; omega) | go_num, by omega, hT6, hM6, hvk6, hf06⟩
        case measure => simp [intOf]; omega
    · have q1 : decide ((k : Int) < times % 5) = false := decide_eq_false hlt
      have hm0 : 0 ≤ more % 1000 := Int.emod_nonneg _ (by decide)
      have hm1 : more % 1000 < 1000 := Int.emod_lt_of_pos _ (by decide)
      have w1' : IntKind.u64.wrap (token + 1) = token + 1 := by
        show (token + 1) % 18446744073709551616 = _
        omega
      have w2' : IntKind.u64.wrap (token + 1 + more % 1000) = token + 1 + more % 1000 := by
        show (token + 1 + more % 1000) % 18446744073709551616 = _
        omega
      have hO := Lib.hid (Offer_up hT hM (by decide) (token + 1 + more % 1000) (token + 1 + more % 1000) (if_neg (by omega)) (if_pos (by omega)) rfl (by omega) rfl)
      have hlow := hT.sc
      have hlow2 := hT.sm
      have hlow3 := hT.ss
      clear hT hM hv
      go_wp2_with fail
      refine hO.out.mono ?_
      rintro e w5 ⟨rfl, hT5, hM5, hf5⟩
      have hf05 := hf.trans hf5 (fun b hb hl => by have hb' : b = bc ∨ b = bm ∨ b = bs := hb; omega)
      have hS := Lib.hid (Offer_stale hT5 hM5 (by decide) token 1 (if_neg (by omega)) (if_neg (by omega)) rfl (beq_eq_false_iff_ne.2 (by omega)) (by omega))
      clear hT5 hM5 hO hf hf5
      go_wp2_with fail
      refine hS.out.mono ?_
      rintro e w6 ⟨rfl, hT6, hM6, hf6⟩
      have hf06 := hf05.trans hf6 (fun b hb hl => by have : b = bc := hb; omega)
      have hfd := field47 w6 4 0 none 0 0
      have hFl := Lib.hid (Floor_1 w6 hT6)
      have hE := Lib.hid (Entries_1 w6 hT6 hM6 (by decide))
      clear hT6 hM6 hS hf6 hf05
      go_wp2_with fail
      refine hFl.out.mono ?_
      rintro e w7 ⟨rfl, rfl⟩
      go_wp2_with fail
      refine hE.out.mono ?_
      rintro e w8 ⟨A8, c8, rfl, hB8⟩
      have hf08 := hf06.trans (Fr.of_below hB8 NoB) (fun _ h _ => h)
      go_wp2
      go_ret
      exact ⟨by simp, hf08⟩
end Go.Proofs.Ytdfdmjnhekdpjaa
