import Derived.Test.YtdfdmjnhekdpjaaD11
namespace Go.Proofs.Ytdfdmjnhekdpjaa
set_option linter.unusedVariables false
set_option linter.unusedSimpArgs false
open Go.RowKit

theorem Tab0.fr {w w' : World} {bt : Nat} {T : Nat → Prop} (h : Tab0 w bt) (hf : Fr T w w') (hn : ¬ T bt) : Tab0 w' bt := Blk.fr h hf hn
theorem Tab1.more {w : World} {S S' : Nat → Prop} {bt bs bc bm bo ck : Nat} {num fl : Int} (h : Tab1 w S bt bs bc bm num fl bo ck) (hs : ∀ k, S k → S' k) : Tab1 w S' bt bs bc bm num fl bo ck :=
  ⟨h.t, h.s, h.c, h.bk, hs _ h.st, hs _ h.ss, hs _ h.sc, hs _ h.sm, h.cm, h.sn⟩

theorem Offer_new (w : World) (bt : Nat) (num tok fl : Int) (h : Tab0 w bt) (hf0 : 1 ≤ fl) (hf1 : fl ≤ tok) (hf2 : tok - fl < 16) (ht : tok < 18446744073709551616) :
    Calls Try.prog 15 #[.pointer (some ⟨bt, 0, none⟩), .int .i64 num, .int .u64 tok, .int .u64 fl] w fun e w' => e = .returned (.agg #[.int .i64 1, .int .i64 0, .slice none 0 0]) ∧
      ∃ bs bc bm, Tab1 w' (fun k => k = bt ∨ w.heap.size ≤ k) bt bs bc bm num fl 0 1 ∧ Mp w' bm #[⟨.int .u64 tok, .agg #[.bool false, .int .i64 0, .slice none 0 0], 0⟩] 1 ∧ Fr (OneB bt) w w' := by
  have hl := Blk.lt h
  have fa := (Fr.refl NoB w).alloc (.cells #[.int .i64 0, .int .i64 0, .slice none 0 0] 47)
  have hz : (w.alloc (.cells #[.int .i64 0, .int .i64 0, .slice none 0 0] 47)).heap.size = w.heap.size + 1 := by simp
  refine (Offer_any (R := fun r w1 => r = .agg #[.int .i64 1, .int .i64 0, .slice none 0 0] ∧ ∃ bs bc bm, Tab1 w1 (fun k => k = bt ∨ w.heap.size + 1 ≤ k) bt bs bc bm num fl 0 1 ∧ Mp w1 bm #[⟨.int .u64 tok, .agg #[.bool false, .int .i64 0, .slice none 0 0], 0⟩] 1 ∧ Fr (OneB bt) w w1)
    ((offer_new _ bt num tok fl (h.fr fa id) hf0 hf1 hf2 ht).mono ?_)).mono ?_
  · rintro e w1 ⟨rfl, bs, bc, bm, hT, hM, hF⟩
    rw [hz] at hT
    exact ⟨_, _, _, _, _, rfl, (Blk.new w 47 _).fr hF (fun e => by have : w.heap.size = bt := e; omega), rfl, bs, bc, bm, hT, hM, (fa.mono (fun _ h _ => h.elim)).trans hF (fun _ h _ => h)⟩
  · rintro e w' ⟨r, w1, rfl, ⟨rfl, bs, bc, bm, hT, hM, hF⟩, hf⟩
    have n1 : ∀ k, (k = bt ∨ w.heap.size + 1 ≤ k) → ¬ OneB w.heap.size k := fun k hk e => by have : k = w.heap.size := e; omega
    exact ⟨rfl, bs, bc, bm, (hT.fr hf (n1 _ hT.st) (n1 _ hT.ss) (n1 _ hT.sc)).more (fun k hk => by omega), hM.fr hf (n1 _ hT.sm), hF.trans hf (fun b hb hlt => by have : b = w.heap.size := hb; omega)⟩

section
variable {w : World} {S : Nat → Prop} {bt bs bc bm bo ck k b n c : Nat} {num f tok0 st : Int} {d : Bool} {A : Option Addr} (h : Tab1 w S bt bs bc bm num f bo ck)
  (hm : Mp w bm #[⟨.int .u64 tok0, .agg #[.bool d, .int .i64 st, .slice A n c], b⟩] k) (hb : b < k)
include h hm hb

theorem Offer_stale (tok fl : Int) (hmn : (if tok < fl then tok else fl) = fl) (hmx : (if f < fl then fl else f) = f) (hk : (d && decide (tok0 < f)) = false) (hne : (tok == tok0) = false) (hlt : tok < f) :
    Calls Try.prog 15 #[.pointer (some ⟨bt, 0, none⟩), .int .i64 num, .int .u64 tok, .int .u64 fl] w fun e w' => e = .returned (.agg #[.int .i64 4, .int .i64 0, .slice none 0 0]) ∧ Tab1 w' S bt bs bc bm num f bo ck ∧
      Mp w' bm #[⟨.int .u64 tok0, .agg #[.bool d, .int .i64 st, .slice A n c], b⟩] k ∧ Fr (OneB bc) w w' := by
  have l1 := h.t.lt
  have l2 := h.s.lt
  have l3 := h.c.lt
  have l4 := hm.lt
  have fa := (Fr.refl NoB w).alloc (.cells #[.int .i64 0, .int .i64 0, .slice none 0 0] 47)
  refine (Offer_any (R := fun r w1 => r = .agg #[.int .i64 4, .int .i64 0, .slice none 0 0] ∧ Tab1 w1 S bt bs bc bm num f bo ck ∧ Mp w1 bm #[⟨.int .u64 tok0, .agg #[.bool d, .int .i64 st, .slice A n c], b⟩] k ∧ Fr (OneB bc) w w1)
    ((offer_stale tok fl (h.fr fa id id id) (hm.fr fa id) hb hmn hmx hk hne hlt).mono ?_)).mono ?_
  · rintro e w1 ⟨rfl, hT, hM, hF⟩
    exact ⟨_, _, _, _, _, rfl, (Blk.new w 47 _).fr hF (fun e => by have : w.heap.size = bc := e; omega), rfl, hT, hM, (fa.mono (fun _ h _ => h.elim)).trans hF (fun _ h _ => h)⟩
  · rintro e w' ⟨r, w1, rfl, ⟨rfl, hT, hM, hF⟩, hf⟩
    have n1 : ∀ k, k < w.heap.size → ¬ OneB w.heap.size k := fun k hk e => by have : k = w.heap.size := e; omega
    exact ⟨rfl, hT.fr hf (n1 _ l1) (n1 _ l2) (n1 _ l3), hM.fr hf (n1 _ l4), hF.trans hf (fun b hb hlt => by have : b = w.heap.size := hb; omega)⟩

theorem Offer_up (tok fl : Int) (hmn : (if tok < fl then tok else fl) = fl) (hmx : (if f < fl then fl else f) = fl) (hd : d = true) (hlt : tok0 < tok) (hft : tok = fl) :
    Calls Try.prog 15 #[.pointer (some ⟨bt, 0, none⟩), .int .i64 num, .int .u64 tok, .int .u64 fl] w fun e w' => e = .returned (.agg #[.int .i64 1, .int .i64 0, .slice none 0 0]) ∧ Tab1 w' S bt bs bc bm num tok bo ck ∧
      Mp w' bm #[⟨.int .u64 tok, .agg #[.bool false, .int .i64 0, .slice none 0 0], k⟩] (k + 1) ∧ Fr (fun k => k = bc ∨ k = bm ∨ k = bs) w w' := by
  have l1 := h.t.lt
  have l2 := h.s.lt
  have l3 := h.c.lt
  have l4 := hm.lt
  have fa := (Fr.refl NoB w).alloc (.cells #[.int .i64 0, .int .i64 0, .slice none 0 0] 47)
  refine (Offer_any (R := fun r w1 => r = .agg #[.int .i64 1, .int .i64 0, .slice none 0 0] ∧ Tab1 w1 S bt bs bc bm num tok bo ck ∧ Mp w1 bm #[⟨.int .u64 tok, .agg #[.bool false, .int .i64 0, .slice none 0 0], k⟩] (k + 1) ∧ Fr (fun k => k = bc ∨ k = bm ∨ k = bs) w w1)
    ((offer_up tok fl (h.fr fa id id id) (hm.fr fa id) hb hmn hmx hd hlt hft).mono ?_)).mono ?_
  · rintro e w1 ⟨rfl, hT, hM, hF⟩
    exact ⟨_, _, _, _, _, rfl, (Blk.new w 47 _).fr hF (fun e => by have e' : w.heap.size = bc ∨ w.heap.size = bm ∨ w.heap.size = bs := e; omega), rfl, hT, hM, (fa.mono (fun _ h _ => h.elim)).trans hF (fun _ h _ => h)⟩
  · rintro e w' ⟨r, w1, rfl, ⟨rfl, hT, hM, hF⟩, hf⟩
    have n1 : ∀ k, k < w.heap.size → ¬ OneB w.heap.size k := fun k hk e => by have : k = w.heap.size := e; omega
    exact ⟨rfl, hT.fr hf (n1 _ l1) (n1 _ l2) (n1 _ l3), hM.fr hf (n1 _ l4), hF.trans hf (fun b hb hlt => by have : b = w.heap.size := hb; omega)⟩

theorem Offer_done (tok fl : Int) (hmn : (if tok < fl then tok else fl) = fl) (hmx : (if f < fl then fl else f) = f) (hd : d = true) (hk : decide (tok0 < f) = false) (htk : tok = tok0) (ok : Nat → Prop) (xs : List Value) (hA : A = none → c = 0) (hr : Rd w ok 1 A n xs)
    (hok : ∀ b, ok b → b < w.heap.size → ¬ OneB bc b) (h1 : ∀ u ∈ xs, u.oneCell' = true) (hn : n ≤ 140737488355328) :
    Calls Try.prog 15 #[.pointer (some ⟨bt, 0, none⟩), .int .i64 num, .int .u64 tok, .int .u64 fl] w fun e w' => ∃ A' c', e = .returned (.agg #[.int .i64 3, .int .i64 st, .slice A' n c']) ∧ Tab1 w' S bt bs bc bm num f bo ck ∧
      Mp w' bm #[⟨.int .u64 tok, .agg #[.bool true, .int .i64 st, .slice A n c], b⟩] k ∧ w'.ownsRow (w.heap.size + 1) 5 1 (.slice A' n c') n xs ∧ Fr (OneB bc) w w' := by
  have l1 := h.t.lt
  have l2 := h.s.lt
  have l3 := h.c.lt
  have l4 := hm.lt
  have fa := (Fr.refl NoB w).alloc (.cells #[.int .i64 0, .int .i64 0, .slice none 0 0] 47)
  have hz : (w.alloc (.cells #[.int .i64 0, .int .i64 0, .slice none 0 0] 47)).heap.size = w.heap.size + 1 := by simp
  have hokl : ∀ b, ok b ∧ b < w.heap.size → b < (w.alloc (.cells #[.int .i64 0, .int .i64 0, .slice none 0 0] 47)).heap.size → ¬ OneB bc b := fun b hb _ => hok b hb.1 hb.2
  have hr' : Rd w (fun b => ok b ∧ b < w.heap.size) 1 A n xs := hr.mono (fun b hb hl => ⟨hb, hl⟩)
  refine (Offer_any (R := fun r w1 => ∃ A' c', r = .agg #[.int .i64 3, .int .i64 st, .slice A' n c'] ∧ Tab1 w1 S bt bs bc bm num f bo ck ∧ Mp w1 bm #[⟨.int .u64 tok, .agg #[.bool true, .int .i64 st, .slice A n c], b⟩] k ∧ w1.ownsRow (w.heap.size + 1) 5 1 (.slice A' n c') n xs ∧ Fr (OneB bc) w w1)
    ((offer_done tok fl (h.fr fa id id id) (hm.fr fa id) hb hmn hmx hd hk htk (fun b => ok b ∧ b < w.heap.size) xs hA (hr'.fr fa (fun _ _ _ => id)) hokl h1 hn).mono ?_)).mono ?_
  · rintro e w1 ⟨v, rfl, hT, hM, hv, hF⟩
    rw [htk] at *
    rw [hz] at hv
    obtain ⟨A', c', rfl, _⟩ := own_slice hv
    exact ⟨_, _, _, _, _, rfl, (Blk.new w 47 _).fr hF (fun e => by have : w.heap.size = bc := e; omega), A', c', rfl, hT, hM, hv, (fa.mono (fun _ h _ => h.elim)).trans hF (fun _ h _ => h)⟩
  · rintro e w' ⟨r, w1, rfl, ⟨A', c', rfl, hT, hM, hv, hF⟩, hf⟩
    have n1 : ∀ k, k < w.heap.size → ¬ OneB w.heap.size k := fun k hk e => by have : k = w.heap.size := e; omega
    exact ⟨A', c', rfl, hT.fr hf (n1 _ l1) (n1 _ l2) (n1 _ l3), hM.fr hf (n1 _ l4), own_fr hv hf (fun g hg e => by have h1 := (hv.lt g hg).1; have : g = w.heap.size := e; omega), hF.trans hf (fun b hb hlt => by have : b = w.heap.size := hb; omega)⟩
end

set_option maxHeartbeats 1000000 in
theorem field47 (w : World) (a s : Int) (A : Option Addr) (n c : Nat) : (Instr.field 47 (.agg #[.int .i64 a, .int .i64 s, .slice A n c]) 0).run Try.prog w = .ok (.int .i64 a) w := by kernel_rfl

set_option maxRecDepth 100000 in
theorem awake19 (w : World) : Calls Try.prog 13 #[] w fun e w' => e = .returned (.bool true) ∧ Fr NoB w w' := by
  go_enter Try.func13, Try.ntmps13
  go_wp2_with (go_at_call 14; refine (New_any _).mono ?_; rintro e w1 ⟨rfl, hT0, hz, hf1⟩)
  refine (Offer_new w1 w.heap.size 1 5 1 hT0 (by decide) (by decide) (by decide) (by decide)).mono ?_
  rintro e w2 ⟨rfl, bs, bc, bm, hT, hM, hf2⟩
  have hL := Lib.hid (Len_1 w2 hT hM (by simp))
  have hf := hf1.trans hf2 (fun b hb hl => absurd hl (by have : b = w.heap.size := hb; omega))
  clear hT0 hf2
  have hfd := field47 w2 1 0 none 0 0
  go_wp2_with fail
  refine hL.out.mono ?_
  rintro e w3 ⟨rfl, hf3⟩
  go_wp2
  go_ret
  exact ⟨by simp, hf.trans hf3 (fun _ h _ => h)⟩
end Go.Proofs.Ytdfdmjnhekdpjaa
