/- Rows whose elements have many cells, said by what each element's cells mean; a step that keeps what is read; trees of nodes. No program occurs here. -/
import Derived.Test.YtcfmcgkngjpdbaaDoorMem2
namespace Go.Proofs.YtcfmcgkngjpdbaaDoor
set_option linter.unusedVariables false
set_option linter.unusedSimpArgs false
open Go.RowKit

/-- What ok lets read is there still, and ok' lets it be read. -/
structure Mv (ok ok' : Nat → Prop) (w w' : World) : Prop where
  size : w.heap.size ≤ w'.heap.size
  lets : ∀ b, ok b → b < w.heap.size → ok' b
  block : ∀ b, ok b → b < w.heap.size → w'.heap[b]? = w.heap[b]?

section
variable {w w' w2 : World} {ok ok' ok2 S : Nat → Prop}
theorem Mv.refl (ok : Nat → Prop) (w : World) : Mv ok ok w w := ⟨Nat.le_refl _, fun _ h _ => h, fun _ _ _ => rfl⟩
theorem Mv.trans (h : Mv ok ok' w w') (k : Mv ok' ok2 w' w2) : Mv ok ok2 w w2 :=
  ⟨Nat.le_trans h.size k.size, fun b hb hl => k.lets b (h.lets b hb hl) (Nat.lt_of_lt_of_le hl h.size), fun b hb hl => (k.block b (h.lets b hb hl) (Nat.lt_of_lt_of_le hl h.size)).trans (h.block b hb hl)⟩
theorem Mv.of_fr (hf : Fr S w w') (hn : ∀ b, ok b → b < w.heap.size → ¬ S b) (hk : ∀ b, ok b → b < w.heap.size → ok' b) : Mv ok ok' w w' :=
  ⟨hf.size, hk, fun b hb hl => hf.block b hl (hn b hb hl)⟩
theorem Mv.fr (hf : Fr S w w') (hn : ∀ b, ok b → b < w.heap.size → ¬ S b) : Mv ok ok w w' := Mv.of_fr hf hn (fun _ h _ => h)
theorem Mv.new (hf : Fr NoB w w') : Mv ok ok w w' := Mv.fr hf (fun _ _ _ => id)
theorem Mv.mono (w : World) (hk : ∀ b, ok b → b < w.heap.size → ok' b) : Mv ok ok' w w := ⟨Nat.le_refl _, hk, fun _ _ _ => rfl⟩
theorem Mv.all (h : Mv ok ok' w w') : Mv ok (fun _ => True) w w' := ⟨h.size, fun _ _ _ => trivial, h.block⟩
theorem Rd.mv {size n : Nat} {A : Option Addr} {xs : List Value} (h : Rd w ok size A n xs) (hm : Mv ok ok' w w') : Rd w' ok' size A n xs :=
  ⟨h.1, fun h0 => by
    obtain ⟨b, o, e, hb, hl, hc⟩ := h.2 h0
    exact ⟨b, o, e, hm.lets b hb hl, Nat.lt_of_lt_of_le hl hm.size, fun j u hu => (World.cell?_of_block (a := ⟨b, o + j, none⟩) (hm.block b hb hl)).trans (hc j u hu)⟩⟩
end

/-- The cells xs are those of the elements l, sz each. -/
def RepL {α : Type} (sz : Nat) (R : α → List Value → Prop) : List α → List Value → Prop
  | [], xs => xs = []
  | x :: r, xs => ∃ cs ys, xs = cs ++ ys ∧ cs.length = sz ∧ R x cs ∧ RepL sz R r ys

section
variable {α β : Type} {sz : Nat} {R R' : α → List Value → Prop} {l l2 : List α} {xs ys : List Value}
theorem RepL.len : ∀ {l : List α} {xs : List Value}, RepL sz R l xs → xs.length = l.length * sz
  | [], xs, h => by
    have h : xs = [] := h
    subst h
    simp
  | x :: r, xs, h => by
    obtain ⟨cs, ys, rfl, hs, _, hr⟩ := h
    have := RepL.len hr
    simp [hs, this, Nat.succ_mul, Nat.add_comm]
theorem RepL.mono : ∀ {l : List α} {xs : List Value}, RepL sz R l xs → (∀ x cs, x ∈ l → R x cs → R' x cs) → RepL sz R' l xs
  | [], xs, h, _ => h
  | x :: r, xs, h, hm => by
    obtain ⟨cs, ys, rfl, hs, hx, hr⟩ := h
    exact ⟨cs, ys, rfl, hs, hm x cs (List.mem_cons_self ..) hx, RepL.mono hr (fun y c hy => hm y c (List.mem_cons_of_mem _ hy))⟩
theorem RepL.append : ∀ {l : List α} {xs : List Value}, RepL sz R l xs → RepL sz R l2 ys → RepL sz R (l ++ l2) (xs ++ ys)
  | [], xs, h, h2 => by
    have h : xs = [] := h
    subst h
    simpa using h2
  | x :: r, xs, h, h2 => by
    obtain ⟨cs, zs, rfl, hs, hx, hr⟩ := h
    exact ⟨cs, zs ++ ys, by simp, hs, hx, RepL.append hr h2⟩
theorem RepL.one {x : α} {cs : List Value} (hs : cs.length = sz) (h : R x cs) : RepL sz R [x] cs := ⟨cs, [], by simp, hs, h, rfl⟩
theorem RepL.snoc {x : α} {cs : List Value} (h : RepL sz R l xs) (hs : cs.length = sz) (hx : R x cs) : RepL sz R (l ++ [x]) (xs ++ cs) := h.append (RepL.one hs hx)
theorem RepL.at_ : ∀ {l : List α} {xs : List Value}, RepL sz R l xs → ∀ (i : Nat) (x : α), l[i]? = some x → ∃ cs, cs.length = sz ∧ R x cs ∧ ∀ j u, cs[j]? = some u → xs[i * sz + j]? = some u
  | [], xs, h, i, x, hx => by simp at hx
  | y :: r, xs, h, i, x, hx => by
    obtain ⟨cs, zs, rfl, hs, hy, hr⟩ := h
    rcases i with _ | i
    · obtain rfl : y = x := by simpa using hx
      refine ⟨cs, hs, hy, fun j u hu => ?_⟩
      have := (List.getElem?_eq_some_iff.1 hu).1
      rw [Nat.zero_mul, Nat.zero_add, List.getElem?_append_left this]
      exact hu
    · obtain ⟨cs', hs', hx', hc⟩ := RepL.at_ hr i x (by simpa using hx)
      refine ⟨cs', hs', hx', fun j u hu => ?_⟩
      rw [List.getElem?_append_right (by rw [hs, Nat.succ_mul]; omega), hs, show (i + 1) * sz + j - sz = i * sz + j by rw [Nat.succ_mul]; omega]
      exact hc j u hu
theorem RepL.all : ∀ {l : List α} {xs : List Value}, RepL sz R l xs → (∀ x cs, x ∈ l → R x cs → ∀ u ∈ cs, u.oneCell' = true) → ∀ u ∈ xs, u.oneCell' = true
  | [], xs, h, _, u, hu => by
    have h : xs = [] := h
    subst h
    simp at hu
  | x :: r, xs, h, hm, u, hu => by
    obtain ⟨cs, ys, rfl, hs, hx, hr⟩ := h
    rcases List.mem_append.1 hu with h1 | h1
    · exact hm x cs (List.mem_cons_self ..) hx u h1
    · exact RepL.all hr (fun y c hy => hm y c (List.mem_cons_of_mem _ hy)) u h1
theorem RepL.map {f : α → β} {Q : β → List Value → Prop} : ∀ {l : List α} {xs : List Value}, RepL sz R l xs → (∀ x cs, x ∈ l → R x cs → Q (f x) cs) → RepL sz Q (l.map f) xs
  | [], xs, h, _ => h
  | x :: r, xs, h, hm => by
    obtain ⟨cs, ys, rfl, hs, hx, hr⟩ := h
    exact ⟨cs, ys, rfl, hs, hm x cs (List.mem_cons_self ..) hx, RepL.map hr (fun y c hy => hm y c (List.mem_cons_of_mem _ hy))⟩
end

/-- A slice that is read: its elements are l. -/
def Row {α : Type} (sz : Nat) (R : α → List Value → Prop) (w : World) (ok : Nat → Prop) (A : Option Addr) (l : List α) : Prop :=
  ∃ xs, RepL sz R l xs ∧ Rd w ok sz A l.length xs
section
variable {α β : Type} {sz : Nat} {R R' : α → List Value → Prop} {w w' : World} {ok ok' : Nat → Prop} {A : Option Addr} {l : List α}
theorem Row.mv (h : Row sz R w ok A l) (hm : Mv ok ok' w w') (hR : ∀ x cs, x ∈ l → R x cs → R' x cs) : Row sz R' w' ok' A l := by
  obtain ⟨xs, h1, h2⟩ := h
  exact ⟨xs, h1.mono hR, h2.mv hm⟩
theorem Row.at_ (h : Row sz R w ok A l) (i : Nat) (x : α) (hx : l[i]? = some x) :
    ∃ b o cs, A = some ⟨b, o, none⟩ ∧ ok b ∧ b < w.heap.size ∧ cs.length = sz ∧ R x cs ∧ ∀ j u, cs[j]? = some u → w.cell? ⟨b, o + i * sz + j, none⟩ = some u := by
  obtain ⟨xs, h1, h2⟩ := h
  obtain ⟨cs, hs, hR, hc⟩ := h1.at_ i x hx
  obtain ⟨b, o, e, hb, hl, hcell⟩ := h2.2 (by have := (List.getElem?_eq_some_iff.1 hx).1; omega)
  exact ⟨b, o, cs, e, hb, hl, hs, hR, fun j u hu => by rw [Nat.add_assoc]; exact hcell _ u (hc j u hu)⟩
theorem Row.map {f : α → β} {Q : β → List Value → Prop} (h : Row sz R w ok A l) (hq : ∀ x cs, x ∈ l → R x cs → Q (f x) cs) : Row sz Q w ok A (l.map f) := by
  obtain ⟨xs, h1, h2⟩ := h
  exact ⟨xs, h1.map hq, by rw [List.length_map]; exact h2⟩
theorem Row.nil (sz : Nat) (R : α → List Value → Prop) (w : World) (ok : Nat → Prop) (A : Option Addr) : Row sz R w ok A [] := ⟨[], rfl, by simp, fun h => by simp at h⟩
theorem Row.of_own {base : Nat} {e : TypeId} {n c : Nat} {xs : List Value} (h : w.ownsRow base e sz (.slice A n c) n xs) (hr : RepL sz R l xs) (hn : n = l.length) (hk : ∀ k, (Value.slice A n c).ownBlock = some k → ok k) : Row sz R w ok A l := by
  subst hn
  exact ⟨xs, hr, Rd.of_own h hk⟩
end

theorem Blk.second (w : World) (o : Obj) (t : TypeId) (cs : Array Value) : Blk ((w.alloc o).alloc (.cells cs t)) (w.heap.size + 1) t cs := by
  have h := Blk.new (w.alloc o) t cs
  have e : (w.alloc o).heap.size = w.heap.size + 1 := by simp
  rw [e] at h
  exact h
theorem len2 {cs : List Value} (h : cs.length = 2) : ∃ a b, cs = [a, b] := by
  match cs, h with
  | [a, b], _ => exact ⟨a, b, rfl⟩
theorem len7 {cs : List Value} (h : cs.length = 7) : ∃ a b c d e f g, cs = [a, b, c, d, e, f, g] := by
  match cs, h with
  | [a, b, c, d, e, f, g], _ => exact ⟨a, b, c, d, e, f, g, rfl⟩

/-! ### Trees of nodes: 'Nd d' are those of at most d levels -/
structure Rec (α : Type) where
  k : Int
  n : Int
  u : Int
  b : Bool
  s : ByteArray
  t : Int
  fs : List (Int × List α)

def Nd : Nat → Type
  | 0 => Empty
  | d + 1 => Rec (Nd d)

/-- The numbers are of their kinds. -/
structure Rec.Wf {α : Type} (x : Rec α) : Prop where
  k : (Lit.int .i64 x.k).wf = true
  n : (Lit.int .i64 x.n).wf = true
  u : (Lit.int .u64 x.u).wf = true
  t : (Lit.int .i64 x.t).wf = true
  f : ∀ p ∈ x.fs, (Lit.int .i64 p.1).wf = true ∧ p.2.length ≤ 140737488355328
  sl : x.s.size ≤ 140737488355328
  fl : x.fs.length ≤ 140737488355328

/-- A node's cells (7). -/
def NodeAt : (d : Nat) → World → (Nat → Prop) → Nd d → List Value → Prop
  | 0, _, _, _, _ => False
  | d + 1, w, ok, (x : Rec (Nd d)), cs => x.Wf ∧ ∃ A c, cs = [.int .i64 x.k, .int .i64 x.n, .int .u64 x.u, .bool x.b, .string x.s, .int .i64 x.t, .slice A x.fs.length c] ∧ x.fs.length ≤ c ∧ (A = none → c = 0) ∧
      Row 2 (fun p cs => ∃ A c, cs = [.int .i64 p.1, .slice A p.2.length c] ∧ p.2.length ≤ c ∧ (A = none → c = 0) ∧ Row 7 (NodeAt d w ok) w ok A p.2) w ok A x.fs

theorem NodeAt.mv : ∀ {d : Nat} {w w' : World} {ok ok' : Nat → Prop} {x : Nd d} {cs : List Value}, NodeAt d w ok x cs → Mv ok ok' w w' → NodeAt d w' ok' x cs
  | 0, _, _, _, _, _, _, h, _ => h
  | d + 1, w, w', ok, ok', x, cs, h, hm => by
    obtain ⟨hw, A, c, rfl, hc, h0, hr⟩ := h
    refine ⟨hw, A, c, rfl, hc, h0, hr.mv hm (fun p cs _ hp => ?_)⟩
    obtain ⟨A', c', rfl, hc', h0', hr'⟩ := hp
    exact ⟨A', c', rfl, hc', h0', hr'.mv hm (fun y cs _ hy => NodeAt.mv hy hm)⟩
theorem NodeAt.len : ∀ {d : Nat} {w : World} {ok : Nat → Prop} {x : Nd d} {cs : List Value}, NodeAt d w ok x cs → cs.length = 7
  | 0, _, _, _, _, h => h.elim
  | d + 1, w, ok, x, cs, h => by
    obtain ⟨_, A, c, rfl, _⟩ := h
    rfl
theorem NodeAt.one : ∀ {d : Nat} {w : World} {ok : Nat → Prop} {x : Nd d} {cs : List Value}, NodeAt d w ok x cs → ∀ u ∈ cs, u.oneCell' = true
  | 0, _, _, _, _, h => h.elim
  | d + 1, w, ok, x, cs, h => by
    obtain ⟨_, A, c, rfl, _⟩ := h
    intro u hu
    simp only [List.mem_cons, List.not_mem_nil, or_false] at hu
    rcases hu with rfl | rfl | rfl | rfl | rfl | rfl | rfl <;> rfl
theorem NodeAt.shape : ∀ {d : Nat} {w : World} {ok : Nat → Prop} {x : Nd d} {cs : List Value}, NodeAt d w ok x cs →
    ∃ k n u b s t A l c, cs = [.int .i64 k, .int .i64 n, .int .u64 u, .bool b, .string s, .int .i64 t, .slice A l c]
  | 0, _, _, _, _, h => h.elim
  | d + 1, w, ok, x, cs, h => by
    obtain ⟨_, A, c, rfl, _⟩ := h
    exact ⟨_, _, _, _, _, _, _, _, _, rfl⟩
/-- A node without fields. -/
theorem flat_node {d : Nat} {w : World} {ok : Nat → Prop} (y : Rec (Nd d)) (hw : y.Wf) (hf : y.fs = []) : NodeAt (d + 1) w ok y [.int .i64 y.k, .int .i64 y.n, .int .u64 y.u, .bool y.b, .string y.s, .int .i64 y.t, .slice none 0 0] := by
  refine ⟨hw, none, 0, ?_, ?_, fun _ => rfl, ?_⟩
  · rw [hf]; rfl
  · rw [hf]; exact Nat.le_refl _
  · rw [hf]; exact Row.nil _ _ _ _ _
end Go.Proofs.YtcfmcgkngjpdbaaDoor
