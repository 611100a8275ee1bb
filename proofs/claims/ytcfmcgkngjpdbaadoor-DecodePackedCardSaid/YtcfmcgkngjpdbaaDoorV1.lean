/- Values in memory, as trees of nodes: what a value of the package reads as; what of a node belongs to its kind. No function of the program occurs here (its types' numbers alone). -/
import Derived.Test.YtcfmcgkngjpdbaaDoorV0
namespace Go.Proofs.YtcfmcgkngjpdbaaDoor
set_option linter.unusedVariables false
set_option linter.unusedSimpArgs false
open Go.RowKit

/-- A message's fields (2 cells each), the values read by V. -/
def FieldsAt {α : Type} (V : α → Value → Prop) (w : World) (ok : Nat → Prop) (A : Option Addr) (fs : List (Int × List α)) : Prop :=
  Row 2 (fun p cs => ∃ A c, cs = [.int .i64 p.1, .slice A p.2.length c] ∧ p.2.length ≤ c ∧ (A = none → c = 0) ∧ Row 1 (fun y cs => ∃ v, cs = [v] ∧ V y v) w ok A p.2) w ok A fs
theorem FieldsAt.mv {α : Type} {V V' : α → Value → Prop} {w w' : World} {ok ok' : Nat → Prop} {A : Option Addr} {fs : List (Int × List α)} (h : FieldsAt V w ok A fs) (hm : Mv ok ok' w w') (hV : ∀ p ∈ fs, ∀ y ∈ p.2, ∀ v, V y v → V' y v) : FieldsAt V' w' ok' A fs := by
  refine Row.mv h hm (fun p cs hp hq => ?_)
  obtain ⟨A', c', rfl, hc', h0', hr'⟩ := hq
  exact ⟨A', c', rfl, hc', h0', hr'.mv hm (fun y cs hy ⟨v, hv, h⟩ => ⟨v, hv, hV p hp y hy v h⟩)⟩

/-- The interface value of a node: of a kind that is none, nil. -/
def ValAt : (d : Nat) → World → (Nat → Prop) → Nd d → Value → Prop
  | 0, _, _, _, _ => False
  | d + 1, w, ok, (x : Rec (Nd d)), v => x.Wf ∧
      ((x.k = 1 ∧ v = .iface 72 (.int .i64 x.n)) ∨ (x.k = 2 ∧ v = .iface 68 (.int .u64 x.u)) ∨ (x.k = 3 ∧ v = .iface 73 (.bool x.b)) ∨
       (x.k = 4 ∧ v = .iface 74 (.string x.s)) ∨ (x.k = 5 ∧ v = .iface 75 (.string x.s)) ∨ (x.k = 6 ∧ v = .iface 76 (.int .i32 (wrap32 x.n))) ∨
       (x.k = 7 ∧ ∃ A c, v = .iface 30 (.agg #[.int .i64 x.t, .slice A x.fs.length c, .string x.s]) ∧ x.fs.length ≤ c ∧ (A = none → c = 0) ∧ FieldsAt (ValAt d w ok) w ok A x.fs) ∨
       ((x.k < 1 ∨ 7 < x.k) ∧ v = .nilIface))

theorem ValAt.mv : ∀ {d : Nat} {w w' : World} {ok ok' : Nat → Prop} {x : Nd d} {v : Value}, ValAt d w ok x v → Mv ok ok' w w' → ValAt d w' ok' x v
  | 0, _, _, _, _, _, _, h, _ => h
  | d + 1, w, w', ok, ok', x, v, h, hm => by
    obtain ⟨hw, h⟩ := h
    refine ⟨hw, ?_⟩
    rcases h with h | h | h | h | h | h | ⟨hk, A, c, hv, hc, h0, hr⟩ | h
    · exact .inl h
    · exact .inr (.inl h)
    · exact .inr (.inr (.inl h))
    · exact .inr (.inr (.inr (.inl h)))
    · exact .inr (.inr (.inr (.inr (.inl h))))
    · exact .inr (.inr (.inr (.inr (.inr (.inl h)))))
    · exact .inr (.inr (.inr (.inr (.inr (.inr (.inl ⟨hk, A, c, hv, hc, h0, FieldsAt.mv hr hm (fun p _ y _ v hy => ValAt.mv hy hm)⟩))))))
    · exact .inr (.inr (.inr (.inr (.inr (.inr (.inr h))))))
theorem ValAt.one : ∀ {d : Nat} {w : World} {ok : Nat → Prop} {x : Nd d} {v : Value}, ValAt d w ok x v → v.oneCell' = true
  | 0, _, _, _, _, h => h.elim
  | d + 1, w, ok, x, v, h => by
    obtain ⟨_, h⟩ := h
    rcases h with h | h | h | h | h | h | ⟨hk, A, c, hv, hc, h0, hr⟩ | h
    all_goals first | (rw [hv]; rfl) | (rw [h.2]; rfl)

theorem ValAt.shape : ∀ {d : Nat} {w : World} {ok : Nat → Prop} {x : Nd d} {v : Value}, ValAt d w ok x v → v = .nilIface ∨ ∃ t u, v = .iface t u
  | 0, _, _, _, _, h => h.elim
  | d + 1, w, ok, x, v, h => by
    obtain ⟨_, h⟩ := h
    rcases h with h | h | h | h | h | h | ⟨hk, A, c, hv, hc, h0, hr⟩ | h
    all_goals first | exact .inr ⟨_, _, hv⟩ | exact .inr ⟨_, _, h.2⟩ | exact .inl h.2

theorem ValAt.msg {d : Nat} {w : World} {ok : Nat → Prop} {x : Rec (Nd d)} {v : Value} (h : ValAt (d + 1) w ok x v) (h7 : x.k = 7) :
    ∃ A c, v = .iface 30 (.agg #[.int .i64 x.t, .slice A x.fs.length c, .string x.s]) ∧ x.fs.length ≤ c ∧ (A = none → c = 0) ∧ FieldsAt (ValAt d w ok) w ok A x.fs := by
  obtain ⟨_, h⟩ := h
  rcases h with h | h | h | h | h | h | h | h
  case inr.inr.inr.inr.inr.inr.inl => exact h.2
  all_goals exact absurd h.1 (by omega)

/-- What of a node belongs to its kind. -/
def clean : (d : Nat) → Nd d → Nd d
  | 0, x => x
  | d + 1, (x : Rec (Nd d)) =>
    if x.k = 1 then (⟨1, x.n, 0, false, ⟨#[]⟩, 0, []⟩ : Rec (Nd d))
    else if x.k = 2 then (⟨2, 0, x.u, false, ⟨#[]⟩, 0, []⟩ : Rec (Nd d))
    else if x.k = 3 then (⟨3, 0, 0, x.b, ⟨#[]⟩, 0, []⟩ : Rec (Nd d))
    else if x.k = 4 then (⟨4, 0, 0, false, x.s, 0, []⟩ : Rec (Nd d))
    else if x.k = 5 then (⟨5, 0, 0, false, x.s, 0, []⟩ : Rec (Nd d))
    else if x.k = 6 then (⟨6, wrap32 x.n, 0, false, ⟨#[]⟩, 0, []⟩ : Rec (Nd d))
    else if x.k = 7 then (⟨7, 0, 0, false, x.s, x.t, x.fs.map fun p => (p.1, p.2.map (clean d))⟩ : Rec (Nd d))
    else (⟨0, 0, 0, false, ⟨#[]⟩, 0, []⟩ : Rec (Nd d))

/-- Of a size that is looked at: no list is longer than 400. -/
def Fine : (d : Nat) → Nd d → Prop
  | 0, _ => True
  | d + 1, (x : Rec (Nd d)) => x.fs.length ≤ 400 ∧ ∀ p ∈ x.fs, p.2.length ≤ 400 ∧ ∀ y ∈ p.2, Fine d y
/-- What is new since B, and no part of the row v. -/
def okv (B : Nat) (v : Value) : Nat → Prop := fun b => B ≤ b ∧ v.ownBlock ≠ some b
/-- A row was appended to: what is no part of it can still be read. -/
theorem Mv.app {w w' : World} {v v' : Value} {B : Nat} (hg : w.grownBy w' v.ownBlock) (hat : v'.ownBlock = v.ownBlock ∨ v'.ownBlock = some w.heap.size) : Mv (okv B v) (okv B v') w w' :=
  ⟨hg.size, fun b hb hl => ⟨hb.1, fun e => by
    rcases hat with h | h
    · exact hb.2 (h ▸ e)
    · rw [h] at e; injection e with e; omega⟩, fun b hb hl => hg.block b hl (fun e => hb.2 e.symm)⟩
/-- The one cell of a value in a row. -/
def ElemR (d : Nat) (w : World) (ok : Nat → Prop) (y : Nd d) (cs : List Value) : Prop := ∃ v, cs = [v] ∧ ValAt d w ok y v
theorem ElemR.mv {d : Nat} {w w' : World} {ok ok' : Nat → Prop} {y : Nd d} {cs : List Value} (h : ElemR d w ok y cs) (hm : Mv ok ok' w w') : ElemR d w' ok' y cs := by
  obtain ⟨v, e, h⟩ := h
  exact ⟨v, e, h.mv hm⟩
/-- The two cells of a field in a row. -/
def FieldR (d : Nat) (w : World) (ok : Nat → Prop) (p : Int × List (Nd d)) (cs : List Value) : Prop :=
  ∃ A c, cs = [.int .i64 p.1, .slice A p.2.length c] ∧ p.2.length ≤ c ∧ (A = none → c = 0) ∧ Row 1 (ElemR d w ok) w ok A p.2
theorem FieldR.mv {d : Nat} {w w' : World} {ok ok' : Nat → Prop} {p : Int × List (Nd d)} {cs : List Value} (h : FieldR d w ok p cs) (hm : Mv ok ok' w w') : FieldR d w' ok' p cs := by
  obtain ⟨A, c, e, hc, h0, h⟩ := h
  exact ⟨A, c, e, hc, h0, h.mv hm (fun _ _ _ h => h.mv hm)⟩
theorem FieldsAt.of {d : Nat} {w : World} {ok : Nat → Prop} {A : Option Addr} {fs : List (Int × List (Nd d))} (h : Row 2 (FieldR d w ok) w ok A fs) : FieldsAt (ValAt d w ok) w ok A fs := h
theorem FieldsAt.row {d : Nat} {w : World} {ok : Nat → Prop} {A : Option Addr} {fs : List (Int × List (Nd d))} (h : FieldsAt (ValAt d w ok) w ok A fs) : Row 2 (FieldR d w ok) w ok A fs := h
end Go.Proofs.YtcfmcgkngjpdbaaDoor
