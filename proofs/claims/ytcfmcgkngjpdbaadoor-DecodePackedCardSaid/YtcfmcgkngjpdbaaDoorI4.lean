/- ident.Path: a path's names. -/
import Derived.Test.YtcfmcgkngjpdbaaDoorI3
import Derived.Test.YtcfmcgkngjpdbaaDoorShelf
import Derived.Lib.SplitLaws
import Derived.Lib.ReplaceLaws
namespace Go.Proofs.YtcfmcgkngjpdbaaDoor
set_option linter.unusedVariables false
set_option linter.unusedSimpArgs false
open Go.RowKit

/-- The library's variable that strings.Split reads is a number. -/
def ML (w : World) : Prop := ∃ m : Int, w.cell? ⟨2, 0, none⟩ = some (.int .i64 m)
theorem ML.fr {w w' : World} {S : Nat → Prop} (h : ML w) (hf : Fr S w w') (hn : ¬ S 2) : ML w' := by
  obtain ⟨m, h⟩ := h
  exact ⟨m, hf.cell_some h hn⟩
theorem ML.new {w w' : World} (h : ML w) (hf : Fr NoB w w') : ML w' := h.fr hf id

def dot : ByteArray := ⟨#[46]⟩
def pieces (s : ByteArray) : List ByteArray := Lib.splitB dot 0 (Lib.countB s dot) s
theorem splitB_size (sep : ByteArray) (B : Nat) : ∀ (k : Nat) (s : ByteArray), s.size ≤ B → ∀ x ∈ Lib.splitB sep 0 k s, x.size ≤ B
  | 0, s, h, x, hx => by
    have hx : x ∈ [s] := hx
    rw [List.mem_singleton.1 hx]
    exact h
  | k + 1, s, h, x, hx => by
    unfold Lib.splitB at hx
    split at hx
    · rw [List.mem_singleton.1 hx]; exact h
    · rcases List.mem_cons.1 hx with rfl | hx
      · rw [ByteArray.size_extract]; omega
      · exact splitB_size sep B k _ (by rw [ByteArray.size_extract]; omega) x hx
theorem pieces_size {s x : ByteArray} (hx : x ∈ pieces s) : x.size ≤ s.size := splitB_size dot s.size _ s (Nat.le_refl _) x hx
theorem pieces_length (s : ByteArray) : (pieces s).length = Lib.countB s dot + 1 := Lib.splitB_all dot (by decide) 0 _ s rfl
def pathB (s : ByteArray) : Bool := decide ((pieces s).length ≤ 8) && !(pieces s).any (fun x => !plainB x)

theorem strRow {w : World} {ok : Nat → Prop} {A : Option Addr} {l : List ByteArray} (h : Strs w ok A l) : Row 1 (fun (s : ByteArray) cs => cs = [.string s]) w ok A l := by
  refine ⟨l.map Value.string, ?_, h⟩
  clear h
  induction l with
  | nil => rfl
  | cons x r ih => exact ⟨[.string x], r.map Value.string, rfl, rfl, rfl, ih⟩

theorem notPlain_any (s : ByteArray) (w : World) (hs : s.size < 9223372036854775807) : Calls Tryd.prog 57 #[.string s] w (NameR (!plainB s) w) := by
  have hP := Lib.hid (plain_any s w hs)
  go_enter Tryd.func57, Tryd.ntmps57
  go_wp2_with fail
  refine hP.out.mono ?_
  rintro e w' ⟨rfl, hf⟩
  go_wp2_with fail
  go_ret
  exact ⟨rfl, hf⟩

def PathR (b : Bool) (w : World) (e : Ending) (w' : World) : Prop := (∃ v, e = .returned (.tuple #[v, .bool b])) ∧ Fr NoB w w'
set_option maxHeartbeats 1000000 in
theorem path_any (s : ByteArray) (w : World) (hs : s.size ≤ 1000000) (hml : ML w) : Calls Tryd.prog 33 #[.string s] w (PathR (pathB s) w) := by
  obtain ⟨m, hm⟩ := hml
  have hS := Lib.hid (Tryd.strings_Split s dot m w (by omega) hm (by decide))
  have hlen := pieces_length s
  have hcnt : Lib.countB s dot ≤ s.size := Lib.countB_le dot (by decide) s.size s (Nat.le_refl _)
  go_enter Tryd.func33, Tryd.ntmps33
  go_wp2_with fail
  refine hS.out.mono ?_
  rintro e w1 ⟨rfl, rfl⟩
  rw [← hlen]
  have hfa : Fr NoB w (w.alloc (.cells ((Lib.splitB dot 0 (Lib.countB s dot) s).map Value.string).toArray 9)) := (Fr.refl NoB w).alloc _
  have hrow := strRow (Strs.of_blk (l := pieces s) (Blk.new w 9 ((Lib.splitB dot 0 (Lib.countB s dot) s).map Value.string).toArray) (by simp [pieces]))
  generalize (w.alloc (.cells ((Lib.splitB dot 0 (Lib.countB s dot) s).map Value.string).toArray 9)) = w1 at *
  by_cases h8 : (pieces s).length ≤ 8
  · have k8 : decide ((8 : Int) < ((pieces s).length : Int)) = false := decide_eq_false (by omega)
    have hC := Lib.hid (containsFuncS (fun (s : ByteArray) cs => cs = [.string s]) 57 #[] (fun x => !plainB x) (some ⟨w.heap.size, 0, none⟩) (pieces s).length (pieces s) _ w1 hrow (by omega) (fun _ _ => by kernel_rfl)
      (fun x v w' hx hv hf' => by
        obtain rfl : v = .string x := by simpa using hv
        exact notPlain_any x w' (by have := pieces_size hx; omega)))
    have hb : pathB s = !(pieces s).any (fun x => !plainB x) := by unfold pathB; rw [decide_eq_true h8]; rfl
    clear hlen
    cases ha : (pieces s).any (fun x => !plainB x) with
    | true =>
      rw [ha] at hC hb
      have HB := Lib.hid hb
      clear ha hb
      go_wp2_with fail
      refine hC.out.mono ?_
      rintro e w2 ⟨rfl, hf2⟩
      go_wp2_with fail
      go_ret2
      exact ⟨⟨_, by rw [HB.out]; rfl⟩, hfa.trans hf2 (fun _ h _ => h)⟩
    | false =>
      rw [ha] at hC hb
      have HB := Lib.hid hb
      clear ha hb
      go_wp2_with fail
      refine hC.out.mono ?_
      rintro e w2 ⟨rfl, hf2⟩
      go_wp2_with fail
      go_ret2
      exact ⟨⟨_, by rw [HB.out]; rfl⟩, hfa.trans hf2 (fun _ h _ => h)⟩
  · have k8 : decide ((8 : Int) < ((pieces s).length : Int)) = true := decide_eq_true (by omega)
    have hb : pathB s = false := by unfold pathB; rw [decide_eq_false h8]; rfl
    have HB := Lib.hid hb
    clear hb hlen
    go_wp2_with fail
    go_ret2
    exact ⟨⟨_, by rw [HB.out]; rfl⟩, hfa⟩
end Go.Proofs.YtcfmcgkngjpdbaaDoor
