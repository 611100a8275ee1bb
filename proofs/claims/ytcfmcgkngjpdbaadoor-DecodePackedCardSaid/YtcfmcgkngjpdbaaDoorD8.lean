/- courierlaw11.awake. -/
import Derived.Test.YtcfmcgkngjpdbaaDoorD7
import Derived.Test.YtcfmcgkngjpdbaaDoorV9
import Derived.Lib.SmallJoins
namespace Go.Proofs.YtcfmcgkngjpdbaaDoor
set_option linter.unusedVariables false
set_option linter.unusedSimpArgs false
open Go.RowKit

def fdX : FD := ⟨1, ⟨#[120]⟩, 1, false, 0⟩
def mdX : MD := ⟨⟨#[65]⟩, [fdX]⟩
def leafX : Nd 1 := (⟨1, 2, 0, false, ⟨#[]⟩, 0, []⟩ : Rec (Nd 0))
def treeX : Nd 2 := (⟨7, 0, 0, false, ⟨#[]⟩, 0, [(1, [leafX])]⟩ : Rec (Nd 1))
theorem clean_treeX : clean 2 (msgTree fdX [2]) = treeX := by kernel_rfl
theorem fs_treeX : (show Rec (Nd 1) from msgTree fdX [2]).fs = [((1 : Int), [leafX])] := by kernel_rfl
theorem fine_treeX : Fine 2 (msgTree fdX [2]) := by
  refine ⟨by rw [fs_treeX]; decide, fun p hp => ?_⟩
  rw [fs_treeX] at hp
  rw [List.mem_singleton.1 hp]
  exact ⟨by decide, fun y hy => by rw [List.mem_singleton.1 hy]; exact ⟨by decide, fun p hp => by cases hp⟩⟩
theorem row_msg (w : World) (g h : Nat) (m : MD) (f : FD) (hmf : m.fields = [f]) (hg : Blk w g 48 #[.int .i64 f.num, .string f.name, .int .i64 f.kind, .bool f.rep, .int .i64 f.typ]) (hh : Blk w h 51 #[.string m.name, .slice (some ⟨g, 0, none⟩) 1 1]) :
    Row 2 (MsgIn w) w (fun _ => True) (some ⟨h, 0, none⟩) [m] := by
  refine ⟨[.string m.name, .slice (some ⟨g, 0, none⟩) 1 1], ⟨[.string m.name, .slice (some ⟨g, 0, none⟩) 1 1], [], rfl, rfl, ⟨some ⟨g, 0, none⟩, 1, by rw [hmf]; rfl, by rw [hmf]; exact Nat.le_refl _, (fun h => by cases h), ?_⟩, rfl⟩, Rd.of_blk (n := 1) (size := 2) _ hh rfl trivial⟩
  rw [hmf]
  exact ⟨f.cells, ⟨f.cells, [], by simp, rfl, rfl, rfl⟩, Rd.of_blk (n := 1) (size := 5) (cs := f.cells) _ hg rfl trivial⟩
theorem bys_mark (w : World) (l : List UInt8) (fr : Nat × Nat) (n : Nat) (hn : n = w.heap.size) : Bys (w.alloc (.cells (l.map ub).toArray 5 fr)) (fun _ => True) (some ⟨n, 0, none⟩) l := by
  refine ⟨by simp, fun _ => ⟨n, 0, rfl, trivial, by subst hn; simp, fun j u hu => ?_⟩⟩
  rw [Nat.zero_add, Joins.cell_alloc_mark_at w _ _ _ n j hn]
  simpa using hu
theorem lit_treeX (w : World) : NodeAt 2 ((w.alloc (.cells #[.int .i64 1, .int .i64 2, .int .u64 0, .bool false, .string ⟨#[]⟩, .int .i64 0, .slice none 0 0] 25)).alloc (.cells #[.int .i64 1, .slice (some ⟨w.heap.size, 0, none⟩) 1 1] 43)) (fun _ => True) treeX
    [.int .i64 7, .int .i64 0, .int .u64 0, .bool false, .string ⟨#[]⟩, .int .i64 0, .slice (some ⟨w.heap.size + 1, 0, none⟩) 1 1] := by
  have hb1 := (Blk.new w 25 #[.int .i64 1, .int .i64 2, .int .u64 0, .bool false, .string ⟨#[]⟩, .int .i64 0, .slice none 0 0]).alloc (.cells #[.int .i64 1, .slice (some ⟨w.heap.size, 0, none⟩) 1 1] 43)
  have hb2 := Blk.second w (.cells #[.int .i64 1, .int .i64 2, .int .u64 0, .bool false, .string ⟨#[]⟩, .int .i64 0, .slice none 0 0] 25) 43 #[.int .i64 1, .slice (some ⟨w.heap.size, 0, none⟩) 1 1]
  have z0 : (Lit.int .i64 0).wf = true := by decide
  have zu : (Lit.int .u64 0).wf = true := by decide
  have hs : (⟨#[]⟩ : ByteArray).size ≤ 140737488355328 := by decide
  refine ⟨⟨by decide, z0, zu, z0, fun p hp => ?_, hs, by decide⟩, some ⟨w.heap.size + 1, 0, none⟩, 1, rfl, Nat.le_refl _, (fun h => by cases h), ?_⟩
  · have hp : p ∈ [((1 : Int), [leafX])] := hp
    rw [List.mem_singleton.1 hp]
    exact ⟨by decide, by decide⟩
  · refine ⟨[.int .i64 1, .slice (some ⟨w.heap.size, 0, none⟩) 1 1], ⟨[.int .i64 1, .slice (some ⟨w.heap.size, 0, none⟩) 1 1], [], rfl, rfl, ⟨some ⟨w.heap.size, 0, none⟩, 1, rfl, Nat.le_refl _, (fun h => by cases h), ?_⟩, rfl⟩, Rd.of_blk (n := 1) (size := 2) _ hb2 rfl trivial⟩
    exact ⟨[.int .i64 1, .int .i64 2, .int .u64 0, .bool false, .string ⟨#[]⟩, .int .i64 0, .slice none 0 0], ⟨[.int .i64 1, .int .i64 2, .int .u64 0, .bool false, .string ⟨#[]⟩, .int .i64 0, .slice none 0 0], [], rfl, rfl,
      ⟨⟨by decide, by decide, zu, z0, fun p hp => (by cases hp), hs, Nat.zero_le _⟩, none, 0, rfl, Nat.le_refl _, fun _ => rfl, Row.nil _ _ _ _ _⟩, rfl⟩, Rd.of_blk (n := 1) (size := 7) _ hb1 rfl trivial⟩
set_option maxHeartbeats 1000000 in
set_option maxRecDepth 100000 in
theorem awake11 (w : World) (hml : ML w) : Calls Tryd.prog 13 #[] w (NameR true w) := by
  have hf1 : Fr NoB w (w.alloc (.cells #[.int .i64 1, .string ⟨#[120]⟩, .int .i64 1, .bool false, .int .i64 0] 48)) := (Fr.refl NoB w).alloc _
  have hb1 := Blk.new w 48 #[.int .i64 1, .string ⟨#[120]⟩, .int .i64 1, .bool false, .int .i64 0]
  have hz1 : (w.alloc (.cells #[.int .i64 1, .string ⟨#[120]⟩, .int .i64 1, .bool false, .int .i64 0] 48)).heap.size = w.heap.size + 1 := by simp
  have hb2 := Blk.second w (.cells #[.int .i64 1, .string ⟨#[120]⟩, .int .i64 1, .bool false, .int .i64 0] 48) 51 #[.string ⟨#[65]⟩, .slice (some ⟨w.heap.size, 0, none⟩) 1 1]
  have hcv := Joins.run_convert_bytes_const_at (P := Tryd.prog) (((w.alloc (.cells #[.int .i64 1, .string ⟨#[120]⟩, .int .i64 1, .bool false, .int .i64 0] 48)).alloc (.cells #[.string ⟨#[65]⟩, .slice (some ⟨w.heap.size, 0, none⟩) 1 1] 51)).alloc (.cells #[.slice (some ⟨w.heap.size + 1, 0, none⟩) 1 1, .slice none 0 0, .slice none 0 0] 56)) 57 5 #[.int .u8 8, .int .u8 1, .int .u8 8, .int .u8 2] 4 4 (w.heap.size + 1 + 1 + 1) (by simp) Tryd.underlying57 Tryd.underlying5
  go_enter Tryd.func13, Tryd.ntmps13
  go_wp2_with fail
  have hfD : Fr NoB w ((((w.alloc (.cells #[.int .i64 1, .string ⟨#[120]⟩, .int .i64 1, .bool false, .int .i64 0] 48)).alloc (.cells #[.string ⟨#[65]⟩, .slice (some ⟨w.heap.size, 0, none⟩) 1 1] 51)).alloc (.cells #[.slice (some ⟨w.heap.size + 1, 0, none⟩) 1 1, .slice none 0 0, .slice none 0 0] 56)).alloc (.cells #[.int .u8 8, .int .u8 1, .int .u8 8, .int .u8 2] 5 (4, 5))) := ((hf1.alloc _).alloc _).alloc _
  have hz3 : (((w.alloc (.cells #[.int .i64 1, .string ⟨#[120]⟩, .int .i64 1, .bool false, .int .i64 0] 48)).alloc (.cells #[.string ⟨#[65]⟩, .slice (some ⟨w.heap.size, 0, none⟩) 1 1] 51)).alloc (.cells #[.slice (some ⟨w.heap.size + 1, 0, none⟩) 1 1, .slice none 0 0, .slice none 0 0] 56)).heap.size = w.heap.size + 1 + 1 + 1 := by simp
  have hbys := bys_mark (((w.alloc (.cells #[.int .i64 1, .string ⟨#[120]⟩, .int .i64 1, .bool false, .int .i64 0] 48)).alloc (.cells #[.string ⟨#[65]⟩, .slice (some ⟨w.heap.size, 0, none⟩) 1 1] 51)).alloc (.cells #[.slice (some ⟨w.heap.size + 1, 0, none⟩) 1 1, .slice none 0 0, .slice none 0 0] 56)) [8, 1, 8, 2] (4, 5) (w.heap.size + 1 + 1 + 1) hz3.symm
  have hrow := row_msg _ w.heap.size (w.heap.size + 1) mdX fdX rfl ((((hb1.alloc (.cells #[.string ⟨#[65]⟩, .slice (some ⟨w.heap.size, 0, none⟩) 1 1] 51)).alloc (.cells #[.slice (some ⟨w.heap.size + 1, 0, none⟩) 1 1, .slice none 0 0, .slice none 0 0] 56)).alloc (.cells #[.int .u8 8, .int .u8 1, .int .u8 8, .int .u8 2] 5 (4, 5)))) ((hb2.alloc (.cells #[.slice (some ⟨w.heap.size + 1, 0, none⟩) 1 1, .slice none 0 0, .slice none 0 0] 56)).alloc (.cells #[.int .u8 8, .int .u8 1, .int .u8 8, .int .u8 2] 5 (4, 5)))
  have hbys : Bys ((((w.alloc (.cells #[.int .i64 1, .string ⟨#[120]⟩, .int .i64 1, .bool false, .int .i64 0] 48)).alloc (.cells #[.string ⟨#[65]⟩, .slice (some ⟨w.heap.size, 0, none⟩) 1 1] 51)).alloc (.cells #[.slice (some ⟨w.heap.size + 1, 0, none⟩) 1 1, .slice none 0 0, .slice none 0 0] 56)).alloc (.cells #[.int .u8 8, .int .u8 1, .int .u8 8, .int .u8 2] 5 (4, 5))) (fun _ => True) (some ⟨w.heap.size + 1 + 1 + 1, 0, none⟩) [8, 1, 8, 2] := hbys
  clear hcv hz1 hb1 hb2 hf1 hz3
  generalize ((((w.alloc (.cells #[.int .i64 1, .string ⟨#[120]⟩, .int .i64 1, .bool false, .int .i64 0] 48)).alloc (.cells #[.string ⟨#[65]⟩, .slice (some ⟨w.heap.size, 0, none⟩) 1 1] 51)).alloc (.cells #[.slice (some ⟨w.heap.size + 1, 0, none⟩) 1 1, .slice none 0 0, .slice none 0 0] 56)).alloc (.cells #[.int .u8 8, .int .u8 1, .int .u8 8, .int .u8 2] 5 (4, 5))) = wD at *
  refine (decode_one [2] _ 1 mdX fdX _ 4 [8, 1, 8, 2] _ wD (hml.new hfD) hrow rfl (by decide) (fun h => by cases h) (by decide) hbys (by decide) [(⟨1, 0, 1, []⟩, [8, 1]), (⟨1, 0, 2, []⟩, [8, 2])] (by kernel_rfl) (by decide)
    (fun p hp => by
      simp only [List.mem_cons, List.not_mem_nil, or_false] at hp
      rcases hp with rfl | rfl <;> exact ⟨rfl, by decide +kernel⟩) (by decide +kernel) (by decide) (fun x hx => by
      have hx : x ∈ [(⟨1, 0, 2, []⟩ : WF)] := hx
      rw [List.mem_singleton.1 hx]
      decide) (by decide) (.inr ⟨rfl, rfl, by decide +kernel⟩) (by decide) (by decide) (by decide) (by decide) (by decide) (by decide +kernel) (by decide +kernel) (by decide +kernel)).mono ?_
  rintro e w2 ⟨v, rfl, hv, hf2⟩
  have hf02 := hfD.trans hf2 (fun _ h _ => h)
  have hO := Lib.hid (ours_any 2 (msgTree fdX [2]) v _ w2 hv fine_treeX)
  go_wp2_with fail
  refine hO.out.mono ?_
  rintro e w3 ⟨cs, rfl, hn, hf3⟩
  rw [clean_treeX] at hn
  have hf03 := hf02.trans hf3 (fun _ h _ => h)
  have hfT : Fr NoB w3 ((w3.alloc (.cells #[.int .i64 1, .int .i64 2, .int .u64 0, .bool false, .string ⟨#[]⟩, .int .i64 0, .slice none 0 0] 25)).alloc (.cells #[.int .i64 1, .slice (some ⟨w3.heap.size, 0, none⟩) 1 1] 43)) := ((Fr.refl NoB w3).alloc _).alloc _
  have hS := Lib.hid (same_any 2 treeX cs [.int .i64 7, .int .i64 0, .int .u64 0, .bool false, .string ⟨#[]⟩, .int .i64 0, .slice (some ⟨w3.heap.size + 1, 0, none⟩) 1 1] _ _ _ (hn.mv (Mv.new hfT)) (lit_treeX w3))
  go_wp2_with fail
  refine hS.out.mono ?_
  rintro e w4 ⟨rfl, hf4⟩
  go_wp2_with fail
  go_ret
  exact ⟨rfl, (hf03.trans hfT (fun _ h _ => h)).trans hf4 (fun _ h _ => h)⟩
end Go.Proofs.YtcfmcgkngjpdbaaDoor
