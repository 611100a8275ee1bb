/- decode.values of a field of varints. -/
import Derived.Test.YtcfmcgkngjpdbaaDoorD4
namespace Go.Proofs.YtcfmcgkngjpdbaaDoor
set_option linter.unusedVariables false
set_option linter.unusedSimpArgs false
open Go.RowKit

def valuesP (x : WF) : Option (List Nat) := if x.t = 2 then unpackP x.d.length x.d else some [x.u]
set_option maxHeartbeats 1000000 in
set_option maxRecDepth 100000 in
theorem values_any (A1 A2 A3 : Option Addr) (n1 c1 n2 c2 n3 c3 : Nat) (f : FD) (x : WF) (cs : List Value) (ok : Nat → Prop) (dep : Int) (w : World) (hkd : wireP f.kind = 0) (hx : WfIn w ok x cs) (hn : x.d.length ≤ 1000000) (r : List Nat) (h : valuesP x = some r) :
    Calls Tryd.prog 49 #[.agg #[.slice A1 n1 c1, .slice A2 n2 c2, .slice A3 n3 c3], .agg f.cells.toArray, .agg cs.toArray, .int .i64 dep] w (NumsR f.kind r w) := by
  obtain ⟨A, c, rfl, hA, hc, hB⟩ := hx
  unfold FD.cells
  have k7 : (f.kind == 10) = false := beq_eq_false_iff_ne.2 (fun h => by rw [h] at hkd; simp [wireP] at hkd)
  have k5 : (f.kind == 5) = false := beq_eq_false_iff_ne.2 (fun h => by rw [h] at hkd; simp [wireP] at hkd)
  have k6 : (f.kind == 6) = false := beq_eq_false_iff_ne.2 (fun h => by rw [h] at hkd; simp [wireP] at hkd)
  go_enter Tryd.func49, Tryd.ntmps49
  unfold valuesP at h
  by_cases ht : x.t = 2
  · rw [if_pos ht] at h
    have q2 : ((x.t : Int) == 2) = true := beq_iff_eq.2 (by omega)
    have hU := Lib.hid (fun w2 (hf : Fr NoB w w2) => unpack_any f.kind A c x.d ok w2 hkd hA hc (Rd.fr hB hf (fun _ _ _ => id)) hn r h)
    go_wp2_with fail
    refine (hU.out _ ((((Fr.refl NoB w).alloc _).alloc _).alloc _)).mono ?_
    rintro e w4 ⟨A4, c4, rfl, hA4, hc4, hr4, hf4⟩
    have hf0 := ((((Fr.refl NoB w).alloc (.cells #[.slice A1 n1 c1, .slice A2 n2 c2, .slice A3 n3 c3] 56)).alloc (.cells #[.int .i64 f.num, .string f.name, .int .i64 f.kind, .bool f.rep, .int .i64 f.typ] 48)).alloc (.cells #[.int .i64 x.n, .int .i64 2, .int .u64 x.u, .slice A x.d.length c] 114))
    go_wp2_with fail
    go_ret2
    exact ⟨A4, c4, rfl, hA4, hc4, hr4.mv (Mv.mono w4 (fun b hb _ => Nat.le_trans hf0.size hb)) (fun _ _ _ h => h), hf0.trans hf4 (fun _ h _ => h)⟩
  · rw [if_neg ht] at h
    have q2 : ((x.t : Int) == 2) = false := beq_eq_false_iff_ne.2 (by omega)
    obtain rfl : [x.u] = r := by simpa using h
    obtain ⟨T, v, hsh⟩ := numV_shape f.kind x.u
    have HSH := Lib.hid hsh
    clear hsh
    go_wp2_with fail
    refine (number_any _ _ _).mono ?_
    rintro e w4 ⟨rfl, hf4⟩
    rw [HSH.out]
    have hf0 := ((((Fr.refl NoB w).alloc (.cells #[.slice A1 n1 c1, .slice A2 n2 c2, .slice A3 n3 c3] 56)).alloc (.cells #[.int .i64 f.num, .string f.name, .int .i64 f.kind, .bool f.rep, .int .i64 f.typ] 48)).alloc (.cells #[.int .i64 x.n, .int .i64 x.t, .int .u64 x.u, .slice A x.d.length c] 114))
    have hf04 := hf0.trans hf4 (fun _ h _ => h)
    go_wp2_with fail
    go_ret2
    have hbv : Blk (w4.alloc (.cells #[.iface T v] 34)) w4.heap.size 34 #[.iface T v] := Blk.new _ _ _
    refine ⟨some ⟨w4.heap.size, 0, none⟩, 1, rfl, (fun h => by cases h), Nat.le_refl _, ⟨[.iface T v], ⟨[.iface T v], [], rfl, rfl, ?_, rfl⟩, Rd.of_blk (n := 1) (size := 1) _ hbv rfl hf04.size⟩, hf04.alloc _⟩
    show [Value.iface T v] = [numV f.kind x.u]
    rw [HSH.out]
end Go.Proofs.YtcfmcgkngjpdbaaDoor
