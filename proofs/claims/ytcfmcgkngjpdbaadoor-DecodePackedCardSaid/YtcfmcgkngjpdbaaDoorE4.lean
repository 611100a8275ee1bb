/- Rows of bytes of one's own, side by side; the law DecodePacked, walked. -/
import Derived.Test.YtcfmcgkngjpdbaaDoorE1
import Derived.Test.YtcfmcgkngjpdbaaDoorE2
import Derived.Test.YtcfmcgkngjpdbaaDoorE3
namespace Go.Proofs.YtcfmcgkngjpdbaaDoor
set_option linter.unusedVariables false
set_option linter.unusedSimpArgs false
open Go.RowKit

def Ap (p q : Value × List UInt8) : Prop := ∀ k, p.1.ownBlock = some k → q.1.ownBlock ≠ some k
theorem Ap.symm {p q : Value × List UInt8} (h : Ap p q) : Ap q p := fun k hk hp => h k hp hk
/-- Rows of bytes, each in a block of its own. -/
def OwnB (w : World) (B : Nat) (vs : List (Value × List UInt8)) : Prop := (∀ p ∈ vs, w.ownsRow B 5 1 p.1 p.2.length (p.2.map ub)) ∧ vs.Pairwise Ap
theorem OwnB.fr {w w' : World} {B : Nat} {vs : List (Value × List UInt8)} (h : OwnB w B vs) (hf : Fr NoB w w') : OwnB w' B vs := ⟨fun p hp => own_fr (h.1 p hp) hf (fun _ _ => id), h.2⟩
theorem OwnB.perm {w : World} {B : Nat} {vs vs' : List (Value × List UInt8)} (h : OwnB w B vs) (hp : vs.Perm vs') : OwnB w B vs' :=
  ⟨fun p hq => h.1 p (hp.symm.subset hq), (hp.pairwise_iff Ap.symm).1 h.2⟩
theorem OwnB.app {w w' : World} {B : Nat} {v v' : Value} {l l' : List UInt8} {vs : List (Value × List UInt8)} (h : OwnB w B ((v, l) :: vs)) (hg : w.grownBy w' v.ownBlock) (ho : w'.ownsRow B 5 1 v' l'.length (l'.map ub))
    (hat : v'.ownBlock = v.ownBlock ∨ v'.ownBlock = some w.heap.size) : OwnB w' B ((v', l') :: vs) := by
  have hp := List.pairwise_cons.1 h.2
  refine ⟨fun p hm => ?_, List.pairwise_cons.2 ⟨fun q hq k hk hqk => ?_, hp.2⟩⟩
  · rcases List.mem_cons.1 hm with rfl | hm
    · exact ho
    · exact own_fr (h.1 p (List.mem_cons_of_mem _ hm)) (Fr.of_grown (S := fun k => v.ownBlock = some k) hg (fun k hk _ => hk)) (fun k hk e => hp.1 p hm k e hk)
  · rcases hat with h1 | h1
    · exact hp.1 q hq k (h1 ▸ hk) hqk
    · rw [h1] at hk
      injection hk with hk
      exact Nat.lt_irrefl _ (hk ▸ ((h.1 q (List.mem_cons_of_mem _ hq)).lt k hqk).2)
theorem OwnB.head {w : World} {B : Nat} {v : Value} {l : List UInt8} {vs : List (Value × List UInt8)} (h : OwnB w B ((v, l) :: vs)) : w.ownsRow B 5 1 v l.length (l.map ub) := h.1 _ (List.mem_cons_self ..)
/-- Bytes read from a row that is no part of the rows. -/
theorem Bys.of_own {w : World} {B c : Nat} {A : Option Addr} {l : List UInt8} (ok : Nat → Prop) (h : w.ownsRow B 5 1 (.slice A l.length c) l.length (l.map ub)) (hk : ∀ k, (Value.slice A l.length c).ownBlock = some k → ok k) : Bys w ok A l := Rd.of_own h hk

theorem own_cast {w : World} {B : Nat} {v : Value} {l l1 l2 : List UInt8} (h : l = l1 ++ l2) (ho : w.ownsRow B 5 1 v (l1.length + l2.length) (l1.map ub ++ l2.map ub)) : w.ownsRow B 5 1 v l.length (l.map ub) := by
  subst h
  rw [List.length_append, List.map_append]
  exact ho
theorem bytes_one8 (n : Nat) (w : World) (hn : n < 2 ^ 64) : Calls Tryd.prog 15 #[.agg #[.int .i64 4, .int .i64 0, .int .u64 n, .slice none 0 0]] w (RowR (one8 n) w) := bytes0_any n w hn
theorem bytes_pk (A : Option Addr) (d : List UInt8) (c : Nat) (ok : Nat → Prop) (w : World) (hA : A = none → c = 0) (hr : Bys w ok A d) (hl : d.length ≤ 100000) : Calls Tryd.prog 15 #[.agg #[.int .i64 4, .int .i64 2, .int .u64 0, .slice A d.length c]] w (RowR (pk d) w) := bytes2_any A d c ok w hA hr hl
def fdL (j : Nat) : FD := ⟨4, ⟨#[108]⟩, (j : Int) + 1, true, 0⟩
def mdL (j : Nat) : MD := ⟨⟨#[65]⟩, [fdL j]⟩

theorem law_dec (j : Nat) (ns : List Nat) (A1 : Option Addr) (A : Option Addr) (c : Nat) (l : List UInt8) (ok : Nat → Prop) (w : World) (hml : ML w) (hj : j < 4) (hm : Row 2 (MsgIn w) w (fun _ => True) A1 [mdL j])
    (hA : A = none → c = 0) (hc : l.length ≤ c) (hr : Bys w ok A l) (hn : l.length ≤ 4096) (r : List (WF × List UInt8)) (h : splitP l.length l = some r) (hrl : r.length ≤ 60)
    (hkn : ∀ p ∈ r, p.1.n = 4 ∧ (p.1.t = 0 ∨ p.1.t = 2) ∧ p.1.d.length ≤ 1000) (hvs : valsP (r.map (·.1)) = some ns) (hnl : ns.length ≤ 60) (hns : ∀ n ∈ ns, n < 2 ^ 64) :
    Calls Tryd.prog 16 #[.agg #[.slice A1 1 1, .slice none 0 0, .slice none 0 0], .int .i64 0, .slice A l.length c] w (MsgR (msgTree (fdL j) ns) w) := by
  have hj4 : j = 0 ∨ j = 1 ∨ j = 2 ∨ j = 3 := by omega
  have hw : wireP (fdL j).kind = 0 := by rcases hj4 with rfl | rfl | rfl | rfl <;> decide
  have h9 : (fdL j).kind ≠ 9 := by rcases hj4 with rfl | rfl | rfl | rfl <;> decide
  have h10 : ((fdL j).kind == 10) = false := by rcases hj4 with rfl | rfl | rfl | rfl <;> decide
  have hmb : messageB 0 1 (mdL j) = true := by rcases hj4 with rfl | rfl | rfl | rfl <;> decide +kernel
  have hown : ownP (fdL j).rep (r.map (·.1)) = r.map (·.1) := rfl
  refine decode_one ns A1 1 (mdL j) (fdL j) A c l ok w hml hm rfl hw hA hc hr hn r h (by omega) (fun p hp => ?_) (by rw [hown]; exact hvs) (by omega) (fun x hx => ?_) (by rw [hown, List.length_map]; omega) (.inl rfl) (show (Lit.int .i64 4).wf = true by decide) h9 h10 hns (show (⟨#[65]⟩ : ByteArray).size ≤ 1000000 ∧ (⟨#[108]⟩ : ByteArray).size ≤ 1000000 by decide) pathA (show unlikeB [(⟨#[65]⟩ : ByteArray)] = true by decide +kernel) hmb
  · obtain ⟨h1, h2, _⟩ := hkn p hp
    refine ⟨by rw [h1]; rfl, ?_⟩
    rw [h1]
    exact known4 _ _ _ hw (by omega)
  · rw [hown] at hx
    obtain ⟨p, hp, rfl⟩ := List.mem_map.1 hx
    have := (hkn p hp).2.2
    omega
theorem leaf_fs (k : Int) (n : Nat) : (show Rec (Nd 0) from leaf k n).fs = [] := by
  unfold leaf
  by_cases h1 : k = 1
  · simp [h1]
  · by_cases h3 : k = 3
    · simp [h3]
    · by_cases h4 : k = 4
      · simp [h4]
      · simp [h1, h3, h4]
theorem fine_msg (f : FD) (ns : List Nat) (hl : ns.length ≤ 60) : Fine (1 + 1) (msgTree f ns) := by
  have hfs : (show Rec (Nd 1) from msgTree f ns).fs = if ns = [] then [] else [(f.num, ns.map (leaf f.kind))] := rfl
  refine ⟨by rw [hfs]; split <;> simp, fun p hp => ?_⟩
  rw [hfs] at hp
  split at hp
  · cases hp
  · rw [List.mem_singleton.1 hp]
    refine ⟨by simp; omega, fun y hy => ?_⟩
    obtain ⟨n, _, rfl⟩ := List.mem_map.1 hy
    refine ⟨by rw [leaf_fs]; simp, fun p hp => by rw [leaf_fs] at hp; cases hp⟩
theorem getF_msg (j : Nat) (ns : List Nat) : (getF (d := 1) (msgTree (fdL j) ns) 4).length = ns.length := by
  have e : getF (d := 1) (msgTree (fdL j) ns) 4 = (match (if ns = [] then ([] : List (Int × List (Nd 1))) else [((4 : Int), ns.map (leaf (fdL j).kind))]).find? (fun p => p.1 == 4) with | some p => p.2 | none => []) := by first | rfl | kernel_rfl | (show (if (7 : Int) = 7 then _ else _) = _; exact if_pos rfl)
  rw [e]
  by_cases h : ns = []
  · rw [if_pos h, h]
    rfl
  · rw [if_neg h]
    show (ns.map (leaf (fdL j).kind)).length = _
    exact List.length_map ..
set_option maxHeartbeats 4000000 in
set_option maxRecDepth 100000 in
theorem packed_any (kn cut : Nat) (A : Option Addr) (c : Nat) (ns : List Nat) (ok : Nat → Prop) (w : World) (hml : ML w) (hkn : kn < 256) (hcut : cut < 256) (hns : ∀ n ∈ ns, n < 2 ^ 64) (hr : Rd w ok 1 A ns.length (ns.map (fun n => .int .u64 (n : Nat)))) (hl : ns.length ≤ 140737488355328) :
    Calls Tryd.prog 4 #[.int .u8 kn, .slice A ns.length c, .int .u8 cut] w (NameR true w) := by
  go_enter Tryd.func4, Tryd.ntmps4
  go_wp2_with fail
  refine (awake11 w hml).mono ?_
  rintro e w1 ⟨rfl, hf1⟩
  by_cases h60 : 60 < ns.length
  · have p1 : (60 : Int) < (ns.length : Int) := by omega
    go_wp2_with fail
    refine (awake11 _ (hml.new hf1)).mono ?_
    rintro e w2 ⟨rfl, hf2⟩
    go_wp2_with fail
    go_ret
    exact ⟨rfl, hf1.trans hf2 (fun _ h _ => h)⟩
  · have p1 : (ns.length : Int) ≤ 60 := by omega
    obtain ⟨j, hj⟩ : ∃ j : Nat, j = kn % 4 := ⟨_, rfl⟩
    have hj4 : j < 4 := by omega
    have hjk : (kn : Int) % 4 = (j : Int) := by omega
    have hbk := Blk.new w1 3 #[.int .i64 1, .int .i64 2, .int .i64 3, .int .i64 4]
    have hcj : (w1.alloc (.cells #[.int .i64 1, .int .i64 2, .int .i64 3, .int .i64 4] 3)).cell? ⟨w1.heap.size, j, none⟩ = some (.int .i64 ((j : Int) + 1)) := by
      rw [hbk.cell j]
      match j, hj4 with
      | 0, _ => rfl
      | 1, _ => rfl
      | 2, _ => rfl
      | 3, _ => rfl
    have hq0 : (0 : Int) ≤ (kn : Int) % 4 := by omega
    have hq1 : (kn : Int) % 4 < 4 := by omega
    have hcq : (w1.alloc (.cells #[.int .i64 1, .int .i64 2, .int .i64 3, .int .i64 4] 3)).cell? ⟨w1.heap.size, kn % 4, none⟩ = some (.int .i64 ((j : Int) + 1)) := by rw [← hj]; exact hcj
    have HJ := Lib.hid hj
    clear hbk hj hjk hcj
    go_wp2_with fail
    have hfL : Fr NoB w1 ((((w1.alloc (.cells #[.int .i64 1, .int .i64 2, .int .i64 3, .int .i64 4] 3)).alloc (.cells #[.int .i64 4, .string ⟨#[108]⟩, .int .i64 ((j : Int) + 1), .bool true, .int .i64 0] 48)).alloc (.cells #[.string ⟨#[65]⟩, .slice (some ⟨w1.heap.size + 1, 0, none⟩) 1 1] 51)).alloc (.cells #[.slice (some ⟨w1.heap.size + 1 + 1, 0, none⟩) 1 1, .slice none 0 0, .slice none 0 0] 56)) := ((((Fr.refl NoB w1).alloc _).alloc _).alloc _).alloc _
    have hzk : (w1.alloc (.cells #[.int .i64 1, .int .i64 2, .int .i64 3, .int .i64 4] 3)).heap.size = w1.heap.size + 1 := by simp
    have hzf : ((w1.alloc (.cells #[.int .i64 1, .int .i64 2, .int .i64 3, .int .i64 4] 3)).alloc (.cells #[.int .i64 4, .string ⟨#[108]⟩, .int .i64 ((j : Int) + 1), .bool true, .int .i64 0] 48)).heap.size = w1.heap.size + 1 + 1 := by simp
    have hzm : (((w1.alloc (.cells #[.int .i64 1, .int .i64 2, .int .i64 3, .int .i64 4] 3)).alloc (.cells #[.int .i64 4, .string ⟨#[108]⟩, .int .i64 ((j : Int) + 1), .bool true, .int .i64 0] 48)).alloc (.cells #[.string ⟨#[65]⟩, .slice (some ⟨w1.heap.size + 1, 0, none⟩) 1 1] 51)).heap.size = w1.heap.size + 1 + 1 + 1 := by simp
    have hbf := Blk.new (w1.alloc (.cells #[.int .i64 1, .int .i64 2, .int .i64 3, .int .i64 4] 3)) 48 #[.int .i64 4, .string ⟨#[108]⟩, .int .i64 ((j : Int) + 1), .bool true, .int .i64 0]
    have hbm := Blk.new ((w1.alloc (.cells #[.int .i64 1, .int .i64 2, .int .i64 3, .int .i64 4] 3)).alloc (.cells #[.int .i64 4, .string ⟨#[108]⟩, .int .i64 ((j : Int) + 1), .bool true, .int .i64 0] 48)) 51 #[.string ⟨#[65]⟩, .slice (some ⟨w1.heap.size + 1, 0, none⟩) 1 1]
    have hbs := Blk.new (((w1.alloc (.cells #[.int .i64 1, .int .i64 2, .int .i64 3, .int .i64 4] 3)).alloc (.cells #[.int .i64 4, .string ⟨#[108]⟩, .int .i64 ((j : Int) + 1), .bool true, .int .i64 0] 48)).alloc (.cells #[.string ⟨#[65]⟩, .slice (some ⟨w1.heap.size + 1, 0, none⟩) 1 1] 51)) 56 #[.slice (some ⟨w1.heap.size + 1 + 1, 0, none⟩) 1 1, .slice none 0 0, .slice none 0 0]
    rw [hzk] at hbf
    rw [hzf] at hbm
    rw [hzm] at hbs
    have hrow := row_msg _ (w1.heap.size + 1) (w1.heap.size + 1 + 1) (mdL j) (fdL j) rfl ((hbf.alloc (.cells #[.string ⟨#[65]⟩, .slice (some ⟨w1.heap.size + 1, 0, none⟩) 1 1] 51)).alloc (.cells #[.slice (some ⟨w1.heap.size + 1 + 1, 0, none⟩) 1 1, .slice none 0 0, .slice none 0 0] 56)) (hbm.alloc (.cells #[.slice (some ⟨w1.heap.size + 1 + 1, 0, none⟩) 1 1, .slice none 0 0, .slice none 0 0] 56))
    clear hcq hzk hzf hzm hbf hbm
    generalize ((((w1.alloc (.cells #[.int .i64 1, .int .i64 2, .int .i64 3, .int .i64 4] 3)).alloc (.cells #[.int .i64 4, .string ⟨#[108]⟩, .int .i64 ((j : Int) + 1), .bool true, .int .i64 0] 48)).alloc (.cells #[.string ⟨#[65]⟩, .slice (some ⟨w1.heap.size + 1, 0, none⟩) 1 1] 51)).alloc (.cells #[.slice (some ⟨w1.heap.size + 1 + 1, 0, none⟩) 1 1, .slice none 0 0, .slice none 0 0] 56)) = wL at *
    obtain ⟨i0, hi0, hz0, hz1, hz2⟩ := info_parts infoU8
    have hfwL := hf1.trans hfL (fun _ h _ => h)
    go_loopw [45, 9, 10, 11, 12] (fun iv v9 v10 v11 v12 wr => ∃ k : Nat, iv = .int .i64 k ∧ k ≤ ns.length ∧ Fr NoB wL wr ∧
      OwnB wr wL.heap.size [(v9, (ns.take k).flatMap varL), (v12, ((ns.take k).take cut).flatMap varL), (v10, ((ns.take k).drop cut).flatMap varL), (v11, (ns.take k).flatMap one8)]) (fun iv _ _ _ _ _ => ns.length - (intOf iv).toNat)
    case atStart => exact ⟨0, rfl, by omega, Fr.refl _ _, fun p hp => (by
        have : p = (.slice none 0 0, []) := by simpa using hp
        subst this
        exact World.ownsRow_nil _ _ _ _), by simp [Ap, Value.ownBlock]⟩
    case round =>
      obtain ⟨k, rfl, hk, hf, hown⟩ := hrel
      by_cases hlt : k < ns.length
      · have q1 : (k : Int) < (ns.length : Int) := by omega
        have q0 : (0 : Int) ≤ (k : Int) := by omega
        have hnk := hns _ (List.getElem_mem hlt)
        have htk : ns.take (k + 1) = ns.take k ++ [ns[k]] := List.take_succ_eq_append_getElem hlt
        obtain ⟨b, o, rfl, _, _, hcell⟩ := hr.2 (by omega)
        have hfw := hfwL.trans hf (fun _ h _ => h)
        have cL := hfwL.cell_some (hcell k (.int .u64 (ns[k] : Nat)) (by rw [List.getElem?_map, List.getElem?_eq_getElem hlt]; rfl)) id
        have c0 := hfw.cell_some (hcell k (.int .u64 (ns[k] : Nat)) (by rw [List.getElem?_map, List.getElem?_eq_getElem hlt]; rfl)) id
        generalize ns[k] = n at *
        have HTK := Lib.hid htk
        have CL := Lib.hid cL
        clear cL
        clear htk
        have hVx := Lib.hid (varint_any wL.heap.size none 0 [] n wr (World.ownsRow_nil _ _ _ _) (by simp) hnk hf.size)
        go_wp2_with fail
        refine hVx.out.mono ?_
        rintro e w5 hvr
        obtain ⟨vx, rfl, ownx, hobx, hf5⟩ := hvr.row hf.size
        rw [List.nil_append] at ownx
        have hown5 := hown.fr hf5
        obtain ⟨Ax, cx, rfl, hcx, _, h0x, _⟩ := own_slice ownx
        have hx5 : Bys w5 (fun q => wr.heap.size ≤ q) Ax (varL n) := Bys.of_own _ ownx hobx
        have hlx := varL_le n
        have hl8 := one8_len n
        have hkl : (ns.take k).length ≤ 60 := by rw [List.length_take]; omega
        have hb9 := (flat_len (ns.take k)).2
        have hb12 := (flat_len ((ns.take k).take cut)).2
        have hb10 := (flat_len ((ns.take k).drop cut)).2
        have hb11 := (alone_len (ns.take k)).2
        have hl12 : ((ns.take k).take cut).length ≤ 60 := by rw [List.length_take]; omega
        have hl10 : ((ns.take k).drop cut).length ≤ 60 := by rw [List.length_drop]; omega
        have h9 : (ns.take (k + 1)).flatMap varL = (ns.take k).flatMap varL ++ varL n := by rw [HTK.out, List.flatMap_append]; simp
        have h11 : (ns.take (k + 1)).flatMap one8 = (ns.take k).flatMap one8 ++ one8 n := by rw [HTK.out, List.flatMap_append]; simp
        have hkk : (ns.take k).length = k := by rw [List.length_take]; omega
        have h12 : ((ns.take (k + 1)).take cut).flatMap varL = if k < cut then ((ns.take k).take cut).flatMap varL ++ varL n else ((ns.take k).take cut).flatMap varL := by
          rw [HTK.out]
          split
          · rw [List.take_append, List.flatMap_append, hkk, List.take_of_length_le (l := [n]) (by simp; omega)]
            simp
          · rw [List.take_append_of_le_length (by omega)]
        have h10 : ((ns.take (k + 1)).drop cut).flatMap varL = if k < cut then ((ns.take k).drop cut).flatMap varL else ((ns.take k).drop cut).flatMap varL ++ varL n := by
          rw [HTK.out]
          split
          · rw [List.drop_append, hkk, List.drop_of_length_le (l := [n]) (by simp; omega)]
            simp
          · rw [List.drop_append_of_le_length (by omega), List.flatMap_append]
            simp
        generalize (ns.take k).flatMap varL = L9 at *
        generalize ((ns.take k).take cut).flatMap varL = L12 at *
        generalize ((ns.take k).drop cut).flatMap varL = L10 at *
        generalize (ns.take k).flatMap one8 = L11 at *
        have hf05 := hf.trans hf5 (fun _ h _ => h)
        have hlt9 := fun q (hq : (u9 : Value).ownBlock = some q) => (hown.head.lt q hq).2
        have hge9 := fun q (hq : (u9 : Value).ownBlock = some q) => (hown.head.lt q hq).1
        have ho12 := hown.1 (u12, L12) (by simp)
        have ho10 := hown.1 (u10, L10) (by simp)
        have ho11 := hown.1 (u11, L11) (by simp)
        have hge12 := fun q (hq : (u12 : Value).ownBlock = some q) => (ho12.lt q hq).1
        have hge10 := fun q (hq : (u10 : Value).ownBlock = some q) => (ho10.lt q hq).1
        have hge11 := fun q (hq : (u11 : Value).ownBlock = some q) => (ho11.lt q hq).1
        have HL9 := Lib.hid hlt9
        have HG9 := Lib.hid hge9
        have HG12 := Lib.hid hge12
        have HG10 := Lib.hid hge10
        have HG11 := Lib.hid hge11
        have H9 := Lib.hid h9
        have H11 := Lib.hid h11
        have hb5 := hf05.size
        have HB53 := Lib.hid hb5
        have HF5 := Lib.hid hf05
        have c6 : ∀ w', Fr NoB wr w' → w'.cell? ⟨b, o + k, none⟩ = some (.int .u64 (n : Nat)) := fun w' hf => hf.cell_some c0 id
        have HC := Lib.hid c6
        by_cases hkc : k < cut
        · rw [if_pos hkc] at h12 h10
          have H12 := Lib.hid h12
          have H10 := Lib.hid h10
          have hkc' : (k : Int) < (cut : Int) := by omega
          clear h9 h11 h12 h10 hlt9 hge9 hge12 hge10 hge11 c6 hvr
          go_wp2_with (first | (at_builtin; refine wpList_app _ rfl (.tmp 53) (.tmp 54) 57 rfl wL.heap.size 5 i0 _ 1 1 Tryd.underlying57 hi0 hz0 hz1 hz2 rfl (by omega) u9 L9.length (L9.map ub) rfl hown5.head _ Ax (varL n).length cx h0x ((varL n).map ub) rfl hx5 (ub_one _) (by simp only [maxLen]; omega) (by omega) HB53.out ?_; intro v9 w6 own9 hg6 hat6; have hown6 := (hown5.app hg6 (own_cast H9.out own9) hat6); have hT6 := Fr.of_grown (S := fun q => (u9 : Value).ownBlock = some q) hg6 (fun _ hk _ => hk); have hx6 := Rd.fr hx5 hT6 (fun q hq _ e => absurd (HL9.out q e) (Nat.not_lt.2 hq)); have hf6 := hf05.trans hT6 (fun q hq hl => absurd hl (Nat.not_lt.2 (HG9.out q hq))); have hb6 := hf6.size; have hownp := hown6.perm (List.Perm.swap (u12, L12) _ _); have HB60 := Lib.hid hb6; have HB63 := Lib.hid hb6) | (at_builtin; refine wpList_app _ rfl (.tmp 60) (.tmp 61) 57 rfl wL.heap.size 5 i0 _ 1 1 Tryd.underlying57 hi0 hz0 hz1 hz2 rfl (by omega) u12 L12.length (L12.map ub) rfl hownp.head _ Ax (varL n).length cx h0x ((varL n).map ub) rfl hx6 (ub_one _) (by simp only [maxLen]; omega) (by omega) HB60.out ?_; intro vn w7 ownn hg7 hat7; have hown7 := (hownp.app hg7 (own_cast H12.out ownn) hat7); have hT7 := Fr.of_grown (S := fun q => (u12 : Value).ownBlock = some q) hg7 (fun _ hk _ => hk); have hf7 := hf6.trans hT7 (fun q hq hl => absurd hl (Nat.not_lt.2 (HG12.out q hq))); have c7 := hf7.cell_some CL.out id))
          refine (bytes_one8 n w7 hnk).mono ?_
          rintro e w8 ⟨v8, rfl, own8, hf8⟩
          obtain ⟨A8, c8, rfl, _, _, h08, _⟩ := own_slice own8
          have hf78 := hf7.trans hf8 (fun _ h _ => h)
          have hownq : OwnB w8 wL.heap.size [(u11, L11), (vn, ((ns.take (k + 1)).take cut).flatMap varL), (v9, (ns.take (k + 1)).flatMap varL), (u10, L10)] := (hown7.fr hf8).perm (List.perm_append_comm (l₁ := [_, _, _]) (l₂ := [_]))
          have hx8 : Bys w8 (fun q => w7.heap.size ≤ q) A8 (one8 n) := Bys.of_own _ own8 (fun q hq => (own8.lt q hq).1)
          have hb8 := hf78.size
          have HB66 := Lib.hid hb8
          have hbn11 := hb11
          go_wp2_with (at_builtin; refine wpList_app _ rfl (.tmp 66) (.tmp 72) 57 rfl wL.heap.size 5 i0 _ 1 1 Tryd.underlying57 hi0 hz0 hz1 hz2 rfl (by omega) u11 L11.length (L11.map ub) rfl hownq.head _ A8 (one8 n).length c8 h08 ((one8 n).map ub) rfl hx8 (ub_one _) (by simp only [maxLen]; omega) (by omega) HB66.out ?_; intro vm w9 ownm hg9 hat9)
          have hT9 := Fr.of_grown (S := fun q => (u11 : Value).ownBlock = some q) hg9 (fun _ hk _ => hk)
          have hf9 := hf78.trans hT9 (fun q hq hl => absurd hl (Nat.not_lt.2 (HG11.out q hq)))
          have hown9 : OwnB w9 wL.heap.size [(v9, (ns.take (k + 1)).flatMap varL), (vn, ((ns.take (k + 1)).take cut).flatMap varL), (u10, L10), (vm, (ns.take (k + 1)).flatMap one8)] := (hownq.app hg9 (own_cast H11.out ownm) hat9).perm ((List.perm_append_comm (l₁ := [_]) (l₂ := [_, _, _])).trans (List.Perm.swap _ _ _))
          have hown9' := hown9
          rw [show L10 = ((ns.take (k + 1)).drop cut).flatMap varL from H10.out.symm] at hown9'
          go_roundw
          case rel => exact ⟨k + 1, by go_num, by omega, hf9, hown9'⟩
          case measure => simp [intOf]; omega
        · rw [if_neg hkc] at h12 h10
          have H12 := Lib.hid h12
          have H10 := Lib.hid h10
          have hkc' : ¬ (k : Int) < (cut : Int) := by omega
          clear h9 h11 h12 h10 hlt9 hge9 hge12 hge10 hge11 c6 hvr
          go_wp2_with (first | (at_builtin; refine wpList_app _ rfl (.tmp 53) (.tmp 54) 57 rfl wL.heap.size 5 i0 _ 1 1 Tryd.underlying57 hi0 hz0 hz1 hz2 rfl (by omega) u9 L9.length (L9.map ub) rfl hown5.head _ Ax (varL n).length cx h0x ((varL n).map ub) rfl hx5 (ub_one _) (by simp only [maxLen]; omega) (by omega) HB53.out ?_; intro v9 w6 own9 hg6 hat6; have hown6 := (hown5.app hg6 (own_cast H9.out own9) hat6); have hT6 := Fr.of_grown (S := fun q => (u9 : Value).ownBlock = some q) hg6 (fun _ hk _ => hk); have hx6 := Rd.fr hx5 hT6 (fun q hq _ e => absurd (HL9.out q e) (Nat.not_lt.2 hq)); have hf6 := hf05.trans hT6 (fun q hq hl => absurd hl (Nat.not_lt.2 (HG9.out q hq))); have hb6 := hf6.size; have hownp : OwnB w6 wL.heap.size [(u10, L10), (v9, (ns.take (k + 1)).flatMap varL), (u12, L12), (u11, L11)] := hown6.perm ((List.perm_append_comm (l₁ := [_, _]) (l₂ := [_])).append_right [_]); have HB60 := Lib.hid hb6; have HB63 := Lib.hid hb6) | (at_builtin; refine wpList_app _ rfl (.tmp 63) (.tmp 64) 57 rfl wL.heap.size 5 i0 _ 1 1 Tryd.underlying57 hi0 hz0 hz1 hz2 rfl (by omega) u10 L10.length (L10.map ub) rfl hownp.head _ Ax (varL n).length cx h0x ((varL n).map ub) rfl hx6 (ub_one _) (by simp only [maxLen]; omega) (by omega) HB63.out ?_; intro vn w7 ownn hg7 hat7; have hown7 := (hownp.app hg7 (own_cast H10.out ownn) hat7); have hT7 := Fr.of_grown (S := fun q => (u10 : Value).ownBlock = some q) hg7 (fun _ hk _ => hk); have hf7 := hf6.trans hT7 (fun q hq hl => absurd hl (Nat.not_lt.2 (HG10.out q hq))); have c7 := hf7.cell_some CL.out id))
          refine (bytes_one8 n w7 hnk).mono ?_
          rintro e w8 ⟨v8, rfl, own8, hf8⟩
          obtain ⟨A8, c8, rfl, _, _, h08, _⟩ := own_slice own8
          have hf78 := hf7.trans hf8 (fun _ h _ => h)
          have hownq : OwnB w8 wL.heap.size [(u11, L11), (vn, ((ns.take (k + 1)).drop cut).flatMap varL), (v9, (ns.take (k + 1)).flatMap varL), (u12, L12)] := (hown7.fr hf8).perm (List.perm_append_comm (l₁ := [_, _, _]) (l₂ := [_]))
          have hx8 : Bys w8 (fun q => w7.heap.size ≤ q) A8 (one8 n) := Bys.of_own _ own8 (fun q hq => (own8.lt q hq).1)
          have hb8 := hf78.size
          have HB66 := Lib.hid hb8
          have hbn11 := hb11
          go_wp2_with (at_builtin; refine wpList_app _ rfl (.tmp 66) (.tmp 72) 57 rfl wL.heap.size 5 i0 _ 1 1 Tryd.underlying57 hi0 hz0 hz1 hz2 rfl (by omega) u11 L11.length (L11.map ub) rfl hownq.head _ A8 (one8 n).length c8 h08 ((one8 n).map ub) rfl hx8 (ub_one _) (by simp only [maxLen]; omega) (by omega) HB66.out ?_; intro vm w9 ownm hg9 hat9)
          have hT9 := Fr.of_grown (S := fun q => (u11 : Value).ownBlock = some q) hg9 (fun _ hk _ => hk)
          have hf9 := hf78.trans hT9 (fun q hq hl => absurd hl (Nat.not_lt.2 (HG11.out q hq)))
          have hown9 : OwnB w9 wL.heap.size [(v9, (ns.take (k + 1)).flatMap varL), (u12, L12), (vn, ((ns.take (k + 1)).drop cut).flatMap varL), (vm, (ns.take (k + 1)).flatMap one8)] := (hownq.app hg9 (own_cast H11.out ownm) hat9).perm ((List.perm_append_comm (l₁ := [_]) (l₂ := [_, _, _])).trans ((List.perm_append_comm (l₁ := [_]) (l₂ := [_, _])).append_right [_]))
          have hown9' := hown9
          rw [show L12 = ((ns.take (k + 1)).take cut).flatMap varL from H12.out.symm] at hown9'
          go_roundw
          case rel => exact ⟨k + 1, by go_num, by omega, hf9, hown9'⟩
          case measure => simp [intOf]; omega
      · have hkk : k = ns.length := by omega
        rw [hkk, List.take_length] at hown
        have q1 : ¬ (k : Int) < (ns.length : Int) := by omega
        have hb9 := (flat_len ns).2
        have hb12 := (flat_len (ns.take cut)).2
        have hb10 := (flat_len (ns.drop cut)).2
        have hb11 := (alone_len ns).2
        have hl12 : (ns.take cut).length ≤ 60 := by rw [List.length_take]; omega
        have hl10 : (ns.drop cut).length ≤ 60 := by rw [List.length_drop]; omega
        have ho9 : wr.ownsRow wL.heap.size 5 1 u9 (ns.flatMap varL).length ((ns.flatMap varL).map ub) := hown.1 (u9, ns.flatMap varL) (by simp)
        have ho12 : wr.ownsRow wL.heap.size 5 1 u12 ((ns.take cut).flatMap varL).length (((ns.take cut).flatMap varL).map ub) := hown.1 (u12, (ns.take cut).flatMap varL) (by simp)
        have ho10 : wr.ownsRow wL.heap.size 5 1 u10 ((ns.drop cut).flatMap varL).length (((ns.drop cut).flatMap varL).map ub) := hown.1 (u10, (ns.drop cut).flatMap varL) (by simp)
        have ho11 : wr.ownsRow wL.heap.size 5 1 u11 (ns.flatMap one8).length ((ns.flatMap one8).map ub) := hown.1 (u11, ns.flatMap one8) (by simp)
        have hsp1 := split_pk (ns.flatMap varL) (by omega)
        have hsp2 := split_pk2 ((ns.take cut).flatMap varL) ((ns.drop cut).flatMap varL) (by omega) (by omega)
        have hsp3 := split_alone ns hns
        have hva1 := vals_pk ns hns
        have hva2 := vals_pk2 (ns.take cut) (ns.drop cut) (fun n hn => hns n (List.mem_of_mem_take hn)) (fun n hn => hns n (List.mem_of_mem_drop hn))
        rw [List.take_append_drop] at hva2
        have hva3 := vals_alone ns
        generalize ns.flatMap one8 = Al at *
        generalize ns.flatMap varL = L1 at *
        generalize (ns.take cut).flatMap varL = F at *
        generalize (ns.drop cut).flatMap varL = T at *
        have hal : Al.length ≤ 1200 := by omega
        have hpL := pk_len L1
        have hpF := pk_len F
        have hpT := pk_len T
        obtain ⟨A9, c9, rfl, _, _, h09, _⟩ := own_slice ho9
        obtain ⟨A12, c12, rfl, _, _, h012, _⟩ := own_slice ho12
        obtain ⟨A10, c10, rfl, _, _, h010, _⟩ := own_slice ho10
        obtain ⟨A11, c11, rfl, hc11, _, h011, _⟩ := own_slice ho11
        have HV1 := Lib.hid hsp1
        have HV2 := Lib.hid hsp2
        have HV3 := Lib.hid hsp3
        have HW1 := Lib.hid hva1
        have HW2 := Lib.hid hva2
        have HW3 := Lib.hid hva3
        clear hsp1 hsp2 hsp3 hva1 hva2 hva3 hkk hown
        go_wp2_with fail
        refine (bytes_pk A9 L1 c9 (fun _ => True) wr h09 (Bys.of_own _ ho9 (fun _ _ => trivial)) (by omega)).mono ?_
        rintro e w3 ⟨vp, rfl, ownp, hf3⟩
        obtain ⟨Ap1, cp, rfl, hcp, _, h0p, _⟩ := own_slice ownp
        go_wp2_with fail
        refine (bytes_pk A12 F c12 (fun _ => True) w3 h012 (Rd.fr (Bys.of_own _ ho12 (fun _ _ => trivial)) hf3 (fun _ _ _ => id)) (by omega)).mono ?_
        rintro e w4 ⟨vq, rfl, ownq, hf4⟩
        obtain ⟨Aq, cq, rfl, hcq, _, h0q, _⟩ := own_slice ownq
        have hf34 := hf3.trans hf4 (fun _ h _ => h)
        go_wp2_with fail
        refine (bytes_pk A10 T c10 (fun _ => True) w4 h010 (Rd.fr (Bys.of_own _ ho10 (fun _ _ => trivial)) hf34 (fun _ _ _ => id)) (by omega)).mono ?_
        rintro e w5 ⟨vr, rfl, ownr, hf5⟩
        obtain ⟨Ar, cr, rfl, hcr, _, h0r, _⟩ := own_slice ownr
        have hf35 := hf34.trans hf5 (fun _ h _ => h)
        have hxr : Bys w5 (fun q => w4.heap.size ≤ q) Ar (pk T) := Bys.of_own _ ownr (fun q hq => (ownr.lt q hq).1)
        have hb5 := (hf4.trans hf5 (fun _ h _ => h)).size
        have HB5 := Lib.hid hb5
        go_wp2_with (at_builtin; refine wpList_app _ rfl (.tmp 80) (.tmp 83) 57 rfl w3.heap.size 5 i0 _ 1 1 Tryd.underlying57 hi0 hz0 hz1 hz2 rfl (by omega) (.slice Aq (pk F).length cq) (pk F).length ((pk F).map ub) rfl (own_fr ownq hf5 (fun _ _ => id)) _ Ar (pk T).length cr h0r ((pk T).map ub) rfl hxr (ub_one _) (by simp only [maxLen]; omega) (by omega) HB5.out ?_; intro vs w6 owns hg6 hat6; have hT6 := Fr.of_grown (S := fun q => (Value.slice Aq (pk F).length cq).ownBlock = some q) hg6 (fun _ hk _ => hk); have hf6 := hf35.trans hT6 (fun q hq hl => absurd hl (Nat.not_lt.2 (Nat.le_trans hf3.size (ownq.lt q hq).1))); have hbs6 := (hbs.fr hf id).fr hf6 id; have s0 := hbs6.cell 0; have s1 := hbs6.cell 1; have s2 := hbs6.cell 2; simp at s0 s1 s2)
        have hfw6 := (hfwL.trans hf (fun _ h _ => h)).trans hf6 (fun _ h _ => h)
        have hD := fun (l : List UInt8) (A : Option Addr) (c : Nat) (ok : Nat → Prop) (w' : World) (hw : Fr NoB w6 w') (hA : A = none → c = 0) (hc : l.length ≤ c) (hb : Bys w' ok A l) (hn : l.length ≤ 4096) (r : List (WF × List UInt8)) (h : splitP l.length l = some r) (hrl : r.length ≤ 60)
            (hkn : ∀ p ∈ r, p.1.n = 4 ∧ (p.1.t = 0 ∨ p.1.t = 2) ∧ p.1.d.length ≤ 1000) (hvs : valsP (r.map (·.1)) = some ns) => law_dec j ns (some ⟨w1.heap.size + 1 + 1, 0, none⟩) A c l ok w' (hml.new (hfw6.trans hw (fun _ h _ => h))) hj4 (hrow.mv (Mv.new ((hf.trans hf6 (fun _ h _ => h)).trans hw (fun _ h _ => h))) (fun _ _ _ h => h.new ((hf.trans hf6 (fun _ h _ => h)).trans hw (fun _ h _ => h)))) hA hc hb hn r h hrl hkn hvs (by omega) hns
        have HD := Lib.hid hD
        clear hD s0 s1 s2
        have hbL : Bys w6 (fun _ => True) Ap1 (pk L1) := Rd.fr (Rd.fr (Bys.of_own (fun q => q < w3.heap.size) ownp (fun q hq => (ownp.lt q hq).2)) (hf4.trans hf5 (fun _ h _ => h)) (fun _ _ _ => id)) hT6 (fun q hq _ e => absurd hq (Nat.not_lt.2 (ownq.lt q e).1)) |>.mono (fun _ _ _ => trivial)
        refine (HD.out (pk L1) Ap1 cp _ w6 (Fr.refl _ _) h0p hcp hbL (by omega) _ HV1.out (by simp) (fun p hp => by rw [List.mem_singleton.1 hp]; exact ⟨rfl, .inr rfl, by show L1.length ≤ 1000; omega⟩) HW1.out).mono ?_
        rintro e w7 ⟨va, rfl, hva, hf7⟩
        have hbs7 := hbs6.fr hf7 id
        have s0 := hbs7.cell 0
        have s1 := hbs7.cell 1
        have s2 := hbs7.cell 2
        simp at s0 s1 s2
        have hls : (pk F ++ pk T).length = (pk F).length + (pk T).length := List.length_append
        have owns2 := own_cast (l := pk F ++ pk T) rfl owns
        obtain ⟨As, cs, rfl, hcs, _, h0s, _⟩ := own_slice owns
        rw [← hls] at hcs
        have hbS : Bys w7 (fun _ => True) As (pk F ++ pk T) := Rd.fr (Bys.of_own (fun _ => True) (by rw [hls]; simpa using owns) (fun _ _ => trivial)) hf7 (fun _ _ _ => id)
        have hB := HD.out (pk F ++ pk T) As cs _ w7 hf7 h0s hcs hbS (by omega) _ HV2.out (by simp) (fun p hp => by
          simp only [List.mem_cons, List.not_mem_nil, or_false] at hp
          rcases hp with rfl | rfl
          · exact ⟨rfl, .inr rfl, by show F.length ≤ 1000; omega⟩
          · exact ⟨rfl, .inr rfl, by show T.length ≤ 1000; omega⟩) HW2.out
        rw [hls] at hB
        have HB := Lib.hid hB
        clear hB
        go_wp2_with fail
        refine HB.out.mono ?_
        rintro e w8 ⟨vb, rfl, hvb, hf8⟩
        have hf68 := hf7.trans hf8 (fun _ h _ => h)
        have hbs8 := hbs7.fr hf8 id
        clear s0 s1 s2
        have s0 := hbs8.cell 0
        have s1 := hbs8.cell 1
        have s2 := hbs8.cell 2
        simp at s0 s1 s2
        have hbA : Bys w8 (fun _ => True) A11 Al := Rd.fr (Bys.of_own (fun _ => True) ho11 (fun _ _ => trivial)) (hf6.trans hf68 (fun _ h _ => h)) (fun _ _ _ => id)
        have HB2 := Lib.hid (HD.out Al A11 c11 _ w8 hf68 h011 hc11 hbA (by omega) _ HV3.out (by rw [List.length_map]; omega) (fun p hp => by
          obtain ⟨n, hn, rfl⟩ := List.mem_map.1 hp
          exact ⟨rfl, .inl rfl, Nat.zero_le _⟩) (by rw [List.map_map]; exact HW3.out))
        go_wp2_with fail
        refine HB2.out.mono ?_
        rintro e w9 ⟨vc, rfl, hvc, hf9⟩
        have hf69 := hf68.trans hf9 (fun _ h _ => h)
        have hva9 := (hva.mv (Mv.new hf8)).mv (Mv.new hf9)
        have hvb9 := hvb.mv (Mv.new hf9)
        have hS1 := Lib.hid (same_msg (fdL j) ns va vb _ _ w9 (by omega) hva9 hvb9)
        go_wp2_with fail
        refine hS1.out.mono ?_
        rintro e w10 ⟨rfl, hf10⟩
        have hS2 := Lib.hid (same_msg (fdL j) ns vb vc _ _ w10 (by omega) (hvb9.mv (Mv.new hf10)) (hvc.mv (Mv.new hf10)))
        go_wp2_with fail
        refine hS2.out.mono ?_
        rintro e w11 ⟨rfl, hf11⟩
        have hf911 := hf10.trans hf11 (fun _ h _ => h)
        have hG := Lib.hid (get_any 1 (msgTree (fdL j) ns) va 4 _ w11 (hva9.mv (Mv.new hf911)) (fine_msg (fdL j) ns (by omega)))
        go_wp2_with fail
        refine hG.out.mono ?_
        rintro e w12 ⟨Ag, cg, rfl, _, hf12⟩
        rw [getF_msg j ns]
        go_wp2_with fail
        go_ret
        exact ⟨by simp, ((hfw6.trans hf69 (fun _ h _ => h)).trans hf911 (fun _ h _ => h)).trans hf12 (fun _ h _ => h)⟩
end Go.Proofs.YtcfmcgkngjpdbaaDoor
