import Derived.Test.YtdfdmjnhekdpjaaT11
import Derived.Test.YtdfdmjnhekdpjaaF5
import Derived.Test.YtdfdmjnhekdpjaaP1
namespace Go.Proofs.Ytdfdmjnhekdpjaa
set_option linter.unusedVariables false
set_option linter.unusedSimpArgs false
open Go.RowKit Go.Proofs.YtdfdmjnhekdpjaaW.PrintWords Go.Proofs.YtdfdmjnhekdpjaaW.PrintMore PNetPlays

/-- The bytes' numbers. -/
def num8 : Value → Int
  | .int _ k => k
  | _ => 0
def Pk.s60 (p : Pk) : S60 := ⟨p.n, p.f, p.t, p.bs.map num8⟩
def Pk.s63 (p : Pk) : S63 := ⟨p.n, p.f, p.t, p.bs.map num8⟩

theorem map_num8 {bs : List Value} (h : ∀ u ∈ bs, ∃ k : Int, u = .int .u8 k) : (bs.map num8).map (Value.int .u8) = bs := by
  rw [List.map_map]
  conv => rhs; rw [← List.map_id bs]
  exact List.map_congr_left (fun u hu => by obtain ⟨k, rfl⟩ := h u hu; rfl)

theorem C_of_rd {ok : Nat → Prop} {w : World} {A : Option Addr} {n : Nat} {bs : List Value} (h : Rd w ok 1 A n bs) (h8 : ∀ u ∈ bs, ∃ k : Int, u = .int .u8 k) (hn : n ≤ 9223372036854775807) : (Kd.int .u8).C w A n (bs.map num8) := by
  refine ⟨by rw [List.length_map]; simpa using h.1, hn, fun h0 => ?_⟩
  obtain ⟨b, o, e, _, _, hc⟩ := h.2 h0
  refine ⟨_, e, fun j p hj => ?_⟩
  rw [List.getElem?_map] at hj
  obtain ⟨u, hu, rfl⟩ := Option.map_eq_some_iff.1 hj
  obtain ⟨k, rfl⟩ := h8 u (List.mem_of_getElem? hu)
  refine ⟨[.int .u8 k], rfl, rfl, fun i v hv => ?_⟩
  rcases i with _ | i
  · have : v = .int .u8 k := by simpa using hv.symm
    subst this
    rw [add_plain']
    simpa [Kd.int, Kd.scalar] using hc j _ hu
  · simp at hv

theorem rd_of_C {w : World} {A : Option Addr} {n : Nat} {xs : List Int} (h : (Kd.int .u8).C w A n xs) : Rd w (fun k => k < w.heap.size) 1 A n (xs.map (Value.int .u8)) := by
  obtain ⟨h1, h2, h3⟩ := h
  refine ⟨by rw [List.length_map, h1]; omega, fun h0 => ?_⟩
  obtain ⟨⟨b, o, s⟩, e, hc⟩ := h3 h0
  have hs : s = none := by
    obtain ⟨x, hx⟩ : ∃ x, xs[0]? = some x := ⟨_, List.getElem?_eq_getElem (by omega)⟩
    obtain ⟨c, _, hK, hcc⟩ := hc 0 x hx
    have hK : c = [.int .u8 x] := hK
    subst hK
    have := hcc 0 _ rfl
    simp only [Nat.zero_mul, Nat.add_zero, Addr.add, if_pos] at this
    unfold World.cell? at this
    split at this
    · cases s with
      | none => rfl
      | some s => simp at this
    · cases this
  subst hs
  have hcell : ∀ j u, (xs.map (Value.int .u8))[j]? = some u → w.cell? ⟨b, o + j, none⟩ = some u := by
    intro j u hu
    rw [List.getElem?_map] at hu
    obtain ⟨k, hk, rfl⟩ := Option.map_eq_some_iff.1 hu
    obtain ⟨c, _, hK, hcc⟩ := hc j k hk
    have hK : c = [.int .u8 k] := hK
    subst hK
    have := hcc 0 _ rfl
    rw [add_plain'] at this
    simpa [Kd.int, Kd.scalar] using this
  obtain ⟨u, hu⟩ : ∃ u, (xs.map (Value.int .u8))[0]? = some u := ⟨_, List.getElem?_eq_getElem (by rw [List.length_map]; omega)⟩
  have hl := World.block_lt_of_cell? w _ (hcell 0 u hu)
  exact ⟨b, o, e, hl, hl, hcell⟩

theorem flat_at (ps : List Pk) (j : Nat) (p : Pk) (h : ps[j]? = some p) (i : Nat) (u : Value) (hu : p.cells[i]? = some u) : (flat ps)[j * 4 + i]? = some u := by
  induction ps generalizing j with
  | nil => simp at h
  | cons q r ih =>
    have hi : i < 4 := by
      have := (List.getElem?_eq_some_iff.1 hu).1
      simpa [Pk.cells] using this
    have hq : q.cells.length = 4 := rfl
    show (q.cells ++ flat r)[_]? = _
    rcases j with _ | j
    · obtain rfl : q = p := by simpa using h
      rw [List.getElem?_append_left (by omega)]
      simpa using hu
    · rw [List.getElem?_append_right (by omega), show (j + 1) * 4 + i - q.cells.length = j * 4 + i by omega]
      exact ih j (by simpa using h)

theorem row_of_rd {α : Type} {d : Kd α} (enc : Pk → α) (hd : d.sz = 4) {ok : Nat → Prop} {w : World} {A : Option Addr} {ps : List Pk} (h : Rd w ok 4 A ps.length (flat ps)) (hl : ps.length ≤ 9223372036854775807)
    (hp : ∀ p ∈ ps, d.K w (enc p) p.cells) : d.C w A ps.length (ps.map enc) := by
  refine ⟨by rw [List.length_map], hl, fun h0 => ?_⟩
  obtain ⟨b, o, e, _, _, hc⟩ := h.2 h0
  refine ⟨_, e, fun j x hj => ?_⟩
  rw [List.getElem?_map] at hj
  obtain ⟨p, hpj, rfl⟩ := Option.map_eq_some_iff.1 hj
  refine ⟨p.cells, by rw [hd]; rfl, hp p (List.mem_of_getElem? hpj), fun i u hu => ?_⟩
  rw [add_plain', hd]
  exact hc _ u (flat_at ps j p hpj i u hu)

/-- Every elder block is as it was. -/
def Same (w w' : World) : Prop := ∀ k, k < w.heap.size → w'.heap[k]? = w.heap[k]?
theorem Rd.same {w w' : World} {ok : Nat → Prop} {size n : Nat} {A : Option Addr} {xs : List Value} (h : Rd w ok size A n xs) (hs : Same w w') : Rd w' ok size A n xs :=
  ⟨h.1, fun h0 => by
    obtain ⟨b, o, e, hb, hl, hc⟩ := h.2 h0
    exact ⟨b, o, e, hb, heap_lt (hs b hl) hl, fun j u hu => (World.cell?_of_block (a := ⟨b, o + j, none⟩) (hs b hl)).trans (hc j u hu)⟩⟩

/-- A packet whose bytes can be read in w. -/
def PkRd (w : World) (p : Pk) : Prop := ∃ A c, p.v = .slice A p.bs.length c ∧ p.bs.length ≤ c ∧ Rd w (fun _ => True) 1 A p.bs.length p.bs ∧ (∀ u ∈ p.bs, ∃ k : Int, u = .int .u8 k) ∧ p.bs.length ≤ 20000
theorem PkRd.same {w w' : World} {p : Pk} (h : PkRd w p) (hs : Same w w') : PkRd w' p := by
  obtain ⟨A, c, h1, h2, h3, h4⟩ := h
  exact ⟨A, c, h1, h2, h3.same hs, h4⟩
theorem PkRd.of_own {w : World} {base : Nat} {p : Pk} (h : w.ownsRow base 5 1 p.v p.bs.length p.bs) (h8 : ∀ u ∈ p.bs, ∃ k : Int, u = .int .u8 k) (hl : p.bs.length ≤ 20000) : PkRd w p := by
  obtain ⟨A, c, hv, hn, _⟩ := own_slice h
  exact ⟨A, c, hv, hn, Rd.of_own (hv ▸ h) (fun _ _ => trivial), h8, hl⟩
theorem PkOk.rd {w : World} {p : Pk} (h : PkOk w p) : PkRd w p := PkRd.of_own h.1 h.2.1 h.2.2
theorem PkRd.k60 {w : World} {p : Pk} (h : PkRd w p) : k60.K w p.s60 p.cells := by
  obtain ⟨A, c, h1, h2, h3, h4, h5⟩ := h
  have hn : p.s60.f3.length = p.bs.length := by simp [Pk.s60]
  have := k60_mk w p.s60 (A3 := A) (c3 := c) (by rw [hn]; exact h2) (by rw [hn]; exact C_of_rd h3 h4 (by omega))
  rw [hn] at this
  unfold Pk.cells
  rw [h1]
  exact this
theorem PkRd.k63 {w : World} {p : Pk} (h : PkRd w p) : k63.K w p.s63 p.cells := by
  obtain ⟨A, c, h1, h2, h3, h4, h5⟩ := h
  have hn : p.s63.f3.length = p.bs.length := by simp [Pk.s63]
  have := k63_mk w p.s63 (A3 := A) (c3 := c) (by rw [hn]; exact h2) (by rw [hn]; exact C_of_rd h3 h4 (by omega))
  rw [hn] at this
  unfold Pk.cells
  rw [h1]
  exact this
theorem C60 {ok : Nat → Prop} {w : World} {A : Option Addr} {ps : List Pk} (h : Rd w ok 4 A ps.length (flat ps)) (hl : ps.length ≤ 200) (hp : ∀ p ∈ ps, PkRd w p) : Kd.C k60 w A ps.length (ps.map Pk.s60) :=
  row_of_rd Pk.s60 rfl h (by omega) (fun p hq => (hp p hq).k60)
theorem C63 {ok : Nat → Prop} {w : World} {A : Option Addr} {ps : List Pk} (h : Rd w ok 4 A ps.length (flat ps)) (hl : ps.length ≤ 200) (hp : ∀ p ∈ ps, PkRd w p) : Kd.C k63 w A ps.length (ps.map Pk.s63) :=
  row_of_rd Pk.s63 rfl h (by omega) (fun p hq => (hp p hq).k63)
theorem V60 {ok : Nat → Prop} {w : World} {base c : Nat} {A : Option Addr} {ps : List Pk} (h : Rd w ok 4 A ps.length (flat ps)) (hl : ps.length ≤ 200) (hc : ps.length ≤ c) (hp : ∀ p ∈ ps, PkRd w p) :
    Kd.V k60 60 w base (fun _ => True) (.slice A ps.length c) (ps.map Pk.s60) := by
  have hn : (ps.map Pk.s60).length = ps.length := List.length_map ..
  have := Kd.V_mk (d := k60) (e := 60) (W := w) (base := base) (ok := fun _ => True) (A := A) (c := c) (xs := ps.map Pk.s60) (by rw [hn]; exact hc)
    (by rw [hn]; exact fun W' hW => C60 (h.same (fun k hk => hW k trivial hk)) hl (fun p hq => (hp p hq).same (fun k hk => hW k trivial hk)))
  rw [hn] at this
  exact this

/-- The ref net's line, read. -/
theorem FNet.c63 {w : World} {S : Nat → Prop} {bw : Nat} {line : Value} {ps : List Pk} {last : Int} (h : FNet w S bw line ps last) : ∃ A c, line = .slice A ps.length c ∧ ps.length ≤ c ∧ Kd.C k63 w A ps.length (ps.map Pk.s63) := by
  obtain ⟨A, c, hv, hn, _⟩ := own_slice h.own
  exact ⟨A, c, hv, hn, C63 (ok := fun _ => True) (Rd.of_own (hv ▸ h.own) (fun _ _ => trivial)) h.few (fun p hp => (h.pk p hp).rd)⟩

theorem s63_of_key {p q : Pk} (h1 : q.n = p.n) (h2 : q.f = p.f) (h3 : q.t = p.t) (h4 : q.bs = p.bs) : q.s63 = p.s63 := by simp [Pk.s63, h1, h2, h3, h4]

/-- Packets of a list of packets, over and over: itself. -/
theorem packets_l0 (l : List S60) : ∀ (k : Nat) (i : Nat) (acc : List S63), i ≤ l.length → l.length - i < k → l.length ≤ 200 → acc.length = i →
    courierlaw18_Packets.l0 k l acc l.length i = some (acc ++ (l.drop i).map (fun x => (⟨x.f0, x.f1, x.f2, x.f3⟩ : S63)))
  | 0, i, acc, hi, hk, hl, ha => by omega
  | k + 1, i, acc, hi, hk, hl, ha => by
    unfold courierlaw18_Packets.l0
    by_cases h : i < l.length
    · have e1 : wrap64 ((i : Int) + 1) = ((i + 1 : Nat) : Int) := by unfold wrap64; omega
      have hd : l.drop i = l[i] :: l.drop (i + 1) := List.drop_eq_getElem_cons h
      have hr : rd_T60 l i = l[i] := by simp [rd_T60, List.getD, List.getElem?_eq_getElem h]
      rw [if_pos (by omega), if_pos (by omega), if_pos (by omega), if_pos (by omega), e1, packets_l0 l k (i + 1) _ (by omega) (by omega) hl (by simp [ha]), hd, hr, List.map_cons, List.append_assoc, List.singleton_append]
    · have : i = l.length := by omega
      subst this
      rw [if_neg (by omega)]
      simp
theorem packets_f (l : List S60) (hl : l.length ≤ 200) : courierlaw18_Packets.f 300 l = some (l.map (fun x => (⟨x.f0, x.f1, x.f2, x.f3⟩ : S63))) := by
  unfold courierlaw18_Packets.f
  have := packets_l0 l 300 0 [] (by omega) (by omega) hl rfl
  simpa using this
theorem s60_s63 (ps : List Pk) : (ps.map Pk.s60).map (fun x => (⟨x.f0, x.f1, x.f2, x.f3⟩ : S63)) = ps.map Pk.s63 := by
  rw [List.map_map]; rfl

/-- Packets over packets that can be read. -/
theorem packets_any (w : World) (ok : Nat → Prop) (A : Option Addr) (c : Nat) (ps : List Pk) (h : Rd w ok 4 A ps.length (flat ps)) (hl : ps.length ≤ 200) (hc : ps.length ≤ c) (hp : ∀ p ∈ ps, PkRd w p) :
    Calls Try.prog 11 #[.slice A ps.length c] w fun e w' => ∃ A' c', e = .returned (.slice A' ps.length c') ∧ ps.length ≤ c' ∧ Kd.C k63 w' A' ps.length (ps.map Pk.s63) ∧ Fr NoB w w' := by
  have hn : (ps.map Pk.s60).length = ps.length := List.length_map ..
  have hn3 : (ps.map Pk.s63).length = ps.length := List.length_map ..
  have := courierlaw18_Packets.calls 300 (fun _ => True) A c (ps.map Pk.s60) (ps.map Pk.s63) w (by rw [hn]; exact V60 h hl hc hp) (by rw [packets_f _ (by rw [hn]; exact hl), s60_s63])
  rw [hn] at this
  refine this.mono (fun e w' ⟨v, he, hN, hB⟩ => ?_)
  obtain ⟨A', c', rfl⟩ := Kd.N_slice hN
  obtain ⟨_, h2, h3⟩ := Kd.N_reads' hN
  rw [hn3] at h2 h3 he
  exact ⟨A', c', he, h2, h3, Fr.of_below hB _⟩
end Go.Proofs.Ytdfdmjnhekdpjaa
