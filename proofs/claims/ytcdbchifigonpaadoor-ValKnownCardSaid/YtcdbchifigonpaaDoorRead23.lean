/- Walks: the reader's value: all that holds no values, joined. · Rows of values of the call's own, each in blocks of its own. -/
import Derived.Test.YtcdbchifigonpaaDoorRead1
namespace Go.Proofs.YtcdbchifigonpaaDoor
open Go.RowKit Go.Shelf

theorem value_flat (above pb : Nat) (x : UInt8) (bs : List UInt8) (w : World) (h7 : x.toNat ≠ 7) (h8 : x.toNat ≠ 8) (hT : Tabs w) (hp : 1 < pb) (h : Rd w pb (x :: bs)) :
    Calls Tryd.prog 63 #[.pointer (some ⟨pb, 0, none⟩), .int .i64 above] w (ValC w pb (rdFlat x.toNat bs)) := by
  unfold rdFlat
  by_cases k1 : x.toNat = 1
  · rw [if_pos k1]; exact value_1 above pb x k1 bs w h
  rw [if_neg k1]
  by_cases k2 : x.toNat = 2
  · rw [if_pos k2]
    cases bs with
    | nil => exact value_2a above pb x k2 [] w rfl h
    | cons y r =>
      by_cases hy : y.toNat ≤ 1
      · simp only [if_pos hy]; exact value_2b above pb x k2 (y :: r) w y r rfl hy h
      · simp only [if_neg hy]; exact value_2c above pb x k2 (y :: r) w y r rfl (by omega) h
  rw [if_neg k2]
  by_cases k3 : x.toNat = 3 ∨ x.toNat = 4
  · rw [if_pos k3]
    by_cases hl : 8 ≤ bs.length
    · rw [if_pos hl]
      rcases k3 with k | k
      · rw [k]; exact value_3b above pb x k bs w hl h
      · rw [k]; exact value_4b above pb x k bs w hl h
    · rw [if_neg hl]
      rcases k3 with k | k
      · exact value_3a above pb x k bs w (by omega) h
      · exact value_4a above pb x k bs w (by omega) h
  rw [if_neg k3]
  by_cases k5 : x.toNat = 5 ∨ x.toNat = 6
  · rw [if_pos k5]
    by_cases hl : 2 ≤ bs.length
    · rw [if_pos hl]
      by_cases hm : le (bs.take 2) ≤ (bs.drop 2).length
      · rw [if_pos hm]
        rcases k5 with k | k
        · by_cases hu : Lib.validD ((bs.drop 2).take (le (bs.take 2))) = true
          · rw [if_pos (Or.inr hu), k]; exact value_5c above pb x k bs w hT hp hu hl hm h
          · rw [if_neg (by rw [k]; simpa using hu)]; exact value_5d above pb x k bs w hT hp (by simpa using hu) hl hm h
        · rw [if_pos (Or.inl k), k]; exact value_6c above pb x k bs w hl hm h
      · rw [if_neg hm]
        rcases k5 with k | k
        · exact value_5b above pb x k bs w hl (by omega) h
        · exact value_6b above pb x k bs w hl (by omega) h
    · rw [if_neg hl]
      rcases k5 with k | k
      · exact value_5a above pb x k bs w (by omega) h
      · exact value_6a above pb x k bs w (by omega) h
  rw [if_neg k5]
  by_cases k0 : x.toNat < 1
  · exact value_low above pb x k0 bs w h
  · exact value_high above pb x (by omega) bs w h
end Go.Proofs.YtcdbchifigonpaaDoor

set_option linter.unusedVariables false
set_option linter.unusedSimpArgs false
namespace Go.Proofs.YtcdbchifigonpaaDoor
open Go.RowKit Go.Shelf

/-- The reader's value reads as f, so deep. -/
def ValF (f : List UInt8 → Got) (above pb : Nat) : Prop := ∀ (w : World) (bs : List UInt8), Tabs w → Rd w pb bs →
  Calls Tryd.prog 63 #[.pointer (some ⟨pb, 0, none⟩), .int .i64 above] w (ValC w pb (f bs))

theorem info_val3 : (Tryd.prog.info? 37).map (fun i => (i.zero, i.size, i.bytes)) = some (some (.agg #[.int .i64 0, .int .u64 0, .slice none 0 0, .slice none 0 0, .slice none 0 0]), 5, 88) := by kernel_rfl
theorem under_vals : Tryd.prog.underlying 27 = some (.slice 37) := by kernel_rfl
theorem make_vals (S : Nat) (hS : S ≤ 64) : ∃ cur : Array Value, cur.size = S * 5 ∧ ∀ w : World, (Instr.makeSlice 27 (.int .i64 0) (.int .i64 (S : Int))).run Tryd.prog w = .ok (.slice (some ⟨w.heap.size, 0, none⟩) 0 S) (w.alloc (.cells cur 37)) := by
  obtain ⟨i0, hi0, hz0, hz1, hz2⟩ := info_parts info_val3
  refine ⟨madeCells (Value.agg #[.int .i64 0, .int .u64 0, .slice none 0 0, .slice none 0 0, .slice none 0 0]).cells (S * i0.size), ?_, fun w => ?_⟩
  · rw [hz1]; simp [madeCells]
  · have h := run_make (P := Tryd.prog) (w := w) 27 37 i0 _ under_vals hi0 hz0 .i64 .i64 0 (S : Int) (by omega) (by omega) (by rw [hz2]; omega) (by omega)
    exact h
theorem info_fld3 : (Tryd.prog.info? 52).map (fun i => (i.zero, i.size, i.bytes)) = some (some (.agg #[.string ⟨#[]⟩, .int .i64 0, .int .u64 0, .slice none 0 0, .slice none 0 0, .slice none 0 0]), 6, 104) := by kernel_rfl
theorem under_flds : Tryd.prog.underlying 35 = some (.slice 52) := by kernel_rfl
theorem make_flds (S : Nat) (hS : S ≤ 64) : ∃ cur : Array Value, cur.size = S * 6 ∧ ∀ w : World, (Instr.makeSlice 35 (.int .i64 0) (.int .i64 (S : Int))).run Tryd.prog w = .ok (.slice (some ⟨w.heap.size, 0, none⟩) 0 S) (w.alloc (.cells cur 52)) := by
  obtain ⟨i0, hi0, hz0, hz1, hz2⟩ := info_parts info_fld3
  refine ⟨madeCells (Value.agg #[.string ⟨#[]⟩, .int .i64 0, .int .u64 0, .slice none 0 0, .slice none 0 0, .slice none 0 0]).cells (S * i0.size), ?_, fun w => ?_⟩
  · rw [hz1]; simp [madeCells]
  · have h := run_make (P := Tryd.prog) (w := w) 35 52 i0 _ under_flds hi0 hz0 .i64 .i64 0 (S : Int) (by omega) (by omega) (by rw [hz2]; omega) (by omega)
    exact h

/-- A part: its name, its value, its cells, and the blocks lo .. hi-1 that it lies in. -/
structure VE where
  s : ByteArray
  v : V
  c : Cv
  lo : Nat
  hi : Nat
/-- What stands ahead of a part's cells: nothing, or the name. -/
abbrev noHead : ByteArray → List Value := fun _ => []
abbrev nameHead : ByteArray → List Value := fun s => [.string s]
/-- The cells of parts in a row. -/
def cellsOf (hd : ByteArray → List Value) (es : List VE) : List Value := (es.map fun x => hd x.s ++ x.c.cells.toList).flatten
theorem cellsOf_snoc (hd : ByteArray → List Value) (es : List VE) (x : VE) : cellsOf hd (es ++ [x]) = cellsOf hd es ++ (hd x.s ++ x.c.cells.toList) := by simp [cellsOf]
theorem cells_len (c : Cv) : c.cells.toList.length = 5 := rfl
theorem cellsOf_get {hd : ByteArray → List Value} {k z : Nat} (hk : ∀ s, (hd s).length = k) (hz : k + 5 = z) : ∀ (es : List VE) (i t : Nat) (hi : i < es.length) (_ht : t < z), (cellsOf hd es)[i * z + t]? = (hd es[i].s ++ es[i].c.cells.toList)[t]? := by
  intro es
  induction es with
  | nil => intro i t hi; simp at hi
  | cons x xs ih =>
    intro i t hi ht
    have e : cellsOf hd (x :: xs) = (hd x.s ++ x.c.cells.toList) ++ cellsOf hd xs := by simp [cellsOf]
    have hl : (hd x.s ++ x.c.cells.toList).length = z := by rw [List.length_append, hk, cells_len]; exact hz
    rw [e]
    cases i with
    | zero => rw [Nat.zero_mul, Nat.zero_add, List.getElem?_append_left (by rw [hl]; exact ht)]; rfl
    | succ i =>
      rw [List.getElem?_append_right (by rw [hl, Nat.succ_mul]; omega), hl, show (i + 1) * z + t - z = i * z + t by rw [Nat.succ_mul]; omega, ih i t (by simpa using hi) ht]
      rfl

/-- A row of parts of the call's own; each lies in blocks of its own, from lo on, behind vb, that are not the row's. -/
structure VRow (w : World) (te : TypeId) (hd : ByteArray → List Value) (z lo vb base : Nat) (v : Value) (es : List VE) : Prop where
  own : w.ownsRow base te z v es.length (cellsOf hd es)
  part : ∀ x ∈ es, lo ≤ x.lo ∧ vb < x.lo ∧ (∀ g, v.ownBlock = some g → ¬ (x.lo ≤ g ∧ g < x.hi)) ∧ InS w x.lo x.hi x.v x.c
  apart : ∀ i j (hi : i < es.length) (hj : j < es.length), i < j → es[i].hi ≤ es[j].lo

theorem VRow.own_lt {W : World} {te : TypeId} {hd : ByteArray → List Value} {z lo vb base : Nat} {v : Value} {es : List VE} (h : VRow W te hd z lo vb base v es) {k : Nat} (hk : v.ownBlock = some k) : base ≤ k ∧ k < W.heap.size := World.ownsRow.lt h.own k hk
theorem VRow.cap {W : World} {te : TypeId} {hd : ByteArray → List Value} {z lo vb base n cap : Nat} {A : Option Addr} {es : List VE} (h : VRow W te hd z lo vb base (.slice A n cap) es) (hn : n = es.length) : n ≤ cap := by
  rcases h.own.2 with ⟨hv, h0⟩ | ⟨g, cap', cur, hv, _, _, hc, _⟩
  · omega
  · injection hv with _ _ e; omega
/-- The row's cells. -/
theorem VRow.cellAt {W : World} {te : TypeId} {hd : ByteArray → List Value} {k z lo vb base n cap : Nat} {A : Option Addr} {es : List VE} (h : VRow W te hd z lo vb base (.slice A n cap) es) (hk : ∀ s, (hd s).length = k) (hz : k + 5 = z) (hn : n = es.length) (i : Nat) (hi : i < es.length) :
    ∃ g, A = some ⟨g, 0, none⟩ ∧ base ≤ g ∧ g < W.heap.size ∧ ∀ t u, t < z → (hd es[i].s ++ es[i].c.cells.toList)[t]? = some u → CF W ⟨g, 0 + i * z + t, none⟩ u := by
  subst hn
  obtain ⟨g, cap', hv, hb, hlt⟩ := World.ownsRow.form h.own (by omega)
  have hA : A = some ⟨g, 0, none⟩ := by injection hv
  subst hA
  refine ⟨g, rfl, hb, hlt, fun t u ht hu => ⟨?_, World.ownsRow.frozenAt h.own _⟩⟩
  have := World.ownsRow.cells h.own (g := g) rfl (i * z + t) u (by rw [cellsOf_get hk hz es i t hi ht]; exact hu)
  rw [add_lit] at this
  rw [← this]
  congr 2
  omega

theorem VRow.isL {W : World} {lo vb base n cap : Nat} {A : Option Addr} {es : List VE} (h : VRow W 37 noHead 5 lo vb base (.slice A n cap) es) (hn : n = es.length) (h1 : lo ≤ base) (h2 : vb < base) (h64 : n ≤ 64) :
    IsS (fun p u => CF W p u ∧ p.block ≠ vb) (.mk 7 0 [] (es.map VE.v) []) ⟨7, 0, none, 0, 0, A, n, cap, none, 0, 0⟩ (fun q => lo ≤ q ∧ q < W.heap.size) := by
  have hcap := h.cap hn
  rw [IsS]
  refine ⟨rfl, rfl, rfl, by rw [List.length_map]; exact hn, rfl, by omega, by omega, by omega, by simp, by simp, by show (es.map VE.v).length ≤ cap; rw [List.length_map]; omega, by rw [List.length_map]; omega, by simp, by simp, ⟨by simp [u8s], fun h => by simp at h⟩,
    ⟨fun i q => ∃ x, es[i]? = some x ∧ x.lo ≤ q ∧ q < x.hi, fun i hi => ?_, fun i j hij hj q hq hq' => ?_⟩, ⟨fun _ _ => False, fun i hi => absurd hi (by simp), fun _ _ _ _ _ h => h.elim⟩⟩
  · rw [List.length_map] at hi
    obtain ⟨g, rfl, hb, hlt, hcell⟩ := h.cellAt (k := 0) (fun _ => rfl) rfl hn i hi
    obtain ⟨p1, p2, p3, p4⟩ := h.part es[i] (List.getElem_mem hi)
    refine ⟨g, 0, es[i].c, rfl, ⟨Nat.le_trans h1 hb, hlt⟩, ?_, ?_, ?_, ?_⟩
    · rintro ⟨x, hx, q⟩
      rw [List.getElem?_eq_getElem hi] at hx
      injection hx with hx
      subst hx
      exact p3 g rfl q
    · rintro q ⟨x, hx, q1, q2⟩
      rw [List.getElem?_eq_getElem hi] at hx
      injection hx with hx
      subst hx
      have := p4.1
      exact ⟨Nat.le_trans p1 q1, by omega⟩
    · exact ⟨⟨hcell 0 _ (by omega) rfl, by show g ≠ vb; omega⟩, ⟨hcell 1 _ (by omega) rfl, by show g ≠ vb; omega⟩, ⟨hcell 2 _ (by omega) rfl, by show g ≠ vb; omega⟩, ⟨hcell 3 _ (by omega) rfl, by show g ≠ vb; omega⟩, ⟨hcell 4 _ (by omega) rfl, by show g ≠ vb; omega⟩⟩
    · rw [List.getElem_map]
      exact IsS.mono _ _ _ _ (fun p u q s => ⟨q, by have := s.1; omega⟩) (fun q s => ⟨_, List.getElem?_eq_getElem hi, s⟩) p4.2
  · rw [List.length_map] at hj
    have hi' : i < es.length := Nat.lt_trans hij hj
    obtain ⟨x, hx, q1, q2⟩ := hq
    obtain ⟨y, hy, q3, q4⟩ := hq'
    rw [List.getElem?_eq_getElem hi'] at hx
    rw [List.getElem?_eq_getElem hj] at hy
    injection hx with hx
    injection hy with hy
    subst hx hy
    have := h.apart i j (by omega) hj hij
    omega

theorem VRow.isF {W : World} {lo vb base n cap : Nat} {A : Option Addr} {es : List VE} (h : VRow W 52 nameHead 6 lo vb base (.slice A n cap) es) (hs : ∀ x ∈ es, x.s.size ≤ 140737488355328) (hn : n = es.length) (h1 : lo ≤ base) (h2 : vb < base) (h64 : n ≤ 64) :
    IsS (fun p u => CF W p u ∧ p.block ≠ vb) (.mk 8 0 [] [] (es.map fun x => (x.s, x.v))) ⟨8, 0, none, 0, 0, none, 0, 0, A, n, cap⟩ (fun q => lo ≤ q ∧ q < W.heap.size) := by
  have hcap := h.cap hn
  rw [IsS]
  refine ⟨rfl, rfl, rfl, rfl, by rw [List.length_map]; exact hn, by omega, by omega, by omega, by simp, by simp, by simp, by simp, by show (es.map fun x => (x.s, x.v)).length ≤ cap; rw [List.length_map]; omega, by rw [List.length_map]; omega, ⟨by simp [u8s], fun h => by simp at h⟩,
    ⟨fun _ _ => False, fun i hi => absurd hi (by simp), fun _ _ _ _ _ h => h.elim⟩, ⟨fun i q => ∃ x, es[i]? = some x ∧ x.lo ≤ q ∧ q < x.hi, fun i hi => ?_, fun i j hij hj q hq hq' => ?_⟩⟩
  · rw [List.length_map] at hi
    obtain ⟨g, rfl, hb, hlt, hcell⟩ := h.cellAt (k := 1) (fun _ => rfl) rfl hn i hi
    obtain ⟨p1, p2, p3, p4⟩ := h.part es[i] (List.getElem_mem hi)
    refine ⟨g, 0, es[i].c, rfl, ⟨Nat.le_trans h1 hb, hlt⟩, ?_, ?_, ?_, ?_, ?_, ?_⟩
    · rintro ⟨x, hx, q⟩
      rw [List.getElem?_eq_getElem hi] at hx
      injection hx with hx
      subst hx
      exact p3 g rfl q
    · rintro q ⟨x, hx, q1, q2⟩
      rw [List.getElem?_eq_getElem hi] at hx
      injection hx with hx
      subst hx
      have := p4.1
      exact ⟨Nat.le_trans p1 q1, by omega⟩
    · rw [List.getElem_map]
      exact ⟨hcell 0 _ (by omega) rfl, by show g ≠ vb; omega⟩
    · rw [List.getElem_map]
      exact hs _ (List.getElem_mem hi)
    · exact ⟨⟨hcell 1 _ (by omega) rfl, by show g ≠ vb; omega⟩, ⟨hcell 2 _ (by omega) rfl, by show g ≠ vb; omega⟩, ⟨hcell 3 _ (by omega) rfl, by show g ≠ vb; omega⟩, ⟨hcell 4 _ (by omega) rfl, by show g ≠ vb; omega⟩, ⟨hcell 5 _ (by omega) rfl, by show g ≠ vb; omega⟩⟩
    · rw [List.getElem_map]
      exact IsS.mono _ _ _ _ (fun p u q s => ⟨q, by have := s.1; omega⟩) (fun q s => ⟨_, List.getElem?_eq_getElem hi, s⟩) p4.2
  · rw [List.length_map] at hj
    have hi' : i < es.length := Nat.lt_trans hij hj
    obtain ⟨x, hx, q1, q2⟩ := hq
    obtain ⟨y, hy, q3, q4⟩ := hq'
    rw [List.getElem?_eq_getElem hi'] at hx
    rw [List.getElem?_eq_getElem hj] at hy
    injection hx with hx
    injection hy with hy
    subst hx hy
    have := h.apart i j (by omega) hj hij
    omega

/-- What a reading leaves of the row. -/
theorem VRow.gb {W W' : World} {te : TypeId} {hd : ByteArray → List Value} {z lo vb base pb : Nat} {v : Value} {es : List VE} (h : VRow W te hd z lo vb base v es) (hg : GB W W' pb) (hp : pb < base) (hl : pb < lo) : VRow W' te hd z lo vb base v es := by
  refine ⟨World.ownsRow.kept h.own hg ?_, fun x hx => ?_, h.apart⟩
  · cases hv : v.ownBlock with
    | none => exact .inl rfl
    | some k => right; intro e; injection e with e; have := (h.own_lt hv).1; omega
  · obtain ⟨p1, p2, p3, p4⟩ := h.part x hx
    exact ⟨p1, p2, p3, p4.blocks hg.size (fun k hk hk' => hg.block k (Nat.lt_of_lt_of_le hk' p4.1) (fun e => by injection e with e; omega))⟩
theorem VRow.set {W : World} {te : TypeId} {hd : ByteArray → List Value} {z lo vb base : Nat} {v : Value} {es : List VE} (h : VRow W te hd z lo vb base v es) (hb : vb < base) (i : Nat) (u : Value) : VRow (W.setCell ⟨vb, i, none⟩ u) te hd z lo vb base v es := by
  have hg := grown_set W vb i u
  refine ⟨World.ownsRow.kept h.own hg ?_, fun x hx => ?_, h.apart⟩
  · cases hv : v.ownBlock with
    | none => exact .inl rfl
    | some k => right; intro e; injection e with e; have := (h.own_lt hv).1; omega
  · obtain ⟨p1, p2, p3, p4⟩ := h.part x hx
    exact ⟨p1, p2, p3, p4.blocks hg.size (fun k hk hk' => hg.block k (Nat.lt_of_lt_of_le hk' p4.1) (fun e => by injection e with e; omega))⟩
theorem VRow.grow {W W' : World} {te : TypeId} {hd : ByteArray → List Value} {z lo vb base : Nat} {v : Value} {es : List VE} (h : VRow W te hd z lo vb base v es) (hg : Grow W W') : VRow W' te hd z lo vb base v es := by
  refine ⟨World.ownsRow.kept h.own (row := none) ⟨hg.os, hg.tape, hg.output, hg.size, fun k hk _ => hg.below.block k hk⟩ (by cases v.ownBlock <;> simp), fun x hx => ?_, h.apart⟩
  obtain ⟨p1, p2, p3, p4⟩ := h.part x hx
  exact ⟨p1, p2, p3, p4.grow hg⟩
/-- One part more: it lies in blocks m0 .. size-1 of w2. -/
theorem VRow.add {w2 w3 : World} {te : TypeId} {hd : ByteArray → List Value} {z lo vb base m0 : Nat} {v v' : Value} {es : List VE} {s : ByteArray} {x : V} {c : Cv} {o : Obj} (h : VRow w2 te hd z lo vb base v es) (hv : ∀ k, v.ownBlock = some k → k < m0) (hvb : vb < m0) (hlo : lo ≤ m0) (hm : ∀ y ∈ es, y.hi ≤ m0)
    (hx : InS w2 m0 w2.heap.size x c) (h2 : w3.ownsRow base te z v' (es.length + 1) (cellsOf hd es ++ (hd s ++ c.cells.toList))) (hg : (w2.alloc o).grownBy w3 v.ownBlock)
    (hob : v'.ownBlock = v.ownBlock ∨ v'.ownBlock = some (w2.alloc o).heap.size) : VRow w3 te hd z lo vb base v' (es ++ [⟨s, x, c, m0, w2.heap.size⟩]) := by
  have hsz : (w2.alloc o).heap.size = w2.heap.size + 1 := by simp
  have hgs := hg.size
  have hblk : ∀ k, k < w2.heap.size → (∀ g, v.ownBlock = some g → k ≠ g) → w3.heap[k]? = w2.heap[k]? := fun k hk hne =>
    (hg.block k (by omega) (fun e => hne k e.symm rfl)).trans (((Grow.refl w2).alloc o).below.block k hk)
  refine ⟨by rw [List.length_append, cellsOf_snoc]; exact h2, fun y hy => ?_, fun i j hi hj hij => ?_⟩
  · rcases List.mem_append.1 hy with hy | hy
    · obtain ⟨p1, p2, p3, p4⟩ := h.part y hy
      refine ⟨p1, p2, fun g e => ?_, p4.blocks (by omega) (fun k hk hk' => hblk k (Nat.lt_of_lt_of_le hk' p4.1) (fun g e e' => p3 g e (by omega)))⟩
      rcases hob with q | q
      · exact p3 g (q ▸ e)
      · rw [q] at e; injection e with e; have := hm y hy; have := p4.1; omega
    · rw [List.mem_singleton] at hy
      subst hy
      refine ⟨hlo, hvb, fun g e => ?_, hx.blocks (by omega) (fun k hk hk' => hblk k hk' (fun g e e' => by have := hv g e; omega))⟩
      rcases hob with q | q
      · have := hv g (q ▸ e); show ¬ (m0 ≤ g ∧ g < w2.heap.size); omega
      · rw [q] at e; injection e with e; show ¬ (m0 ≤ g ∧ g < w2.heap.size); omega
  · rw [List.length_append, List.length_singleton] at hj
    rcases Nat.lt_or_ge j es.length with hj' | hj'
    · rw [List.getElem_append_left (by omega), List.getElem_append_left hj']
      exact h.apart i j (by omega) hj' hij
    · have : j = es.length := by omega
      subst this
      rw [List.getElem_append_left (by omega), List.getElem_append_right (Nat.le_refl _)]
      simp only [Nat.sub_self, List.getElem_cons_zero]
      exact hm _ (List.getElem_mem _)
end Go.Proofs.YtcdbchifigonpaaDoor
