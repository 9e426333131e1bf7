/- Arguments that are values, lists of values, bytes, lists of bools: how they are read, and that the bulk bounds them. Written by wip/tools/gen_bulkv.py. -/
import Derived.Test.YtcdbchifigonpaaDoorOpenV
import Derived.Test.YtcdbchifigonpaaDoorRows
import Derived.Test.YtcdbchifigonpaaDoorIsv
set_option linter.unusedVariables false
set_option linter.unusedSimpArgs false
set_option maxRecDepth 100000
namespace Go.Proofs.YtcdbchifigonpaaDoor
open Go.RowKit Go.ChangeShapes Go.Shelf Go.Deep Go.WideShapes

theorem mem_sum (f : Nat → Nat) : ∀ (n i : Nat), i < n → f i ≤ ((List.range n).map f).sum
  | 0, i, h => absurd h (by omega)
  | n + 1, i, h => by
    rw [List.range_succ, List.map_append, List.sum_append]
    simp only [List.map_cons, List.map_nil, List.sum_cons, List.sum_nil]
    by_cases hi : i = n
    · subst hi; omega
    · have := mem_sum f n i (by omega); omega
theorem len_sum (f : Nat → Nat) : ∀ (n : Nat), (∀ i, 1 ≤ f i) → n ≤ ((List.range n).map f).sum
  | 0, _ => Nat.zero_le _
  | n + 1, h => by
    rw [List.range_succ, List.map_append, List.sum_append]
    simp only [List.map_cons, List.map_nil, List.sum_cons, List.sum_nil]
    have := len_sum f n h
    have := h n
    omega
def zeroD {H : Type} : DataW H := .agg [.lit (.int .i64 0), .lit (.int .u64 0), .nil, .nil, .nil]
theorem bulk_pos {H : Type} (d : DataW H) : 1 ≤ Rows.uptoBulk d := by
  cases d with
  | lit l => cases l <;> simp [Rows.uptoBulk]
  | nil => simp [Rows.uptoBulk]
  | ptr d => simp [Rows.uptoBulk]
  | slice elems spare => simp [Rows.uptoBulk]
  | agg parts => simp [Rows.uptoBulk]
  | iface t d => simp [Rows.uptoBulk]
  | map entries => simp [Rows.uptoBulk]
  | held h => simp [Rows.uptoBulk]
theorem bulk_all {H : Type} {α : Type} (D : α → DataW H) (l : List α) : Rows.uptoBulkAll (l.map D) = (l.map fun i => Rows.uptoBulk (D i)).sum := by
  induction l with
  | nil => simp [Rows.uptoBulkAll]
  | cons x r ih => simp [Rows.uptoBulkAll, ih]
theorem sum_range_le {α : Type} (p : α → Nat) : ∀ (l : List α) (g : Nat → Nat), (∀ i (h : i < l.length), p l[i] ≤ g i) → (l.map p).sum ≤ ((List.range l.length).map g).sum
  | [], g, _ => by simp
  | x :: r, g, h => by
    have h0 := h 0 (by simp)
    have hr := sum_range_le p r (fun i => g (i + 1)) (fun i hi => by have := h (i + 1) (by simpa using hi); simpa using this)
    rw [List.length_cons, List.range_succ_eq_map, List.map_cons, List.map_cons, List.sum_cons, List.sum_cons, List.map_map]
    simp only [List.getElem_cons_zero] at h0
    have : (List.range r.length).map (g ∘ Nat.succ) = (List.range r.length).map fun i => g (i + 1) := rfl
    rw [this]
    omega

section
variable {H : Type} {enc : TypeId × Value → H} {W : World} {sp : Nat → Bool} {held : Bool}
/-- A slice's bulk: one, and its elements'. -/
theorem row_bulk {t e : TypeId} {z : Nat} (ht : Tryd.prog.underlying t = some (.slice e)) (hz : Tryd.prog.cellsOf e = z) (hz0 : 0 < z) {fuel : Nat} {A : Option Addr} {len cap : Nat} {x : DataW H × List MemPlace} (h : DataW.trod enc Tryd.prog W 0 sp held fuel t [.slice A len cap] = some x) :
    ∃ D : Nat → DataW H, 1 + ((List.range len).map fun i => Rows.uptoBulk (D i)).sum ≤ Rows.uptoBulk x.1 ∧
      ∀ i, i < len → SizeOf.sizeOf (D i) < SizeOf.sizeOf x.1 ∧ ∃ (bk o fuel' : Nat) (q : List MemPlace) (cs : List Value), A = some ⟨bk, o, none⟩ ∧ cs.length = z ∧ (∀ j u, cs[j]? = some u → W.cell? ⟨bk, o + i * z + j, none⟩ = some u) ∧ DataW.trod enc Tryd.prog W 0 sp held fuel' e cs = some (D i, q) := by
  rcases open_slice ht h with ⟨hc, hx⟩ | ⟨a, len', cap', m, n, D, Pl, hc, hb, hl, hm, hmm, hx, hall⟩
  · injection hc with hc
    injection hc with q1 q2 q3
    subst q2
    exact ⟨fun _ => x.1, by have := bulk_pos x.1; simpa using this, fun i hi => absurd hi (by simp)⟩
  · injection hc with hc
    injection hc with q1 q2 q3
    subst q1 q2 q3
    have hmlen : len ≤ m := by rw [hmm]; split <;> omega
    rw [hz] at hall
    have hxd : x.1 = .slice ((List.range len).map D) ((List.range (m - len)).map fun j => D (len + j)) := by rw [hx]
    have hcell : ∀ i, i < len → ∃ cs, cs.length = z ∧ (∀ j u, cs[j]? = some u → W.cell? ((a.add (i * z)).add j) = some u) ∧ DataW.trod enc Tryd.prog W 0 sp held n e cs = some (D i, Pl i) := fun i hi => by
      obtain ⟨cs, h1, h2⟩ := hall i (by omega)
      obtain ⟨_, hlen, hcs⟩ := World.cells?_some h1
      refine ⟨cs, hlen, fun j u hu => ?_, h2⟩
      have hj : j < z := by rw [← hlen]; exact (List.getElem?_eq_some_iff.1 hu).1
      rw [hcs j hj, hu]
    have haddr : 0 < len → a = ⟨a.block, a.off, none⟩ := fun hn => by
      obtain ⟨cs, hlen, hcs, _⟩ := hcell 0 hn
      have h0 := hcs 0 (cs[0]'(by omega)) (List.getElem?_eq_getElem (by omega))
      rw [addr_add_zero, Nat.zero_mul, addr_add_zero] at h0
      exact spot_of_cell h0
    refine ⟨D, ?_, fun i hi => ⟨?_, ?_⟩⟩
    · rw [hxd, Rows.uptoBulk, bulk_all]; omega
    · rw [hxd]
      have hmem : D i ∈ (List.range len).map D := List.mem_map.2 ⟨i, List.mem_range.2 hi, rfl⟩
      have := List.sizeOf_lt_of_mem hmem
      simp only [DataW.slice.sizeOf_spec]
      omega
    · obtain ⟨cs, hlen, hcs, htr⟩ := hcell i hi
      have ha := haddr (by omega)
      refine ⟨a.block, a.off, n, Pl i, cs, by rw [← ha], hlen, fun j u hu => ?_, htr⟩
      have := hcs j u hu
      rw [ha, add_lit, add_lit] at this
      exact this
theorem same_cell {a : Addr} {u v : Value} (h : W.cell? a = some u) (k : W.cell? a = some v) : u = v := Option.some.inj (h.symm.trans k)

/-- A value's bytes are no more than sixteen times its bulk. -/
theorem bulk_val (n : Nat) : ∀ (d : DataW H), SizeOf.sizeOf d ≤ n → ∀ (fuel : Nat) (c : Cv) (v : V) (q : List MemPlace), DataW.trod enc Tryd.prog W 0 sp held fuel 37 c.cells.toList = some (d, q) → In W v c →
    v.bytes.length ≤ 16 * Rows.uptoBulk d := by
  induction n with
  | zero => intro d hd; have : 0 < SizeOf.sizeOf d := by cases d <;> simp; all_goals omega
            omega
  | succ n ih =>
    intro d hd fuel c v q h hv
    obtain ⟨fs, hu, hfs⟩ := under_val
    obtain ⟨xs, m, hfuel, hx, hlen, hxl, hall⟩ := DataW.trod_struct hu h
    injection hx with hx1 hx2
    subst hx1
    have hfl : fs.size = 5 := by have := congrArg Array.size hfs; simpa using this
    rw [hfl] at hxl
    obtain ⟨x0, x1, x2, x3, x4, rfl⟩ : ∃ a b c d e, xs = [a, b, c, d, e] := by
      match xs, hxl with
      | [a, b, c, d, e], _ => exact ⟨a, b, c, d, e, rfl⟩
    obtain ⟨k, nn, b, l, f⟩ := v
    have hV := hv
    unfold In at hv
    rw [IsV] at hv
    obtain ⟨ck, cn, aB, nB, cB, aL, nL, cL, aF, nF, cF⟩ := c
    obtain ⟨e1, e2, e3, e4, e5, _, _, _, _, _, _, _, _, _, _, hL, hF⟩ := hv
    dsimp only at e1 e2 e3 e4 e5 hL hF
    subst e1 e2 e3 e4 e5
    have hpart : ∀ i t o, (#[(3, 0), (34, 1), (23, 2), (27, 3), (35, 4)] : Array (TypeId × Nat))[i]? = some (t, o) →
        DataW.trod enc Tryd.prog W 0 sp held m t (([Value.int .i64 ck, .int .u64 nn, .slice aB b.length cB, .slice aL l.length cL, .slice aF f.length cF].drop o).take (Tryd.prog.cellsOf t)) = [x0, x1, x2, x3, x4][i]? := fun i t o hi => by
      obtain ⟨fd, hfd, rfl, rfl⟩ := field_of hfs hi
      exact hall i fd hfd
    have h2 := hpart 2 _ _ rfl
    have h3 := hpart 3 _ _ rfl
    have h4 := hpart 4 _ _ rfl
    rw [cells_u8s] at h2
    rw [cells_vals] at h3
    rw [cells_flds] at h4
    obtain ⟨DB, hB, _⟩ := row_bulk under_u8s cells_u8 (by omega) h2
    obtain ⟨DL, hLb, hLd⟩ := row_bulk under_vals cells_val (by omega) h3
    obtain ⟨DF, hFb, hFd⟩ := row_bulk under_flds cells_fld (by omega) h4
    have hB1 : b.length ≤ ((List.range b.length).map fun i => Rows.uptoBulk (DB i)).sum := by
      have := sum_range_le (fun _ : UInt8 => 1) b (fun i => Rows.uptoBulk (DB i)) (fun i _ => bulk_pos _)
      have h1 : ∀ r : List UInt8, (r.map fun _ => 1).sum = r.length := fun r => by
        induction r with
        | nil => rfl
        | cons x r ih => simp only [List.map_cons, List.sum_cons, ih, List.length_cons]; omega
      rw [h1] at this
      exact this
    have hsz3 : SizeOf.sizeOf x3.1 < n + 1 := by
      have : SizeOf.sizeOf x3.1 < SizeOf.sizeOf (DataW.agg ([x0, x1, x2, x3, x4].map (·.1))) := by
        have := List.sizeOf_lt_of_mem (show x3.1 ∈ [x0, x1, x2, x3, x4].map (·.1) by simp)
        simp only [DataW.agg.sizeOf_spec]; omega
      omega
    have hsz4 : SizeOf.sizeOf x4.1 < n + 1 := by
      have : SizeOf.sizeOf x4.1 < SizeOf.sizeOf (DataW.agg ([x0, x1, x2, x3, x4].map (·.1))) := by
        have := List.sizeOf_lt_of_mem (show x4.1 ∈ [x0, x1, x2, x3, x4].map (·.1) by simp)
        simp only [DataW.agg.sizeOf_spec]; omega
      omega
    have hL1 := sum_range_le (fun x : V => x.bytes.length) l (fun i => 16 * Rows.uptoBulk (DL i)) (fun i hi => by
      obtain ⟨s1, bk, o, fuel', q', cs', ha, hlen', hcs', htr⟩ := hLd i hi
      obtain ⟨bk2, o2, x, ha2, h5, hin⟩ := hL i hi
      rw [ha] at ha2
      injection ha2 with ha2
      injection ha2 with z1 z2
      subst z1 z2
      obtain ⟨d0, d1, d2, d3, d4, rfl⟩ : ∃ a b c d e, cs' = [a, b, c, d, e] := by
        match cs', hlen' with
        | [a, b, c, d, e], _ => exact ⟨a, b, c, d, e, rfl⟩
      obtain ⟨k0, k1, k2, k3, k4⟩ := h5
      obtain rfl := same_cell (hcs' 0 _ rfl) k0.1
      obtain rfl := same_cell (hcs' 1 _ rfl) k1.1
      obtain rfl := same_cell (hcs' 2 _ rfl) k2.1
      obtain rfl := same_cell (hcs' 3 _ rfl) k3.1
      obtain rfl := same_cell (hcs' 4 _ rfl) k4.1
      exact ih (DL i) (by omega) fuel' x l[i] q' htr hin)
    have hF1 := sum_range_le (fun x : ByteArray × V => (V.item x.1 x.2.bytes).length) f (fun i => 16 * Rows.uptoBulk (DF i)) (fun i hi => by
      obtain ⟨s1, bk, o, fuel', q', cs', ha, hlen', hcs', htr⟩ := hFd i hi
      obtain ⟨bk2, o2, x, ha2, ks, kz, h5, hin⟩ := hF i hi
      rw [ha] at ha2
      injection ha2 with ha2
      injection ha2 with z1 z2
      subst z1 z2
      obtain ⟨gs, gu, gfs⟩ := under_fld
      obtain ⟨ys, m', _, hy, hlen2, hyl, hall2⟩ := DataW.trod_struct gu htr
      injection hy with hy1 hy2
      have hgl : gs.size = 2 := by have := congrArg Array.size gfs; simpa using this
      rw [hgl] at hyl
      obtain ⟨y0, y1, rfl⟩ : ∃ a b, ys = [a, b] := by
        match ys, hyl with
        | [a, b], _ => exact ⟨a, b, rfl⟩
      obtain ⟨d0, d1, d2, d3, d4, d5, rfl⟩ : ∃ a b c d e f, cs' = [a, b, c, d, e, f] := by
        match cs', hlen' with
        | [a, b, c, d, e, f], _ => exact ⟨a, b, c, d, e, f, rfl⟩
      obtain ⟨f0, hf0, t0, o0⟩ := field_of gfs (i := 0) rfl
      obtain ⟨f1, hf1, t1, o1⟩ := field_of gfs (i := 1) rfl
      have g0 := hall2 0 f0 hf0
      have g1 := hall2 1 f1 hf1
      rw [t0, o0, cells_str] at g0
      rw [t1, o1, cells_val] at g1
      obtain ⟨s, es, hys, _⟩ := DataW.trod_string under_string g0
      simp at es
      obtain ⟨k0, k1, k2, k3, k4⟩ := h5
      have hs := same_cell (hcs' 0 _ rfl) ks.1
      rw [es] at hs
      injection hs with hs
      obtain rfl := same_cell (hcs' 1 _ rfl) k0.1
      obtain rfl := same_cell (hcs' 2 _ rfl) k1.1
      obtain rfl := same_cell (hcs' 3 _ rfl) k2.1
      obtain rfl := same_cell (hcs' 4 _ rfl) k3.1
      obtain rfl := same_cell (hcs' 5 _ rfl) k4.1
      have hsy : SizeOf.sizeOf y1.1 < SizeOf.sizeOf (DF i) := by
        rw [hy1]
        have := List.sizeOf_lt_of_mem (show y1.1 ∈ [y0, y1].map (·.1) by simp)
        simp only [DataW.agg.sizeOf_spec]; omega
      have hi2 := ih y1.1 (by omega) m' x f[i].2 y1.2 g1 hin
      have hbs : Rows.uptoBulk y0.1 = s.size + 1 := by
        rw [hys]
        simp only [Rows.uptoBulk, Array.length_toList]
        rfl
      rw [V.item_length, hy1]
      simp only [List.map_cons, List.map_nil, Rows.uptoBulk, Rows.uptoBulkAll]
      rw [hbs, ← hs]
      omega)
    have hm16 : ∀ (g : Nat → Nat) (k : Nat), ((List.range k).map fun i => 16 * g i).sum = 16 * ((List.range k).map g).sum := fun g k => by
      induction List.range k with
      | nil => rfl
      | cons x r ih => simp only [List.map_cons, List.sum_cons, ih]; omega
    rw [hm16 (fun i => Rows.uptoBulk (DL i))] at hL1
    rw [hm16 (fun i => Rows.uptoBulk (DF i))] at hF1
    have p0 := bulk_pos x0.1
    have p1 := bulk_pos x1.1
    have hsum : (V.mk ck nn b l f).bytes.length ≤ 13 + b.length + (l.map fun x => x.bytes.length).sum + (f.map fun x => (V.item x.1 x.2.bytes).length).sum := by
      rw [V.bytes_mk, List.length_cons]
      have hlf : (l.map V.bytes).flatten.length = (l.map fun x => x.bytes.length).sum := by rw [List.length_flatten, List.map_map]; rfl
      have hff : (f.map fun x : ByteArray × V => V.item x.1 x.2.bytes).flatten.length = (f.map fun x => (V.item x.1 x.2.bytes).length).sum := by rw [List.length_flatten, List.map_map]; rfl
      split
      · simp only [List.length_cons, List.length_nil]; omega
      split
      · rw [toLe_length]; omega
      split
      · rw [List.length_append, toLe_length]; omega
      split
      · rw [List.length_cons, hlf]; omega
      split
      · rw [List.length_cons, hff]; omega
      · simp only [List.length_nil]; omega
    simp only [List.map_cons, List.map_nil, Rows.uptoBulk, Rows.uptoBulkAll]
    omega
theorem open_rowB {t e : TypeId} {z by_ : Nat} (ht : Tryd.prog.underlying t = some (.slice e)) (hz : Tryd.prog.cellsOf e = z) (hz0 : 0 < z) (hby : Tryd.prog.bytesOf e = by_) (hby0 : 0 < by_) {fuel : Nat} {c : Value} {x : DataW H × List MemPlace} (h : DataW.trod enc Tryd.prog W 0 sp held fuel t [c] = some x) (hw : ∀ n ∈ x.1.weights Tryd.prog t, n ≤ reachBytes) :
    ∃ (A : Option Addr) (len cap : Nat) (D : Nat → DataW H), c = .slice A len cap ∧ len ≤ cap ∧ len ≤ 140737488355328 ∧ ((len = 0) ∨ ∃ bk o, A = some ⟨bk, o, none⟩ ∧ bk < W.heap.size) ∧ (1 + ((List.range len).map fun i => Rows.uptoBulk (D i)).sum ≤ Rows.uptoBulk x.1) ∧
      ∀ i, i < len → SizeOf.sizeOf (D i) < SizeOf.sizeOf x.1 ∧ (∀ n ∈ (D i).weights Tryd.prog e, n ≤ reachBytes) ∧ ∃ (bk o fuel' : Nat) (q : List MemPlace) (cs : List Value), A = some ⟨bk, o, none⟩ ∧ cs.length = z ∧ (∀ j u, cs[j]? = some u → AtW W 0 W.heap.size ⟨bk, o + i * z + j, none⟩ u) ∧ DataW.trod enc Tryd.prog W 0 sp held fuel' e cs = some (D i, q) := by
  rcases open_slice ht h with ⟨hc, hx⟩ | ⟨a, len, cap, m, n, D, Pl, hc, hb, hl, hm, hmm, hx, hall⟩
  · injection hc with hc
    subst hc
    exact ⟨none, 0, 0, fun _ => x.1, rfl, by simp, by simp, .inl rfl, (by have := bulk_pos x.1; simpa using this), fun i hi => absurd hi (by simp)⟩
  · injection hc with hc
    have hmlen : len ≤ m := by rw [hmm]; split <;> omega
    rw [hz] at hall
    have hxd : x.1 = .slice ((List.range len).map D) ((List.range (m - len)).map fun j => D (len + j)) := by rw [hx]
    have hwt : len ≤ reachBytes := by
      have := hw ((len + (m - len)) * by_) (by rw [hxd]; simp [DataW.weights, ht, hby])
      have h2 : len * 1 ≤ (len + (m - len)) * by_ := Nat.mul_le_mul (by omega) hby0
      omega
    have hreach := reachBytes_lt
    simp only [Nat.reducePow] at hreach
    have hcell : ∀ i, i < len → ∃ cs, cs.length = z ∧ (∀ j u, cs[j]? = some u → W.cell? ((a.add (i * z)).add j) = some u) ∧ DataW.trod enc Tryd.prog W 0 sp held n e cs = some (D i, Pl i) := fun i hi => by
      obtain ⟨cs, h1, h2⟩ := hall i (by omega)
      obtain ⟨_, hlen, hcs⟩ := World.cells?_some h1
      refine ⟨cs, hlen, fun j u hu => ?_, h2⟩
      have hj : j < z := by rw [← hlen]; exact (List.getElem?_eq_some_iff.1 hu).1
      rw [hcs j hj, hu]
    have haddr : 0 < len → a = ⟨a.block, a.off, none⟩ ∧ a.block < W.heap.size := fun hn => by
      obtain ⟨cs, hlen, hcs, _⟩ := hcell 0 hn
      have h0 := hcs 0 (cs[0]'(by omega)) (List.getElem?_eq_getElem (by omega))
      rw [addr_add_zero, Nat.zero_mul, addr_add_zero] at h0
      exact ⟨spot_of_cell h0, World.block_lt_of_cell? W _ h0⟩
    refine ⟨some a, len, cap, D, hc, hl, by omega, ?_, (by rw [hxd, Rows.uptoBulk, bulk_all]; omega), fun i hi => ⟨?_, ?_, ?_⟩⟩
    · rcases Nat.eq_zero_or_pos len with h0 | h0
      · exact .inl h0
      · exact .inr ⟨a.block, a.off, by rw [← (haddr h0).1], (haddr h0).2⟩
    · rw [hxd]
      have hmem : D i ∈ (List.range len).map D := List.mem_map.2 ⟨i, List.mem_range.2 hi, rfl⟩
      have := List.sizeOf_lt_of_mem hmem
      simp only [DataW.slice.sizeOf_spec]
      omega
    · intro k hk
      refine hw k ?_
      rw [hxd]
      simp only [DataW.weights, ht, List.mem_cons, List.mem_append]
      exact .inr (.inl (weightsAll_mem (List.mem_map.2 ⟨i, List.mem_range.2 hi, rfl⟩) k hk))
    · obtain ⟨cs, hlen, hcs, htr⟩ := hcell i hi
      have ha := haddr (by omega)
      refine ⟨a.block, a.off, n, Pl i, cs, by rw [← ha.1], hlen, fun j u hu => ⟨?_, Nat.zero_le _, ha.2⟩, htr⟩
      have := hcs j u hu
      rw [ha.1, add_lit, add_lit] at this
      exact this

/-- A list of values, its length and its values' bytes bounded by the bulk. -/
theorem open_valsB {fuel : Nat} {c : Value} {x : DataW H × List MemPlace} (h : DataW.trod enc Tryd.prog W 0 sp held fuel 27 [c] = some x) (hw : ∀ n ∈ x.1.weights Tryd.prog 27, n ≤ reachBytes) : ∃ A cap vs, c = .slice A vs.length cap ∧ InL W A cap vs ∧ vs.length ≤ Rows.uptoBulk x.1 ∧ ∀ v ∈ vs, v.bytes.length ≤ 16 * Rows.uptoBulk x.1 := by
  obtain ⟨A, len, cap, D, rfl, hlc, hll, _, hbk, hall⟩ := open_rowB under_vals cells_val (by omega) bytes_val (by omega) h hw
  have hv : ∀ i, i < len → ∃ (v : V), v.bytes.length ≤ 16 * Rows.uptoBulk (D i) ∧ ∃ bk o c, A = some ⟨bk, o, none⟩ ∧ At5 (AtW W 0 W.heap.size) bk (o + i * 5) c ∧ In W v c := fun i hi => by
    obtain ⟨s1, s2, bk, o, fuel', q', cs', ha, hlen', hcs', htr⟩ := hall i hi
    obtain ⟨v, c, rfl, hin⟩ := open_val _ (D i) (Nat.le_refl _) fuel' cs' q' htr s2
    exact ⟨v, bulk_val _ (D i) (Nat.le_refl _) fuel' c v q' htr hin, bk, o, c, ha, ⟨hcs' 0 _ rfl, hcs' 1 _ rfl, hcs' 2 _ rfl, hcs' 3 _ rfl, hcs' 4 _ rfl⟩, hin⟩
  let vl : Nat → V := fun i => if h : i < len then Classical.choose (hv i h) else V.zero
  have hvl : ∀ i (h : i < len), (vl i).bytes.length ≤ 16 * Rows.uptoBulk (D i) ∧ ∃ bk o c, A = some ⟨bk, o, none⟩ ∧ At5 (AtW W 0 W.heap.size) bk (o + i * 5) c ∧ In W (vl i) c := fun i h => by
    show (if h : i < len then Classical.choose (hv i h) else V.zero).bytes.length ≤ _ ∧ ∃ bk o c, _ ∧ _ ∧ In W (if h : i < len then Classical.choose (hv i h) else V.zero) c
    rw [dif_pos h]
    exact Classical.choose_spec (hv i h)
  obtain ⟨vs, hvs, hvi⟩ : ∃ vs : List V, vs.length = len ∧ ∀ i (h : i < vs.length), vs[i].bytes.length ≤ 16 * Rows.uptoBulk (D i) ∧ ∃ bk o c, A = some ⟨bk, o, none⟩ ∧ At5 (AtW W 0 W.heap.size) bk (o + i * 5) c ∧ In W vs[i] c := by
    refine ⟨(List.range len).map vl, by simp, fun i h => ?_⟩
    rw [List.getElem_map, List.getElem_range]
    exact hvl i (by simpa using h)
  clear hvl vl hv hall
  subst hvs
  have h1 := len_sum (fun i => Rows.uptoBulk (D i)) vs.length (fun i => bulk_pos _)
  refine ⟨A, cap, vs, rfl, ?_, by omega, fun v hv => ?_⟩
  · unfold InL In
    rw [IsV]
    refine ⟨rfl, rfl, rfl, rfl, rfl, by decide, by decide, by decide, by simp, by simp, hlc, hll, by simp, by simp, ⟨by simp [u8s], fun h => by simp at h⟩, fun i hi => ?_, fun i hi => by simp at hi⟩
    obtain ⟨_, bk, o, c, e, h5, hin⟩ := hvi i hi
    exact ⟨bk, o, c, e, h5, hin⟩
  · obtain ⟨i, hi, rfl⟩ := List.mem_iff_getElem.1 hv
    have h2 : Rows.uptoBulk (D i) ≤ ((List.range vs.length).map fun i => Rows.uptoBulk (D i)).sum := mem_sum (fun i => Rows.uptoBulk (D i)) vs.length i hi
    have h3 := (hvi i hi).1
    omega
end

theorem bulk_len {H : Type} : ∀ (l : List (DataW H)), l.length ≤ Rows.uptoBulkAll l
  | [] => Nat.zero_le _
  | d :: r => by
    have h1 := bulk_pos d
    have h2 := bulk_len r
    simp only [Rows.uptoBulkAll, List.length_cons]
    omega
/-- A byte slice is no longer than its bulk. -/
theorem bytes_bulk {H : Type} {enc : TypeId × Value → H} {W : World} {sp : Nat → Bool} {held : Bool} {fuel : Nat} {A : Option Addr} {n cap : Nat} {x : DataW H × List MemPlace} (h : DataW.trod enc Tryd.prog W 0 sp held fuel 23 [.slice A n cap] = some x) : n ≤ Rows.uptoBulk x.1 := by
  rcases open_slice1 under_u8s cells_u8 h with ⟨hc, hx⟩ | ⟨a, len, cap', m, nn, V, D, Pl, hc, hb, hl, hm, hmm, hx, hall⟩
  · injection hc with hc
    injection hc with _ hn _
    omega
  · injection hc with hc
    injection hc with _ hn _
    subst hn
    rw [hx]
    have := bulk_len ((List.range n).map D)
    rw [List.length_map, List.length_range] at this
    simp only [Rows.uptoBulk]
    omega
/-- An argument that is a value; its bytes are bounded by its bulk. -/
theorem open_argB {H : Type} {enc : TypeId × Value → H} {W : World} {sp : Nat → Bool} {held : Bool} {base : Nat} {v : Value} {d : DataW H} {p : List MemPlace} (hok : Value.okWide Tryd.prog W .any base 37 v)
    (h : DataW.Trod enc Tryd.prog W 0 sp held 37 v d p) (hw : ∀ n ∈ d.weights Tryd.prog 37, n ≤ reachBytes) : ∃ (x : V) (c : Cv), v = c.agg ∧ In W x c ∧ x.bytes.length ≤ 16 * Rows.uptoBulk d := by
  obtain ⟨fs, hu, _⟩ := under_val
  obtain ⟨cs, rfl, _⟩ := okWide_struct hu hok
  obtain ⟨fuel, hf⟩ := h
  obtain ⟨x, c, hc, hin⟩ := open_val _ d (Nat.le_refl _) fuel _ _ hf hw
  have hcs : cs = c.cells := by
    apply Array.ext'
    exact hc
  subst hcs
  exact ⟨x, c, rfl, hin, bulk_val _ d (Nat.le_refl _) fuel c x _ hf hin⟩
end Go.Proofs.YtcdbchifigonpaaDoor
