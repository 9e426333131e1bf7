/- Arguments as they are read: bytes; the listed tables. · Arguments as they are read: values. · What the cards of a seat's laws share: the listed tables, the witness world. -/
import Derived.Test.YtcdbchifigonpaaDoorLibs
import Derived.Test.YtcdbchifigonpaaDoorName
import Derived.Deep.Slices
import Derived.ProofKit
import Derived.OpenShut
import Derived.SizedLaws
import Derived.Lib.LaidIn
import Derived.Lib.LaidU8T
import Derived.Test.YtcdbchifigonpaaDoorRead23
import Derived.Test.YtcdbchifigonpaaDoorCards
import Derived.Test.YtcdbchifigonpaaDoorTie
import Derived.Deep.DeepHandedRow
import Derived.Deep.DeepWitnessRowRef
import Derived.SevenTiedAt
set_option linter.unusedVariables false
set_option linter.unusedSimpArgs false
namespace Go.Proofs.YtcdbchifigonpaaDoor
open Go.RowKit Go.ChangeShapes Go.Shelf Go.Deep

theorem cells_u8 : Tryd.prog.cellsOf 5 = 1 := by kernel_rfl
theorem bytes_u8 : Tryd.prog.bytesOf 5 = 1 := by kernel_rfl

section
variable {H : Type} {enc : TypeId × Value → H} {W : World} {sp : Nat → Bool} {held : Bool}
theorem addr_add_zero (a : Addr) : a.add 0 = a := by unfold Addr.add; simp
theorem spot_of_cell {a : Addr} {u : Value} (h : W.cell? a = some u) : a = ⟨a.block, a.off, none⟩ := by
  obtain ⟨bk, o, s⟩ := a
  cases s with
  | none => rfl
  | some s =>
    exfalso
    unfold World.cell? at h
    simp only at h
    split at h
    · simp at h
    · cases h
theorem open_bytes {fuel : Nat} {c : Value} {x : DataW H × List MemPlace} (h : DataW.trod enc Tryd.prog W 0 sp held fuel 23 [c] = some x) (hw : ∀ n ∈ x.1.weights Tryd.prog 23, n ≤ reachBytes) :
    ∃ A b cap, c = .slice A b.length cap ∧ b.length ≤ cap ∧ b.length ≤ 140737488355328 ∧ InB W A b := by
  rcases open_slice1 under_u8s cells_u8 h with ⟨hc, hx⟩ | ⟨a, len, cap, m, n, V, D, Pl, hc, hb, hl, hm, hmm, hx, hall⟩
  · injection hc with hc
    subst hc
    exact ⟨none, [], 0, rfl, by simp, by simp, ⟨by simp [u8s], fun h => by simp at h⟩⟩
  · injection hc with hc
    have hmlen : len ≤ m := by rw [hmm]; split <;> omega
    have hV : ∀ i, i < len → ∃ y : UInt8, V i = .int .u8 (y.toNat : Int) := fun i hi => by
      obtain ⟨h1, h2⟩ := hall i (by omega)
      obtain ⟨n', hn, hx', hwf⟩ := DataW.trod_int under_u8 h2
      injection hn with hn
      have hr : 0 ≤ n' ∧ n' < 256 := by
        have h3 : (decide (IntKind.u8.min ≤ n') && decide (n' ≤ IntKind.u8.max)) = true := hwf
        rw [Bool.and_eq_true, decide_eq_true_eq, decide_eq_true_eq] at h3
        have e1 : IntKind.u8.min = 0 := rfl
        have e2 : IntKind.u8.max = 255 := rfl
        rw [e1, e2] at h3
        omega
      refine ⟨UInt8.ofNat n'.toNat, ?_⟩
      rw [hn, UInt8.toNat_ofNat']
      congr 1
      omega
    let y : Nat → UInt8 := fun i => if h : i < len then Classical.choose (hV i h) else 0
    have hy : ∀ i, i < len → V i = .int .u8 ((y i).toNat : Int) := fun i hi => by
      show V i = .int .u8 ((if h : i < len then Classical.choose (hV i h) else 0 : UInt8).toNat : Int)
      rw [dif_pos hi]
      exact Classical.choose_spec (hV i hi)
    have hlb : ((List.range len).map y).length = len := by simp
    have hwt : len ≤ reachBytes := by
      have := hw ((len + (m - len)) * 1) (by rw [hx]; simp [DataW.weights, bytes_u8])
      omega
    have hreach := reachBytes_lt
    refine ⟨some a, (List.range len).map y, cap, by rw [hlb]; exact hc, by rw [hlb]; exact hl, by rw [hlb]; simp only [Nat.reducePow] at hreach; omega, ⟨by rw [u8s_length, Nat.mul_one], fun hn => ?_⟩⟩
    rw [hlb] at hn
    have h0 := (hall 0 (by omega)).1
    rw [addr_add_zero] at h0
    have ha := spot_of_cell h0
    refine ⟨a.block, a.off, by rw [← ha], fun j u hu => ?_⟩
    have hj : j < len := by
      have := (List.getElem?_eq_some_iff.1 hu).1
      rwa [u8s_length, hlb] at this
    have hcell := (hall j (by omega)).1
    rw [ha, add_lit] at hcell
    rw [u8s_get _ j (by rw [hlb]; exact hj)] at hu
    injection hu with hu
    subst hu
    refine ⟨?_, Nat.zero_le _, (show a.block < W.heap.size from World.block_lt_of_cell? W _ h0)⟩
    rw [hcell, hy j hj]
    simp
end

/-- What the rows' lists give: utf8's two tables. -/
theorem tabs_of_laid {W : World} {l : List (String × DataW Unit)} (h : laidMet Tryd.prog l W) (h1 : ("unicode/utf8.first", Lib.firstData) ∈ l) (h2 : ("unicode/utf8.acceptRanges", Lib.acceptData) ∈ l) : Tabs W :=
  utf8Tabs_of_readsT (U8Types.of196 Tryd.laysValid) ⟨by kernel_rfl, by kernel_rfl, by kernel_rfl, by kernel_rfl, by kernel_rfl, by kernel_rfl, by kernel_rfl⟩ (Lib.laidMet.reads h h1) (Lib.laidMet.reads h h2)
theorem first_pinned : (Rows.laid_unicode_utf8_first : DataW Unit) = Lib.firstData := by kernel_rfl
theorem accept_laid : (Rows.laid_unicode_utf8_acceptRanges : DataW Unit) = Lib.acceptData := by kernel_rfl

/-- A world that meets the rows' lists: the settled one, the two tables laid. -/
noncomputable def laidWorld (os : Os) : World :=
  let w0 := World.holding Tryd.prog os ⟨#[], #[], []⟩
  let put (h : Array Obj) (g : Nat) (cs : Array Value) : Array Obj := h.modify g fun
    | .cells _ t frozen => .cells cs t frozen
    | o => o
  let h1 := put w0.heap 0 (Lib.firstTab.map fun z => Value.int .u8 z).toArray
  let h2 := put h1 1 ((List.range 16).flatMap fun i => [Value.int .u8 (Lib.accLo i), Value.int .u8 (Lib.accHi i)]).toArray
  { w0 with heap := h2 }
theorem laid_met (os : Os) (args : Array Value) : laidMet Tryd.prog [("unicode/utf8.acceptRanges", Lib.acceptData), ("unicode/utf8.first", Lib.firstData)] ((laidWorld os).forCall (fun _ _ => 0) ⟨#[], args, []⟩).memory :=
  (LaidIn.of_run (l := [("unicode/utf8.acceptRanges", Lib.acceptData), ("unicode/utf8.first", Lib.firstData)]) [1, 0] 8 (by kernel_rfl) (by kernel_rfl) (by kernel_rfl) (by kernel_rfl)).met
end Go.Proofs.YtcdbchifigonpaaDoor

set_option linter.unusedVariables false
set_option linter.unusedSimpArgs false
set_option maxRecDepth 100000
namespace Go.Proofs.YtcdbchifigonpaaDoor
open Go.RowKit Go.ChangeShapes Go.Shelf Go.Deep

theorem under_val : ∃ fs : Array Field, Tryd.prog.underlying 37 = some (.struct fs) ∧ fs.map (fun f => (f.type, f.offset)) = #[(3, 0), (34, 1), (23, 2), (27, 3), (35, 4)] := ⟨_, Tryd.underlying37, by kernel_rfl⟩
theorem under_fld : ∃ fs : Array Field, Tryd.prog.underlying 52 = some (.struct fs) ∧ fs.map (fun f => (f.type, f.offset)) = #[(9, 0), (37, 1)] := ⟨_, Tryd.underlying52, by kernel_rfl⟩
theorem under_int : Tryd.prog.underlying 3 = some (.int .i64) := by kernel_rfl
theorem under_u64 : Tryd.prog.underlying 34 = some (.int .u64) := by kernel_rfl
theorem cells_int : Tryd.prog.cellsOf 3 = 1 := by kernel_rfl
theorem cells_u64 : Tryd.prog.cellsOf 34 = 1 := by kernel_rfl
theorem cells_u8s : Tryd.prog.cellsOf 23 = 1 := by kernel_rfl
theorem cells_vals : Tryd.prog.cellsOf 27 = 1 := by kernel_rfl
theorem cells_flds : Tryd.prog.cellsOf 35 = 1 := by kernel_rfl
theorem cells_val : Tryd.prog.cellsOf 37 = 5 := by kernel_rfl
theorem cells_fld : Tryd.prog.cellsOf 52 = 6 := by kernel_rfl
theorem cells_str : Tryd.prog.cellsOf 9 = 1 := by kernel_rfl
theorem bytes_val : Tryd.prog.bytesOf 37 = 88 := by kernel_rfl
theorem bytes_fld : Tryd.prog.bytesOf 52 = 104 := by kernel_rfl

theorem wf_range {k : IntKind} {n : Int} (h : (Lit.int k n).wf = true) : k.min ≤ n ∧ n ≤ k.max := by
  have h3 : (decide (k.min ≤ n) && decide (n ≤ k.max)) = true := h
  rw [Bool.and_eq_true, decide_eq_true_eq, decide_eq_true_eq] at h3
  exact h3
theorem weightsAll_mem {H : Type} {P : Program} {e : TypeId} : ∀ {l : List (DataW H)} {d : DataW H}, d ∈ l → ∀ n ∈ d.weights P e, n ∈ DataW.weightsAll P e l
  | x :: r, d, h, n, hn => by
    simp only [DataW.weightsAll, List.mem_append]
    rcases List.mem_cons.1 h with e | e
    · subst e; exact .inl hn
    · exact .inr (weightsAll_mem e n hn)

section
variable {H : Type} {enc : TypeId × Value → H} {W : World} {sp : Nat → Bool} {held : Bool}

/-- A slice of elements of z cells each: where it lies, its elements' cells. -/
theorem open_row {t e : TypeId} {z by_ : Nat} (ht : Tryd.prog.underlying t = some (.slice e)) (hz : Tryd.prog.cellsOf e = z) (hz0 : 0 < z) (hby : Tryd.prog.bytesOf e = by_) (hby0 : 0 < by_) {fuel : Nat} {c : Value} {x : DataW H × List MemPlace} (h : DataW.trod enc Tryd.prog W 0 sp held fuel t [c] = some x) (hw : ∀ n ∈ x.1.weights Tryd.prog t, n ≤ reachBytes) :
    ∃ (A : Option Addr) (len cap : Nat) (D : Nat → DataW H), c = .slice A len cap ∧ len ≤ cap ∧ len ≤ 140737488355328 ∧ ((len = 0) ∨ ∃ bk o, A = some ⟨bk, o, none⟩ ∧ bk < W.heap.size) ∧
      ∀ i, i < len → SizeOf.sizeOf (D i) < SizeOf.sizeOf x.1 ∧ (∀ n ∈ (D i).weights Tryd.prog e, n ≤ reachBytes) ∧ ∃ (bk o fuel' : Nat) (q : List MemPlace) (cs : List Value), A = some ⟨bk, o, none⟩ ∧ cs.length = z ∧ (∀ j u, cs[j]? = some u → AtW W 0 W.heap.size ⟨bk, o + i * z + j, none⟩ u) ∧ DataW.trod enc Tryd.prog W 0 sp held fuel' e cs = some (D i, q) := by
  rcases open_slice ht h with ⟨hc, hx⟩ | ⟨a, len, cap, m, n, D, Pl, hc, hb, hl, hm, hmm, hx, hall⟩
  · injection hc with hc
    subst hc
    exact ⟨none, 0, 0, fun _ => x.1, rfl, by simp, by simp, .inl rfl, fun i hi => absurd hi (by simp)⟩
  · injection hc with hc
    have hmlen : len ≤ m := by rw [hmm]; split <;> omega
    rw [hz] at hall
    have hxd : x.1 = .slice ((List.range len).map D) ((List.range (m - len)).map fun j => D (len + j)) := by rw [hx]
    have hwt : len ≤ reachBytes := by
      have := hw ((len + (m - len)) * by_) (by rw [hxd]; simp [DataW.weights, ht, hby])
      have h2 : len * 1 ≤ (len + (m - len)) * by_ := Nat.mul_le_mul (by omega) hby0
      omega
    have hreach := reachBytes_lt
    simp only [Nat.reducePow] at hreach
    have hcell : ∀ i, i < len → ∃ cs, cs.length = z ∧ (∀ j u, cs[j]? = some u → W.cell? ((a.add (i * z)).add j) = some u) ∧ DataW.trod enc Tryd.prog W 0 sp held n e cs = some (D i, Pl i) := fun i hi => by
      obtain ⟨cs, h1, h2⟩ := hall i (by omega)
      obtain ⟨_, hlen, hcs⟩ := World.cells?_some h1
      refine ⟨cs, hlen, fun j u hu => ?_, h2⟩
      have hj : j < z := by rw [← hlen]; exact (List.getElem?_eq_some_iff.1 hu).1
      rw [hcs j hj, hu]
    have haddr : 0 < len → a = ⟨a.block, a.off, none⟩ ∧ a.block < W.heap.size := fun hn => by
      obtain ⟨cs, hlen, hcs, _⟩ := hcell 0 hn
      have h0 := hcs 0 (cs[0]'(by omega)) (List.getElem?_eq_getElem (by omega))
      rw [addr_add_zero, Nat.zero_mul, addr_add_zero] at h0
      exact ⟨spot_of_cell h0, World.block_lt_of_cell? W _ h0⟩
    refine ⟨some a, len, cap, D, hc, hl, by omega, ?_, fun i hi => ⟨?_, ?_, ?_⟩⟩
    · rcases Nat.eq_zero_or_pos len with h0 | h0
      · exact .inl h0
      · exact .inr ⟨a.block, a.off, by rw [← (haddr h0).1], (haddr h0).2⟩
    · rw [hxd]
      have hmem : D i ∈ (List.range len).map D := List.mem_map.2 ⟨i, List.mem_range.2 hi, rfl⟩
      have := List.sizeOf_lt_of_mem hmem
      simp only [DataW.slice.sizeOf_spec]
      omega
    · intro k hk
      refine hw k ?_
      rw [hxd]
      simp only [DataW.weights, ht, List.mem_cons, List.mem_append]
      exact .inr (.inl (weightsAll_mem (List.mem_map.2 ⟨i, List.mem_range.2 hi, rfl⟩) k hk))
    · obtain ⟨cs, hlen, hcs, htr⟩ := hcell i hi
      have ha := haddr (by omega)
      refine ⟨a.block, a.off, n, Pl i, cs, by rw [← ha.1], hlen, fun j u hu => ⟨?_, Nat.zero_le _, ha.2⟩, htr⟩
      have := hcs j u hu
      rw [ha.1, add_lit, add_lit] at this
      exact this

theorem field_of {fs : Array Field} {l : Array (TypeId × Nat)} (h : fs.map (fun f => (f.type, f.offset)) = l) {i : Nat} {t : TypeId} {o : Nat} (hi : l[i]? = some (t, o)) : ∃ f, fs[i]? = some f ∧ f.type = t ∧ f.offset = o := by
  subst h
  rw [Array.getElem?_map] at hi
  cases hf : fs[i]? with
  | none => rw [hf] at hi; cases hi
  | some f =>
    rw [hf] at hi
    simp only [Option.map_some, Option.some.injEq, Prod.mk.injEq] at hi
    exact ⟨f, rfl, hi.1, hi.2⟩

/-- A value's five cells, read, are a value in the world. -/
theorem open_val (n : Nat) : ∀ (d : DataW H), SizeOf.sizeOf d ≤ n → ∀ (fuel : Nat) (cs : List Value) (q : List MemPlace), DataW.trod enc Tryd.prog W 0 sp held fuel 37 cs = some (d, q) → (∀ k ∈ d.weights Tryd.prog 37, k ≤ reachBytes) →
    ∃ (v : V) (c : Cv), cs = c.cells.toList ∧ In W v c := by
  induction n with
  | zero => intro d hd; have : 0 < SizeOf.sizeOf d := by cases d <;> simp; all_goals omega
            omega
  | succ n ih =>
    intro d hd fuel cs q h hw
    obtain ⟨fs, hu, hfs⟩ := under_val
    obtain ⟨xs, m, hfuel, hx, hlen, hxl, hall⟩ := DataW.trod_struct hu h
    injection hx with hx1 hx2
    subst hx1
    rw [cells_val] at hlen
    have hfl : fs.size = 5 := by have := congrArg Array.size hfs; simpa using this
    rw [hfl] at hxl
    obtain ⟨c0, c1, c2, c3, c4, rfl⟩ : ∃ a b c d e, cs = [a, b, c, d, e] := by
      match cs, hlen with
      | [a, b, c, d, e], _ => exact ⟨a, b, c, d, e, rfl⟩
    obtain ⟨x0, x1, x2, x3, x4, rfl⟩ : ∃ a b c d e, xs = [a, b, c, d, e] := by
      match xs, hxl with
      | [a, b, c, d, e], _ => exact ⟨a, b, c, d, e, rfl⟩
    have hpart : ∀ i t o, (#[(3, 0), (34, 1), (23, 2), (27, 3), (35, 4)] : Array (TypeId × Nat))[i]? = some (t, o) →
        DataW.trod enc Tryd.prog W 0 sp held m t (([c0, c1, c2, c3, c4].drop o).take (Tryd.prog.cellsOf t)) = [x0, x1, x2, x3, x4][i]? := fun i t o hi => by
      obtain ⟨f, hf, rfl, rfl⟩ := field_of hfs hi
      exact hall i f hf
    have h0 := hpart 0 _ _ rfl
    have h1 := hpart 1 _ _ rfl
    have h2 := hpart 2 _ _ rfl
    have h3 := hpart 3 _ _ rfl
    have h4 := hpart 4 _ _ rfl
    rw [cells_int] at h0
    rw [cells_u64] at h1
    rw [cells_u8s] at h2
    rw [cells_vals] at h3
    rw [cells_flds] at h4
    have htys : fs.toList.map (·.type) = [3, 34, 23, 27, 35] := by
      have := congrArg (fun a => a.toList.map Prod.fst) hfs
      simp only [Array.toList_map, List.map_map] at this
      exact this
    have hwe : ∀ (j : Nat) (t : TypeId) (dd : DataW H), [3, 34, 23, 27, 35][j]? = some t → ([x0, x1, x2, x3, x4].map (·.1))[j]? = some dd → ∀ k ∈ dd.weights Tryd.prog t, k ≤ reachBytes := fun j t dd hj hdd k hk => by
      refine hw k ?_
      simp only [DataW.weights, hu, htys]
      exact DataW.weights_mem_each hj hdd k hk
    obtain ⟨k, e0, _, hk⟩ := DataW.trod_int under_int h0
    obtain ⟨nn, e1, _, hnn⟩ := DataW.trod_int under_u64 h1
    simp at e0 e1
    subst e0 e1
    have hk' := wf_range hk
    have hn' := wf_range hnn
    have i1 : IntKind.i64.min = -9223372036854775808 := rfl
    have i2 : IntKind.i64.max = 9223372036854775807 := rfl
    have i3 : IntKind.u64.min = 0 := rfl
    have i4 : IntKind.u64.max = 18446744073709551615 := rfl
    rw [i1, i2] at hk'
    rw [i3, i4] at hn'
    obtain ⟨AB, b, cB, rfl, hbc, hbl, hbin⟩ := open_bytes h2 (hwe 2 _ _ rfl rfl)
    obtain ⟨AL, nl, cL, DL, rfl, hlc, hll, hla, hL⟩ := open_row under_vals cells_val (by omega) bytes_val (by omega) h3 (hwe 3 _ _ rfl rfl)
    obtain ⟨AF, nf, cF, DF, rfl, hfc, hfl2, hfa, hF⟩ := open_row under_flds cells_fld (by omega) bytes_fld (by omega) h4 (hwe 4 _ _ rfl rfl)
    have hsz3 : SizeOf.sizeOf x3.1 < n + 1 := by
      have : SizeOf.sizeOf x3.1 < SizeOf.sizeOf (DataW.agg ([x0, x1, x2, x3, x4].map (·.1))) := by
        have := List.sizeOf_lt_of_mem (show x3.1 ∈ [x0, x1, x2, x3, x4].map (·.1) by simp)
        simp only [DataW.agg.sizeOf_spec]; omega
      omega
    have hsz4 : SizeOf.sizeOf x4.1 < n + 1 := by
      have : SizeOf.sizeOf x4.1 < SizeOf.sizeOf (DataW.agg ([x0, x1, x2, x3, x4].map (·.1))) := by
        have := List.sizeOf_lt_of_mem (show x4.1 ∈ [x0, x1, x2, x3, x4].map (·.1) by simp)
        simp only [DataW.agg.sizeOf_spec]; omega
      omega
    have hLv : ∀ i, i < nl → ∃ (v : V), ∃ bk o c, AL = some ⟨bk, o, none⟩ ∧ At5 (AtW W 0 W.heap.size) bk (o + i * 5) c ∧ In W v c := fun i hi => by
      obtain ⟨s1, s2, bk, o, fuel', q', cs', ha, hlen', hcs', htr⟩ := hL i hi
      obtain ⟨v, c, rfl, hin⟩ := ih (DL i) (by omega) fuel' cs' q' htr s2
      exact ⟨v, bk, o, c, ha, ⟨hcs' 0 _ rfl, hcs' 1 _ rfl, hcs' 2 _ rfl, hcs' 3 _ rfl, hcs' 4 _ rfl⟩, hin⟩
    have hFv : ∀ i, i < nf → ∃ (sv : ByteArray × V), ∃ bk o c, AF = some ⟨bk, o, none⟩ ∧ AtW W 0 W.heap.size ⟨bk, o + i * 6, none⟩ (.string sv.1) ∧ sv.1.size ≤ 140737488355328 ∧ At5 (AtW W 0 W.heap.size) bk (o + i * 6 + 1) c ∧ In W sv.2 c := fun i hi => by
      obtain ⟨s1, s2, bk, o, fuel', q', cs', ha, hlen', hcs', htr⟩ := hF i hi
      obtain ⟨gs, gu, gfs⟩ := under_fld
      obtain ⟨ys, m', _, hy, hlen2, hyl, hall2⟩ := DataW.trod_struct gu htr
      injection hy with hy1 hy2
      have hgl : gs.size = 2 := by have := congrArg Array.size gfs; simpa using this
      rw [hgl] at hyl
      obtain ⟨y0, y1, rfl⟩ : ∃ a b, ys = [a, b] := by
        match ys, hyl with
        | [a, b], _ => exact ⟨a, b, rfl⟩
      obtain ⟨d0, d1, d2, d3, d4, d5, rfl⟩ : ∃ a b c d e f, cs' = [a, b, c, d, e, f] := by
        match cs', hlen' with
        | [a, b, c, d, e, f], _ => exact ⟨a, b, c, d, e, f, rfl⟩
      obtain ⟨f0, hf0, t0, o0⟩ := field_of gfs (i := 0) rfl
      obtain ⟨f1, hf1, t1, o1⟩ := field_of gfs (i := 1) rfl
      have g0 := hall2 0 f0 hf0
      have g1 := hall2 1 f1 hf1
      rw [t0, o0, cells_str] at g0
      rw [t1, o1, cells_val] at g1
      have gtys : gs.toList.map (·.type) = [9, 37] := by
        have := congrArg (fun a => a.toList.map Prod.fst) gfs
        simp only [Array.toList_map, List.map_map] at this
        exact this
      have gw : ∀ (j : Nat) (t : TypeId) (dd : DataW H), [9, 37][j]? = some t → ([y0, y1].map (·.1))[j]? = some dd → ∀ k ∈ dd.weights Tryd.prog t, k ≤ reachBytes := fun j t dd hj hdd k hk => by
        refine s2 k ?_
        rw [hy1]
        simp only [DataW.weights, gu, gtys]
        exact DataW.weights_mem_each hj hdd k hk
      obtain ⟨s, es, hys, _⟩ := DataW.trod_string under_string g0
      simp at es
      subst es
      have hsl : s.size ≤ reachBytes := by
        have := gw 0 _ _ rfl rfl s.data.toList.length (by rw [hys]; simp [DataW.weights])
        simpa using this
      have hreach := reachBytes_lt
      simp only [Nat.reducePow] at hreach
      have hsy : SizeOf.sizeOf y1.1 < SizeOf.sizeOf (DF i) := by
        rw [hy1]
        have := List.sizeOf_lt_of_mem (show y1.1 ∈ [y0, y1].map (·.1) by simp)
        simp only [DataW.agg.sizeOf_spec]; omega
      obtain ⟨v, c, hc, hin⟩ := ih y1.1 (by omega) m' [d1, d2, d3, d4, d5] y1.2 g1 (gw 1 _ _ rfl rfl)
      injection hc with e1 hc
      injection hc with e2 hc
      injection hc with e3 hc
      injection hc with e4 hc
      injection hc with e5 _
      subst e1 e2 e3 e4 e5
      exact ⟨(s, v), bk, o, c, ha, hcs' 0 _ rfl, by show s.size ≤ _; omega, ⟨hcs' 1 _ rfl, hcs' 2 _ rfl, hcs' 3 _ rfl, hcs' 4 _ rfl, hcs' 5 _ rfl⟩, hin⟩
    let vl : Nat → V := fun i => if h : i < nl then Classical.choose (hLv i h) else V.zero
    have hvl : ∀ i (h : i < nl), ∃ bk o c, AL = some ⟨bk, o, none⟩ ∧ At5 (AtW W 0 W.heap.size) bk (o + i * 5) c ∧ In W (vl i) c := fun i h => by
      show ∃ bk o c, _ ∧ _ ∧ In W (if h : i < nl then Classical.choose (hLv i h) else V.zero) c
      rw [dif_pos h]
      exact Classical.choose_spec (hLv i h)
    let vf : Nat → ByteArray × V := fun i => if h : i < nf then Classical.choose (hFv i h) else (⟨#[]⟩, V.zero)
    have hvf : ∀ i (h : i < nf), ∃ bk o c, AF = some ⟨bk, o, none⟩ ∧ AtW W 0 W.heap.size ⟨bk, o + i * 6, none⟩ (.string (vf i).1) ∧ (vf i).1.size ≤ 140737488355328 ∧ At5 (AtW W 0 W.heap.size) bk (o + i * 6 + 1) c ∧ In W (vf i).2 c := fun i h => by
      have e : vf i = Classical.choose (hFv i h) := by
        show (if h : i < nf then Classical.choose (hFv i h) else (⟨#[]⟩, V.zero)) = _
        rw [dif_pos h]
      rw [e]
      exact Classical.choose_spec (hFv i h)
    have hll' : ((List.range nl).map vl).length = nl := by simp
    have hlf' : ((List.range nf).map vf).length = nf := by simp
    refine ⟨.mk k nn.toNat b ((List.range nl).map vl) ((List.range nf).map vf), ⟨k, nn, AB, b.length, cB, AL, nl, cL, AF, nf, cF⟩, rfl, ?_⟩
    unfold In
    rw [IsV]
    refine ⟨rfl, by show nn = (nn.toNat : Int); omega, rfl, hll'.symm, hlf'.symm, hk'.1, hk'.2, by omega, hbc, hbl, by rw [hll']; exact hlc, by rw [hll']; exact hll, by rw [hlf']; exact hfc, by rw [hlf']; exact hfl2, hbin, fun i hi => ?_, fun i hi => ?_⟩
    · rw [List.getElem_map, List.getElem_range]
      obtain ⟨bk, o, c, e, h5, hin⟩ := hvl i (by rw [hll'] at hi; exact hi)
      exact ⟨bk, o, c, e, h5, hin⟩
    · rw [List.getElem_map, List.getElem_range]
      obtain ⟨bk, o, c, e, hs, hz, h5, hin⟩ := hvf i (by rw [hlf'] at hi; exact hi)
      exact ⟨bk, o, c, e, hs, hz, h5, hin⟩
end
end Go.Proofs.YtcdbchifigonpaaDoor

set_option linter.unusedVariables false
set_option linter.unusedSimpArgs false
namespace Go.Proofs.YtcdbchifigonpaaDoor
open Go.RowKit Go.ChangeShapes Go.ChangeAt Go.Shelf Go.WideShapes

theorem own_ : ownKnob Tryd.prog.godebug = none := by kernel_rfl
theorem laidOut_ : laidOutB Tryd.prog = true := by kernel_rfl
/-- What the rows of this seat list. -/
def rowLaid : List (String × DataW Unit) := [("unicode/utf8.acceptRanges", Rows.laid_unicode_utf8_acceptRanges), ("unicode/utf8.first", Rows.laid_unicode_utf8_first)]
theorem rowLaid_eq : rowLaid = [("unicode/utf8.acceptRanges", Lib.acceptData), ("unicode/utf8.first", Lib.firstData)] := by
  unfold rowLaid
  rw [first_pinned, accept_laid]
theorem laid_row (os : Os) (args : Array Value) : laidMet Tryd.prog rowLaid ((laidWorld os).forCall (fun _ _ => 0) ⟨#[], args, []⟩).memory := by
  rw [rowLaid_eq]; exact laid_met os args
theorem tabs_row {W : World} (h : laidMetH Tryd.prog rowLaid W) : Tabs W := by
  have h2 : laidMet Tryd.prog rowLaid W := h
  rw [rowLaid_eq] at h2
  exact tabs_of_laid h2 (.tail _ (.head _)) (.head _)
end Go.Proofs.YtcdbchifigonpaaDoor
