/- Arguments as they are read: lists of values, replies, requests. Written by wip/tools/gen_openw.py. · What the wire laws' cards share: bytes within the reach, the witnesses' data. · What a bound on an argument's bulk gives: a value's bytes are no more than sixteen times its bulk. · A request argument: its values' bytes are bounded by its bulk. Written by wip/tools/gen_bulkw.py. -/
import Derived.Test.YtcdbchifigonpaaDoorOpenV
import Derived.Test.YtcdbchifigonpaaDoorRequest
import Derived.Test.YtcdbchifigonpaaDoorWAwake
import Derived.Test.YtcdbchifigonpaaDoorRows
set_option linter.unusedVariables false
set_option linter.unusedSimpArgs false
set_option maxRecDepth 100000
namespace Go.Proofs.YtcdbchifigonpaaDoor
open Go.RowKit Go.ChangeShapes Go.Shelf Go.Deep Go.WideShapes

theorem under_err : Tryd.prog.underlying 26 = some (.int .i64) := by kernel_rfl
theorem under_bool : Tryd.prog.underlying 4 = some .bool := by kernel_rfl
theorem cells_err : Tryd.prog.cellsOf 26 = 1 := by kernel_rfl
theorem cells_bool : Tryd.prog.cellsOf 4 = 1 := by kernel_rfl
section
variable {H : Type} {enc : TypeId × Value → H} {W : World} {sp : Nat → Bool} {held : Bool}
/-- A list of values. -/
theorem open_vals {fuel : Nat} {c : Value} {x : DataW H × List MemPlace} (h : DataW.trod enc Tryd.prog W 0 sp held fuel 27 [c] = some x) (hw : ∀ n ∈ x.1.weights Tryd.prog 27, n ≤ reachBytes) : ∃ A cap vs, c = .slice A vs.length cap ∧ InL W A cap vs := by
  obtain ⟨A, len, cap, D, rfl, hlc, hll, _, hall⟩ := open_row under_vals cells_val (by omega) bytes_val (by omega) h hw
  have hv : ∀ i, i < len → ∃ (v : V), ∃ bk o c, A = some ⟨bk, o, none⟩ ∧ At5 (AtW W 0 W.heap.size) bk (o + i * 5) c ∧ In W v c := fun i hi => by
    obtain ⟨s1, s2, bk, o, fuel', q', cs', ha, hlen', hcs', htr⟩ := hall i hi
    obtain ⟨v, c, rfl, hin⟩ := open_val _ (D i) (Nat.le_refl _) fuel' cs' q' htr s2
    exact ⟨v, bk, o, c, ha, ⟨hcs' 0 _ rfl, hcs' 1 _ rfl, hcs' 2 _ rfl, hcs' 3 _ rfl, hcs' 4 _ rfl⟩, hin⟩
  let vl : Nat → V := fun i => if h : i < len then Classical.choose (hv i h) else V.zero
  have hvl : ∀ i (h : i < len), ∃ bk o c, A = some ⟨bk, o, none⟩ ∧ At5 (AtW W 0 W.heap.size) bk (o + i * 5) c ∧ In W (vl i) c := fun i h => by
    show ∃ bk o c, _ ∧ _ ∧ In W (if h : i < len then Classical.choose (hv i h) else V.zero) c
    rw [dif_pos h]
    exact Classical.choose_spec (hv i h)
  obtain ⟨vs, hvs, hvi⟩ : ∃ vs : List V, vs.length = len ∧ ∀ i (h : i < vs.length), ∃ bk o c, A = some ⟨bk, o, none⟩ ∧ At5 (AtW W 0 W.heap.size) bk (o + i * 5) c ∧ In W vs[i] c := by
    refine ⟨(List.range len).map vl, by simp, fun i h => ?_⟩
    rw [List.getElem_map, List.getElem_range]
    exact hvl i (by simpa using h)
  clear hvl vl hv hall
  subst hvs
  refine ⟨A, cap, vs, rfl, ?_⟩
  unfold InL In
  rw [IsV]
  refine ⟨rfl, rfl, rfl, rfl, rfl, by decide, by decide, by decide, by simp, by simp, hlc, hll, by simp, by simp, ⟨by simp [u8s], fun h => by simp at h⟩, fun i hi => ?_, fun i hi => by simp at hi⟩
  obtain ⟨bk, o, c, e, h5, hin⟩ := hvi i hi
  exact ⟨bk, o, c, e, h5, hin⟩

theorem under_reply : ∃ fs : Array Field, Tryd.prog.underlying 29 = some (.struct fs) ∧ fs.map (fun f => (f.type, f.offset)) = #[(26, 0), (3, 1), (27, 2), (3, 3)] := ⟨_, Tryd.underlying29, by kernel_rfl⟩
theorem cells_reply : Tryd.prog.cellsOf 29 = 4 := by kernel_rfl
theorem open_reply (d : DataW H) (fuel : Nat) (cs : List Value) (q : List MemPlace) (h : DataW.trod enc Tryd.prog W 0 sp held fuel 29 cs = some (d, q)) (hw : ∀ k ∈ d.weights Tryd.prog 29, k ≤ reachBytes) :
    ∃ (r : Rp) (A : Option Addr) (cap : Nat), cs = (rpCells r.e r.n A r.docs.length cap r.cursor).toList ∧ InL W A cap r.docs ∧ (-9223372036854775808 ≤ r.e ∧ r.e ≤ 9223372036854775807) ∧ (-9223372036854775808 ≤ r.n ∧ r.n ≤ 9223372036854775807) ∧ (-9223372036854775808 ≤ r.cursor ∧ r.cursor ≤ 9223372036854775807) := by
  obtain ⟨fs, hu, hfs⟩ := under_reply
  obtain ⟨xs, m, hfuel, hx, hlen, hxl, hall⟩ := DataW.trod_struct hu h
  injection hx with hx1 hx2
  subst hx1
  rw [cells_reply] at hlen
  have hfl : fs.size = 4 := by have := congrArg Array.size hfs; simpa using this
  rw [hfl] at hxl
  obtain ⟨c0, c1, c2, c3, rfl⟩ : ∃ c0 c1 c2 c3, cs = [c0, c1, c2, c3] := by
    match cs, hlen with
    | [c0, c1, c2, c3], _ => exact ⟨c0, c1, c2, c3, rfl⟩
  obtain ⟨x0, x1, x2, x3, rfl⟩ : ∃ x0 x1 x2 x3, xs = [x0, x1, x2, x3] := by
    match xs, hxl with
    | [x0, x1, x2, x3], _ => exact ⟨x0, x1, x2, x3, rfl⟩
  have hpart : ∀ i t o, (#[(26, 0), (3, 1), (27, 2), (3, 3)] : Array (TypeId × Nat))[i]? = some (t, o) →
      DataW.trod enc Tryd.prog W 0 sp held m t (([c0, c1, c2, c3].drop o).take (Tryd.prog.cellsOf t)) = [x0, x1, x2, x3][i]? := fun i t o hi => by
    obtain ⟨f, hf, rfl, rfl⟩ := field_of hfs hi
    exact hall i f hf
  have htys : fs.toList.map (·.type) = [26, 3, 27, 3] := by
    have := congrArg (fun a => a.toList.map Prod.fst) hfs
    simp only [Array.toList_map, List.map_map] at this
    exact this
  have hwe : ∀ (j : Nat) (t : TypeId) (dd : DataW H), [26, 3, 27, 3][j]? = some t → ([x0, x1, x2, x3].map (·.1))[j]? = some dd → ∀ k ∈ dd.weights Tryd.prog t, k ≤ reachBytes := fun j t dd hj hdd k hk => by
    refine hw k ?_
    simp only [DataW.weights, hu, htys]
    exact DataW.weights_mem_each hj hdd k hk
  have i1 : IntKind.i64.min = -9223372036854775808 := rfl
  have i2 : IntKind.i64.max = 9223372036854775807 := rfl
  have hreach := reachBytes_lt
  simp only [Nat.reducePow] at hreach
  have h0 := hpart 0 _ _ rfl
  rw [cells_err] at h0
  obtain ⟨n0, e0, _, r0⟩ := DataW.trod_int under_err h0
  simp at e0
  subst e0
  replace r0 := wf_range r0
  rw [i1, i2] at r0
  have h1 := hpart 1 _ _ rfl
  rw [cells_int] at h1
  obtain ⟨n1, e1, _, r1⟩ := DataW.trod_int under_int h1
  simp at e1
  subst e1
  replace r1 := wf_range r1
  rw [i1, i2] at r1
  have h2 := hpart 2 _ _ rfl
  rw [cells_vals] at h2
  obtain ⟨A2, p2, n2, rfl, r2⟩ := open_vals h2 (hwe 2 _ _ rfl rfl)
  have h3 := hpart 3 _ _ rfl
  rw [cells_int] at h3
  obtain ⟨n3, e3, _, r3⟩ := DataW.trod_int under_int h3
  simp at e3
  subst e3
  replace r3 := wf_range r3
  rw [i1, i2] at r3
  exact ⟨⟨n0, n1, n2, n3⟩, A2, p2, rfl, r2, r0, r1, r3⟩

theorem under_request : ∃ fs : Array Field, Tryd.prog.underlying 39 = some (.struct fs) ∧ fs.map (fun f => (f.type, f.offset)) = #[(3, 0), (9, 1), (9, 2), (9, 3), (4, 4), (37, 5), (37, 10), (37, 15), (37, 20), (3, 25)] := ⟨_, Tryd.underlying39, by kernel_rfl⟩
theorem cells_request : Tryd.prog.cellsOf 39 = 26 := by kernel_rfl
theorem open_request (d : DataW H) (fuel : Nat) (cs : List Value) (q : List MemPlace) (h : DataW.trod enc Tryd.prog W 0 sp held fuel 39 cs = some (d, q)) (hw : ∀ k ∈ d.weights Tryd.prog 39, k ≤ reachBytes) :
    ∃ (r : Rq) (ck cl ch cx : Cv), cs = (rqCells r.do_ r.coll r.index r.path r.unique ck cl ch cx r.n).toList ∧ In W r.key ck ∧ In W r.low cl ∧ In W r.high ch ∧ In W r.doc cx ∧ (-9223372036854775808 ≤ r.do_ ∧ r.do_ ≤ 9223372036854775807) ∧ (-9223372036854775808 ≤ r.n ∧ r.n ≤ 9223372036854775807) ∧ r.coll.size ≤ 140737488355328 ∧ r.index.size ≤ 140737488355328 ∧ r.path.size ≤ 140737488355328 := by
  obtain ⟨fs, hu, hfs⟩ := under_request
  obtain ⟨xs, m, hfuel, hx, hlen, hxl, hall⟩ := DataW.trod_struct hu h
  injection hx with hx1 hx2
  subst hx1
  rw [cells_request] at hlen
  have hfl : fs.size = 10 := by have := congrArg Array.size hfs; simpa using this
  rw [hfl] at hxl
  obtain ⟨c0, c1, c2, c3, c4, c5, c6, c7, c8, c9, c10, c11, c12, c13, c14, c15, c16, c17, c18, c19, c20, c21, c22, c23, c24, c25, rfl⟩ : ∃ c0 c1 c2 c3 c4 c5 c6 c7 c8 c9 c10 c11 c12 c13 c14 c15 c16 c17 c18 c19 c20 c21 c22 c23 c24 c25, cs = [c0, c1, c2, c3, c4, c5, c6, c7, c8, c9, c10, c11, c12, c13, c14, c15, c16, c17, c18, c19, c20, c21, c22, c23, c24, c25] := by
    match cs, hlen with
    | [c0, c1, c2, c3, c4, c5, c6, c7, c8, c9, c10, c11, c12, c13, c14, c15, c16, c17, c18, c19, c20, c21, c22, c23, c24, c25], _ => exact ⟨c0, c1, c2, c3, c4, c5, c6, c7, c8, c9, c10, c11, c12, c13, c14, c15, c16, c17, c18, c19, c20, c21, c22, c23, c24, c25, rfl⟩
  obtain ⟨x0, x1, x2, x3, x4, x5, x6, x7, x8, x9, rfl⟩ : ∃ x0 x1 x2 x3 x4 x5 x6 x7 x8 x9, xs = [x0, x1, x2, x3, x4, x5, x6, x7, x8, x9] := by
    match xs, hxl with
    | [x0, x1, x2, x3, x4, x5, x6, x7, x8, x9], _ => exact ⟨x0, x1, x2, x3, x4, x5, x6, x7, x8, x9, rfl⟩
  have hpart : ∀ i t o, (#[(3, 0), (9, 1), (9, 2), (9, 3), (4, 4), (37, 5), (37, 10), (37, 15), (37, 20), (3, 25)] : Array (TypeId × Nat))[i]? = some (t, o) →
      DataW.trod enc Tryd.prog W 0 sp held m t (([c0, c1, c2, c3, c4, c5, c6, c7, c8, c9, c10, c11, c12, c13, c14, c15, c16, c17, c18, c19, c20, c21, c22, c23, c24, c25].drop o).take (Tryd.prog.cellsOf t)) = [x0, x1, x2, x3, x4, x5, x6, x7, x8, x9][i]? := fun i t o hi => by
    obtain ⟨f, hf, rfl, rfl⟩ := field_of hfs hi
    exact hall i f hf
  have htys : fs.toList.map (·.type) = [3, 9, 9, 9, 4, 37, 37, 37, 37, 3] := by
    have := congrArg (fun a => a.toList.map Prod.fst) hfs
    simp only [Array.toList_map, List.map_map] at this
    exact this
  have hwe : ∀ (j : Nat) (t : TypeId) (dd : DataW H), [3, 9, 9, 9, 4, 37, 37, 37, 37, 3][j]? = some t → ([x0, x1, x2, x3, x4, x5, x6, x7, x8, x9].map (·.1))[j]? = some dd → ∀ k ∈ dd.weights Tryd.prog t, k ≤ reachBytes := fun j t dd hj hdd k hk => by
    refine hw k ?_
    simp only [DataW.weights, hu, htys]
    exact DataW.weights_mem_each hj hdd k hk
  have i1 : IntKind.i64.min = -9223372036854775808 := rfl
  have i2 : IntKind.i64.max = 9223372036854775807 := rfl
  have hreach := reachBytes_lt
  simp only [Nat.reducePow] at hreach
  have h0 := hpart 0 _ _ rfl
  rw [cells_int] at h0
  obtain ⟨n0, e0, _, r0⟩ := DataW.trod_int under_int h0
  simp at e0
  subst e0
  replace r0 := wf_range r0
  rw [i1, i2] at r0
  have h1 := hpart 1 _ _ rfl
  rw [cells_str] at h1
  obtain ⟨n1, e1, y1, _⟩ := DataW.trod_string under_string h1
  simp at e1
  subst e1
  have r1 : n1.size ≤ 140737488355328 := by
    have := hwe 1 _ _ rfl rfl n1.data.toList.length (by rw [show x1 = _ from y1]; simp [DataW.weights])
    simp at this
    omega
  have h2 := hpart 2 _ _ rfl
  rw [cells_str] at h2
  obtain ⟨n2, e2, y2, _⟩ := DataW.trod_string under_string h2
  simp at e2
  subst e2
  have r2 : n2.size ≤ 140737488355328 := by
    have := hwe 2 _ _ rfl rfl n2.data.toList.length (by rw [show x2 = _ from y2]; simp [DataW.weights])
    simp at this
    omega
  have h3 := hpart 3 _ _ rfl
  rw [cells_str] at h3
  obtain ⟨n3, e3, y3, _⟩ := DataW.trod_string under_string h3
  simp at e3
  subst e3
  have r3 : n3.size ≤ 140737488355328 := by
    have := hwe 3 _ _ rfl rfl n3.data.toList.length (by rw [show x3 = _ from y3]; simp [DataW.weights])
    simp at this
    omega
  have h4 := hpart 4 _ _ rfl
  rw [cells_bool] at h4
  obtain ⟨n4, e4, _⟩ := DataW.trod_bool under_bool h4
  simp at e4
  subst e4
  have h5 := hpart 5 _ _ rfl
  rw [cells_val] at h5
  obtain ⟨n5, g5, e5, r5⟩ := open_val _ x5.1 (Nat.le_refl _) m _ x5.2 h5 (hwe 5 _ _ rfl rfl)
  simp at e5
  obtain ⟨rfl, rfl, rfl, rfl, rfl⟩ := e5
  have h6 := hpart 6 _ _ rfl
  rw [cells_val] at h6
  obtain ⟨n6, g6, e6, r6⟩ := open_val _ x6.1 (Nat.le_refl _) m _ x6.2 h6 (hwe 6 _ _ rfl rfl)
  simp at e6
  obtain ⟨rfl, rfl, rfl, rfl, rfl⟩ := e6
  have h7 := hpart 7 _ _ rfl
  rw [cells_val] at h7
  obtain ⟨n7, g7, e7, r7⟩ := open_val _ x7.1 (Nat.le_refl _) m _ x7.2 h7 (hwe 7 _ _ rfl rfl)
  simp at e7
  obtain ⟨rfl, rfl, rfl, rfl, rfl⟩ := e7
  have h8 := hpart 8 _ _ rfl
  rw [cells_val] at h8
  obtain ⟨n8, g8, e8, r8⟩ := open_val _ x8.1 (Nat.le_refl _) m _ x8.2 h8 (hwe 8 _ _ rfl rfl)
  simp at e8
  obtain ⟨rfl, rfl, rfl, rfl, rfl⟩ := e8
  have h9 := hpart 9 _ _ rfl
  rw [cells_int] at h9
  obtain ⟨n9, e9, _, r9⟩ := DataW.trod_int under_int h9
  simp at e9
  subst e9
  replace r9 := wf_range r9
  rw [i1, i2] at r9
  exact ⟨⟨n0, n1, n2, n3, n4, n5, n6, n7, n8, n9⟩, g5, g6, g7, g8, rfl, r5, r6, r7, r8, r0, r9, r1, r2, r3⟩

theorem open_arg_reply {base : Nat} {v : Value} {d : DataW H} {p : List MemPlace} (hok : Value.okWide Tryd.prog W .any base 29 v) (h : DataW.Trod enc Tryd.prog W 0 sp held 29 v d p) (hw : ∀ n ∈ d.weights Tryd.prog 29, n ≤ reachBytes) :
    ∃ (r : Rp) (A : Option Addr) (cap : Nat), v = .agg (rpCells r.e r.n A r.docs.length cap r.cursor) ∧ InL W A cap r.docs ∧ (-9223372036854775808 ≤ r.e ∧ r.e ≤ 9223372036854775807) ∧ (-9223372036854775808 ≤ r.n ∧ r.n ≤ 9223372036854775807) ∧ (-9223372036854775808 ≤ r.cursor ∧ r.cursor ≤ 9223372036854775807) := by
  obtain ⟨fs, hu, _⟩ := under_reply
  obtain ⟨cs, rfl, _⟩ := okWide_struct hu hok
  obtain ⟨fuel, hf⟩ := h
  obtain ⟨r, A, cap, hc, hrest⟩ := open_reply d fuel _ _ hf hw
  refine ⟨r, A, cap, ?_, hrest⟩
  exact congrArg Value.agg (Array.ext' hc)

theorem open_arg_request {base : Nat} {v : Value} {d : DataW H} {p : List MemPlace} (hok : Value.okWide Tryd.prog W .any base 39 v) (h : DataW.Trod enc Tryd.prog W 0 sp held 39 v d p) (hw : ∀ n ∈ d.weights Tryd.prog 39, n ≤ reachBytes) :
    ∃ (r : Rq) (ck cl ch cx : Cv), v = .agg (rqCells r.do_ r.coll r.index r.path r.unique ck cl ch cx r.n) ∧ In W r.key ck ∧ In W r.low cl ∧ In W r.high ch ∧ In W r.doc cx ∧ (-9223372036854775808 ≤ r.do_ ∧ r.do_ ≤ 9223372036854775807) ∧ (-9223372036854775808 ≤ r.n ∧ r.n ≤ 9223372036854775807) ∧ r.coll.size ≤ 140737488355328 ∧ r.index.size ≤ 140737488355328 ∧ r.path.size ≤ 140737488355328 := by
  obtain ⟨fs, hu, _⟩ := under_request
  obtain ⟨cs, rfl, _⟩ := okWide_struct hu hok
  obtain ⟨fuel, hf⟩ := h
  obtain ⟨r, ck, cl, ch, cx, hc, hrest⟩ := open_request d fuel _ _ hf hw
  refine ⟨r, ck, cl, ch, cx, ?_, hrest⟩
  exact congrArg Value.agg (Array.ext' hc)
end
end Go.Proofs.YtcdbchifigonpaaDoor

set_option linter.unusedVariables false
set_option linter.unusedSimpArgs false
namespace Go.Proofs.YtcdbchifigonpaaDoor
open Go.RowKit Go.ChangeShapes Go.Shelf Go.Deep Go.WideShapes

section
variable {H : Type} {enc : TypeId × Value → H} {W : World} {sp : Nat → Bool} {held : Bool}
theorem open_bytes_le {fuel : Nat} {c : Value} {x : DataW H × List MemPlace} (h : DataW.trod enc Tryd.prog W 0 sp held fuel 23 [c] = some x) (hw : ∀ n ∈ x.1.weights Tryd.prog 23, n ≤ reachBytes) :
    ∃ A b cap, c = .slice A b.length cap ∧ b.length ≤ cap ∧ b.length ≤ 140737488351232 ∧ InB W A b := by
  rcases open_slice1 under_u8s cells_u8 h with ⟨hc, hx⟩ | ⟨a, len, cap, m, n, V, D, Pl, hc, hb, hl, hm, hmm, hx, hall⟩
  · injection hc with hc
    subst hc
    exact ⟨none, [], 0, rfl, by simp, by simp, ⟨by simp [u8s], fun h => by simp at h⟩⟩
  · injection hc with hc
    have hmlen : len ≤ m := by rw [hmm]; split <;> omega
    have hV : ∀ i, i < len → ∃ y : UInt8, V i = .int .u8 (y.toNat : Int) := fun i hi => by
      obtain ⟨h1, h2⟩ := hall i (by omega)
      obtain ⟨n', hn, hx', hwf⟩ := DataW.trod_int under_u8 h2
      injection hn with hn
      have hr : 0 ≤ n' ∧ n' < 256 := by
        have h3 : (decide (IntKind.u8.min ≤ n') && decide (n' ≤ IntKind.u8.max)) = true := hwf
        rw [Bool.and_eq_true, decide_eq_true_eq, decide_eq_true_eq] at h3
        have e1 : IntKind.u8.min = 0 := rfl
        have e2 : IntKind.u8.max = 255 := rfl
        rw [e1, e2] at h3
        omega
      refine ⟨UInt8.ofNat n'.toNat, ?_⟩
      rw [hn, UInt8.toNat_ofNat']
      congr 1
      omega
    let y : Nat → UInt8 := fun i => if h : i < len then Classical.choose (hV i h) else 0
    have hy : ∀ i, i < len → V i = .int .u8 ((y i).toNat : Int) := fun i hi => by
      show V i = .int .u8 ((if h : i < len then Classical.choose (hV i h) else 0 : UInt8).toNat : Int)
      rw [dif_pos hi]
      exact Classical.choose_spec (hV i hi)
    have hlb : ((List.range len).map y).length = len := by simp
    have hwt : len ≤ reachBytes := by
      have := hw ((len + (m - len)) * 1) (by rw [hx]; simp [DataW.weights, bytes_u8])
      omega
    have hreach : reachBytes = 140737488351232 := rfl
    refine ⟨some a, (List.range len).map y, cap, by rw [hlb]; exact hc, by rw [hlb]; exact hl, by rw [hlb]; omega, ⟨by rw [u8s_length, Nat.mul_one], fun hn => ?_⟩⟩
    rw [hlb] at hn
    have h0 := (hall 0 (by omega)).1
    rw [addr_add_zero] at h0
    have ha := spot_of_cell h0
    refine ⟨a.block, a.off, by rw [← ha], fun j u hu => ?_⟩
    have hj : j < len := by
      have := (List.getElem?_eq_some_iff.1 hu).1
      rwa [u8s_length, hlb] at this
    have hcell := (hall j (by omega)).1
    rw [ha, add_lit] at hcell
    rw [u8s_get _ j (by rw [hlb]; exact hj)] at hu
    injection hu with hu
    subst hu
    refine ⟨?_, Nat.zero_le _, (show a.block < W.heap.size from World.block_lt_of_cell? W _ h0)⟩
    rw [hcell, hy j hj]
    simp
end

def zeroD {H : Type} : DataW H := .agg [.lit (.int .i64 0), .lit (.int .u64 0), .nil, .nil, .nil]
def zeroPD {H : Type} : DataW H := .agg [.lit (.int .i64 0), .lit (.int .i64 0), .nil, .lit (.int .i64 0)]
def zeroQD {H : Type} : DataW H := .agg [.lit (.int .i64 0), .lit (.string []), .lit (.string []), .lit (.string []), .lit (.bool false), zeroD, zeroD, zeroD, zeroD, .lit (.int .i64 0)]
end Go.Proofs.YtcdbchifigonpaaDoor

set_option linter.unusedVariables false
set_option linter.unusedSimpArgs false
set_option maxRecDepth 100000
namespace Go.Proofs.YtcdbchifigonpaaDoor
open Go.RowKit Go.ChangeShapes Go.Shelf Go.Deep

theorem bulk_pos {H : Type} (d : DataW H) : 1 ≤ Rows.uptoBulk d := by
  cases d with
  | lit l => cases l <;> simp [Rows.uptoBulk]
  | nil => simp [Rows.uptoBulk]
  | ptr d => simp [Rows.uptoBulk]
  | slice elems spare => simp [Rows.uptoBulk]
  | agg parts => simp [Rows.uptoBulk]
  | iface t d => simp [Rows.uptoBulk]
  | map entries => simp [Rows.uptoBulk]
  | held h => simp [Rows.uptoBulk]
theorem bulk_all {H : Type} {α : Type} (D : α → DataW H) (l : List α) : Rows.uptoBulkAll (l.map D) = (l.map fun i => Rows.uptoBulk (D i)).sum := by
  induction l with
  | nil => simp [Rows.uptoBulkAll]
  | cons x r ih => simp [Rows.uptoBulkAll, ih]
theorem sum_range_le {α : Type} (p : α → Nat) : ∀ (l : List α) (g : Nat → Nat), (∀ i (h : i < l.length), p l[i] ≤ g i) → (l.map p).sum ≤ ((List.range l.length).map g).sum
  | [], g, _ => by simp
  | x :: r, g, h => by
    have h0 := h 0 (by simp)
    have hr := sum_range_le p r (fun i => g (i + 1)) (fun i hi => by have := h (i + 1) (by simpa using hi); simpa using this)
    rw [List.length_cons, List.range_succ_eq_map, List.map_cons, List.map_cons, List.sum_cons, List.sum_cons, List.map_map]
    simp only [List.getElem_cons_zero] at h0
    have : (List.range r.length).map (g ∘ Nat.succ) = (List.range r.length).map fun i => g (i + 1) := rfl
    rw [this]
    omega

section
variable {H : Type} {enc : TypeId × Value → H} {W : World} {sp : Nat → Bool} {held : Bool}
/-- A slice's bulk: one, and its elements'. -/
theorem row_bulk {t e : TypeId} {z : Nat} (ht : Tryd.prog.underlying t = some (.slice e)) (hz : Tryd.prog.cellsOf e = z) (hz0 : 0 < z) {fuel : Nat} {A : Option Addr} {len cap : Nat} {x : DataW H × List MemPlace} (h : DataW.trod enc Tryd.prog W 0 sp held fuel t [.slice A len cap] = some x) :
    ∃ D : Nat → DataW H, 1 + ((List.range len).map fun i => Rows.uptoBulk (D i)).sum ≤ Rows.uptoBulk x.1 ∧
      ∀ i, i < len → SizeOf.sizeOf (D i) < SizeOf.sizeOf x.1 ∧ ∃ (bk o fuel' : Nat) (q : List MemPlace) (cs : List Value), A = some ⟨bk, o, none⟩ ∧ cs.length = z ∧ (∀ j u, cs[j]? = some u → W.cell? ⟨bk, o + i * z + j, none⟩ = some u) ∧ DataW.trod enc Tryd.prog W 0 sp held fuel' e cs = some (D i, q) := by
  rcases open_slice ht h with ⟨hc, hx⟩ | ⟨a, len', cap', m, n, D, Pl, hc, hb, hl, hm, hmm, hx, hall⟩
  · injection hc with hc
    injection hc with q1 q2 q3
    subst q2
    exact ⟨fun _ => x.1, by have := bulk_pos x.1; simpa using this, fun i hi => absurd hi (by simp)⟩
  · injection hc with hc
    injection hc with q1 q2 q3
    subst q1 q2 q3
    have hmlen : len ≤ m := by rw [hmm]; split <;> omega
    rw [hz] at hall
    have hxd : x.1 = .slice ((List.range len).map D) ((List.range (m - len)).map fun j => D (len + j)) := by rw [hx]
    have hcell : ∀ i, i < len → ∃ cs, cs.length = z ∧ (∀ j u, cs[j]? = some u → W.cell? ((a.add (i * z)).add j) = some u) ∧ DataW.trod enc Tryd.prog W 0 sp held n e cs = some (D i, Pl i) := fun i hi => by
      obtain ⟨cs, h1, h2⟩ := hall i (by omega)
      obtain ⟨_, hlen, hcs⟩ := World.cells?_some h1
      refine ⟨cs, hlen, fun j u hu => ?_, h2⟩
      have hj : j < z := by rw [← hlen]; exact (List.getElem?_eq_some_iff.1 hu).1
      rw [hcs j hj, hu]
    have haddr : 0 < len → a = ⟨a.block, a.off, none⟩ := fun hn => by
      obtain ⟨cs, hlen, hcs, _⟩ := hcell 0 hn
      have h0 := hcs 0 (cs[0]'(by omega)) (List.getElem?_eq_getElem (by omega))
      rw [addr_add_zero, Nat.zero_mul, addr_add_zero] at h0
      exact spot_of_cell h0
    refine ⟨D, ?_, fun i hi => ⟨?_, ?_⟩⟩
    · rw [hxd, Rows.uptoBulk, bulk_all]; omega
    · rw [hxd]
      have hmem : D i ∈ (List.range len).map D := List.mem_map.2 ⟨i, List.mem_range.2 hi, rfl⟩
      have := List.sizeOf_lt_of_mem hmem
      simp only [DataW.slice.sizeOf_spec]
      omega
    · obtain ⟨cs, hlen, hcs, htr⟩ := hcell i hi
      have ha := haddr (by omega)
      refine ⟨a.block, a.off, n, Pl i, cs, by rw [← ha], hlen, fun j u hu => ?_, htr⟩
      have := hcs j u hu
      rw [ha, add_lit, add_lit] at this
      exact this
theorem same_cell {a : Addr} {u v : Value} (h : W.cell? a = some u) (k : W.cell? a = some v) : u = v := Option.some.inj (h.symm.trans k)

/-- A value's bytes are no more than sixteen times its bulk. -/
theorem bulk_val (n : Nat) : ∀ (d : DataW H), SizeOf.sizeOf d ≤ n → ∀ (fuel : Nat) (c : Cv) (v : V) (q : List MemPlace), DataW.trod enc Tryd.prog W 0 sp held fuel 37 c.cells.toList = some (d, q) → In W v c →
    v.bytes.length ≤ 16 * Rows.uptoBulk d := by
  induction n with
  | zero => intro d hd; have : 0 < SizeOf.sizeOf d := by cases d <;> simp; all_goals omega
            omega
  | succ n ih =>
    intro d hd fuel c v q h hv
    obtain ⟨fs, hu, hfs⟩ := under_val
    obtain ⟨xs, m, hfuel, hx, hlen, hxl, hall⟩ := DataW.trod_struct hu h
    injection hx with hx1 hx2
    subst hx1
    have hfl : fs.size = 5 := by have := congrArg Array.size hfs; simpa using this
    rw [hfl] at hxl
    obtain ⟨x0, x1, x2, x3, x4, rfl⟩ : ∃ a b c d e, xs = [a, b, c, d, e] := by
      match xs, hxl with
      | [a, b, c, d, e], _ => exact ⟨a, b, c, d, e, rfl⟩
    obtain ⟨k, nn, b, l, f⟩ := v
    have hV := hv
    unfold In at hv
    rw [IsV] at hv
    obtain ⟨ck, cn, aB, nB, cB, aL, nL, cL, aF, nF, cF⟩ := c
    obtain ⟨e1, e2, e3, e4, e5, _, _, _, _, _, _, _, _, _, _, hL, hF⟩ := hv
    dsimp only at e1 e2 e3 e4 e5 hL hF
    subst e1 e2 e3 e4 e5
    have hpart : ∀ i t o, (#[(3, 0), (34, 1), (23, 2), (27, 3), (35, 4)] : Array (TypeId × Nat))[i]? = some (t, o) →
        DataW.trod enc Tryd.prog W 0 sp held m t (([Value.int .i64 ck, .int .u64 nn, .slice aB b.length cB, .slice aL l.length cL, .slice aF f.length cF].drop o).take (Tryd.prog.cellsOf t)) = [x0, x1, x2, x3, x4][i]? := fun i t o hi => by
      obtain ⟨fd, hfd, rfl, rfl⟩ := field_of hfs hi
      exact hall i fd hfd
    have h2 := hpart 2 _ _ rfl
    have h3 := hpart 3 _ _ rfl
    have h4 := hpart 4 _ _ rfl
    rw [cells_u8s] at h2
    rw [cells_vals] at h3
    rw [cells_flds] at h4
    obtain ⟨DB, hB, _⟩ := row_bulk under_u8s cells_u8 (by omega) h2
    obtain ⟨DL, hLb, hLd⟩ := row_bulk under_vals cells_val (by omega) h3
    obtain ⟨DF, hFb, hFd⟩ := row_bulk under_flds cells_fld (by omega) h4
    have hB1 : b.length ≤ ((List.range b.length).map fun i => Rows.uptoBulk (DB i)).sum := by
      have := sum_range_le (fun _ : UInt8 => 1) b (fun i => Rows.uptoBulk (DB i)) (fun i _ => bulk_pos _)
      have h1 : ∀ r : List UInt8, (r.map fun _ => 1).sum = r.length := fun r => by
        induction r with
        | nil => rfl
        | cons x r ih => simp only [List.map_cons, List.sum_cons, ih, List.length_cons]; omega
      rw [h1] at this
      exact this
    have hsz3 : SizeOf.sizeOf x3.1 < n + 1 := by
      have : SizeOf.sizeOf x3.1 < SizeOf.sizeOf (DataW.agg ([x0, x1, x2, x3, x4].map (·.1))) := by
        have := List.sizeOf_lt_of_mem (show x3.1 ∈ [x0, x1, x2, x3, x4].map (·.1) by simp)
        simp only [DataW.agg.sizeOf_spec]; omega
      omega
    have hsz4 : SizeOf.sizeOf x4.1 < n + 1 := by
      have : SizeOf.sizeOf x4.1 < SizeOf.sizeOf (DataW.agg ([x0, x1, x2, x3, x4].map (·.1))) := by
        have := List.sizeOf_lt_of_mem (show x4.1 ∈ [x0, x1, x2, x3, x4].map (·.1) by simp)
        simp only [DataW.agg.sizeOf_spec]; omega
      omega
    have hL1 := sum_range_le (fun x : V => x.bytes.length) l (fun i => 16 * Rows.uptoBulk (DL i)) (fun i hi => by
      obtain ⟨s1, bk, o, fuel', q', cs', ha, hlen', hcs', htr⟩ := hLd i hi
      obtain ⟨bk2, o2, x, ha2, h5, hin⟩ := hL i hi
      rw [ha] at ha2
      injection ha2 with ha2
      injection ha2 with z1 z2
      subst z1 z2
      obtain ⟨d0, d1, d2, d3, d4, rfl⟩ : ∃ a b c d e, cs' = [a, b, c, d, e] := by
        match cs', hlen' with
        | [a, b, c, d, e], _ => exact ⟨a, b, c, d, e, rfl⟩
      obtain ⟨k0, k1, k2, k3, k4⟩ := h5
      obtain rfl := same_cell (hcs' 0 _ rfl) k0.1
      obtain rfl := same_cell (hcs' 1 _ rfl) k1.1
      obtain rfl := same_cell (hcs' 2 _ rfl) k2.1
      obtain rfl := same_cell (hcs' 3 _ rfl) k3.1
      obtain rfl := same_cell (hcs' 4 _ rfl) k4.1
      exact ih (DL i) (by omega) fuel' x l[i] q' htr hin)
    have hF1 := sum_range_le (fun x : ByteArray × V => (V.item x.1 x.2.bytes).length) f (fun i => 16 * Rows.uptoBulk (DF i)) (fun i hi => by
      obtain ⟨s1, bk, o, fuel', q', cs', ha, hlen', hcs', htr⟩ := hFd i hi
      obtain ⟨bk2, o2, x, ha2, ks, kz, h5, hin⟩ := hF i hi
      rw [ha] at ha2
      injection ha2 with ha2
      injection ha2 with z1 z2
      subst z1 z2
      obtain ⟨gs, gu, gfs⟩ := under_fld
      obtain ⟨ys, m', _, hy, hlen2, hyl, hall2⟩ := DataW.trod_struct gu htr
      injection hy with hy1 hy2
      have hgl : gs.size = 2 := by have := congrArg Array.size gfs; simpa using this
      rw [hgl] at hyl
      obtain ⟨y0, y1, rfl⟩ : ∃ a b, ys = [a, b] := by
        match ys, hyl with
        | [a, b], _ => exact ⟨a, b, rfl⟩
      obtain ⟨d0, d1, d2, d3, d4, d5, rfl⟩ : ∃ a b c d e f, cs' = [a, b, c, d, e, f] := by
        match cs', hlen' with
        | [a, b, c, d, e, f], _ => exact ⟨a, b, c, d, e, f, rfl⟩
      obtain ⟨f0, hf0, t0, o0⟩ := field_of gfs (i := 0) rfl
      obtain ⟨f1, hf1, t1, o1⟩ := field_of gfs (i := 1) rfl
      have g0 := hall2 0 f0 hf0
      have g1 := hall2 1 f1 hf1
      rw [t0, o0, cells_str] at g0
      rw [t1, o1, cells_val] at g1
      obtain ⟨s, es, hys, _⟩ := DataW.trod_string under_string g0
      simp at es
      obtain ⟨k0, k1, k2, k3, k4⟩ := h5
      have hs := same_cell (hcs' 0 _ rfl) ks.1
      rw [es] at hs
      injection hs with hs
      obtain rfl := same_cell (hcs' 1 _ rfl) k0.1
      obtain rfl := same_cell (hcs' 2 _ rfl) k1.1
      obtain rfl := same_cell (hcs' 3 _ rfl) k2.1
      obtain rfl := same_cell (hcs' 4 _ rfl) k3.1
      obtain rfl := same_cell (hcs' 5 _ rfl) k4.1
      have hsy : SizeOf.sizeOf y1.1 < SizeOf.sizeOf (DF i) := by
        rw [hy1]
        have := List.sizeOf_lt_of_mem (show y1.1 ∈ [y0, y1].map (·.1) by simp)
        simp only [DataW.agg.sizeOf_spec]; omega
      have hi2 := ih y1.1 (by omega) m' x f[i].2 y1.2 g1 hin
      have hbs : Rows.uptoBulk y0.1 = s.size + 1 := by
        rw [hys]
        simp only [Rows.uptoBulk, Array.length_toList]
        rfl
      rw [V.item_length, hy1]
      simp only [List.map_cons, List.map_nil, Rows.uptoBulk, Rows.uptoBulkAll]
      rw [hbs, ← hs]
      omega)
    have hm16 : ∀ (g : Nat → Nat) (k : Nat), ((List.range k).map fun i => 16 * g i).sum = 16 * ((List.range k).map g).sum := fun g k => by
      induction List.range k with
      | nil => rfl
      | cons x r ih => simp only [List.map_cons, List.sum_cons, ih]; omega
    rw [hm16 (fun i => Rows.uptoBulk (DL i))] at hL1
    rw [hm16 (fun i => Rows.uptoBulk (DF i))] at hF1
    have p0 := bulk_pos x0.1
    have p1 := bulk_pos x1.1
    have hsum : (V.mk ck nn b l f).bytes.length ≤ 13 + b.length + (l.map fun x => x.bytes.length).sum + (f.map fun x => (V.item x.1 x.2.bytes).length).sum := by
      rw [V.bytes_mk, List.length_cons]
      have hlf : (l.map V.bytes).flatten.length = (l.map fun x => x.bytes.length).sum := by rw [List.length_flatten, List.map_map]; rfl
      have hff : (f.map fun x : ByteArray × V => V.item x.1 x.2.bytes).flatten.length = (f.map fun x => (V.item x.1 x.2.bytes).length).sum := by rw [List.length_flatten, List.map_map]; rfl
      split
      · simp only [List.length_cons, List.length_nil]; omega
      split
      · rw [toLe_length]; omega
      split
      · rw [List.length_append, toLe_length]; omega
      split
      · rw [List.length_cons, hlf]; omega
      split
      · rw [List.length_cons, hff]; omega
      · simp only [List.length_nil]; omega
    simp only [List.map_cons, List.map_nil, Rows.uptoBulk, Rows.uptoBulkAll]
    omega
end
end Go.Proofs.YtcdbchifigonpaaDoor

set_option linter.unusedVariables false
set_option linter.unusedSimpArgs false
set_option maxRecDepth 100000
namespace Go.Proofs.YtcdbchifigonpaaDoor
open Go.RowKit Go.ChangeShapes Go.Shelf Go.Deep Go.WideShapes
section
variable {H : Type} {enc : TypeId × Value → H} {W : World} {sp : Nat → Bool} {held : Bool}
theorem open_requestB (d : DataW H) (fuel : Nat) (cs : List Value) (q : List MemPlace) (h : DataW.trod enc Tryd.prog W 0 sp held fuel 39 cs = some (d, q)) (hw : ∀ k ∈ d.weights Tryd.prog 39, k ≤ reachBytes) :
    ∃ (r : Rq) (ck cl ch cx : Cv), cs = (rqCells r.do_ r.coll r.index r.path r.unique ck cl ch cx r.n).toList ∧ In W r.key ck ∧ In W r.low cl ∧ In W r.high ch ∧ In W r.doc cx ∧ (-9223372036854775808 ≤ r.do_ ∧ r.do_ ≤ 9223372036854775807) ∧ (-9223372036854775808 ≤ r.n ∧ r.n ≤ 9223372036854775807) ∧ r.coll.size ≤ 140737488355328 ∧ r.index.size ≤ 140737488355328 ∧ r.path.size ≤ 140737488355328 ∧ ∀ v ∈ r.vals, v.bytes.length ≤ 16 * Rows.uptoBulk d := by
  obtain ⟨fs, hu, hfs⟩ := under_request
  obtain ⟨xs, m, hfuel, hx, hlen, hxl, hall⟩ := DataW.trod_struct hu h
  injection hx with hx1 hx2
  subst hx1
  rw [cells_request] at hlen
  have hfl : fs.size = 10 := by have := congrArg Array.size hfs; simpa using this
  rw [hfl] at hxl
  obtain ⟨c0, c1, c2, c3, c4, c5, c6, c7, c8, c9, c10, c11, c12, c13, c14, c15, c16, c17, c18, c19, c20, c21, c22, c23, c24, c25, rfl⟩ : ∃ c0 c1 c2 c3 c4 c5 c6 c7 c8 c9 c10 c11 c12 c13 c14 c15 c16 c17 c18 c19 c20 c21 c22 c23 c24 c25, cs = [c0, c1, c2, c3, c4, c5, c6, c7, c8, c9, c10, c11, c12, c13, c14, c15, c16, c17, c18, c19, c20, c21, c22, c23, c24, c25] := by
    match cs, hlen with
    | [c0, c1, c2, c3, c4, c5, c6, c7, c8, c9, c10, c11, c12, c13, c14, c15, c16, c17, c18, c19, c20, c21, c22, c23, c24, c25], _ => exact ⟨c0, c1, c2, c3, c4, c5, c6, c7, c8, c9, c10, c11, c12, c13, c14, c15, c16, c17, c18, c19, c20, c21, c22, c23, c24, c25, rfl⟩
  obtain ⟨x0, x1, x2, x3, x4, x5, x6, x7, x8, x9, rfl⟩ : ∃ x0 x1 x2 x3 x4 x5 x6 x7 x8 x9, xs = [x0, x1, x2, x3, x4, x5, x6, x7, x8, x9] := by
    match xs, hxl with
    | [x0, x1, x2, x3, x4, x5, x6, x7, x8, x9], _ => exact ⟨x0, x1, x2, x3, x4, x5, x6, x7, x8, x9, rfl⟩
  have hpart : ∀ i t o, (#[(3, 0), (9, 1), (9, 2), (9, 3), (4, 4), (37, 5), (37, 10), (37, 15), (37, 20), (3, 25)] : Array (TypeId × Nat))[i]? = some (t, o) →
      DataW.trod enc Tryd.prog W 0 sp held m t (([c0, c1, c2, c3, c4, c5, c6, c7, c8, c9, c10, c11, c12, c13, c14, c15, c16, c17, c18, c19, c20, c21, c22, c23, c24, c25].drop o).take (Tryd.prog.cellsOf t)) = [x0, x1, x2, x3, x4, x5, x6, x7, x8, x9][i]? := fun i t o hi => by
    obtain ⟨f, hf, rfl, rfl⟩ := field_of hfs hi
    exact hall i f hf
  have htys : fs.toList.map (·.type) = [3, 9, 9, 9, 4, 37, 37, 37, 37, 3] := by
    have := congrArg (fun a => a.toList.map Prod.fst) hfs
    simp only [Array.toList_map, List.map_map] at this
    exact this
  have hwe : ∀ (j : Nat) (t : TypeId) (dd : DataW H), [3, 9, 9, 9, 4, 37, 37, 37, 37, 3][j]? = some t → ([x0, x1, x2, x3, x4, x5, x6, x7, x8, x9].map (·.1))[j]? = some dd → ∀ k ∈ dd.weights Tryd.prog t, k ≤ reachBytes := fun j t dd hj hdd k hk => by
    refine hw k ?_
    simp only [DataW.weights, hu, htys]
    exact DataW.weights_mem_each hj hdd k hk
  have i1 : IntKind.i64.min = -9223372036854775808 := rfl
  have i2 : IntKind.i64.max = 9223372036854775807 := rfl
  have hreach := reachBytes_lt
  simp only [Nat.reducePow] at hreach
  have h0 := hpart 0 _ _ rfl
  rw [cells_int] at h0
  obtain ⟨n0, e0, _, r0⟩ := DataW.trod_int under_int h0
  simp at e0
  subst e0
  replace r0 := wf_range r0
  rw [i1, i2] at r0
  have h1 := hpart 1 _ _ rfl
  rw [cells_str] at h1
  obtain ⟨n1, e1, y1, _⟩ := DataW.trod_string under_string h1
  simp at e1
  subst e1
  have r1 : n1.size ≤ 140737488355328 := by
    have := hwe 1 _ _ rfl rfl n1.data.toList.length (by rw [show x1 = _ from y1]; simp [DataW.weights])
    simp at this
    omega
  have h2 := hpart 2 _ _ rfl
  rw [cells_str] at h2
  obtain ⟨n2, e2, y2, _⟩ := DataW.trod_string under_string h2
  simp at e2
  subst e2
  have r2 : n2.size ≤ 140737488355328 := by
    have := hwe 2 _ _ rfl rfl n2.data.toList.length (by rw [show x2 = _ from y2]; simp [DataW.weights])
    simp at this
    omega
  have h3 := hpart 3 _ _ rfl
  rw [cells_str] at h3
  obtain ⟨n3, e3, y3, _⟩ := DataW.trod_string under_string h3
  simp at e3
  subst e3
  have r3 : n3.size ≤ 140737488355328 := by
    have := hwe 3 _ _ rfl rfl n3.data.toList.length (by rw [show x3 = _ from y3]; simp [DataW.weights])
    simp at this
    omega
  have h4 := hpart 4 _ _ rfl
  rw [cells_bool] at h4
  obtain ⟨n4, e4, _⟩ := DataW.trod_bool under_bool h4
  simp at e4
  subst e4
  have h5 := hpart 5 _ _ rfl
  rw [cells_val] at h5
  obtain ⟨n5, g5, e5, r5⟩ := open_val _ x5.1 (Nat.le_refl _) m _ x5.2 h5 (hwe 5 _ _ rfl rfl)
  simp at e5
  obtain ⟨rfl, rfl, rfl, rfl, rfl⟩ := e5
  have h6 := hpart 6 _ _ rfl
  rw [cells_val] at h6
  obtain ⟨n6, g6, e6, r6⟩ := open_val _ x6.1 (Nat.le_refl _) m _ x6.2 h6 (hwe 6 _ _ rfl rfl)
  simp at e6
  obtain ⟨rfl, rfl, rfl, rfl, rfl⟩ := e6
  have h7 := hpart 7 _ _ rfl
  rw [cells_val] at h7
  obtain ⟨n7, g7, e7, r7⟩ := open_val _ x7.1 (Nat.le_refl _) m _ x7.2 h7 (hwe 7 _ _ rfl rfl)
  simp at e7
  obtain ⟨rfl, rfl, rfl, rfl, rfl⟩ := e7
  have h8 := hpart 8 _ _ rfl
  rw [cells_val] at h8
  obtain ⟨n8, g8, e8, r8⟩ := open_val _ x8.1 (Nat.le_refl _) m _ x8.2 h8 (hwe 8 _ _ rfl rfl)
  simp at e8
  obtain ⟨rfl, rfl, rfl, rfl, rfl⟩ := e8
  have h9 := hpart 9 _ _ rfl
  rw [cells_int] at h9
  obtain ⟨n9, e9, _, r9⟩ := DataW.trod_int under_int h9
  simp at e9
  subst e9
  replace r9 := wf_range r9
  rw [i1, i2] at r9
  have b5 := bulk_val _ x5.1 (Nat.le_refl _) m g5 n5 x5.2 h5 r5
  have b6 := bulk_val _ x6.1 (Nat.le_refl _) m g6 n6 x6.2 h6 r6
  have b7 := bulk_val _ x7.1 (Nat.le_refl _) m g7 n7 x7.2 h7 r7
  have b8 := bulk_val _ x8.1 (Nat.le_refl _) m g8 n8 x8.2 h8 r8
  refine ⟨⟨n0, n1, n2, n3, n4, n5, n6, n7, n8, n9⟩, g5, g6, g7, g8, rfl, r5, r6, r7, r8, r0, r9, r1, r2, r3, fun v hv => ?_⟩
  have hvs : v = n5 ∨ v = n6 ∨ v = n7 ∨ v = n8 := by simpa [Rq.vals] using hv
  simp only [Rows.uptoBulk, Rows.uptoBulkAll, List.map_cons, List.map_nil]
  rcases hvs with rfl | rfl | rfl | rfl <;> omega
theorem open_arg_requestB {base : Nat} {v : Value} {d : DataW H} {p : List MemPlace} (hok : Value.okWide Tryd.prog W .any base 39 v) (h : DataW.Trod enc Tryd.prog W 0 sp held 39 v d p) (hw : ∀ n ∈ d.weights Tryd.prog 39, n ≤ reachBytes) :
    ∃ (r : Rq) (ck cl ch cx : Cv), v = .agg (rqCells r.do_ r.coll r.index r.path r.unique ck cl ch cx r.n) ∧ In W r.key ck ∧ In W r.low cl ∧ In W r.high ch ∧ In W r.doc cx ∧ (-9223372036854775808 ≤ r.do_ ∧ r.do_ ≤ 9223372036854775807) ∧ (-9223372036854775808 ≤ r.n ∧ r.n ≤ 9223372036854775807) ∧ r.coll.size ≤ 140737488355328 ∧ r.index.size ≤ 140737488355328 ∧ r.path.size ≤ 140737488355328 ∧ ∀ v ∈ r.vals, v.bytes.length ≤ 16 * Rows.uptoBulk d := by
  obtain ⟨fs, hu, _⟩ := under_request
  obtain ⟨cs, rfl, _⟩ := okWide_struct hu hok
  obtain ⟨fuel, hf⟩ := h
  obtain ⟨r, ck, cl, ch, cx, hc, hrest⟩ := open_requestB d fuel _ _ hf hw
  refine ⟨r, ck, cl, ch, cx, ?_, hrest⟩
  exact congrArg Value.agg (Array.ext' hc)
end
end Go.Proofs.YtcdbchifigonpaaDoor
