/- Arguments as they are read: lists of values, replies, requests. Written by wip/tools/gen_openw.py. · What the wire laws' cards share: bytes within the reach, the witnesses' data. -/
import Derived.Test.YtojpeiihkjpeoaaDoorOpenV
import Derived.Test.YtojpeiihkjpeoaaDoorRequest
import Derived.Test.YtojpeiihkjpeoaaDoorWAwake
set_option linter.unusedVariables false
set_option linter.unusedSimpArgs false
set_option maxRecDepth 100000
namespace Go.Proofs.YtojpeiihkjpeoaaDoor
open Go.RowKit Go.ChangeShapes Go.Shelf Go.Deep Go.WideShapes

theorem under_err : Tryd.prog.underlying 22 = some (.int .i64) := by kernel_rfl
theorem under_bool : Tryd.prog.underlying 4 = some .bool := by kernel_rfl
theorem cells_err : Tryd.prog.cellsOf 22 = 1 := by kernel_rfl
theorem cells_bool : Tryd.prog.cellsOf 4 = 1 := by kernel_rfl
section
variable {H : Type} {enc : TypeId × Value → H} {W : World} {sp : Nat → Bool} {held : Bool}
/-- A list of values. -/
theorem open_vals {fuel : Nat} {c : Value} {x : DataW H × List MemPlace} (h : DataW.trod enc Tryd.prog W 0 sp held fuel 23 [c] = some x) (hw : ∀ n ∈ x.1.weights Tryd.prog 23, n ≤ reachBytes) : ∃ A cap vs, c = .slice A vs.length cap ∧ InL W A cap vs := by
  obtain ⟨A, len, cap, D, rfl, hlc, hll, _, hall⟩ := open_row under_vals cells_val (by omega) bytes_val (by omega) h hw
  have hv : ∀ i, i < len → ∃ (v : V), ∃ bk o c, A = some ⟨bk, o, none⟩ ∧ At5 (AtW W 0 W.heap.size) bk (o + i * 5) c ∧ In W v c := fun i hi => by
    obtain ⟨s1, s2, bk, o, fuel', q', cs', ha, hlen', hcs', htr⟩ := hall i hi
    obtain ⟨v, c, rfl, hin⟩ := open_val _ (D i) (Nat.le_refl _) fuel' cs' q' htr s2
    exact ⟨v, bk, o, c, ha, ⟨hcs' 0 _ rfl, hcs' 1 _ rfl, hcs' 2 _ rfl, hcs' 3 _ rfl, hcs' 4 _ rfl⟩, hin⟩
  let vl : Nat → V := fun i => if h : i < len then Classical.choose (hv i h) else V.zero
  have hvl : ∀ i (h : i < len), ∃ bk o c, A = some ⟨bk, o, none⟩ ∧ At5 (AtW W 0 W.heap.size) bk (o + i * 5) c ∧ In W (vl i) c := fun i h => by
    show ∃ bk o c, _ ∧ _ ∧ In W (if h : i < len then Classical.choose (hv i h) else V.zero) c
    rw [dif_pos h]
    exact Classical.choose_spec (hv i h)
  obtain ⟨vs, hvs, hvi⟩ : ∃ vs : List V, vs.length = len ∧ ∀ i (h : i < vs.length), ∃ bk o c, A = some ⟨bk, o, none⟩ ∧ At5 (AtW W 0 W.heap.size) bk (o + i * 5) c ∧ In W vs[i] c := by
    refine ⟨(List.range len).map vl, by simp, fun i h => ?_⟩
    rw [List.getElem_map, List.getElem_range]
    exact hvl i (by simpa using h)
  clear hvl vl hv hall
  subst hvs
  refine ⟨A, cap, vs, rfl, ?_⟩
  unfold InL In
  rw [IsV]
  refine ⟨rfl, rfl, rfl, rfl, rfl, by decide, by decide, by decide, by simp, by simp, hlc, hll, by simp, by simp, ⟨by simp [u8s], fun h => by simp at h⟩, fun i hi => ?_, fun i hi => by simp at hi⟩
  obtain ⟨bk, o, c, e, h5, hin⟩ := hvi i hi
  exact ⟨bk, o, c, e, h5, hin⟩

theorem under_reply : ∃ fs : Array Field, Tryd.prog.underlying 25 = some (.struct fs) ∧ fs.map (fun f => (f.type, f.offset)) = #[(22, 0), (3, 1), (23, 2), (3, 3)] := ⟨_, Tryd.underlying25, by kernel_rfl⟩
theorem cells_reply : Tryd.prog.cellsOf 25 = 4 := by kernel_rfl
theorem open_reply (d : DataW H) (fuel : Nat) (cs : List Value) (q : List MemPlace) (h : DataW.trod enc Tryd.prog W 0 sp held fuel 25 cs = some (d, q)) (hw : ∀ k ∈ d.weights Tryd.prog 25, k ≤ reachBytes) :
    ∃ (r : Rp) (A : Option Addr) (cap : Nat), cs = (rpCells r.e r.n A r.docs.length cap r.cursor).toList ∧ InL W A cap r.docs ∧ (-9223372036854775808 ≤ r.e ∧ r.e ≤ 9223372036854775807) ∧ (-9223372036854775808 ≤ r.n ∧ r.n ≤ 9223372036854775807) ∧ (-9223372036854775808 ≤ r.cursor ∧ r.cursor ≤ 9223372036854775807) := by
  obtain ⟨fs, hu, hfs⟩ := under_reply
  obtain ⟨xs, m, hfuel, hx, hlen, hxl, hall⟩ := DataW.trod_struct hu h
  injection hx with hx1 hx2
  subst hx1
  rw [cells_reply] at hlen
  have hfl : fs.size = 4 := by have := congrArg Array.size hfs; simpa using this
  rw [hfl] at hxl
  obtain ⟨c0, c1, c2, c3, rfl⟩ : ∃ c0 c1 c2 c3, cs = [c0, c1, c2, c3] := by
    match cs, hlen with
    | [c0, c1, c2, c3], _ => exact ⟨c0, c1, c2, c3, rfl⟩
  obtain ⟨x0, x1, x2, x3, rfl⟩ : ∃ x0 x1 x2 x3, xs = [x0, x1, x2, x3] := by
    match xs, hxl with
    | [x0, x1, x2, x3], _ => exact ⟨x0, x1, x2, x3, rfl⟩
  have hpart : ∀ i t o, (#[(22, 0), (3, 1), (23, 2), (3, 3)] : Array (TypeId × Nat))[i]? = some (t, o) →
      DataW.trod enc Tryd.prog W 0 sp held m t (([c0, c1, c2, c3].drop o).take (Tryd.prog.cellsOf t)) = [x0, x1, x2, x3][i]? := fun i t o hi => by
    obtain ⟨f, hf, rfl, rfl⟩ := field_of hfs hi
    exact hall i f hf
  have htys : fs.toList.map (·.type) = [22, 3, 23, 3] := by
    have := congrArg (fun a => a.toList.map Prod.fst) hfs
    simp only [Array.toList_map, List.map_map] at this
    exact this
  have hwe : ∀ (j : Nat) (t : TypeId) (dd : DataW H), [22, 3, 23, 3][j]? = some t → ([x0, x1, x2, x3].map (·.1))[j]? = some dd → ∀ k ∈ dd.weights Tryd.prog t, k ≤ reachBytes := fun j t dd hj hdd k hk => by
    refine hw k ?_
    simp only [DataW.weights, hu, htys]
    exact DataW.weights_mem_each hj hdd k hk
  have i1 : IntKind.i64.min = -9223372036854775808 := rfl
  have i2 : IntKind.i64.max = 9223372036854775807 := rfl
  have hreach := reachBytes_lt
  simp only [Nat.reducePow] at hreach
  have h0 := hpart 0 _ _ rfl
  rw [cells_err] at h0
  obtain ⟨n0, e0, _, r0⟩ := DataW.trod_int under_err h0
  simp at e0
  subst e0
  replace r0 := wf_range r0
  rw [i1, i2] at r0
  have h1 := hpart 1 _ _ rfl
  rw [cells_int] at h1
  obtain ⟨n1, e1, _, r1⟩ := DataW.trod_int under_int h1
  simp at e1
  subst e1
  replace r1 := wf_range r1
  rw [i1, i2] at r1
  have h2 := hpart 2 _ _ rfl
  rw [cells_vals] at h2
  obtain ⟨A2, p2, n2, rfl, r2⟩ := open_vals h2 (hwe 2 _ _ rfl rfl)
  have h3 := hpart 3 _ _ rfl
  rw [cells_int] at h3
  obtain ⟨n3, e3, _, r3⟩ := DataW.trod_int under_int h3
  simp at e3
  subst e3
  replace r3 := wf_range r3
  rw [i1, i2] at r3
  exact ⟨⟨n0, n1, n2, n3⟩, A2, p2, rfl, r2, r0, r1, r3⟩

theorem under_request : ∃ fs : Array Field, Tryd.prog.underlying 49 = some (.struct fs) ∧ fs.map (fun f => (f.type, f.offset)) = #[(3, 0), (9, 1), (9, 2), (9, 3), (4, 4), (47, 5), (47, 10), (47, 15), (47, 20), (3, 25)] := ⟨_, Tryd.underlying49, by kernel_rfl⟩
theorem cells_request : Tryd.prog.cellsOf 49 = 26 := by kernel_rfl
theorem open_request (d : DataW H) (fuel : Nat) (cs : List Value) (q : List MemPlace) (h : DataW.trod enc Tryd.prog W 0 sp held fuel 49 cs = some (d, q)) (hw : ∀ k ∈ d.weights Tryd.prog 49, k ≤ reachBytes) :
    ∃ (r : Rq) (ck cl ch cx : Cv), cs = (rqCells r.do_ r.coll r.index r.path r.unique ck cl ch cx r.n).toList ∧ In W r.key ck ∧ In W r.low cl ∧ In W r.high ch ∧ In W r.doc cx ∧ (-9223372036854775808 ≤ r.do_ ∧ r.do_ ≤ 9223372036854775807) ∧ (-9223372036854775808 ≤ r.n ∧ r.n ≤ 9223372036854775807) ∧ r.coll.size ≤ 140737488355328 ∧ r.index.size ≤ 140737488355328 ∧ r.path.size ≤ 140737488355328 := by
  obtain ⟨fs, hu, hfs⟩ := under_request
  obtain ⟨xs, m, hfuel, hx, hlen, hxl, hall⟩ := DataW.trod_struct hu h
  injection hx with hx1 hx2
  subst hx1
  rw [cells_request] at hlen
  have hfl : fs.size = 10 := by have := congrArg Array.size hfs; simpa using this
  rw [hfl] at hxl
  obtain ⟨c0, c1, c2, c3, c4, c5, c6, c7, c8, c9, c10, c11, c12, c13, c14, c15, c16, c17, c18, c19, c20, c21, c22, c23, c24, c25, rfl⟩ : ∃ c0 c1 c2 c3 c4 c5 c6 c7 c8 c9 c10 c11 c12 c13 c14 c15 c16 c17 c18 c19 c20 c21 c22 c23 c24 c25, cs = [c0, c1, c2, c3, c4, c5, c6, c7, c8, c9, c10, c11, c12, c13, c14, c15, c16, c17, c18, c19, c20, c21, c22, c23, c24, c25] := by
    match cs, hlen with
    | [c0, c1, c2, c3, c4, c5, c6, c7, c8, c9, c10, c11, c12, c13, c14, c15, c16, c17, c18, c19, c20, c21, c22, c23, c24, c25], _ => exact ⟨c0, c1, c2, c3, c4, c5, c6, c7, c8, c9, c10, c11, c12, c13, c14, c15, c16, c17, c18, c19, c20, c21, c22, c23, c24, c25, rfl⟩
  obtain ⟨x0, x1, x2, x3, x4, x5, x6, x7, x8, x9, rfl⟩ : ∃ x0 x1 x2 x3 x4 x5 x6 x7 x8 x9, xs = [x0, x1, x2, x3, x4, x5, x6, x7, x8, x9] := by
    match xs, hxl with
    | [x0, x1, x2, x3, x4, x5, x6, x7, x8, x9], _ => exact ⟨x0, x1, x2, x3, x4, x5, x6, x7, x8, x9, rfl⟩
  have hpart : ∀ i t o, (#[(3, 0), (9, 1), (9, 2), (9, 3), (4, 4), (47, 5), (47, 10), (47, 15), (47, 20), (3, 25)] : Array (TypeId × Nat))[i]? = some (t, o) →
      DataW.trod enc Tryd.prog W 0 sp held m t (([c0, c1, c2, c3, c4, c5, c6, c7, c8, c9, c10, c11, c12, c13, c14, c15, c16, c17, c18, c19, c20, c21, c22, c23, c24, c25].drop o).take (Tryd.prog.cellsOf t)) = [x0, x1, x2, x3, x4, x5, x6, x7, x8, x9][i]? := fun i t o hi => by
    obtain ⟨f, hf, rfl, rfl⟩ := field_of hfs hi
    exact hall i f hf
  have htys : fs.toList.map (·.type) = [3, 9, 9, 9, 4, 47, 47, 47, 47, 3] := by
    have := congrArg (fun a => a.toList.map Prod.fst) hfs
    simp only [Array.toList_map, List.map_map] at this
    exact this
  have hwe : ∀ (j : Nat) (t : TypeId) (dd : DataW H), [3, 9, 9, 9, 4, 47, 47, 47, 47, 3][j]? = some t → ([x0, x1, x2, x3, x4, x5, x6, x7, x8, x9].map (·.1))[j]? = some dd → ∀ k ∈ dd.weights Tryd.prog t, k ≤ reachBytes := fun j t dd hj hdd k hk => by
    refine hw k ?_
    simp only [DataW.weights, hu, htys]
    exact DataW.weights_mem_each hj hdd k hk
  have i1 : IntKind.i64.min = -9223372036854775808 := rfl
  have i2 : IntKind.i64.max = 9223372036854775807 := rfl
  have hreach := reachBytes_lt
  simp only [Nat.reducePow] at hreach
  have h0 := hpart 0 _ _ rfl
  rw [cells_int] at h0
  obtain ⟨n0, e0, _, r0⟩ := DataW.trod_int under_int h0
  simp at e0
  subst e0
  replace r0 := wf_range r0
  rw [i1, i2] at r0
  have h1 := hpart 1 _ _ rfl
  rw [cells_str] at h1
  obtain ⟨n1, e1, y1, _⟩ := DataW.trod_string under_string h1
  simp at e1
  subst e1
  have r1 : n1.size ≤ 140737488355328 := by
    have := hwe 1 _ _ rfl rfl n1.data.toList.length (by rw [show x1 = _ from y1]; simp [DataW.weights])
    simp at this
    omega
  have h2 := hpart 2 _ _ rfl
  rw [cells_str] at h2
  obtain ⟨n2, e2, y2, _⟩ := DataW.trod_string under_string h2
  simp at e2
  subst e2
  have r2 : n2.size ≤ 140737488355328 := by
    have := hwe 2 _ _ rfl rfl n2.data.toList.length (by rw [show x2 = _ from y2]; simp [DataW.weights])
    simp at this
    omega
  have h3 := hpart 3 _ _ rfl
  rw [cells_str] at h3
  obtain ⟨n3, e3, y3, _⟩ := DataW.trod_string under_string h3
  simp at e3
  subst e3
  have r3 : n3.size ≤ 140737488355328 := by
    have := hwe 3 _ _ rfl rfl n3.data.toList.length (by rw [show x3 = _ from y3]; simp [DataW.weights])
    simp at this
    omega
  have h4 := hpart 4 _ _ rfl
  rw [cells_bool] at h4
  obtain ⟨n4, e4, _⟩ := DataW.trod_bool under_bool h4
  simp at e4
  subst e4
  have h5 := hpart 5 _ _ rfl
  rw [cells_val] at h5
  obtain ⟨n5, g5, e5, r5⟩ := open_val _ x5.1 (Nat.le_refl _) m _ x5.2 h5 (hwe 5 _ _ rfl rfl)
  simp at e5
  obtain ⟨rfl, rfl, rfl, rfl, rfl⟩ := e5
  have h6 := hpart 6 _ _ rfl
  rw [cells_val] at h6
  obtain ⟨n6, g6, e6, r6⟩ := open_val _ x6.1 (Nat.le_refl _) m _ x6.2 h6 (hwe 6 _ _ rfl rfl)
  simp at e6
  obtain ⟨rfl, rfl, rfl, rfl, rfl⟩ := e6
  have h7 := hpart 7 _ _ rfl
  rw [cells_val] at h7
  obtain ⟨n7, g7, e7, r7⟩ := open_val _ x7.1 (Nat.le_refl _) m _ x7.2 h7 (hwe 7 _ _ rfl rfl)
  simp at e7
  obtain ⟨rfl, rfl, rfl, rfl, rfl⟩ := e7
  have h8 := hpart 8 _ _ rfl
  rw [cells_val] at h8
  obtain ⟨n8, g8, e8, r8⟩ := open_val _ x8.1 (Nat.le_refl _) m _ x8.2 h8 (hwe 8 _ _ rfl rfl)
  simp at e8
  obtain ⟨rfl, rfl, rfl, rfl, rfl⟩ := e8
  have h9 := hpart 9 _ _ rfl
  rw [cells_int] at h9
  obtain ⟨n9, e9, _, r9⟩ := DataW.trod_int under_int h9
  simp at e9
  subst e9
  replace r9 := wf_range r9
  rw [i1, i2] at r9
  exact ⟨⟨n0, n1, n2, n3, n4, n5, n6, n7, n8, n9⟩, g5, g6, g7, g8, rfl, r5, r6, r7, r8, r0, r9, r1, r2, r3⟩

theorem open_arg_reply {base : Nat} {v : Value} {d : DataW H} {p : List MemPlace} (hok : Value.okWide Tryd.prog W .any base 25 v) (h : DataW.Trod enc Tryd.prog W 0 sp held 25 v d p) (hw : ∀ n ∈ d.weights Tryd.prog 25, n ≤ reachBytes) :
    ∃ (r : Rp) (A : Option Addr) (cap : Nat), v = .agg (rpCells r.e r.n A r.docs.length cap r.cursor) ∧ InL W A cap r.docs ∧ (-9223372036854775808 ≤ r.e ∧ r.e ≤ 9223372036854775807) ∧ (-9223372036854775808 ≤ r.n ∧ r.n ≤ 9223372036854775807) ∧ (-9223372036854775808 ≤ r.cursor ∧ r.cursor ≤ 9223372036854775807) := by
  obtain ⟨fs, hu, _⟩ := under_reply
  obtain ⟨cs, rfl, _⟩ := okWide_struct hu hok
  obtain ⟨fuel, hf⟩ := h
  obtain ⟨r, A, cap, hc, hrest⟩ := open_reply d fuel _ _ hf hw
  refine ⟨r, A, cap, ?_, hrest⟩
  exact congrArg Value.agg (Array.ext' hc)

theorem open_arg_request {base : Nat} {v : Value} {d : DataW H} {p : List MemPlace} (hok : Value.okWide Tryd.prog W .any base 49 v) (h : DataW.Trod enc Tryd.prog W 0 sp held 49 v d p) (hw : ∀ n ∈ d.weights Tryd.prog 49, n ≤ reachBytes) :
    ∃ (r : Rq) (ck cl ch cx : Cv), v = .agg (rqCells r.do_ r.coll r.index r.path r.unique ck cl ch cx r.n) ∧ In W r.key ck ∧ In W r.low cl ∧ In W r.high ch ∧ In W r.doc cx ∧ (-9223372036854775808 ≤ r.do_ ∧ r.do_ ≤ 9223372036854775807) ∧ (-9223372036854775808 ≤ r.n ∧ r.n ≤ 9223372036854775807) ∧ r.coll.size ≤ 140737488355328 ∧ r.index.size ≤ 140737488355328 ∧ r.path.size ≤ 140737488355328 := by
  obtain ⟨fs, hu, _⟩ := under_request
  obtain ⟨cs, rfl, _⟩ := okWide_struct hu hok
  obtain ⟨fuel, hf⟩ := h
  obtain ⟨r, ck, cl, ch, cx, hc, hrest⟩ := open_request d fuel _ _ hf hw
  refine ⟨r, ck, cl, ch, cx, ?_, hrest⟩
  exact congrArg Value.agg (Array.ext' hc)
end
end Go.Proofs.YtojpeiihkjpeoaaDoor

set_option linter.unusedVariables false
set_option linter.unusedSimpArgs false
namespace Go.Proofs.YtojpeiihkjpeoaaDoor
open Go.RowKit Go.ChangeShapes Go.Shelf Go.Deep Go.WideShapes

section
variable {H : Type} {enc : TypeId × Value → H} {W : World} {sp : Nat → Bool} {held : Bool}
theorem open_bytes_le {fuel : Nat} {c : Value} {x : DataW H × List MemPlace} (h : DataW.trod enc Tryd.prog W 0 sp held fuel 26 [c] = some x) (hw : ∀ n ∈ x.1.weights Tryd.prog 26, n ≤ reachBytes) :
    ∃ A b cap, c = .slice A b.length cap ∧ b.length ≤ cap ∧ b.length ≤ 140737488351232 ∧ InB W A b := by
  rcases open_slice1 under_u8s cells_u8 h with ⟨hc, hx⟩ | ⟨a, len, cap, m, n, V, D, Pl, hc, hb, hl, hm, hmm, hx, hall⟩
  · injection hc with hc
    subst hc
    exact ⟨none, [], 0, rfl, by simp, by simp, ⟨by simp [u8s], fun h => by simp at h⟩⟩
  · injection hc with hc
    have hmlen : len ≤ m := by rw [hmm]; split <;> omega
    have hV : ∀ i, i < len → ∃ y : UInt8, V i = .int .u8 (y.toNat : Int) := fun i hi => by
      obtain ⟨h1, h2⟩ := hall i (by omega)
      obtain ⟨n', hn, hx', hwf⟩ := DataW.trod_int under_u8 h2
      injection hn with hn
      have hr : 0 ≤ n' ∧ n' < 256 := by
        have h3 : (decide (IntKind.u8.min ≤ n') && decide (n' ≤ IntKind.u8.max)) = true := hwf
        rw [Bool.and_eq_true, decide_eq_true_eq, decide_eq_true_eq] at h3
        have e1 : IntKind.u8.min = 0 := rfl
        have e2 : IntKind.u8.max = 255 := rfl
        rw [e1, e2] at h3
        omega
      refine ⟨UInt8.ofNat n'.toNat, ?_⟩
      rw [hn, UInt8.toNat_ofNat']
      congr 1
      omega
    let y : Nat → UInt8 := fun i => if h : i < len then Classical.choose (hV i h) else 0
    have hy : ∀ i, i < len → V i = .int .u8 ((y i).toNat : Int) := fun i hi => by
      show V i = .int .u8 ((if h : i < len then Classical.choose (hV i h) else 0 : UInt8).toNat : Int)
      rw [dif_pos hi]
      exact Classical.choose_spec (hV i hi)
    have hlb : ((List.range len).map y).length = len := by simp
    have hwt : len ≤ reachBytes := by
      have := hw ((len + (m - len)) * 1) (by rw [hx]; simp [DataW.weights, bytes_u8])
      omega
    have hreach : reachBytes = 140737488351232 := rfl
    refine ⟨some a, (List.range len).map y, cap, by rw [hlb]; exact hc, by rw [hlb]; exact hl, by rw [hlb]; omega, ⟨by rw [u8s_length, Nat.mul_one], fun hn => ?_⟩⟩
    rw [hlb] at hn
    have h0 := (hall 0 (by omega)).1
    rw [addr_add_zero] at h0
    have ha := spot_of_cell h0
    refine ⟨a.block, a.off, by rw [← ha], fun j u hu => ?_⟩
    have hj : j < len := by
      have := (List.getElem?_eq_some_iff.1 hu).1
      rwa [u8s_length, hlb] at this
    have hcell := (hall j (by omega)).1
    rw [ha, add_lit] at hcell
    rw [u8s_get _ j (by rw [hlb]; exact hj)] at hu
    injection hu with hu
    subst hu
    refine ⟨?_, Nat.zero_le _, (show a.block < W.heap.size from World.block_lt_of_cell? W _ h0)⟩
    rw [hcell, hy j hj]
    simp
end

def zeroD {H : Type} : DataW H := .agg [.lit (.int .i64 0), .lit (.int .u64 0), .nil, .nil, .nil]
def zeroPD {H : Type} : DataW H := .agg [.lit (.int .i64 0), .lit (.int .i64 0), .nil, .lit (.int .i64 0)]
def zeroQD {H : Type} : DataW H := .agg [.lit (.int .i64 0), .lit (.string []), .lit (.string []), .lit (.string []), .lit (.bool false), zeroD, zeroD, zeroD, zeroD, .lit (.int .i64 0)]
end Go.Proofs.YtojpeiihkjpeoaaDoor
