/- The walk of WireReplies; a reply argument, its documents' bytes bounded by its bulk; the law holds of every reply and byte string that come in, of bulk at most 1048576: a reply's frame is the document's, and bytes are read as the document's answer reads them. Conditions: the bound on the bulk; and the row's own (the two listed tables of unicode/utf8 as they were laid, the bound on what is read). Written by wip/tools/gen_repliesc.py. -/
import Derived.Test.YtojpeiihkjpeoaaDoorRefPG
import Derived.Test.YtojpeiihkjpeoaaDoorCardW
set_option linter.unusedVariables false
set_option linter.unusedSimpArgs false
namespace Go.Proofs.YtojpeiihkjpeoaaDoor
section
open Go.RowKit Go.Deep Go.WideShapes

section
variable {P : Program} {ops : Array Oper} {rest : List Oper} {a : Act} {w : World} {Q : Exit → Act → World → Prop}
theorem load_blk_grP {ty t : TypeId} {x : Operand} {d : Option Tmp} {p : String} {af : Array Edge} {g n i : Nat} {bb : Bool} {cells : Array Value} {td : TypeDesc} (hw : Region.wanted ⟨d, .load ty x, t, p, af, some (i, bb)⟩ (yielded ops a.tmps) = true) (hu : P.underlying ty = some td) (hd : (match td with | .struct _ | .array _ _ => true | _ => false) = true) (hx : a.eval x = .pointer (some ⟨g, 0, none⟩)) (hB : Blk w g ty cells) (hi : (P.info? ty).map (·.size) = some n)
    (hn : cells.size = n) (h : wpList P ops Q rest (a.put d (.agg cells)) w) : wpList P ops Q (⟨d, .load ty x, t, p, af, some (i, bb)⟩ :: rest) a w := by
  show if _ then _ ∨ _ else _
  rw [if_pos hw]
  exact .inl (wp_load_row ty x rfl g hx ty cells (0, 0) td hB hu hd (by rw [hn]; exact hi) h)
end
theorem mem_sum_leP {v : V} : ∀ (l : List V), v ∈ l → v.count ≤ (l.map V.count).sum
  | x :: l, h => by
    simp only [List.map_cons, List.sum_cons]
    rcases List.mem_cons.1 h with rfl | h
    · omega
    · have := mem_sum_leP l h; omega
theorem RpIn.cells {w : World} {q : Rp} {u : Value} (h : RpIn w q u) : ∃ cs, u = .agg cs ∧ cs.size = 4 ∧ cs.all (·.oneCell') = true := by
  obtain ⟨A, c, rfl, _⟩ := h
  exact ⟨_, rfl, rfl, by simp [Value.oneCell']⟩

set_option maxRecDepth 100000 in
set_option maxHeartbeats 6400000 in
theorem replies_any (q : Rp) (A : Option Addr) (cap : Nat) (b : List UInt8) (B : Option Addr) (bc : Nat) (w : World) (hT : Tabs w) (h1 : InL w A cap q.docs) (hbytes : ∀ v ∈ q.docs, v.formed = true → v.bytes.length ≤ 140737488355328)
    (he : -9223372036854775808 ≤ q.e ∧ q.e ≤ 9223372036854775807) (hn : -9223372036854775808 ≤ q.n ∧ q.n ≤ 9223372036854775807) (hk : -9223372036854775808 ≤ q.cursor ∧ q.cursor ≤ 9223372036854775807)
    (hb : InB w B b) (hl : b.length ≤ 140737488351232) (hcap : b.length ≤ bc) :
    Calls Tryd.prog 3 #[.agg (rpCells q.e q.n A q.docs.length cap q.cursor), .slice B b.length bc] w fun e w' => e = .returned (.bool true) ∧ Grow w w' := by
  obtain ⟨E, hE⟩ : ∃ d, q.e = d := ⟨_, rfl⟩
  obtain ⟨N, hN⟩ : ∃ d, q.n = d := ⟨_, rfl⟩
  obtain ⟨K, hK⟩ : ∃ d, q.cursor = d := ⟨_, rfl⟩
  obtain ⟨m, hm⟩ : ∃ d, q.docs.length = d := ⟨_, rfl⟩
  have HPQ := hide (fun (w : World) (hT : Tabs w) (h1 : InL w A cap q.docs) (hcount : ∀ v ∈ q.docs, v.count ≤ 20000) => (show Calls Tryd.prog 16 #[.agg (rpCells q.e q.n A q.docs.length cap q.cursor)] w (PutW w q.put) from putRp_any q A cap w hT h1 hcount he hn hk))
  have HRQ := hide (fun (w : World) (h1 : InL w A cap q.docs) (hcount : ∀ v ∈ q.docs, v.count ≤ 20000) => refPutRp_any q A cap w h1 hcount hbytes he hn hk)
  have HVQ := hide (fun (w : World) (h1 : InL w A cap q.docs) => vast_any q.docs A cap w h1)
  rw [hE, hN, hK, hm] at HPQ HRQ
  rw [hm] at HVQ
  rw [hE, hN, hK, hm]
  obtain ⟨pb, pe, hput⟩ : ∃ pb pe, q.put = (pb, pe) := ⟨_, _, rfl⟩
  rw [hput] at HPQ HRQ
  have HT := hide hT
  have HB := hide hb
  have H1 := hide h1
  have HG0 := hide ((Grow.refl w).alloc (.cells (rpCells E N A m cap K) 25))
  have HBQ0 := hide (Blk.new w 25 (rpCells E N A m cap K))
  clear hE hN hK hm hT hb h1 he hn hk hput hbytes
  go_enter Tryd.func3, Tryd.ntmps3
  have hc0 := HBQ0.out.cell
  go_wp2_with fail
  generalize hw2 : w.alloc (.cells _ 25) = w2 at HG0 HBQ0 ⊢
  clear hw2 hc0
  refine (HVQ.out w2 (H1.out.grow HG0.out)).mono ?_
  rintro e w3 ⟨rfl, hg3⟩
  have HG3 := hide (HG0.out.trans hg3)
  have HBQ3 := hide (HBQ0.out.grow hg3)
  clear hg3 HG0 HBQ0
  by_cases hv2 : 20000 ≤ (q.docs.map V.count).sum
  · rw [decide_eq_true hv2]
    go_wp2_with fail
    go_ret
    exact ⟨rfl, HG3.out⟩
  rw [decide_eq_false hv2]
  have HC2 := hide (fun (v : V) (hv : v ∈ q.docs) => (show v.count ≤ 20000 from by have := mem_sum_leP q.docs hv; omega))
  clear hv2
  go_wp2_with (with_reducible refine at_load 25 ?_; refine load_blk (g := w.heap.size) (n := 4) (cells := (rpCells E N A m cap K)) Tryd.underlying25 rfl rfl HBQ3.out info_rP rfl ?_)
  refine (HPQ.out w3 (HT.out.grow HG3.out) (H1.out.grow HG3.out) HC2.out).mono ?_
  rintro e w4 ⟨base4, PA, pc, rfl, hb4, hb4', hrow4, hg4⟩
  dsimp only at hrow4 ⊢
  have HG4 := hide (HG3.out.trans hg4)
  have HBQ4 := hide (HBQ3.out.grow hg4)
  have HROW4 := hide hrow4
  clear hg4 HG3 HBQ3 hb4 hb4' hrow4
  have hG := getP_any b B bc w4 (HT.out.grow HG4.out) (HB.out.grow HG4.out) (by omega) hcap
  have hGR := fun (w' : World) (hg : Grow w w') => refGetP_any b B bc w' (HB.out.grow hg) (by omega) hcap
  obtain ⟨xq, nq, eq, hgot⟩ : ∃ x n e, getRep b = (x, n, e) := ⟨_, _, _, rfl⟩
  rw [hgot] at hG hGR
  have HGET := hide hG
  have HGETR := hide hGR
  clear hG hGR hgot
  go_wp2_with fail
  refine HGET.out.mono ?_
  rintro e w5 ⟨u, rfl, hret, hg5⟩
  dsimp only at hret ⊢
  have HX5 := hide hret.in_
  obtain ⟨cs, hu, hcn, hco⟩ := hret.in_.cells
  subst hu
  have HG5 := hide (HG4.out.trans hg5)
  have HBQ5 := hide (HBQ4.out.grow hg5)
  have HROW5 := hide (HROW4.out.grow hg5)
  clear hret hg5 HG4 HBQ4 HROW4 HGET
  go_wp2_with (first
    | ((with_reducible refine at_alloc 25 ?_); refine alloc_to (cells := zeroP) (fun w => by kernel_rfl) ?_)
    | ((with_reducible refine at_store 25 ?_); refine store_blk (g := w5.heap.size) (n := 4) (cells := cs) rfl rfl (Blk.new w5 25 zeroP) info_rP rfl hcn hco ?_; intro w6 hb6 hgs6 hz6; have HY6 := hide hb6; have HGA6 := hide (show Grow w5 w6 from ((Grow.refl w5).alloc (.cells zeroP 25)).grown hgs6 (fun k e => by injection e with e; omega)); have HBQ6 := hide (HBQ5.out.grow HGA6.out); clear hb6 hgs6)
    | ((with_reducible refine at_load 25 ?_); refine load_blk (g := w.heap.size) (n := 4) (cells := (rpCells E N A m cap K)) Tryd.underlying25 rfl rfl HBQ6.out info_rP rfl ?_))
  have HG6 := hide (HG5.out.trans HGA6.out)
  refine (HRQ.out w6 (H1.out.grow HG6.out) HC2.out).mono ?_
  rintro e w7 ⟨base7, QA, qc, rfl, hb7, hb7', hrow7, hg7⟩
  dsimp only at hrow7 ⊢
  have HG7 := hide (HG6.out.trans hg7)
  have HY7 := hide (HY6.out.grow hg7)
  have HX7 := hide ((HX5.out.grow HGA6.out).grow hg7)
  have HROW7 := hide ((HROW5.out.grow HGA6.out).grow hg7)
  have HROWR7 := hide hrow7
  clear hb7 hb7' hrow7 hg7 HG6 HY6 HX5 HROW5 HBQ5 HBQ6 HGA6 HG5 hz6
  go_wp2_with fail
  refine (HGETR.out w7 HG7.out).mono ?_
  rintro e w8 ⟨u, rfl, hri, hg8⟩
  dsimp only at hri ⊢
  have HZ8 := hide hri
  obtain ⟨cz, hu, hzn, hzo⟩ := hri.cells
  subst hu
  have HG8 := hide (HG7.out.trans hg8)
  have HY8 := hide (HY7.out.grow hg8)
  have HX8 := hide (HX7.out.grow hg8)
  have HROW8 := hide (HROW7.out.grow hg8)
  have HROWR8 := hide (HROWR7.out.grow hg8)
  clear hri hg8 HG7 HY7 HX7 HROW7 HROWR7 HGETR
  go_wp2_with (first
    | ((with_reducible refine at_alloc 25 ?_); refine alloc_to (cells := zeroP) (fun w => by kernel_rfl) ?_)
    | ((with_reducible refine at_store 25 ?_); refine store_blk (g := w8.heap.size) (n := 4) (cells := cz) rfl rfl (Blk.new w8 25 zeroP) info_rP rfl hzn hzo ?_; intro w9 hb9 hgs9 hz9; have HV9 := hide hb9; have HGA9 := hide (show Grow w8 w9 from ((Grow.refl w8).alloc (.cells zeroP 25)).grown hgs9 (fun k e => by injection e with e; omega)); clear hb9 hgs9))
  have HG9 := hide (HG8.out.trans HGA9.out)
  refine (wawake_any w9 (HT.out.grow HG9.out)).mono ?_
  rintro e w10 ⟨rfl, hg10⟩
  have hgz := HGA9.out.trans hg10
  have HG10 := hide (HG9.out.trans hg10)
  have HY10 := hide (HY8.out.grow hgz)
  have HX10 := hide (HX8.out.grow hgz)
  have HV10 := hide (HV9.out.grow hg10)
  have HZ10 := hide (HZ8.out.grow hgz)
  have hcvp := conv_bstr (cap := pc) rfl (HROW8.out.grow hgz).reads.1
  have hcvq := conv_bstr (cap := qc) rfl (HROWR8.out.grow hgz).reads.1
  clear hg10 hgz HG8 HG9 HY8 HX8 HV9 HZ8 HROW8 HROWR8 HGA9 hz9
  go_wp2_with (first
    | ((with_reducible refine at_load_gv (x := .tmp 7) 25 ?_); refine load_blk_grP (g := w5.heap.size) (n := 4) (cells := cs) ?_ Tryd.underlying25 rfl rfl HY10.out info_rP hcn ?_)
    | ((with_reducible refine at_load_gv (x := .tmp 12) 25 ?_); refine load_blk_grP (g := w8.heap.size) (n := 4) (cells := cz) ?_ Tryd.underlying25 rfl rfl HV10.out info_rP hzn ?_))
  all_goals try ((with_reducible show Region.wanted _ _ = true); rfl)
  refine (reply_same xq _ _ w10 HX10.out HZ10.out).mono ?_
  rintro e w11 ⟨rfl, hg11⟩
  have HG11 := hide (HG10.out.trans hg11)
  clear hg11
  go_wp2_with fail
  go_ret
  exact ⟨rfl, HG11.out⟩
end
open Go.RowKit Go.ChangeShapes Go.ChangeAt Go.Shelf Go.Deep Go.WideShapes
section
variable {H : Type} {enc : TypeId × Value → H} {W : World} {sp : Nat → Bool} {held : Bool}
set_option maxRecDepth 100000
theorem mem_sum_len : ∀ (l : List V) (v : V), v ∈ l → v.bytes.length ≤ (l.map fun x => x.bytes.length).sum
  | x :: l, v, h => by
    simp only [List.map_cons, List.sum_cons]
    rcases List.mem_cons.1 h with rfl | h
    · omega
    · have := mem_sum_len l v h; omega
theorem sum_16 (f : Nat → Nat) : ∀ l : List Nat, (l.map fun i => 16 * f i).sum = 16 * (l.map f).sum
  | [] => rfl
  | x :: l => by simp only [List.map_cons, List.sum_cons, sum_16 f l]; omega
/-- The bytes of a row's values are bounded by its bulk. -/
theorem bulk_docs {fuel : Nat} {A : Option Addr} {cap : Nat} {vs : List V} {x : DataW H × List MemPlace} (h : DataW.trod enc Tryd.prog W 0 sp held fuel 23 [.slice A vs.length cap] = some x) (hin : InL W A cap vs) : ∀ v ∈ vs, v.bytes.length ≤ 16 * Rows.uptoBulk x.1 := by
  intro v hv
  unfold InL In at hin
  rw [IsV] at hin
  obtain ⟨_, _, _, _, _, _, _, _, _, _, _, _, _, _, _, hL, _⟩ := hin
  obtain ⟨DL, hLb, hLd⟩ := row_bulk under_vals cells_val (by omega) h
  have hL1 := sum_range_le (fun x : V => x.bytes.length) vs (fun i => 16 * Rows.uptoBulk (DL i)) (fun i hi => by
    obtain ⟨s1, bk, o, fuel', q', cs', ha, hlen', hcs', htr⟩ := hLd i hi
    obtain ⟨bk2, o2, x, ha2, h5, hin⟩ := hL i hi
    have ha2 : A = _ := ha2
    rw [ha] at ha2
    injection ha2 with ha2
    injection ha2 with z1 z2
    subst z1 z2
    obtain ⟨d0, d1, d2, d3, d4, rfl⟩ : ∃ a b c d e, cs' = [a, b, c, d, e] := by
      match cs', hlen' with
      | [a, b, c, d, e], _ => exact ⟨a, b, c, d, e, rfl⟩
    obtain ⟨k0, k1, k2, k3, k4⟩ := h5
    obtain rfl := same_cell (hcs' 0 _ rfl) k0.1
    obtain rfl := same_cell (hcs' 1 _ rfl) k1.1
    obtain rfl := same_cell (hcs' 2 _ rfl) k2.1
    obtain rfl := same_cell (hcs' 3 _ rfl) k3.1
    obtain rfl := same_cell (hcs' 4 _ rfl) k4.1
    exact bulk_val _ (DL i) (Nat.le_refl _) fuel' x vs[i] q' htr hin)
  rw [sum_16] at hL1
  have := mem_sum_len vs v hv
  omega
theorem open_replyB (d : DataW H) (fuel : Nat) (cs : List Value) (q : List MemPlace) (h : DataW.trod enc Tryd.prog W 0 sp held fuel 25 cs = some (d, q)) (hw : ∀ k ∈ d.weights Tryd.prog 25, k ≤ reachBytes) :
    ∃ (r : Rp) (A : Option Addr) (cap : Nat), cs = (rpCells r.e r.n A r.docs.length cap r.cursor).toList ∧ InL W A cap r.docs ∧ (-9223372036854775808 ≤ r.e ∧ r.e ≤ 9223372036854775807) ∧ (-9223372036854775808 ≤ r.n ∧ r.n ≤ 9223372036854775807) ∧ (-9223372036854775808 ≤ r.cursor ∧ r.cursor ≤ 9223372036854775807) ∧ ∀ v ∈ r.docs, v.bytes.length ≤ 16 * Rows.uptoBulk d := by
  obtain ⟨fs, hu, hfs⟩ := under_reply
  obtain ⟨xs, m, hfuel, hx, hlen, hxl, hall⟩ := DataW.trod_struct hu h
  injection hx with hx1 hx2
  subst hx1
  rw [cells_reply] at hlen
  have hfl : fs.size = 4 := by have := congrArg Array.size hfs; simpa using this
  rw [hfl] at hxl
  obtain ⟨c0, c1, c2, c3, rfl⟩ : ∃ c0 c1 c2 c3, cs = [c0, c1, c2, c3] := by
    match cs, hlen with
    | [c0, c1, c2, c3], _ => exact ⟨c0, c1, c2, c3, rfl⟩
  obtain ⟨x0, x1, x2, x3, rfl⟩ : ∃ x0 x1 x2 x3, xs = [x0, x1, x2, x3] := by
    match xs, hxl with
    | [x0, x1, x2, x3], _ => exact ⟨x0, x1, x2, x3, rfl⟩
  have hpart : ∀ i t o, (#[(22, 0), (3, 1), (23, 2), (3, 3)] : Array (TypeId × Nat))[i]? = some (t, o) →
      DataW.trod enc Tryd.prog W 0 sp held m t (([c0, c1, c2, c3].drop o).take (Tryd.prog.cellsOf t)) = [x0, x1, x2, x3][i]? := fun i t o hi => by
    obtain ⟨f, hf, rfl, rfl⟩ := field_of hfs hi
    exact hall i f hf
  have htys : fs.toList.map (·.type) = [22, 3, 23, 3] := by
    have := congrArg (fun a => a.toList.map Prod.fst) hfs
    simp only [Array.toList_map, List.map_map] at this
    exact this
  have hwe : ∀ (j : Nat) (t : TypeId) (dd : DataW H), [22, 3, 23, 3][j]? = some t → ([x0, x1, x2, x3].map (·.1))[j]? = some dd → ∀ k ∈ dd.weights Tryd.prog t, k ≤ reachBytes := fun j t dd hj hdd k hk => by
    refine hw k ?_
    simp only [DataW.weights, hu, htys]
    exact DataW.weights_mem_each hj hdd k hk
  have i1 : IntKind.i64.min = -9223372036854775808 := rfl
  have i2 : IntKind.i64.max = 9223372036854775807 := rfl
  have hreach := reachBytes_lt
  simp only [Nat.reducePow] at hreach
  have h0 := hpart 0 _ _ rfl
  rw [cells_err] at h0
  obtain ⟨n0, e0, _, r0⟩ := DataW.trod_int under_err h0
  simp at e0
  subst e0
  replace r0 := wf_range r0
  rw [i1, i2] at r0
  have h1 := hpart 1 _ _ rfl
  rw [cells_int] at h1
  obtain ⟨n1, e1, _, r1⟩ := DataW.trod_int under_int h1
  simp at e1
  subst e1
  replace r1 := wf_range r1
  rw [i1, i2] at r1
  have h2 := hpart 2 _ _ rfl
  rw [cells_vals] at h2
  obtain ⟨A2, p2, n2, rfl, r2⟩ := open_vals h2 (hwe 2 _ _ rfl rfl)
  have h3 := hpart 3 _ _ rfl
  rw [cells_int] at h3
  obtain ⟨n3, e3, _, r3⟩ := DataW.trod_int under_int h3
  simp at e3
  subst e3
  replace r3 := wf_range r3
  rw [i1, i2] at r3
  have b2 := bulk_docs h2 r2
  refine ⟨⟨n0, n1, n2, n3⟩, A2, p2, rfl, r2, r0, r1, r3, fun v hv => ?_⟩
  have := b2 v hv
  simp only [Rows.uptoBulk, Rows.uptoBulkAll, List.map_cons, List.map_nil]
  omega
theorem open_arg_replyB {base : Nat} {v : Value} {d : DataW H} {p : List MemPlace} (hok : Value.okWide Tryd.prog W .any base 25 v) (h : DataW.Trod enc Tryd.prog W 0 sp held 25 v d p) (hw : ∀ n ∈ d.weights Tryd.prog 25, n ≤ reachBytes) :
    ∃ (r : Rp) (A : Option Addr) (cap : Nat), v = .agg (rpCells r.e r.n A r.docs.length cap r.cursor) ∧ InL W A cap r.docs ∧ (-9223372036854775808 ≤ r.e ∧ r.e ≤ 9223372036854775807) ∧ (-9223372036854775808 ≤ r.n ∧ r.n ≤ 9223372036854775807) ∧ (-9223372036854775808 ≤ r.cursor ∧ r.cursor ≤ 9223372036854775807) ∧ ∀ v ∈ r.docs, v.bytes.length ≤ 16 * Rows.uptoBulk d := by
  obtain ⟨fs, hu, _⟩ := under_reply
  obtain ⟨cs, rfl, _⟩ := okWide_struct hu hok
  obtain ⟨fuel, hf⟩ := h
  obtain ⟨r, A, cap, hc, hrest⟩ := open_replyB d fuel _ _ hf hw
  refine ⟨r, A, cap, ?_, hrest⟩
  exact congrArg Value.agg (Array.ext' hc)
end

theorem replies_reading (os : Os) {H : Type} (enc : TypeId × Value → H) : ∃ places, DataW.whole enc Tryd.prog ((laidWorld os).forCall (fun _ _ => 0) ⟨#[], #[.agg zeroP, .slice none 0 0], []⟩).memory Tryd.f3.params.toList Rows.wireRepliesSpec.vars false (#[.agg zeroP, .slice none 0 0] : Array Value).toList 8 = some ([zeroPD, .nil], [], places) :=
  ⟨[], by kernel_rfl⟩

set_option maxRecDepth 100000 in
set_option maxHeartbeats 1600000 in
theorem replies_lifted (os : Os) (started : os.Started) (H : Type) (enc : TypeId × Value → H) (F : Stop.Interp) :
    ReturnsInHanded {} Tryd.checked os 3 .any ((Rows.OpenSpec.upto Rows.wireRepliesSpec).preRow enc Tryd.prog Tryd.f3 Rows.wireRepliesUptoRow.domain false Rows.wireRepliesUptoRow.laid) (((Rows.OpenSpec.upto Rows.wireRepliesSpec).at F).post enc Tryd.prog Tryd.f3 false true false false) := by
  obtain ⟨places, hx⟩ := replies_reading os enc
  refine returnsInHanded_of_row (C := Tryd.checked) (s := Rows.OpenSpec.upto Rows.wireRepliesSpec) own_ started (by kernel_rfl) Tryd.func3
    (witness_row_atRef (enc := enc) (C := Tryd.checked) false (laidWorld os) #[.agg zeroP, .slice none 0 0] rfl (by kernel_rfl) (by kernel_rfl) (by kernel_rfl)
      (OpenSpec.preRow_of_cond 8 hx (by kernel_rfl) (fun k hk => by cases hk; kernel_rfl) (by kernel_rfl) (laid_row os _))) ?_
  intro W base args ds gs before hval0 hW _ hcond hsz hL _ _
  have hval : ∀ (j : Nat) t v, Tryd.f3.params[j]? = some t → args[j]? = some v → Value.okWide Tryd.prog W .any base t v := hval0
  have hW' := hW
  obtain ⟨p, q, hA0, hV0, rfl, _, _⟩ := hW
  have hA : DataW.TrodAll enc Tryd.prog W 0 (fun _ => true) true Tryd.f3.params.toList args.toList ds p := hA0
  rw [Tryd.params3] at hA hval
  obtain ⟨v0, v1, d0, d1, p0, p1, rfl, rfl, rfl, h0, h1⟩ := trodAll_two hA
  obtain ⟨rfl, rfl⟩ := trodVars_none hV0
  have hbulk : Rows.uptoBulkAll ([d0, d1] ++ []) ≤ 1048576 := of_decide_eq_true (hcond _ rfl)
  obtain ⟨r0, A0, cap0, rfl, hin0, he0, hn0, hk0, hby0⟩ := open_arg_replyB (hval 0 25 v0 rfl rfl) h0 (fun n hn => by
    have := List.all_eq_true.1 hsz _ (DataW.weights_mem_each (j := 0) (t := 25) (d := d0) (by rw [Tryd.params3]; rfl) rfl n hn)
    simpa using this)
  obtain ⟨A01, len1, cap01, rfl⟩ := okWide_slice under_u8s (hval 1 26 v1 rfl rfl)
  have h1k := h1
  obtain ⟨fuel1, h1f⟩ := h1
  obtain ⟨A1, b1, cap1, hv1, hcap1, hl1, hin1⟩ := open_bytes_le (c := .slice A01 len1 cap01) h1f (fun n hn => by
    have := List.all_eq_true.1 hsz _ (DataW.weights_mem_each (j := 1) (t := 26) (d := d1) (by rw [Tryd.params3]; rfl) rfl n hn)
    simpa using this)
  rw [hv1] at h1k hW' ⊢
  have hbb : ∀ v ∈ r0.docs, v.formed = true → v.bytes.length ≤ 140737488355328 := fun v hv _ => by
    have := hby0 v hv
    simp only [List.cons_append, List.nil_append, Rows.uptoBulkAll] at hbulk
    omega
  have hlt0 : ∀ x ∈ p0, x.block < W.heap.size := fun x hx => by
    have := hW'.lt x (by simp [hx])
    simpa using this
  have hlt1 : ∀ x ∈ p1, x.block < W.heap.size := fun x hx => by
    have := hW'.lt x (by simp [hx])
    simpa using this
  refine (replies_any r0 A0 cap0 b1 A1 cap1 W (tabs_row hL) hin0 hbb he0 hn0 hk0 hin1 hl1 hcap1).mono ?_
  rintro e W' ⟨rfl, bel⟩
  have e1 : ((Rows.OpenSpec.upto Rows.wireRepliesSpec).at F).fn H ([d0, d1] ++ []) = { results := [.lit (.bool true)], args := [d0, d1] } := rfl
  refine ⟨_, rfl, _, _, _, [], p0 ++ p1, [], hW', ?_, ?_, ?_, bel.below.frame _, fun h => by cases h⟩
  · rw [e1]; exact trodAll_mk1 (shut_bool Tryd.underlying4 _)
  · rw [e1]; exact trodAll_mk2 (Below.trod laidOut_ (by kernel_rfl) (of_decide_eq_true (by kernel_rfl)) h0 bel.below hlt0) (Below.trod laidOut_ (by kernel_rfl) (of_decide_eq_true (by kernel_rfl)) h1k bel.below hlt1)
  · rw [e1]; rfl

theorem replies_said : Rows.WireRepliesUptoSaid :=
  OpenClaim.holds_of_cond 3 Tryd.f3 rfl rfl rfl rfl rfl rfl rfl ⟨rfl, rfl, rfl, rfl, rfl⟩ rfl rfl rfl rfl rfl (by kernel_rfl) Tryd.func3 (by kernel_rfl)
    (of_decide_eq_true (by kernel_rfl)) (by unfold Func.isWrapper; first | (rw [if_pos (by decide +kernel)]; kernel_rfl) | (rw [if_neg (by decide +kernel)]; exact ⟨rfl, rfl⟩))
    (fun os started H enc _ F => by rw [OpenClaim.pre_eq_preRow]; exact replies_lifted os started H enc F)

theorem replies_plain (f : FuncId) (fn : Func) (hf : Tryd.pinned.checked.prog.funcNamed "muniment/munimentlaw19.WireReplies" = some f) (hfn : Tryd.pinned.checked.prog.funcs[f]? = some fn) :
    true = Tryd.pinned.checked.prog.looks [] ∧ ∀ (j : Nat) t, fn.params[j]? = some t → Tryd.pinned.checked.prog.wantsStandIn t = false := by
  obtain rfl : f = 3 := Option.some.inj ((show Tryd.prog.funcNamed "muniment/munimentlaw19.WireReplies" = some 3 by kernel_rfl).symm.trans hf) |>.symm
  obtain rfl : fn = Tryd.f3 := (Option.some.inj (Tryd.func3.symm.trans hfn)).symm
  refine ⟨by kernel_rfl, fun j t ht => ?_⟩
  rw [Tryd.params3] at ht
  have hm := Array.mem_of_getElem? ht
  have : t = 25 ∨ t = 26 := by simpa using hm
  rcases this with rfl | rfl
  · exact (show Tryd.prog.wantsStandIn 25 = false by kernel_rfl)
  · exact (show Tryd.prog.wantsStandIn 26 = false by kernel_rfl)

/-- The tied card of WireReplies. -/
theorem replies_card : Rows.WireRepliesUptoCardSaid :=
  Claim7.holds_tied_plain_at .later [] _ _ _ _ replies_said (fun _ h => by cases h) (by kernel_rfl) (fun _ h => by cases h) wireRepliesUpto_row_tie rfl ⟨rfl, rfl⟩ (by kernel_rfl) rfl replies_plain (by kernel_rfl)
end Go.Proofs.YtojpeiihkjpeoaaDoor
