/- Walk: WireRequests. Written by wip/tools/gen_requests.py. · The law WireRequests holds of every request and byte string that come in, of bulk at most 1048576: a request's frame is the document's, and bytes are read as the document's answer reads them. Conditions: the bound on the bulk; and the row's own (the two listed tables of unicode/utf8 as they were laid, the bound on what is read). Written by wip/tools/gen_requestsc.py. -/
import Derived.Test.YtojpeiihkjpeoaaDoorRefPQ
import Derived.Test.YtojpeiihkjpeoaaDoorRefGQ
import Derived.Test.YtojpeiihkjpeoaaDoorCardW
set_option linter.unusedVariables false
set_option linter.unusedSimpArgs false
namespace Go.Proofs.YtojpeiihkjpeoaaDoor
open Go.RowKit Go.Deep Go.WideShapes

section
variable {P : Program} {ops : Array Oper} {rest : List Oper} {a : Act} {w : World} {Q : Exit → Act → World → Prop}
theorem load_blk_gr {ty t : TypeId} {x : Operand} {d : Option Tmp} {p : String} {af : Array Edge} {g n i : Nat} {bb : Bool} {cells : Array Value} {td : TypeDesc} (hw : Region.wanted ⟨d, .load ty x, t, p, af, some (i, bb)⟩ (yielded ops a.tmps) = true) (hu : P.underlying ty = some td) (hd : (match td with | .struct _ | .array _ _ => true | _ => false) = true) (hx : a.eval x = .pointer (some ⟨g, 0, none⟩)) (hB : Blk w g ty cells) (hi : (P.info? ty).map (·.size) = some n)
    (hn : cells.size = n) (h : wpList P ops Q rest (a.put d (.agg cells)) w) : wpList P ops Q (⟨d, .load ty x, t, p, af, some (i, bb)⟩ :: rest) a w := by
  show if _ then _ ∨ _ else _
  rw [if_pos hw]
  exact .inl (wp_load_row ty x rfl g hx ty cells (0, 0) td hB hu hd (by rw [hn]; exact hi) h)
end
theorem mem_sum_le1 {v : V} : ∀ (l : List V), v ∈ l → v.count ≤ (l.map V.count).sum
  | x :: l, h => by
    simp only [List.map_cons, List.sum_cons]
    rcases List.mem_cons.1 h with rfl | h
    · omega
    · have := mem_sum_le1 l h; omega
theorem RqIn.cells {w : World} {q : Rq} {u : Value} (h : RqIn w q u) : ∃ cs, u = .agg cs ∧ cs.size = 26 ∧ cs.all (·.oneCell') = true := by
  obtain ⟨ck, cl, ch, cx, rfl, _⟩ := h
  exact ⟨_, rfl, rfl, by simp [Value.oneCell']⟩
theorem RetRq.in_ {w0 w : World} {q : Rq} {u : Value} (h : RetRq w0 q u w) : RqIn w q u := by
  obtain ⟨ck, cl, ch, cx, rfl, h1, h2, h3, h4⟩ := h
  exact ⟨ck, cl, ch, cx, rfl, h1.in_, h2.in_, h3.in_, h4.in_⟩

set_option maxRecDepth 100000 in
set_option maxHeartbeats 6400000 in
theorem requests_any (q : Rq) (ck cl ch cx : Cv) (b : List UInt8) (B : Option Addr) (bc : Nat) (w : World) (hT : Tabs w) (h1 : In w q.key ck) (h2 : In w q.low cl) (h3 : In w q.high ch) (h4 : In w q.doc cx) (hbytes : ∀ v ∈ q.vals, v.formed = true → v.bytes.length ≤ 140737488355328)
    (hd : -9223372036854775808 ≤ q.do_ ∧ q.do_ ≤ 9223372036854775807) (hqn : -9223372036854775808 ≤ q.n ∧ q.n ≤ 9223372036854775807) (hs1 : q.coll.size ≤ 140737488355328) (hs2 : q.index.size ≤ 140737488355328) (hs3 : q.path.size ≤ 140737488355328)
    (hb : InB w B b) (hl : b.length ≤ 140737488351232) (hcap : b.length ≤ bc) :
    Calls Tryd.prog 7 #[.agg (rqCells q.do_ q.coll q.index q.path q.unique ck cl ch cx q.n), .slice B b.length bc] w fun e w' => e = .returned (.bool true) ∧ Grow w w' := by
  obtain ⟨d, hd0⟩ : ∃ d, q.do_ = d := ⟨_, rfl⟩
  obtain ⟨N, hN⟩ : ∃ d, q.n = d := ⟨_, rfl⟩
  obtain ⟨tc, htc⟩ : ∃ d, q.coll = d := ⟨_, rfl⟩
  obtain ⟨ti, hti⟩ : ∃ d, q.index = d := ⟨_, rfl⟩
  obtain ⟨tp, htp⟩ : ∃ d, q.path = d := ⟨_, rfl⟩
  obtain ⟨ub, hub⟩ : ∃ d, q.unique = d := ⟨_, rfl⟩
  have HPQ := hide (fun (w : World) (hT : Tabs w) (h1 : In w q.key ck) (h2 : In w q.low cl) (h3 : In w q.high ch) (h4 : In w q.doc cx) (hcount : ∀ v ∈ q.vals, v.count ≤ 20000) => putRq_any q ck cl ch cx w hT h1 h2 h3 h4 hcount hd hqn hs1 hs2 hs3)
  have HRQ := hide (fun (w : World) (h1 : In w q.key ck) (h2 : In w q.low cl) (h3 : In w q.high ch) (h4 : In w q.doc cx) (hcount : ∀ v ∈ q.vals, v.count ≤ 20000) => refPutRq_any q ck cl ch cx w h1 h2 h3 h4 hcount hbytes hd hqn hs1 hs2 hs3)
  have HVQ := hide (fun (g : Nat) (T0 : TypeId) (w : World) (hB : Blk w g T0 (rqCells q.do_ q.coll q.index q.path q.unique ck cl ch cx q.n)) (h1 : In w q.key ck) (h2 : In w q.low cl) (h3 : In w q.high ch) (h4 : In w q.doc cx) => vastAsks_any q ck cl ch cx g T0 w hB h1 h2 h3 h4)
  rw [hd0, hN, htc, hti, htp, hub] at HPQ HVQ HRQ
  rw [hd0, hN, htc, hti, htp, hub]
  obtain ⟨pb, pe, hput⟩ : ∃ pb pe, q.put = (pb, pe) := ⟨_, _, rfl⟩
  rw [hput] at HPQ HRQ
  have HT := hide hT
  have HB := hide hb
  have H1 := hide h1
  have H2 := hide h2
  have H3 := hide h3
  have H4 := hide h4
  have HG0 := hide ((Grow.refl w).alloc (.cells (rqCells d tc ti tp ub ck cl ch cx N) 49))
  have HBQ0 := hide (Blk.new w 49 (rqCells d tc ti tp ub ck cl ch cx N))
  clear hd0 hN htc hti htp hub hT hb h1 h2 h3 h4 hd hqn hs1 hs2 hs3 hput hbytes
  go_enter Tryd.func7, Tryd.ntmps7
  go_wp2_with (with_reducible refine at_load 49 ?_; refine load_blk (g := w.heap.size) (n := 26) (cells := (rqCells d tc ti tp ub ck cl ch cx N)) Tryd.underlying49 rfl rfl HBQ0.out info_rQ rfl ?_)
  have hz2 : (w.alloc (.cells (rqCells d tc ti tp ub ck cl ch cx N) 49)).heap.size = w.heap.size + 1 := by simp
  generalize hw2 : w.alloc (.cells _ 49) = w2 at HG0 HBQ0 hz2 ⊢
  rw [← hz2]
  clear hz2
  clear hw2
  refine (HVQ.out w2.heap.size _ _ (Blk.new w2 _ _) (H1.out.grow (HG0.out.trans ((Grow.refl w2).alloc _))) (H2.out.grow (HG0.out.trans ((Grow.refl w2).alloc _))) (H3.out.grow (HG0.out.trans ((Grow.refl w2).alloc _))) (H4.out.grow (HG0.out.trans ((Grow.refl w2).alloc _)))).mono ?_
  rintro e w3 ⟨rfl, hg3⟩
  have HG3 := hide ((HG0.out.trans ((Grow.refl w2).alloc _)).trans hg3)
  have HBQ3 := hide ((HBQ0.out.grow ((Grow.refl w2).alloc _)).grow hg3)
  clear hg3 HG0 HBQ0
  by_cases hv2 : 20000 ≤ (q.vals.map V.count).sum
  · rw [decide_eq_true hv2]
    go_wp2_with fail
    go_ret
    exact ⟨rfl, HG3.out⟩
  rw [decide_eq_false hv2]
  have HC2 := hide (fun (v : V) (hv : v ∈ q.vals) => (show v.count ≤ 20000 from by have := mem_sum_le1 q.vals hv; omega))
  clear hv2
  go_wp2_with (with_reducible refine at_load 49 ?_; refine load_blk (g := w.heap.size) (n := 26) (cells := (rqCells d tc ti tp ub ck cl ch cx N)) Tryd.underlying49 rfl rfl HBQ3.out info_rQ rfl ?_)
  refine (HPQ.out w3 (HT.out.grow HG3.out) (H1.out.grow HG3.out) (H2.out.grow HG3.out) (H3.out.grow HG3.out) (H4.out.grow HG3.out) HC2.out).mono ?_
  rintro e w4 ⟨base4, PA, pc, rfl, hb4, hb4', hrow4, hg4⟩
  dsimp only at hrow4 ⊢
  have HG4 := hide (HG3.out.trans hg4)
  have HBQ4 := hide (HBQ3.out.grow hg4)
  have HROW4 := hide hrow4
  clear hg4 HG3 HBQ3 hb4 hb4' hrow4
  have hG := getQ_any b B bc w4 (HT.out.grow HG4.out) (HB.out.grow HG4.out) (by omega) hcap
  have hGR := fun (w' : World) (hg : Grow w w') => refGetQ_any b B bc w' (HB.out.grow hg) (by omega) hcap
  obtain ⟨xq, nq, eq, hgot⟩ : ∃ x n e, getReq b = (x, n, e) := ⟨_, _, _, rfl⟩
  rw [hgot] at hG hGR
  have HGET := hide hG
  have HGETR := hide hGR
  clear hG hGR hgot
  go_wp2_with fail
  refine HGET.out.mono ?_
  rintro e w5 ⟨u, rfl, hret, hg5⟩
  dsimp only at hret ⊢
  have HX5 := hide hret.in_
  obtain ⟨cs, hu, hcn, hco⟩ := hret.cells
  subst hu
  have HG5 := hide (HG4.out.trans hg5)
  have HBQ5 := hide (HBQ4.out.grow hg5)
  have HROW5 := hide (HROW4.out.grow hg5)
  clear hret hg5 HG4 HBQ4 HROW4 HGET
  go_wp2_with (first
    | ((with_reducible refine at_alloc 49 ?_); refine alloc_to (cells := zeroQ) (fun w => by kernel_rfl) ?_)
    | ((with_reducible refine at_store 49 ?_); refine store_blk (g := w5.heap.size) (n := 26) (cells := cs) rfl rfl (Blk.new w5 49 zeroQ) info_rQ rfl hcn hco ?_; intro w6 hb6 hgs6 hz6; have HY6 := hide hb6; have HGA6 := hide (show Grow w5 w6 from ((Grow.refl w5).alloc (.cells zeroQ 49)).grown hgs6 (fun k e => by injection e with e; omega)); have HBQ6 := hide (HBQ5.out.grow HGA6.out); clear hb6 hgs6)
    | ((with_reducible refine at_load 49 ?_); refine load_blk (g := w.heap.size) (n := 26) (cells := (rqCells d tc ti tp ub ck cl ch cx N)) Tryd.underlying49 rfl rfl HBQ6.out info_rQ rfl ?_))
  have HG6 := hide (HG5.out.trans HGA6.out)
  refine (HRQ.out w6 (H1.out.grow HG6.out) (H2.out.grow HG6.out) (H3.out.grow HG6.out) (H4.out.grow HG6.out) HC2.out).mono ?_
  rintro e w7 ⟨base7, QA, qc, rfl, hb7, hb7', hrow7, hg7⟩
  dsimp only at hrow7 ⊢
  have HG7 := hide (HG6.out.trans hg7)
  have HY7 := hide (HY6.out.grow hg7)
  have HX7 := hide ((HX5.out.grow HGA6.out).grow hg7)
  have HROW7 := hide ((HROW5.out.grow HGA6.out).grow hg7)
  have HROWR7 := hide hrow7
  clear hb7 hb7' hrow7 hg7 HG6 HY6 HX5 HROW5 HBQ5 HBQ6 HGA6 HG5 hz6
  go_wp2_with fail
  refine (HGETR.out w7 HG7.out).mono ?_
  rintro e w8 ⟨u, rfl, hri, hg8⟩
  dsimp only at hri ⊢
  have HZ8 := hide hri
  obtain ⟨cz, hu, hzn, hzo⟩ := hri.cells
  subst hu
  have HG8 := hide (HG7.out.trans hg8)
  have HY8 := hide (HY7.out.grow hg8)
  have HX8 := hide (HX7.out.grow hg8)
  have HROW8 := hide (HROW7.out.grow hg8)
  have HROWR8 := hide (HROWR7.out.grow hg8)
  clear hri hg8 HG7 HY7 HX7 HROW7 HROWR7 HGETR
  go_wp2_with (first
    | ((with_reducible refine at_alloc 49 ?_); refine alloc_to (cells := zeroQ) (fun w => by kernel_rfl) ?_)
    | ((with_reducible refine at_store 49 ?_); refine store_blk (g := w8.heap.size) (n := 26) (cells := cz) rfl rfl (Blk.new w8 49 zeroQ) info_rQ rfl hzn hzo ?_; intro w9 hb9 hgs9 hz9; have HV9 := hide hb9; have HGA9 := hide (show Grow w8 w9 from ((Grow.refl w8).alloc (.cells zeroQ 49)).grown hgs9 (fun k e => by injection e with e; omega)); clear hb9 hgs9))
  have HG9 := hide (HG8.out.trans HGA9.out)
  refine (wawake_any w9 (HT.out.grow HG9.out)).mono ?_
  rintro e w10 ⟨rfl, hg10⟩
  have hgz := HGA9.out.trans hg10
  have HG10 := hide (HG9.out.trans hg10)
  have HY10 := hide (HY8.out.grow hgz)
  have HX10 := hide (HX8.out.grow hgz)
  have HV10 := hide (HV9.out.grow hg10)
  have HZ10 := hide (HZ8.out.grow hgz)
  have hcvp := conv_bstr (cap := pc) rfl (HROW8.out.grow hgz).reads.1
  have hcvq := conv_bstr (cap := qc) rfl (HROWR8.out.grow hgz).reads.1
  clear hg10 hgz HG8 HG9 HY8 HX8 HV9 HZ8 HROW8 HROWR8 HGA9 hz9
  go_wp2_with (first
    | ((with_reducible refine at_load_gv (x := .tmp 7) 49 ?_); refine load_blk_gr (g := w5.heap.size) (n := 26) (cells := cs) ?_ Tryd.underlying49 rfl rfl HY10.out info_rQ hcn ?_)
    | ((with_reducible refine at_load_gv (x := .tmp 12) 49 ?_); refine load_blk_gr (g := w8.heap.size) (n := 26) (cells := cz) ?_ Tryd.underlying49 rfl rfl HV10.out info_rQ hzn ?_))
  all_goals try ((with_reducible show Region.wanted _ _ = true); rfl)
  refine (rq_same xq _ _ w10 HX10.out HZ10.out).mono ?_
  rintro e w11 ⟨rfl, hg11⟩
  have HG11 := hide (HG10.out.trans hg11)
  clear hg11
  go_wp2_with fail
  go_ret
  exact ⟨rfl, HG11.out⟩
end Go.Proofs.YtojpeiihkjpeoaaDoor

set_option linter.unusedVariables false
set_option linter.unusedSimpArgs false
namespace Go.Proofs.YtojpeiihkjpeoaaDoor
open Go.RowKit Go.ChangeShapes Go.ChangeAt Go.Shelf Go.Deep Go.WideShapes

theorem requests_reading (os : Os) {H : Type} (enc : TypeId × Value → H) : ∃ places, DataW.whole enc Tryd.prog ((laidWorld os).forCall (fun _ _ => 0) ⟨#[], #[.agg zeroQ, .slice none 0 0], []⟩).memory Tryd.f7.params.toList Rows.wireRequestsSpec.vars false (#[.agg zeroQ, .slice none 0 0] : Array Value).toList 8 = some ([zeroQD, .nil], [], places) :=
  ⟨[], by kernel_rfl⟩

set_option maxRecDepth 100000 in
set_option maxHeartbeats 1600000 in
theorem requests_lifted (os : Os) (started : os.Started) (H : Type) (enc : TypeId × Value → H) (F : Stop.Interp) :
    ReturnsInHanded {} Tryd.checked os 7 .any ((Rows.OpenSpec.upto Rows.wireRequestsSpec).preRow enc Tryd.prog Tryd.f7 Rows.wireRequestsUptoRow.domain false Rows.wireRequestsUptoRow.laid) (((Rows.OpenSpec.upto Rows.wireRequestsSpec).at F).post enc Tryd.prog Tryd.f7 false true false false) := by
  obtain ⟨places, hx⟩ := requests_reading os enc
  refine returnsInHanded_of_row (C := Tryd.checked) (s := Rows.OpenSpec.upto Rows.wireRequestsSpec) own_ started (by kernel_rfl) Tryd.func7
    (witness_row_atRef (enc := enc) (C := Tryd.checked) false (laidWorld os) #[.agg zeroQ, .slice none 0 0] rfl (by kernel_rfl) (by kernel_rfl) (by kernel_rfl)
      (OpenSpec.preRow_of_cond 8 hx (by kernel_rfl) (fun k hk => by cases hk; kernel_rfl) (by kernel_rfl) (laid_row os _))) ?_
  intro W base args ds gs before hval0 hW _ hcond hsz hL _ _
  have hval : ∀ (j : Nat) t v, Tryd.f7.params[j]? = some t → args[j]? = some v → Value.okWide Tryd.prog W .any base t v := hval0
  have hW' := hW
  obtain ⟨p, q, hA0, hV0, rfl, _, _⟩ := hW
  have hA : DataW.TrodAll enc Tryd.prog W 0 (fun _ => true) true Tryd.f7.params.toList args.toList ds p := hA0
  rw [Tryd.params7] at hA hval
  obtain ⟨v0, v1, d0, d1, p0, p1, rfl, rfl, rfl, h0, h1⟩ := trodAll_two hA
  obtain ⟨rfl, rfl⟩ := trodVars_none hV0
  have hbulk : Rows.uptoBulkAll ([d0, d1] ++ []) ≤ 1048576 := of_decide_eq_true (hcond _ rfl)
  obtain ⟨q0, ck0, cl0, ch0, cx0, rfl, k10, k20, k30, k40, hd0, hqn0, s10, s20, s30, hby0⟩ := open_arg_requestB (hval 0 49 v0 rfl rfl) h0 (fun n hn => by
    have := List.all_eq_true.1 hsz _ (DataW.weights_mem_each (j := 0) (t := 49) (d := d0) (by rw [Tryd.params7]; rfl) rfl n hn)
    simpa using this)
  obtain ⟨A01, len1, cap01, rfl⟩ := okWide_slice under_u8s (hval 1 26 v1 rfl rfl)
  have h1k := h1
  obtain ⟨fuel1, h1f⟩ := h1
  obtain ⟨A1, b1, cap1, hv1, hcap1, hl1, hin1⟩ := open_bytes_le (c := .slice A01 len1 cap01) h1f (fun n hn => by
    have := List.all_eq_true.1 hsz _ (DataW.weights_mem_each (j := 1) (t := 26) (d := d1) (by rw [Tryd.params7]; rfl) rfl n hn)
    simpa using this)
  rw [hv1] at h1k hW' ⊢
  have hbb : ∀ v ∈ q0.vals, v.formed = true → v.bytes.length ≤ 140737488355328 := fun v hv _ => by
    have := hby0 v hv
    simp only [List.cons_append, List.nil_append, Rows.uptoBulkAll] at hbulk
    omega
  have hlt0 : ∀ x ∈ p0, x.block < W.heap.size := fun x hx => by
    have := hW'.lt x (by simp [hx])
    simpa using this
  have hlt1 : ∀ x ∈ p1, x.block < W.heap.size := fun x hx => by
    have := hW'.lt x (by simp [hx])
    simpa using this
  refine (requests_any q0 ck0 cl0 ch0 cx0 b1 A1 cap1 W (tabs_row hL) k10 k20 k30 k40 hbb hd0 hqn0 s10 s20 s30 hin1 hl1 hcap1).mono ?_
  rintro e W' ⟨rfl, bel⟩
  have e1 : ((Rows.OpenSpec.upto Rows.wireRequestsSpec).at F).fn H ([d0, d1] ++ []) = { results := [.lit (.bool true)], args := [d0, d1] } := rfl
  refine ⟨_, rfl, _, _, _, [], p0 ++ p1, [], hW', ?_, ?_, ?_, bel.below.frame _, fun h => by cases h⟩
  · rw [e1]; exact trodAll_mk1 (shut_bool Tryd.underlying4 _)
  · rw [e1]; exact trodAll_mk2 (Below.trod laidOut_ (by kernel_rfl) (of_decide_eq_true (by kernel_rfl)) h0 bel.below hlt0) (Below.trod laidOut_ (by kernel_rfl) (of_decide_eq_true (by kernel_rfl)) h1k bel.below hlt1)
  · rw [e1]; rfl

theorem requests_said : Rows.WireRequestsUptoSaid :=
  OpenClaim.holds_of_cond 7 Tryd.f7 rfl rfl rfl rfl rfl rfl rfl ⟨rfl, rfl, rfl, rfl, rfl⟩ rfl rfl rfl rfl rfl (by kernel_rfl) Tryd.func7 (by kernel_rfl)
    (of_decide_eq_true (by kernel_rfl)) (by unfold Func.isWrapper; first | (rw [if_pos (by decide +kernel)]; kernel_rfl) | (rw [if_neg (by decide +kernel)]; exact ⟨rfl, rfl⟩))
    (fun os started H enc _ F => by rw [OpenClaim.pre_eq_preRow]; exact requests_lifted os started H enc F)

theorem requests_plain (f : FuncId) (fn : Func) (hf : Tryd.pinned.checked.prog.funcNamed "muniment/munimentlaw19.WireRequests" = some f) (hfn : Tryd.pinned.checked.prog.funcs[f]? = some fn) :
    true = Tryd.pinned.checked.prog.looks [] ∧ ∀ (j : Nat) t, fn.params[j]? = some t → Tryd.pinned.checked.prog.wantsStandIn t = false := by
  obtain rfl : f = 7 := Option.some.inj ((show Tryd.prog.funcNamed "muniment/munimentlaw19.WireRequests" = some 7 by kernel_rfl).symm.trans hf) |>.symm
  obtain rfl : fn = Tryd.f7 := (Option.some.inj (Tryd.func7.symm.trans hfn)).symm
  refine ⟨by kernel_rfl, fun j t ht => ?_⟩
  rw [Tryd.params7] at ht
  have hm := Array.mem_of_getElem? ht
  have : t = 49 ∨ t = 26 := by simpa using hm
  rcases this with rfl | rfl
  · exact (show Tryd.prog.wantsStandIn 49 = false by kernel_rfl)
  · exact (show Tryd.prog.wantsStandIn 26 = false by kernel_rfl)

/-- The tied card of WireRequests. -/
theorem requests_card : Rows.WireRequestsUptoCardSaid :=
  Claim7.holds_tied_plain_at .later [] _ _ _ _ requests_said (fun _ h => by cases h) (by kernel_rfl) (fun _ h => by cases h) wireRequestsUpto_row_tie rfl ⟨rfl, rfl⟩ (by kernel_rfl) rfl requests_plain (by kernel_rfl)
end Go.Proofs.YtojpeiihkjpeoaaDoor
