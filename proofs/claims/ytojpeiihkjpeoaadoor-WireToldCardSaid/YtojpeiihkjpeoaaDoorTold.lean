/- Walk: WireTold. Written by wip/tools/gen_told.py. -/
import Derived.Test.YtojpeiihkjpeoaaDoorAsks
import Derived.Test.YtojpeiihkjpeoaaDoorWirePl
import Derived.Test.YtojpeiihkjpeoaaDoorWAwake
set_option linter.unusedVariables false
set_option linter.unusedSimpArgs false
namespace Go.Proofs.YtojpeiihkjpeoaaDoor
open Go.RowKit Go.Deep Go.WideShapes

section
variable {P : Program} {ops : Array Oper} {rest : List Oper} {a : Act} {w : World} {Q : Exit → Act → World → Prop}
/-- The next operation is a guarded whole load. -/
theorem at_load_g (ty : TypeId) {d : Option Tmp} {x : Operand} {t : TypeId} {p : String} {af : Array Edge} {i : Nat} {bb : Bool} (h : wpList P ops Q (⟨d, .load ty x, t, p, af, some (i, bb)⟩ :: rest) a w) : wpList P ops Q (⟨d, .load ty x, t, p, af, some (i, bb)⟩ :: rest) a w := h
theorem load_blk_g {ty t : TypeId} {x : Operand} {d : Option Tmp} {p : String} {af : Array Edge} {g n i : Nat} {bb : Bool} {cells : Array Value} {td : TypeDesc} (hw : Region.wanted ⟨d, .load ty x, t, p, af, some (i, bb)⟩ (yielded ops a.tmps) = true) (hu : P.underlying ty = some td) (hd : (match td with | .struct _ | .array _ _ => true | _ => false) = true) (hx : a.eval x = .pointer (some ⟨g, 0, none⟩)) (hB : Blk w g ty cells) (hi : (P.info? ty).map (·.size) = some n)
    (hn : cells.size = n) (h : wpList P ops Q rest (a.put d (.agg cells)) w) : wpList P ops Q (⟨d, .load ty x, t, p, af, some (i, bb)⟩ :: rest) a w := by
  show if _ then _ ∨ _ else _
  rw [if_pos hw]
  exact .inl (wp_load_row ty x rfl g hx ty cells (0, 0) td hB hu hd (by rw [hn]; exact hi) h)
/-- A move. -/
theorem step_move (ty : TypeId) {k i : Tmp} {t : TypeId} {p : String} {af : Array Edge} {d2 : Option Tmp} {x2 : Operand} {t2 : TypeId} {p2 : String} {af2 : Array Edge} {i2 : Nat} {b2 : Bool} (h : wpList P ops Q (⟨d2, .load ty x2, t2, p2, af2, some (i2, b2)⟩ :: rest) (a.put (some k) (a.eval (.tmp i))) w) : wpList P ops Q (⟨some k, .move (.tmp i), t, p, af, none⟩ :: ⟨d2, .load ty x2, t2, p2, af2, some (i2, b2)⟩ :: rest) a w := by
  show if _ then _ ∨ _ else _
  rw [if_pos (by simp [Region.wanted])]
  exact .inl h
end

theorem InL.fits {w : World} {A : Option Addr} {cap : Nat} {vs : List V} (h : InL w A cap vs) : ∀ v ∈ vs, v.fit := fun v hv => by
  obtain ⟨i, hi, rfl⟩ := List.mem_iff_getElem.1 hv
  obtain ⟨bk, o, x, _, _, _, _, _, _, _, hx⟩ := In.elemL h i hi
  exact IsV.fit _ x hx
theorem mem_sum_le {v : V} : ∀ (l : List V), v ∈ l → v.count ≤ (l.map V.count).sum
  | x :: l, h => by
    simp only [List.map_cons, List.sum_cons]
    rcases List.mem_cons.1 h with rfl | h
    · omega
    · have := mem_sum_le l h; omega

set_option maxRecDepth 100000 in
set_option maxHeartbeats 3200000 in
theorem told_any (r : Rp) (A : Option Addr) (cap : Nat) (q : Rq) (ck cl ch cx : Cv) (b : List UInt8) (B : Option Addr) (bc : Nat) (w : World) (hT : Tabs w) (hin : InL w A cap r.docs) (he : -9223372036854775808 ≤ r.e ∧ r.e ≤ 9223372036854775807) (hn : -9223372036854775808 ≤ r.n ∧ r.n ≤ 9223372036854775807) (hk : -9223372036854775808 ≤ r.cursor ∧ r.cursor ≤ 9223372036854775807)
    (h1 : In w q.key ck) (h2 : In w q.low cl) (h3 : In w q.high ch) (h4 : In w q.doc cx)
    (hd : -9223372036854775808 ≤ q.do_ ∧ q.do_ ≤ 9223372036854775807) (hqn : -9223372036854775808 ≤ q.n ∧ q.n ≤ 9223372036854775807) (hs1 : q.coll.size ≤ 140737488355328) (hs2 : q.index.size ≤ 140737488355328) (hs3 : q.path.size ≤ 140737488355328)
    (hb : InB w B b) (hl : b.length ≤ 140737488351232) (hcap : b.length ≤ bc) :
    Calls Tryd.prog 6 #[.agg (rpCells r.e r.n A r.docs.length cap r.cursor), .agg (rqCells q.do_ q.coll q.index q.path q.unique ck cl ch cx q.n), .slice B b.length bc] w fun e w' => e = .returned (.bool true) ∧ Grow w w' := by
  obtain ⟨E, hE⟩ : ∃ d, r.e = d := ⟨_, rfl⟩
  obtain ⟨M, hM⟩ : ∃ d, r.n = d := ⟨_, rfl⟩
  obtain ⟨K, hK⟩ : ∃ d, r.cursor = d := ⟨_, rfl⟩
  obtain ⟨l, hl0⟩ : ∃ d, r.docs.length = d := ⟨_, rfl⟩
  obtain ⟨d, hd0⟩ : ∃ d, q.do_ = d := ⟨_, rfl⟩
  obtain ⟨N, hN⟩ : ∃ d, q.n = d := ⟨_, rfl⟩
  obtain ⟨tc, htc⟩ : ∃ d, q.coll = d := ⟨_, rfl⟩
  obtain ⟨ti, hti⟩ : ∃ d, q.index = d := ⟨_, rfl⟩
  obtain ⟨tp, htp⟩ : ∃ d, q.path = d := ⟨_, rfl⟩
  obtain ⟨ub, hub⟩ : ∃ d, q.unique = d := ⟨_, rfl⟩
  have HPR := hide (fun (w : World) (hT : Tabs w) (hin : InL w A cap r.docs) (hcount : ∀ v ∈ r.docs, v.count ≤ 20000) => putRp_any r A cap w hT hin hcount he hn hk)
  have HPQ := hide (fun (w : World) (hT : Tabs w) (h1 : In w q.key ck) (h2 : In w q.low cl) (h3 : In w q.high ch) (h4 : In w q.doc cx) (hcount : ∀ v ∈ q.vals, v.count ≤ 20000) => putRq_any q ck cl ch cx w hT h1 h2 h3 h4 hcount hd hqn hs1 hs2 hs3)
  have HVA := hide (fun (w : World) (hin : InL w A cap r.docs) => vast_any r.docs A cap w hin)
  have HVQ := hide (fun (g : Nat) (T0 : TypeId) (w : World) (hB : Blk w g T0 (rqCells q.do_ q.coll q.index q.path q.unique ck cl ch cx q.n)) (h1 : In w q.key ck) (h2 : In w q.low cl) (h3 : In w q.high ch) (h4 : In w q.doc cx) => vastAsks_any q ck cl ch cx g T0 w hB h1 h2 h3 h4)
  rw [hE, hM, hK, hl0] at HPR
  rw [hl0] at HVA
  rw [hd0, hN, htc, hti, htp, hub] at HPQ HVQ
  rw [hE, hM, hK, hl0, hd0, hN, htc, hti, htp, hub]
  rw [hd0] at hd
  rw [hN] at hqn
  rw [htc] at hs1
  rw [hti] at hs2
  rw [htp] at hs3
  have HEQ := hide (show r.e = E ∧ r.n = M ∧ r.cursor = K ∧ r.docs.length = l ∧ q.coll = tc ∧ q.index = ti ∧ q.path = tp from ⟨hE, hM, hK, hl0, htc, hti, htp⟩)
  have HIN := hide hin
  have HT := hide hT
  have HB := hide hb
  have H1 := hide h1
  have H2 := hide h2
  have H3 := hide h3
  have H4 := hide h4
  have HG0 := hide (((Grow.refl w).alloc (.cells (rpCells E M A l cap K) 25)).alloc (.cells (rqCells d tc ti tp ub ck cl ch cx N) 49))
  have HBP0 := hide ((Blk.new w 25 (rpCells E M A l cap K)).grow ((Grow.refl _).alloc (.cells (rqCells d tc ti tp ub ck cl ch cx N) 49)))
  have HBQ0 := hide (show Blk ((w.alloc (.cells (rpCells E M A l cap K) 25)).alloc (.cells (rqCells d tc ti tp ub ck cl ch cx N) 49)) (w.heap.size + 1) 49 (rqCells d tc ti tp ub ck cl ch cx N) from Blk.new' (by simp) _ _)
  clear hE hM hK hl0 hd0 hN htc hti htp hub hin hT hb h1 h2 h3 h4 he hn hk
  go_enter Tryd.func6, Tryd.ntmps6
  go_wp2_with fail
  refine (wawake_any _ (HT.out.grow HG0.out)).mono ?_
  rintro e w1 ⟨rfl, hg1⟩
  have HG1 := hide (HG0.out.trans hg1)
  have HBP1 := hide (HBP0.out.grow hg1)
  have HBQ1 := hide (HBQ0.out.grow hg1)
  have hcp := HBP1.out.cell
  clear hg1 HG0 HBP0 HBQ0
  go_wp2_with fail
  refine (HVA.out _ (HIN.out.grow HG1.out)).mono ?_
  rintro e w2 ⟨rfl, hg2⟩
  have HG2 := hide (HG1.out.trans hg2)
  have HBP2 := hide (HBP1.out.grow hg2)
  have HBQ2 := hide (HBQ1.out.grow hg2)
  clear hg2 HG1 HBP1 HBQ1 hcp
  by_cases hv1 : 20000 ≤ (r.docs.map V.count).sum
  · rw [decide_eq_true hv1]
    go_wp2_with fail
    go_ret
    exact ⟨rfl, HG2.out⟩
  rw [decide_eq_false hv1]
  go_wp2_with (with_reducible refine at_load_g 49 ?_; refine load_blk_g (g := w.heap.size + 1) (n := 26) (cells := rqCells d tc ti tp ub ck cl ch cx N) ?_ Tryd.underlying49 rfl rfl HBQ2.out info_rQ rfl ?_)
  refine (HVQ.out w2.heap.size _ _ (Blk.new w2 _ _) (H1.out.grow (HG2.out.trans ((Grow.refl w2).alloc _))) (H2.out.grow (HG2.out.trans ((Grow.refl w2).alloc _))) (H3.out.grow (HG2.out.trans ((Grow.refl w2).alloc _))) (H4.out.grow (HG2.out.trans ((Grow.refl w2).alloc _)))).mono ?_
  rintro e w3 ⟨rfl, hg3⟩
  have HG3 := hide ((HG2.out.trans ((Grow.refl w2).alloc _)).trans hg3)
  have HBP3 := hide ((HBP2.out.grow ((Grow.refl w2).alloc _)).grow hg3)
  have HBQ3 := hide ((HBQ2.out.grow ((Grow.refl w2).alloc _)).grow hg3)
  clear hg3 HG2 HBP2 HBQ2
  by_cases hv2 : 20000 ≤ (q.vals.map V.count).sum
  · rw [decide_eq_true hv2]
    go_wp2_with fail
    go_ret
    exact ⟨rfl, HG3.out⟩
  rw [decide_eq_false hv2]
  have HC1 := hide (fun (v : V) (hv : v ∈ r.docs) => (show v.count ≤ 20000 from by have := mem_sum_le r.docs hv; omega))
  have HC2 := hide (fun (v : V) (hv : v ∈ q.vals) => (show v.count ≤ 20000 from by have := mem_sum_le q.vals hv; omega))
  clear hv1 hv2
  have hcp := HBP3.out.cell
  go_wp2_with fail
  refine (HPR.out w3 (HT.out.grow HG3.out) (HIN.out.grow HG3.out) HC1.out).mono ?_
  rintro e w4 ⟨base, PA, pc, rfl, hb0, hb1, hrow, hg4⟩
  have HG4 := hide (HG3.out.trans hg4)
  have HBP4 := hide (HBP3.out.grow hg4)
  have HBQ4 := hide (HBQ3.out.grow hg4)
  clear hg4 HG3 HBP3 HBQ3 hcp
  obtain ⟨pb, pe, hput⟩ : ∃ pb pe, r.put = (pb, pe) := ⟨_, _, rfl⟩
  rw [hput] at hrow ⊢
  dsimp only at hrow ⊢
  have HROW4 := hide hrow
  clear hrow
  by_cases hpe : pe = 0
  · subst hpe
    have hpb := fun t => Rp.put_back (InL.fits HIN.out) hput t
    have hpl := (hpb []).2
    have HPB := hide hpb
    clear hpb hput
    have HMADE := hide (Row.made (w := w4) #[] 0 (by simp [maxLen]) rfl)
    have hal4 := (Grow.refl w4).alloc (.cells #[] 5)
    have HPI := hide (HROW4.out.reads.1.grow hal4)
    have HG5 := hide (HG4.out.trans hal4)
    have HB5 := hide (HB.out.grow (HG4.out.trans hal4))
    clear hal4
    go_wp2_with (first
      | (at_builtin; refine app_src (ys := pb) rfl (.tmp 36) (.tmp 37) _ rfl rfl HMADE.out _ rfl (Src.ofReads (c := pc) under_u8s HPI.out (u8s_one pb)) (by omega) (by simp) ?_; intro A5 c5 w5 hr5 hg5; rw [Nat.zero_add, List.nil_append] at hr5; have HG6 := hide (show Grow w4 w5 from Below.trans ((Grow.refl w4).alloc (.cells #[] 5)) (Grew.below hg5 HMADE.out (by simp))); have hz5 : w4.heap.size ≤ w5.heap.size := HG6.out.size; have HB6 := hide (HB.out.grow (HG4.out.trans HG6.out)); have HR5 := hide hr5; clear hr5 hg5)
      | (at_builtin; refine app_src (ys := b) rfl (.tmp 38) (.tmp 39) _ rfl rfl HR5.out _ rfl (Src.ofReads (c := bc) under_u8s HB6.out (u8s_one b)) (by omega) hz5 ?_; intro A7 c7 w7 hr7 hg7; have HG7 := hide (show Grow w4 w7 from Below.trans HG6.out (Grew.below hg7 HR5.out hz5)); have HR7 := hide hr7; clear hr7 hg7))
    have hG := getP_any (pb ++ b) A7 c7 w7 (HT.out.grow (HG4.out.trans HG7.out)) HR7.out.reads.1 (by rw [List.length_append]; omega) (by have := HR7.out.cap; rw [List.length_append]; exact this)
    rw [(HPB.out b).1, List.length_append] at hG
    have HGET := hide hG
    have HG8 := hide (HG4.out.trans HG7.out)
    have HBP8 := hide (HBP4.out.grow HG7.out)
    have HBQ8 := hide (HBQ4.out.grow HG7.out)
    clear hG HG4 HB5 HG5 HB6 HG6 HMADE HPI HROW4 HR5 HR7 HG7 HBP4 HBQ4
    refine HGET.out.mono ?_
    rintro e w9 ⟨u, rfl, hret, hg9⟩
    have HRI := hide hret.in_
    obtain ⟨A9, c9, hu, _⟩ := hret
    obtain ⟨eE, eM, eK, eL, _, _, _⟩ := HEQ.out
    rw [eE, eM, eK, eL] at hu
    subst hu
    have HG9 := hide (HG8.out.trans hg9)
    have hal := (Grow.refl w9).alloc (.cells (rpCells E M A9 l c9 K) 25)
    have HAL := hide hal
    have HBP9 := hide ((HBP8.out.grow hg9).grow hal)
    have HBQ9 := hide ((HBQ8.out.grow hg9).grow hal)
    have HS := hide (reply_same r _ (.agg (rpCells E M A l cap K)) _ (HRI.out.grow hal) ⟨A, cap, by rw [eE, eM, eK, eL], HIN.out.grow (HG9.out.trans hal)⟩)
    have hcp := HBP9.out.cell
    clear hg9 hal eE eM eK eL HG8 HBP8 HBQ8
    go_wp2_with fail
    refine HS.out.mono ?_
    rintro e w10 ⟨rfl, hg10⟩
    have HG10 := hide ((HG9.out.trans HAL.out).trans hg10)
    have HBQ10 := hide (HBQ9.out.grow hg10)
    clear hg10 hcp HG9 HBQ9 HBP9
    -- the request
    have hcq := HBQ10.out.cell
    go_wp2_with (with_reducible refine at_load 49 ?_; refine load_blk (g := w.heap.size + 1) (n := 26) (cells := rqCells d tc ti tp ub ck cl ch cx N) Tryd.underlying49 rfl rfl HBQ10.out info_rQ rfl ?_)
    refine (HPQ.out w10 (HT.out.grow HG10.out) (H1.out.grow HG10.out) (H2.out.grow HG10.out) (H3.out.grow HG10.out) (H4.out.grow HG10.out) HC2.out).mono ?_
    rintro e w11 ⟨base11, QA, qc, rfl, hb11, hb11', hrow11, hg11⟩
    have HG11 := hide (HG10.out.trans hg11)
    have HBQ11 := hide (HBQ10.out.grow hg11)
    clear hg11 hcq
    obtain ⟨qb, qe, hqput⟩ : ∃ qb qe, q.put = (qb, qe) := ⟨_, _, rfl⟩
    rw [hqput] at hrow11 ⊢
    dsimp only at hrow11 ⊢
    clear hrow11 hb11 hb11'
    by_cases hqe : qe = 0
    · subst hqe
      obtain ⟨hql, hqg, hq1, hq2, hq3, hqm⟩ := Rq.put_told hqput
      obtain ⟨_, _, _, _, ec, ei, ep⟩ := HEQ.out
      rw [ec, ei, ep] at hql
      rw [ec] at hq1
      rw [ei] at hq2
      rw [ep] at hq3
      have HQL := hide hql
      have HQG := hide hqg
      clear hql hqg ec ei ep hqput
      have hcq := HBQ11.out.cell
      go_wp2_with (first
        | (with_reducible refine at_load (x := .tmp 82) 47 ?_; refine load_val (g := w.heap.size + 1) (o := 5) (c := ck) Tryd.underlying47 rfl rfl HBQ11.out info_val (rq_key _ _ _ _ _ _ _ _ _ _) ?_)
        | (with_reducible refine at_load (x := .tmp 84) 47 ?_; refine load_val (g := w.heap.size + 1) (o := 10) (c := cl) Tryd.underlying47 rfl rfl HBQ11.out info_val (rq_low _ _ _ _ _ _ _ _ _ _) ?_)
        | (with_reducible refine at_load (x := .tmp 86) 47 ?_; refine load_val (g := w.heap.size + 1) (o := 15) (c := ch) Tryd.underlying47 rfl rfl HBQ11.out info_val (rq_high _ _ _ _ _ _ _ _ _ _) ?_)
        | (with_reducible refine at_load (x := .tmp 88) 47 ?_; refine load_val (g := w.heap.size + 1) (o := 20) (c := cx) Tryd.underlying47 rfl rfl HBQ11.out info_val (rq_doc _ _ _ _ _ _ _ _ _ _) ?_))
      have HL12 := hide (quad_at (show Blk (w11.alloc (.cells (quad ck cl ch cx) 47)) w11.heap.size 47 (quad ck cl ch cx) from Blk.new' rfl _ _) (H1.out.grow (HG11.out.trans ((Grow.refl w11).alloc _))) (H2.out.grow (HG11.out.trans ((Grow.refl w11).alloc _))) (H3.out.grow (HG11.out.trans ((Grow.refl w11).alloc _))) (H4.out.grow (HG11.out.trans ((Grow.refl w11).alloc _))))
      have HG12 := hide (HG11.out.trans ((Grow.refl w11).alloc (.cells (quad ck cl ch cx) 47)))
      generalize hW12 : w11.alloc (.cells _ 47) = w12 at HL12 HG12 ⊢
      generalize hg12 : w11.heap.size = g12 at HL12 ⊢
      clear hW12 hg12 hcq HBQ11 HG11
      go_loopg [13, 15] 5 (fun gk s i wr => ∃ (j S : Nat), j ≤ 4 ∧ gk + j = 5 ∧ i = .int .i64 j ∧ s = .int .i64 S ∧ S = 17 + tc.size + ti.size + tp.size + ((q.vals.take j).map maySize).sum ∧ S ≤ 617 + 4100 * j ∧ Grow w12 wr)
      case atStart => exact ⟨0, 17 + tc.size + ti.size + tp.size, by omega, by omega, rfl, congrArg (Value.int .i64) (by omega), rfl, by omega, Grow.refl _⟩
      case round =>
        obtain ⟨j, S, hj, hg, rfl, rfl, hS, hSl, hw⟩ := hrel
        have HSS := hide hS
        have HW := hide hw
        clear hS
        by_cases hlt : j < 4
        · obtain ⟨gk', rfl⟩ : ∃ g, gk = g + 1 := ⟨gk - 1, by omega⟩
          have hlt' : j < q.vals.length := hlt
          obtain ⟨v, hv⟩ : ∃ v, q.vals[j] = v := ⟨_, rfl⟩
          obtain ⟨bk, o, x, ha, hbk, e0, e1, e2, e3, e4, hx⟩ := In.elemL (HL12.out.grow hw) j hlt'
          obtain ⟨rfl, rfl⟩ : g12 = bk ∧ 0 = o := by simpa using ha
          simp only [Nat.zero_add] at e0 e1 e2 e3 e4
          replace hx : In wr v x := by rw [← hv]; exact hx
          have hs := sum_take maySize q.vals j hlt'
          rw [hv] at hs
          have HS := hide hs
          have hgd := HQG.out v (by rw [← hv]; exact List.getElem_mem hlt')
          have HGD := hide hgd
          have hcn := HC2.out v (by rw [← hv]; exact List.getElem_mem hlt')
          have HK := hide (in_kind hx)
          have HX := hide hx
          clear hw hx hs ha hbk hv hlt' hgd
          by_cases k0 : x.k = 0
          · have hk0 : (x.k != 0) = false := by simpa using k0
            have HM := hide (show maySize v = 1 by unfold maySize; rw [if_pos (by rw [← HK.out]; exact k0)])
            clear k0
            go_wp2_with fail
            go_roundg gk'
            case measure => omega
            case rel =>
              have h1 := HSS.out
              have h2 := HS.out
              have h3 := HM.out
              exact ⟨j + 1, S + 1, by omega, by omega, by go_num, by go_num, by rw [h2]; omega, by omega, HW.out⟩
          · have hk0 : (x.k != 0) = true := by simpa using k0
            have hgv : v.good = 0 := by have := HGD.out; unfold mayGood at this; rwa [if_neg (by rw [← HK.out]; exact k0)] at this
            have hbl := (V.good_formed hgv).2
            have HM := hide (show maySize v = 3 + v.bytes.length by unfold maySize; rw [if_neg (by rw [← HK.out]; exact k0)])
            have HP := hide (put_good v wr x hcn (HT.out.grow (HG12.out.trans HW.out)) HX.out hgv)
            clear k0 hgv
            go_wp2_with fail
            refine HP.out.mono ?_
            rintro ee w13 ⟨base13, A13, c13, rfl, hb13, hrow13, hg13⟩
            have HG13 := hide (HW.out.trans hg13)
            clear hrow13 hg13 hb13
            go_wp2_with fail
            go_roundg gk'
            case measure => omega
            case rel =>
              have h1 := HSS.out
              have h2 := HS.out
              have h3 := HM.out
              exact ⟨j + 1, S + 3 + v.bytes.length, by omega, by omega, by go_num, congrArg (Value.int .i64) (by push_cast; omega), by rw [h2]; omega, by omega, HG13.out⟩
        · obtain rfl : j = 4 := by omega
          have h1 := HSS.out
          rw [show q.vals.take 4 = q.vals from rfl, ← HQL.out] at h1
          subst h1
          clear hw
          go_wp2_with fail
          go_ret
          exact ⟨rfl, HG12.out.trans HW.out⟩
    · have hqe0 : (qe != 0) = true := by simpa using hqe
      have hqb := Rq.put_split hqput hqe
      subst hqb
      go_wp2_with fail
      go_ret
      exact ⟨rfl, HG11.out⟩
  · have hpe0 : (pe == 0) = false := by simpa using hpe
    clear hput hpe
    -- the request
    have hcq := HBQ4.out.cell
    go_wp2_with (with_reducible refine at_load 49 ?_; refine load_blk (g := w.heap.size + 1) (n := 26) (cells := rqCells d tc ti tp ub ck cl ch cx N) Tryd.underlying49 rfl rfl HBQ4.out info_rQ rfl ?_)
    refine (HPQ.out w4 (HT.out.grow HG4.out) (H1.out.grow HG4.out) (H2.out.grow HG4.out) (H3.out.grow HG4.out) (H4.out.grow HG4.out) HC2.out).mono ?_
    rintro e w11 ⟨base11, QA, qc, rfl, hb11, hb11', hrow11, hg11⟩
    have HG11 := hide (HG4.out.trans hg11)
    have HBQ11 := hide (HBQ4.out.grow hg11)
    clear hg11 hcq
    obtain ⟨qb, qe, hqput⟩ : ∃ qb qe, q.put = (qb, qe) := ⟨_, _, rfl⟩
    rw [hqput] at hrow11 ⊢
    dsimp only at hrow11 ⊢
    clear hrow11 hb11 hb11'
    by_cases hqe : qe = 0
    · subst hqe
      obtain ⟨hql, hqg, hq1, hq2, hq3, hqm⟩ := Rq.put_told hqput
      obtain ⟨_, _, _, _, ec, ei, ep⟩ := HEQ.out
      rw [ec, ei, ep] at hql
      rw [ec] at hq1
      rw [ei] at hq2
      rw [ep] at hq3
      have HQL := hide hql
      have HQG := hide hqg
      clear hql hqg ec ei ep hqput
      have hcq := HBQ11.out.cell
      go_wp2_with (first
        | (with_reducible refine at_load (x := .tmp 82) 47 ?_; refine load_val (g := w.heap.size + 1) (o := 5) (c := ck) Tryd.underlying47 rfl rfl HBQ11.out info_val (rq_key _ _ _ _ _ _ _ _ _ _) ?_)
        | (with_reducible refine at_load (x := .tmp 84) 47 ?_; refine load_val (g := w.heap.size + 1) (o := 10) (c := cl) Tryd.underlying47 rfl rfl HBQ11.out info_val (rq_low _ _ _ _ _ _ _ _ _ _) ?_)
        | (with_reducible refine at_load (x := .tmp 86) 47 ?_; refine load_val (g := w.heap.size + 1) (o := 15) (c := ch) Tryd.underlying47 rfl rfl HBQ11.out info_val (rq_high _ _ _ _ _ _ _ _ _ _) ?_)
        | (with_reducible refine at_load (x := .tmp 88) 47 ?_; refine load_val (g := w.heap.size + 1) (o := 20) (c := cx) Tryd.underlying47 rfl rfl HBQ11.out info_val (rq_doc _ _ _ _ _ _ _ _ _ _) ?_))
      have HL12 := hide (quad_at (show Blk (w11.alloc (.cells (quad ck cl ch cx) 47)) w11.heap.size 47 (quad ck cl ch cx) from Blk.new' rfl _ _) (H1.out.grow (HG11.out.trans ((Grow.refl w11).alloc _))) (H2.out.grow (HG11.out.trans ((Grow.refl w11).alloc _))) (H3.out.grow (HG11.out.trans ((Grow.refl w11).alloc _))) (H4.out.grow (HG11.out.trans ((Grow.refl w11).alloc _))))
      have HG12 := hide (HG11.out.trans ((Grow.refl w11).alloc (.cells (quad ck cl ch cx) 47)))
      generalize hW12 : w11.alloc (.cells _ 47) = w12 at HL12 HG12 ⊢
      generalize hg12 : w11.heap.size = g12 at HL12 ⊢
      clear hW12 hg12 hcq HBQ11 HG11
      go_loopg [13, 15] 5 (fun gk s i wr => ∃ (j S : Nat), j ≤ 4 ∧ gk + j = 5 ∧ i = .int .i64 j ∧ s = .int .i64 S ∧ S = 17 + tc.size + ti.size + tp.size + ((q.vals.take j).map maySize).sum ∧ S ≤ 617 + 4100 * j ∧ Grow w12 wr)
      case atStart => exact ⟨0, 17 + tc.size + ti.size + tp.size, by omega, by omega, rfl, congrArg (Value.int .i64) (by omega), rfl, by omega, Grow.refl _⟩
      case round =>
        obtain ⟨j, S, hj, hg, rfl, rfl, hS, hSl, hw⟩ := hrel
        have HSS := hide hS
        have HW := hide hw
        clear hS
        by_cases hlt : j < 4
        · obtain ⟨gk', rfl⟩ : ∃ g, gk = g + 1 := ⟨gk - 1, by omega⟩
          have hlt' : j < q.vals.length := hlt
          obtain ⟨v, hv⟩ : ∃ v, q.vals[j] = v := ⟨_, rfl⟩
          obtain ⟨bk, o, x, ha, hbk, e0, e1, e2, e3, e4, hx⟩ := In.elemL (HL12.out.grow hw) j hlt'
          obtain ⟨rfl, rfl⟩ : g12 = bk ∧ 0 = o := by simpa using ha
          simp only [Nat.zero_add] at e0 e1 e2 e3 e4
          replace hx : In wr v x := by rw [← hv]; exact hx
          have hs := sum_take maySize q.vals j hlt'
          rw [hv] at hs
          have HS := hide hs
          have hgd := HQG.out v (by rw [← hv]; exact List.getElem_mem hlt')
          have HGD := hide hgd
          have hcn := HC2.out v (by rw [← hv]; exact List.getElem_mem hlt')
          have HK := hide (in_kind hx)
          have HX := hide hx
          clear hw hx hs ha hbk hv hlt' hgd
          by_cases k0 : x.k = 0
          · have hk0 : (x.k != 0) = false := by simpa using k0
            have HM := hide (show maySize v = 1 by unfold maySize; rw [if_pos (by rw [← HK.out]; exact k0)])
            clear k0
            go_wp2_with fail
            go_roundg gk'
            case measure => omega
            case rel =>
              have h1 := HSS.out
              have h2 := HS.out
              have h3 := HM.out
              exact ⟨j + 1, S + 1, by omega, by omega, by go_num, by go_num, by rw [h2]; omega, by omega, HW.out⟩
          · have hk0 : (x.k != 0) = true := by simpa using k0
            have hgv : v.good = 0 := by have := HGD.out; unfold mayGood at this; rwa [if_neg (by rw [← HK.out]; exact k0)] at this
            have hbl := (V.good_formed hgv).2
            have HM := hide (show maySize v = 3 + v.bytes.length by unfold maySize; rw [if_neg (by rw [← HK.out]; exact k0)])
            have HP := hide (put_good v wr x hcn (HT.out.grow (HG12.out.trans HW.out)) HX.out hgv)
            clear k0 hgv
            go_wp2_with fail
            refine HP.out.mono ?_
            rintro ee w13 ⟨base13, A13, c13, rfl, hb13, hrow13, hg13⟩
            have HG13 := hide (HW.out.trans hg13)
            clear hrow13 hg13 hb13
            go_wp2_with fail
            go_roundg gk'
            case measure => omega
            case rel =>
              have h1 := HSS.out
              have h2 := HS.out
              have h3 := HM.out
              exact ⟨j + 1, S + 3 + v.bytes.length, by omega, by omega, by go_num, congrArg (Value.int .i64) (by push_cast; omega), by rw [h2]; omega, by omega, HG13.out⟩
        · obtain rfl : j = 4 := by omega
          have h1 := HSS.out
          rw [show q.vals.take 4 = q.vals from rfl, ← HQL.out] at h1
          subst h1
          clear hw
          go_wp2_with fail
          go_ret
          exact ⟨rfl, HG12.out.trans HW.out⟩
    · have hqe0 : (qe != 0) = true := by simpa using hqe
      have hqb := Rq.put_split hqput hqe
      subst hqb
      go_wp2_with fail
      go_ret
      exact ⟨rfl, HG11.out⟩
end Go.Proofs.YtojpeiihkjpeoaaDoor
