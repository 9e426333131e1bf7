/- Walk: WireKept. -/
import Derived.Test.YthjjmndjfoebgaaDoorRefPQ
import Derived.Test.YthjjmndjfoebgaaDoorRefGQ
import Derived.Test.YthjjmndjfoebgaaDoorKept
set_option linter.unusedVariables false
set_option linter.unusedSimpArgs false
namespace Go.Proofs.YthjjmndjfoebgaaDoor
open Go.RowKit Go.Deep Go.WideShapes

section
variable {P : Program} {ops : Array Oper} {rest : List Oper} {a : Act} {w : World} {Q : Exit → Act → World → Prop}
theorem load_blk_gr {ty t : TypeId} {x : Operand} {d : Option Tmp} {p : String} {af : Array Edge} {g n i : Nat} {bb : Bool} {cells : Array Value} {td : TypeDesc} (hw : Region.wanted ⟨d, .load ty x, t, p, af, some (i, bb)⟩ (yielded ops a.tmps) = true) (hu : P.underlying ty = some td) (hd : (match td with | .struct _ | .array _ _ => true | _ => false) = true) (hx : a.eval x = .pointer (some ⟨g, 0, none⟩)) (hB : Blk w g ty cells) (hi : (P.info? ty).map (·.size) = some n)
    (hn : cells.size = n) (h : wpList P ops Q rest (a.put d (.agg cells)) w) : wpList P ops Q (⟨d, .load ty x, t, p, af, some (i, bb)⟩ :: rest) a w := by
  show if _ then _ ∨ _ else _
  rw [if_pos hw]
  exact .inl (wp_load_row ty x rfl g hx ty cells (0, 0) td hB hu hd (by rw [hn]; exact hi) h)
end
theorem mem_sum_le1 {v : V} : ∀ (l : List V), v ∈ l → v.count ≤ (l.map V.count).sum
  | x :: l, h => by
    simp only [List.map_cons, List.sum_cons]
    rcases List.mem_cons.1 h with rfl | h
    · omega
    · have := mem_sum_le1 l h; omega
theorem RqIn.cells {w : World} {q : Rq} {u : Value} (h : RqIn w q u) : ∃ cs, u = .agg cs ∧ cs.size = 26 ∧ cs.all (·.oneCell') = true := by
  obtain ⟨ck, cl, ch, cx, rfl, _⟩ := h
  exact ⟨_, rfl, rfl, by simp [Value.oneCell']⟩
theorem RetRq.in_ {w0 w : World} {q : Rq} {u : Value} (h : RetRq w0 q u w) : RqIn w q u := by
  obtain ⟨ck, cl, ch, cx, rfl, h1, h2, h3, h4⟩ := h
  exact ⟨ck, cl, ch, cx, rfl, h1.in_, h2.in_, h3.in_, h4.in_⟩


/-- The row's bytes may be written. -/
theorem Row.cellsF {w : World} {base m c : Nat} {A : Option Addr} {xs : List UInt8} (h : Row w base (.slice A m c) m xs) (hm : 0 < m) : ∃ bk o, A = some ⟨bk, o, none⟩ ∧ base ≤ bk ∧ bk < w.heap.size ∧ ∀ t, t < m → ∃ u, CF w ⟨bk, o + t, none⟩ u := by
  obtain ⟨g, cap', hv, hb, hlt⟩ := World.ownsRow.form h hm
  have hA : A = some ⟨g, 0, none⟩ := by injection hv
  subst hA
  have hx := h.reads.2
  refine ⟨g, 0, rfl, hb, hlt, fun t ht => ⟨.int .u8 ((xs[t]'(by omega)).toNat : Int), ?_, World.ownsRow.frozenAt h _⟩⟩
  · have := World.ownsRow.cells h (g := g) rfl t _ (u8s_get xs t (by omega))
    rw [add_lit] at this
    exact this
theorem Row.keptS {S : Nat → Prop} {w w' : World} {base m : Nat} {v : Value} {xs : List UInt8} (h : Row w base v m xs) (hk : Kept S w w') (hs : ∀ q, base ≤ q → ¬ S q) : Row w' base v m xs := by
  rcases h.2 with h0 | ⟨g, cap, cur, rfl, hb, hg, hr⟩
  · exact ⟨h.1, .inl h0⟩
  · exact ⟨h.1, .inr ⟨g, cap, cur, rfl, hb, Kept.blk (S := S) (t := 5) (cs := cur) hk hg (hs g hb), hr⟩⟩
/-- The cells of n rows of z cells each that may be written: the first of each, from j on. -/
def Cells (w : World) (lo hi : Nat) (A : Option Addr) (z n : Nat) : Prop := ∀ t, t < n → ∃ bk o, A = some ⟨bk, o, none⟩ ∧ lo ≤ bk ∧ bk < hi ∧ ∃ u, CF w ⟨bk, o + t * z, none⟩ u
theorem Cells.set {w : World} {lo hi : Nat} {A : Option Addr} {z n : Nat} (h : Cells w lo hi A z n) (p : Addr) (v : Value) : Cells (w.setCell p v) lo hi A z n := by
  intro t ht
  obtain ⟨bk, o, e, h1, h2, u, hu⟩ := h t ht
  obtain ⟨v', hv'⟩ := cell?_setCell_some (w := w) (p := p) (x := v) (q := ⟨bk, o + t * z, none⟩) hu.1
  exact ⟨bk, o, e, h1, h2, v', hv', (frozen_setCell w p v _).trans hu.2⟩
theorem Cells.grow {w w' : World} {lo hi : Nat} {A : Option Addr} {z n : Nat} (h : Cells w lo hi A z n) (hg : Grow w w') : Cells w' lo hi A z n := by
  intro t ht
  obtain ⟨bk, o, e, h1, h2, u, hu⟩ := h t ht
  exact ⟨bk, o, e, h1, h2, u, hu.block (hg.below.block _ hu.lt)⟩
/-- The fields of a value that lies in memory of its own may be written. -/
theorem InS.cellsF {w : World} {lo hi : Nat} {v : V} {c : Cv} (h : InS w lo hi v c) : c.nF = v.f.length ∧ c.nF ≤ 140737488355328 ∧ c.nF ≤ c.cF ∧ Cells w lo hi c.aF 6 c.nF := by
  obtain ⟨k, n, b, l, f⟩ := v
  have h2 := h.2
  rw [IsS] at h2
  obtain ⟨e1, e2, e3, e4, e5, h1, h2, h3, h4, h5, h6, h7, h8, h9, hb, _, ⟨T, hF, hFd⟩⟩ := h2
  refine ⟨e5, by rw [e5]; exact h9, by rw [e5]; exact h8, fun t ht => ?_⟩
  rw [e5] at ht
  obtain ⟨bk, o, x, ha, hs, _, _, ks, _⟩ := hF t ht
  exact ⟨bk, o, ha, hs.1, hs.2, _, ks⟩
theorem InS.cellsB {w : World} {lo hi : Nat} {v : V} {c : Cv} (h : InS w lo hi v c) : c.nB = v.b.length ∧ c.nB ≤ 140737488355328 ∧ c.nB ≤ c.cB ∧ Cells w lo hi c.aB 1 c.nB := by
  obtain ⟨k, n, b, l, f⟩ := v
  have h2 := h.2
  rw [IsS] at h2
  obtain ⟨e1, e2, e3, e4, e5, h1, h2, h3, h4, h5, h6, h7, h8, h9, hb, _, _⟩ := h2
  refine ⟨e3, by rw [e3]; exact h5, by rw [e3]; exact h4, fun t ht => ?_⟩
  rw [e3] at ht
  obtain ⟨bk, o, ha, hc⟩ := hb.2 (by omega)
  have := hc t _ (u8s_get b t ht)
  exact ⟨bk, o, ha, this.2.1, this.2.2, _, by rw [Nat.mul_one]; exact this.1⟩

theorem Row.cellsC {w : World} {base m c lo : Nat} {A : Option Addr} {xs : List UInt8} (h : Row w base (.slice A m c) m xs) (hlo : lo ≤ base) : Cells w lo w.heap.size A 1 m := by
  intro t ht
  obtain ⟨bk, o, e, h1, h2, h3⟩ := h.cellsF (by omega)
  obtain ⟨u, hu⟩ := h3 t ht
  exact ⟨bk, o, e, by omega, h2, u, by rw [Nat.mul_one]; exact hu⟩
theorem Kept.grow_ {S : Nat → Prop} {w0 a b : World} (h : Grow w0 a) (k : Kept S a b) (hs : ∀ q, S q → w0.heap.size ≤ q) : Grow w0 b := Below.trans h (k.below h.size hs)
theorem put_len (q : Rq) : q.put.1.length ≤ 12008 := by
  by_cases ha : q.args
  · rw [putRq_args ha]; simp
  · by_cases hb : firstMay q.vals = 0
    · rw [putRq_good ha hb]
      split
      · simp
      · simp only [frameOf_length]; omega
    · rw [putRq_bad ha rfl hb]; simp
theorem RetRq.cellsK {w0 w : World} {q : Rq} {u : Value} (h : RetRq w0 q u w) : ∃ cs, u = .agg cs ∧ cs.size = 26 ∧ cs.all (·.oneCell') = true ∧ ∃ (aB : Option Addr) (nB cB : Nat) (aF : Option Addr) (nF cF : Nat),
    cs[7]? = some (.slice aB nB cB) ∧ cs[24]? = some (.slice aF nF cF) ∧ (nB ≤ 140737488355328 ∧ nB ≤ cB) ∧ (nF ≤ 140737488355328 ∧ nF ≤ cF) ∧ Cells w w0.heap.size w.heap.size aB 1 nB ∧ Cells w w0.heap.size w.heap.size aF 6 nF := by
  obtain ⟨ck, cl, ch, cx, rfl, h1, h2, h3, h4⟩ := h
  obtain ⟨_, b1, b2, b3⟩ := h1.cellsB
  obtain ⟨_, f1, f2, f3⟩ := h4.cellsF
  exact ⟨_, rfl, rfl, by simp [Value.oneCell'], ck.aB, ck.nB, ck.cB, cx.aF, cx.nF, cx.cF, rfl, rfl, ⟨b1, b2⟩, ⟨f1, f2⟩, b3, f3⟩

set_option maxRecDepth 100000 in
set_option maxHeartbeats 12800000 in
theorem wkept_any (q : Rq) (ck cl ch cx : Cv) (b : List UInt8) (B : Option Addr) (bc : Nat) (w : World) (hT : Tabs w) (h1 : In w q.key ck) (h2 : In w q.low cl) (h3 : In w q.high ch) (h4 : In w q.doc cx) (hbytes : ∀ v ∈ q.vals, v.formed = true → v.bytes.length ≤ 140737488355328)
    (hd : -9223372036854775808 ≤ q.do_ ∧ q.do_ ≤ 9223372036854775807) (hqn : -9223372036854775808 ≤ q.n ∧ q.n ≤ 9223372036854775807) (hs1 : q.coll.size ≤ 140737488355328) (hs2 : q.index.size ≤ 140737488355328) (hs3 : q.path.size ≤ 140737488355328)
    (hb : InB w B b) (hl : b.length ≤ 140737488351232) (hcap : b.length ≤ bc) :
    Calls Tryd.prog 3 #[.agg (rqCells q.do_ q.coll q.index q.path q.unique ck cl ch cx q.n), .slice B b.length bc] w fun e w' => e = .returned (.bool true) ∧ Grow w w' := by
  obtain ⟨d, hd0⟩ : ∃ d, q.do_ = d := ⟨_, rfl⟩
  obtain ⟨N, hN⟩ : ∃ d, q.n = d := ⟨_, rfl⟩
  obtain ⟨tc, htc⟩ : ∃ d, q.coll = d := ⟨_, rfl⟩
  obtain ⟨ti, hti⟩ : ∃ d, q.index = d := ⟨_, rfl⟩
  obtain ⟨tp, htp⟩ : ∃ d, q.path = d := ⟨_, rfl⟩
  obtain ⟨ub, hub⟩ : ∃ d, q.unique = d := ⟨_, rfl⟩
  have HPQ := hide (fun (w : World) (hT : Tabs w) (h1 : In w q.key ck) (h2 : In w q.low cl) (h3 : In w q.high ch) (h4 : In w q.doc cx) (hcount : ∀ v ∈ q.vals, v.count ≤ 20000) => putRq_any q ck cl ch cx w hT h1 h2 h3 h4 hcount hd hqn hs1 hs2 hs3)
  have HRQ := hide (fun (w : World) (h1 : In w q.key ck) (h2 : In w q.low cl) (h3 : In w q.high ch) (h4 : In w q.doc cx) (hcount : ∀ v ∈ q.vals, v.count ≤ 20000) => refPutRq_any q ck cl ch cx w h1 h2 h3 h4 hcount hbytes hd hqn hs1 hs2 hs3)
  have HVQ := hide (fun (g : Nat) (T0 : TypeId) (w : World) (hB : Blk w g T0 (rqCells q.do_ q.coll q.index q.path q.unique ck cl ch cx q.n)) (h1 : In w q.key ck) (h2 : In w q.low cl) (h3 : In w q.high ch) (h4 : In w q.doc cx) => vastAsks_any q ck cl ch cx g T0 w hB h1 h2 h3 h4)
  rw [hd0, hN, htc, hti, htp, hub] at HPQ HVQ HRQ
  rw [hd0, hN, htc, hti, htp, hub]
  obtain ⟨pb, pe, hput⟩ : ∃ pb pe, q.put = (pb, pe) := ⟨_, _, rfl⟩
  have hpbl : pb.length ≤ 12008 := by have := put_len q; rwa [hput] at this
  rw [hput] at HPQ HRQ
  have HT := hide hT
  have HB := hide hb
  have H1 := hide h1
  have H2 := hide h2
  have H3 := hide h3
  have H4 := hide h4
  have HG0 := hide ((Grow.refl w).alloc (.cells (rqCells d tc ti tp ub ck cl ch cx N) 29))
  have HBQ0 := hide (Blk.new w 29 (rqCells d tc ti tp ub ck cl ch cx N))
  clear hd0 hN htc hti htp hub hT hb h1 h2 h3 h4 hd hqn hs1 hs2 hs3 hput hbytes
  go_enter Tryd.func3, Tryd.ntmps3
  go_wp2_with fail
  refine (wawake_any _ (HT.out.grow HG0.out)).mono ?_
  rintro e w1 ⟨rfl, hg1⟩
  have HG1 := hide (HG0.out.trans hg1)
  have HBQ1 := hide (HBQ0.out.grow hg1)
  clear hg1 HG0 HBQ0
  go_wp2_with (with_reducible refine at_load 29 ?_; refine load_blk (g := w.heap.size) (n := 26) (cells := (rqCells d tc ti tp ub ck cl ch cx N)) Tryd.underlying29 rfl rfl HBQ1.out info_rQ rfl ?_)
  refine (HVQ.out w1.heap.size _ _ (Blk.new w1 _ _) (H1.out.grow (HG1.out.trans ((Grow.refl w1).alloc _))) (H2.out.grow (HG1.out.trans ((Grow.refl w1).alloc _))) (H3.out.grow (HG1.out.trans ((Grow.refl w1).alloc _))) (H4.out.grow (HG1.out.trans ((Grow.refl w1).alloc _)))).mono ?_
  rintro e w2 ⟨rfl, hg2⟩
  have HG2 := hide ((HG1.out.trans ((Grow.refl w1).alloc _)).trans hg2)
  have HBQ2 := hide ((HBQ1.out.grow ((Grow.refl w1).alloc _)).grow hg2)
  clear hg2 HG1 HBQ1
  by_cases hv2 : 20000 ≤ (q.vals.map V.count).sum
  · rw [decide_eq_true hv2]
    go_wp2_with fail
    go_ret
    exact ⟨rfl, HG2.out⟩
  rw [decide_eq_false hv2]
  have HC2 := hide (fun (v : V) (hv : v ∈ q.vals) => (show v.count ≤ 20000 from by have := mem_sum_le1 q.vals hv; omega))
  clear hv2
  have hrow2 : Row (w2.alloc (.cells #[] 5)) w2.heap.size (.slice (some ⟨w2.heap.size, 0, none⟩) 0 0) 0 [] := Row.made (w := w2) #[] 0 (by simp [maxLen]) rfl
  have HRow2 := hide hrow2
  have HG2' := hide (HG2.out.alloc (.cells #[] 5))
  clear hrow2
  go_wp2_with (first
      | (at_builtin; refine app_src (ys := b) rfl (.tmp 29) (.tmp 30) _ rfl rfl HRow2.out _ rfl (Src.ofReads under_u8s (HB.out.grow HG2'.out) (u8s_one b)) (by omega) (by simp) ?_; intro A5 c5 w5 hr5 hg5; have HG5 := hide (Below.trans ((Grow.refl w2).alloc (.cells #[] 5)) (Grew.below hg5 HRow2.out (by simp))); rw [Nat.zero_add, List.nil_append] at hr5; have HR5 := hide hr5; clear hr5 hg5)
      | (at_builtin; refine app_src (ys := [201]) rfl (.tmp 31) (.tmp 32) _ rfl rfl (HR5.out.alloc _) _ rfl (src_one 201 rfl (Blk.new w5 _ _)) (by simp only [List.length_cons, List.length_nil]; omega) (by have := Grow.size HG5.out; simp at this ⊢; omega) ?_; intro A6 c6 w6 hr6 hg6; have HG6 := hide (Below.trans (Below.alloc HG5.out (Grow.size HG5.out) (.cells #[.int .u8 201] 5)) (Grew.below hg6 (HR5.out.alloc _) (by have := Grow.size HG5.out; simp at this ⊢; omega))); have HR6 := hide hr6; clear hr6 hg6; obtain ⟨bk6, o6, rfl, hcell6⟩ := HR6.out.reads.1.2 (by simp); have hcap6 := HR6.out.cap; have hlen6 : (b ++ [(201 : UInt8)]).length = b.length + 1 := by simp))
  have hin6 : InB w6 (some ⟨bk6, o6, none⟩) b := by
    have h := HR6.out.reads.1.take b.length
    rwa [List.take_left] at h
  have HIN6 := hide hin6
  have HG6' := hide (Grow.trans HG2.out HG6.out)
  have hlt6 : bk6 < w6.heap.size := (hcell6 0 ((u8s (b ++ [201]))[0]'(by simp [u8s])) (by simp)).2.2
  have hc201 : w6.cell? ⟨bk6, o6 + b.length, none⟩ = some (.int .u8 201) := (hcell6 b.length _ (by simp [u8s])).1
  have H201 := hide hc201
  clear hin6 hcell6 hc201
  obtain ⟨xq, nq, eq, hgot⟩ : ∃ x n e, getReq b = (x, n, e) := ⟨_, _, _, rfl⟩
  have hGW := fun (w' : World) (hg : Grow w6 w') => getQ_any b (some ⟨bk6, o6, none⟩) c6 w' ((HT.out.grow HG6'.out).grow hg) (HIN6.out.grow hg) (by omega) (by omega)
  have hGR := fun (w' : World) (hg : Grow w w') => refGetQ_any b B bc w' (HB.out.grow hg) (by omega) hcap
  rw [hgot] at hGW hGR
  have HGETW := hide hGW
  have HGETR := hide hGR
  have HLT6 := hide hlt6
  have HHC := hide hcap6
  clear hGW hGR hgot
  refine (HGETW.out w6 (Grow.refl _)).mono ?_
  rintro e w7 ⟨u, rfl, hret, hg7⟩
  dsimp only at hret ⊢
  obtain ⟨cs, hu, hcn, hco, aB, nB, cB, aF, nF, cF, k7, k24, hnB, hnF, hCB, hCF⟩ := hret.cellsK
  subst hu
  have K7 := hide k7
  have K24 := hide k24
  have HCN := hide hcn
  have HCO := hide hco
  have HG7 := hide hg7
  have HCB := hide hCB
  have HCF := hide hCF
  have hz67 := hg7.size
  clear k7 k24 hcn hco hret hg7 hCB hCF
  go_wp2_with (first
    | ((with_reducible refine at_alloc 29 ?_); refine alloc_to (cells := zeroQ) (fun w => by kernel_rfl) ?_)
    | ((with_reducible refine at_store 29 ?_); refine store_blk (g := w7.heap.size) (n := 26) (cells := cs) rfl rfl (Blk.new w7 29 zeroQ) info_rQ rfl HCN.out HCO.out ?_; intro w8 hb8 hgs8 hz8; have HX8 := hide hb8; have HG78 := hide (show Grow w7 w8 from ((Grow.refl w7).alloc (.cells zeroQ 29)).grown hgs8 (fun k e => by injection e with e; omega)); clear hb8 hgs8))
  have HCB8 := hide (HCB.out.grow HG78.out)
  have HCF8 := hide (HCF.out.grow HG78.out)
  have hz78 := HG78.out.size
  have HNB := hide hnB
  have hnF1 := hnF.1
  have hnF2 := hnF.2
  have hlt8 := HX8.out.lt
  clear HCB HCF hz8 hnB hnF
  go_loopg [9] (nF + 1) (fun gk i wr => ∃ j : Nat, j ≤ nF ∧ gk + j = nF + 1 ∧ i = .int .i64 j ∧ Kept (fun q => w6.heap.size ≤ q ∧ q < w7.heap.size) w8 wr ∧ Cells wr w6.heap.size w7.heap.size aB 1 nB ∧ Cells wr w6.heap.size w7.heap.size aF 6 nF)
  case atStart => exact ⟨0, by omega, by omega, rfl, Kept.refl _ _, HCB8.out, HCF8.out⟩
  case round =>
    obtain ⟨j, hj, hg, rfl, hK, hCB, hCF⟩ := hrel
    have hXr := hK.blk HX8.out (by omega)
    have hc24 := hXr.cell 24
    rw [K24.out] at hc24
    have hltX := hXr.lt
    have HXR := hide hXr
    have HK := hide hK
    have HCBr := hide hCB
    have HCFr := hide hCF
    clear hXr hK hCB hCF
    by_cases hlt : j < nF
    · obtain ⟨gk', rfl⟩ : ∃ g, gk = g + 1 := ⟨gk - 1, by omega⟩
      obtain ⟨bk, o, rfl, hlo, hhi, u, hu, hfu⟩ := HCFr.out j hlt
      go_wp2_with fail
      go_roundg gk'
      case measure => omega
      case rel => exact ⟨j + 1, by omega, by omega, by go_num, HK.out.set (p := ⟨bk, o + j * 6, none⟩) ⟨hlo, hhi⟩ _, HCBr.out.set _ _, HCFr.out.set _ _⟩
    · obtain rfl : j = nF := by omega
      clear hlt hg hj
      go_wp2_with fail
      have hnB1 := HNB.out.1
      have hnB2 := HNB.out.2
      have hc7 := HXR.out.cell 7
      rw [K7.out] at hc7
      obtain ⟨wo, hwo⟩ : ∃ wo : World, wo = wr := ⟨_, rfl⟩
      subst hwo
      clear HCFr hc24 hc7
      go_loopg [10] (nB + 1) (fun gk i wr => ∃ j : Nat, j ≤ nB ∧ gk + j = nB + 1 ∧ i = .int .i64 j ∧ Kept (fun q => w6.heap.size ≤ q ∧ q < w7.heap.size) w8 wr ∧ Cells wr w6.heap.size w7.heap.size aB 1 nB)
      case atStart => exact ⟨0, by omega, by omega, rfl, HK.out, HCBr.out⟩
      case round =>
        obtain ⟨j, hj, hg, rfl, hK2, hCB2⟩ := hrel
        have hXr2 := hK2.blk HX8.out (by omega)
        have hc7 := hXr2.cell 7
        rw [K7.out] at hc7
        have hltX2 := hXr2.lt
        have HK2 := hide hK2
        have HCB2 := hide hCB2
        clear hXr2 hK2 hCB2 hltX HXR HK HCBr
        by_cases hlt : j < nB
        · obtain ⟨gk', rfl⟩ : ∃ g, gk = g + 1 := ⟨gk - 1, by omega⟩
          obtain ⟨bk, o, rfl, hlo, hhi, u, hu, hfu⟩ := HCB2.out j hlt
          rw [Nat.mul_one] at hu hfu
          go_wp2_with fail
          go_roundg gk'
          case measure => omega
          case rel => exact ⟨j + 1, by omega, by omega, by go_num, HK2.out.set (p := ⟨bk, o + j, none⟩) ⟨hlo, hhi⟩ _, HCB2.out.set _ _⟩
        · obtain rfl : j = nB := by omega
          have HGr := hide (show Grow w6 wr from Below.trans (HG7.out.trans HG78.out) (HK2.out.below (by omega) (fun q hq => hq.1)))
          have HGwr := hide (HG6'.out.trans HGr.out)
          clear hlt hg hj HCB2
          go_wp2_with fail
          clear hc7 HK2
          refine (HGETW.out wr HGr.out).mono ?_
          rintro e w9 ⟨u2, rfl, hret, hg9⟩
          dsimp only at hret ⊢
          have HY9 := hide hret.in_
          obtain ⟨cs2, hu, hcn, hco⟩ := hret.cells
          subst hu
          have HCN2 := hide hcn
          have HCO2 := hide hco
          have HG69 := hide (HGr.out.trans hg9)
          have HG9 := hide (HG6'.out.trans HG69.out)
          have HBQ9 := hide (HBQ2.out.grow (Grow.trans HG6.out HG69.out))
          clear hret hg9 hcn hco HGr HGwr
          go_wp2_with (first
            | ((with_reducible refine at_alloc 29 ?_); refine alloc_to (cells := zeroQ) (fun w => by kernel_rfl) ?_)
            | ((with_reducible refine at_store 29 ?_); refine store_blk (g := w9.heap.size) (n := 26) (cells := cs2) rfl rfl (Blk.new w9 29 zeroQ) info_rQ rfl HCN2.out HCO2.out ?_; intro w10 hb10 hgs10 hz10; have HYB10 := hide hb10; have HGA10 := hide (show Grow w9 w10 from ((Grow.refl w9).alloc (.cells zeroQ 29)).grown hgs10 (fun k e => by injection e with e; omega)); have HBQ10 := hide (HBQ9.out.grow HGA10.out); clear hb10 hgs10)
            | ((with_reducible refine at_load 29 ?_); refine load_blk (g := w.heap.size) (n := 26) (cells := (rqCells d tc ti tp ub ck cl ch cx N)) Tryd.underlying29 rfl rfl HBQ10.out info_rQ rfl ?_))
          have HG10 := hide (HG9.out.trans HGA10.out)
          have HY10 := hide (HY9.out.grow HGA10.out)
          refine (HPQ.out w10 (HT.out.grow HG10.out) (H1.out.grow HG10.out) (H2.out.grow HG10.out) (H3.out.grow HG10.out) (H4.out.grow HG10.out) HC2.out).mono ?_
          rintro e w11 ⟨base11, PA, pc, rfl, hb11, hb11', hrow11, hg11⟩
          dsimp only at hrow11 hb11 hb11' ⊢
          have HG1011 := hide hg11
          have hpl := hb11'
          have HP11 := hide (hrow11.cellsC (lo := w10.heap.size) (by omega))
          have hpc := hrow11.cap
          have hz1011 := hg11.size
          clear hrow11 hg11 hz10
          have HBQ11 := hide (HBQ10.out.grow HG1011.out)
          have HG11 := hide (HG10.out.trans HG1011.out)
          clear hpc hpl hb11 hb11'
          go_wp2_with fail
          go_loopg [16] (pb.length + 1) (fun gk i wr => ∃ j : Nat, j ≤ pb.length ∧ gk + j = pb.length + 1 ∧ i = .int .i64 j ∧ Kept (fun q => w10.heap.size ≤ q ∧ q < w11.heap.size) w11 wr ∧ Cells wr w10.heap.size w11.heap.size PA 1 pb.length)
          case atStart => exact ⟨0, by omega, by omega, rfl, Kept.refl _ _, HP11.out⟩
          case round =>
            obtain ⟨j, hj, hg, rfl, hK3, hCP⟩ := hrel
            have HK3 := hide hK3
            have HCP := hide hCP
            clear hK3 hCP
            by_cases hlt : j < pb.length
            · obtain ⟨gk', rfl⟩ : ∃ g, gk = g + 1 := ⟨gk - 1, by omega⟩
              obtain ⟨bk, o, rfl, hlo, hhi, u, hu, hfu⟩ := HCP.out j hlt
              rw [Nat.mul_one] at hu hfu
              go_wp2_with fail
              go_roundg gk'
              case measure => omega
              case rel => exact ⟨j + 1, by omega, by omega, by go_num, HK3.out.set (p := ⟨bk, o + j, none⟩) ⟨hlo, hhi⟩ _, HCP.out.set _ _⟩
            · obtain rfl : j = pb.length := by omega
              obtain ⟨w12, hw12⟩ : ∃ w12 : World, wr = w12 := ⟨_, rfl⟩
              subst hw12
              have HGs := hide (Kept.grow_ HG1011.out HK3.out (fun q hq => hq.1))
              have HG12 := hide (HG10.out.trans HGs.out)
              have HBQ12 := hide (HBQ10.out.grow HGs.out)
              have HG612 := hide ((HG69.out.trans HGA10.out).trans HGs.out)
              have HY12 := hide (HY10.out.grow HGs.out)
              have HYB12 := hide (HYB10.out.grow HGs.out)
              clear hlt hg hj HCP HK3
              go_wp2_with ((with_reducible refine at_load 29 ?_); refine load_blk (g := w.heap.size) (n := 26) (cells := (rqCells d tc ti tp ub ck cl ch cx N)) Tryd.underlying29 rfl rfl HBQ12.out info_rQ rfl ?_)
              refine (HPQ.out wr (HT.out.grow HG12.out) (H1.out.grow HG12.out) (H2.out.grow HG12.out) (H3.out.grow HG12.out) (H4.out.grow HG12.out) HC2.out).mono ?_
              rintro e w13 ⟨base13, QA, qc, rfl, hb13, hb13', hrow13, hg13⟩
              dsimp only at hrow13 ⊢
              have HROWQ13 := hide hrow13
              have HGp := hide hg13
              have HG13 := hide (HG12.out.trans hg13)
              have HBQ13 := hide (HBQ12.out.grow hg13)
              clear hrow13 hg13 hb13 hb13'
              go_wp2_with ((with_reducible refine at_load 29 ?_); refine load_blk (g := w.heap.size) (n := 26) (cells := (rqCells d tc ti tp ub ck cl ch cx N)) Tryd.underlying29 rfl rfl HBQ13.out info_rQ rfl ?_)
              refine (HRQ.out w13 (H1.out.grow HG13.out) (H2.out.grow HG13.out) (H3.out.grow HG13.out) (H4.out.grow HG13.out) HC2.out).mono ?_
              rintro e w14 ⟨base14, WA, wc, rfl, hb14, hb14', hrow14, hg14⟩
              dsimp only at hrow14 ⊢
              have HROWW14 := hide hrow14
              have HROWQ14 := hide (HROWQ13.out.grow hg14)
              have HG14 := hide (HG13.out.trans hg14)
              have HGp14 := hide (HGp.out.trans hg14)
              clear hrow14 hg14 hb14 hb14' HROWQ13 HGp
              go_wp2_with fail
              refine (HGETR.out w14 HG14.out).mono ?_
              rintro e w15 ⟨u3, rfl, hri, hg15⟩
              dsimp only at hri ⊢
              have HZ15 := hide hri
              obtain ⟨cz, hu, hzn, hzo⟩ := hri.cells
              subst hu
              have HZN := hide hzn
              have HZO := hide hzo
              have HGp15 := hide (HGp14.out.trans hg15)
              have HG15 := hide (HG14.out.trans hg15)
              have HROWQ15 := hide (HROWQ14.out.grow hg15)
              have HROWW15 := hide (HROWW14.out.grow hg15)
              clear hri hzn hzo hg15 HROWQ14 HROWW14 HGp14
              go_wp2_with (first
                | ((with_reducible refine at_alloc 29 ?_); refine alloc_to (cells := zeroQ) (fun w => by kernel_rfl) ?_)
                | ((with_reducible refine at_store 29 ?_); refine store_blk (g := w15.heap.size) (n := 26) (cells := cz) rfl rfl (Blk.new w15 29 zeroQ) info_rQ rfl HZN.out HZO.out ?_; intro w16 hb16 hgs16 hz16; have HV16 := hide hb16; have HGA16 := hide (show Grow w15 w16 from ((Grow.refl w15).alloc (.cells zeroQ 29)).grown hgs16 (fun k e => by injection e with e; omega)); have HYB16 := hide (HYB12.out.grow (HGp15.out.trans HGA16.out)); clear hb16 hgs16)
                | ((with_reducible refine at_load_gv (x := .tmp 11) 29 ?_); refine load_blk_gr (g := w9.heap.size) (n := 26) (cells := cs2) ?_ Tryd.underlying29 rfl rfl HYB16.out info_rQ HCN2.out ?_)
                | ((with_reducible refine at_load_gv (x := .tmp 21) 29 ?_); refine load_blk_gr (g := w15.heap.size) (n := 26) (cells := cz) ?_ Tryd.underlying29 rfl rfl HV16.out info_rQ HZN.out ?_))
              all_goals try ((with_reducible show Region.wanted _ _ = true); rfl)
              have HG16 := hide (HG15.out.trans HGA16.out)
              refine (rq_same xq _ _ w16 (HY12.out.grow (HGp15.out.trans HGA16.out)) (HZ15.out.grow HGA16.out)).mono ?_
              rintro e w17 ⟨rfl, hg17⟩
              have HGE := hide (HG16.out.trans hg17)
              have hg6 := ((HG612.out.trans (HGp15.out.trans HGA16.out)).trans hg17)
              have hcvq := conv_bstr (cap := qc) rfl ((HROWQ15.out.grow HGA16.out).grow hg17).reads.1
              have hcvw := conv_bstr (cap := wc) rfl ((HROWW15.out.grow HGA16.out).grow hg17).reads.1
              have hcvc := conv_bstr (cap := c6) rfl (HIN6.out.grow hg6)
              have hcvb := conv_bstr (cap := bc) rfl (HB.out.grow HGE.out)
              have h201 := (hg6.below.cell (p := ⟨bk6, o6 + b.length, none⟩) HLT6.out).trans H201.out
              have hcc6 : b.length + 1 ≤ c6 := HHC.out
              clear hg17 hg6
              go_wp2_with fail
              go_ret
              exact ⟨rfl, HGE.out⟩
end Go.Proofs.YthjjmndjfoebgaaDoor
