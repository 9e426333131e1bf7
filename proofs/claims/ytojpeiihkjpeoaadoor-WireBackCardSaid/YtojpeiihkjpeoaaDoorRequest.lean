/- Walks: a request of a frame's body. Written by wip/tools/gen_request.py. -/
import Derived.Test.YtojpeiihkjpeoaaDoorCurA
set_option linter.unusedVariables false
set_option linter.unusedSimpArgs false
namespace Go.Proofs.YtojpeiihkjpeoaaDoor
open Go.RowKit Go.Shelf

/-- The 26 cells of a request. -/
abbrev rqCells (d : Int) (c i p : ByteArray) (u : Bool) (k l h x : Cv) (n : Int) : Array Value :=
  #[.int .i64 d, .string c, .string i, .string p, .bool u, .int .i64 k.k, .int .u64 k.n, .slice k.aB k.nB k.cB, .slice k.aL k.nL k.cL, .slice k.aF k.nF k.cF,
    .int .i64 l.k, .int .u64 l.n, .slice l.aB l.nB l.cB, .slice l.aL l.nL l.cL, .slice l.aF l.nF l.cF, .int .i64 h.k, .int .u64 h.n, .slice h.aB h.nB h.cB, .slice h.aL h.nL h.cL, .slice h.aF h.nF h.cF,
    .int .i64 x.k, .int .u64 x.n, .slice x.aB x.nB x.cB, .slice x.aL x.nL x.cL, .slice x.aF x.nF x.cF, .int .i64 n]
/-- A request, its values in new memory. -/
def RetRq (w0 : World) (q : Rq) (u : Value) (w' : World) : Prop :=
  ∃ ck cl ch cx, u = .agg (rqCells q.do_ q.coll q.index q.path q.unique ck cl ch cx q.n) ∧ InS w' w0.heap.size w'.heap.size q.key ck ∧ InS w' w0.heap.size w'.heap.size q.low cl ∧
    InS w' w0.heap.size w'.heap.size q.high ch ∧ InS w' w0.heap.size w'.heap.size q.doc cx
theorem RetRq.zero (w w' : World) : RetRq w Rq.zero (.agg zeroQ) w' := by
  have hz := (InS.zero w' (lo := w.heap.size))
  exact ⟨Cv.zero, Cv.zero, Cv.zero, Cv.zero, rfl, hz, hz, hz, hz⟩
theorem RetRq.cells {w w' : World} {q : Rq} {u : Value} (h : RetRq w q u w') : ∃ cs, u = .agg cs ∧ cs.size = 26 ∧ cs.all (·.oneCell') = true := by
  obtain ⟨ck, cl, ch, cx, rfl, _⟩ := h
  exact ⟨_, rfl, rfl, by simp [Value.oneCell']⟩
theorem RetRq.move {w0 w w1 w' : World} {q : Rq} {u : Value} (h : RetRq w q u w1) (h0 : w0.heap.size ≤ w.heap.size) (hz : w1.heap.size ≤ w'.heap.size) (hb : ∀ k, w.heap.size ≤ k → k < w1.heap.size → w'.heap[k]? = w1.heap[k]?) : RetRq w0 q u w' := by
  obtain ⟨ck, cl, ch, cx, rfl, h1, h2, h3, h4⟩ := h
  exact ⟨ck, cl, ch, cx, rfl, (h1.blocks hz hb).wider h0 hz (Nat.le_refl _), (h2.blocks hz hb).wider h0 hz (Nat.le_refl _), (h3.blocks hz hb).wider h0 hz (Nat.le_refl _), (h4.blocks hz hb).wider h0 hz (Nat.le_refl _)⟩
theorem pInt_of {bs r : List UInt8} {k : Nat} (h : pNum 4 bs = some (k, r)) : pInt bs = some (if k < 2147483648 then (k : Int) else (k : Int) - 4294967296, r) := by rw [pInt, h]
theorem pInt_none {bs : List UInt8} (h : pNum 4 bs = none) : pInt bs = none := by rw [pInt, h]
theorem i32_of (k : Nat) (h : k < 4294967296) : IntKind.i32.wrap (k : Int) = if k < 2147483648 then (k : Int) else (k : Int) - 4294967296 := by
  rw [IntKind.wrap_i32]
  split <;> omega

theorem grown_trans {a b c : World} {g : Nat} (h : a.grownBy b (some g)) (k : b.grownBy c (some g)) : a.grownBy c (some g) := GB.trans h k
theorem rqres {F : Func} {W : World} {vb : Nat} {tmps : Array Value} {cs : Array Value} (hF : F.results = #[ResultVar.cell 2 49]) (h2 : tmps.getD 2 undef = .pointer (some ⟨vb, 0, none⟩)) (hv : Blk W vb 49 cs) (hn : cs.size = 26 := by rfl) :
    (results F tmps).run Tryd.prog W = .ok (.agg cs) W :=
  results_cell_row hF _ _ vb 49 cs (0, 0) _ h2 hv Tryd.underlying49 rfl (by rw [hn]; exact info_rQ)

set_option maxRecDepth 100000 in
set_option maxHeartbeats 6400000 in
theorem wrequest_cps (Q : Ending → World → Prop) (pb : Nat) (bs : List UInt8) (w : World) (hT : Tabs w) (hp : 1 < pb) (h : Cu w pb bs)
    (hbad : pReq bs = none → ∀ w', GB w w' pb → Q (.panicked (thrown 4)) w')
    (hgood : ∀ q r, pReq bs = some (q, r) → ∀ u w', RetRq w q u w' → Cu w' pb r → GB w w' pb → Q (.returned u) w') :
    Calls Tryd.prog 65 #[.pointer (some ⟨pb, 0, none⟩)] w Q := by
  have hlt := h.lt
  have hG1 := (Grow.refl w).alloc (.cells zeroQ 49)
  have hW1 : ∃ W, W = w.alloc (.cells zeroQ 49) := ⟨_, rfl⟩
  have HB := hide (Blk.new w 49 zeroQ)
  have HCU := hide (h.grow hG1)
  have HG := hide ((GB.refl w pb).grow hG1)
  have HT := hide hT
  have HBAD := hide hbad
  have HGOOD := hide hgood
  clear h hG1 hT hbad hgood hW1
  go_enter Tryd.func65, Tryd.ntmps65
  have HC := hide (wbyte_any pb bs _ HCU.out)
  go_wp2_with fail
  refine HC.out.mono ?_
  intro e w2 h1
  cases hp1 : pNum 1 bs with
  | none =>
    rw [hp1] at h1
    obtain ⟨rfl, hg⟩ := h1
    have HE := hide (HBAD.out (by simp only [pReq, pBind, pInt, hp1]) _ (HG.out.trans hg))
    clear hg hp1
    go_wp2_with fail
    exact And.intro rfl HE.out
  | some xr =>
  obtain ⟨d, r1⟩ := xr
  rw [hp1] at h1
  obtain ⟨u, rfl, rfl, hcu, hg⟩ := h1
  have HP1 := hide hp1
  have hB2 := HB.out.own hg (fun k e => by injection e with e; omega)
  have hG2 := HG.out.trans hg
  clear HB HG HCU HC hp1
  have HB := hide hB2
  have HG := hide hG2
  have HCU := hide hcu
  have hc := hB2.cell
  have hf := hB2.frozen
  clear hB2 hG2 hcu
  have HC := hide (wflag_any pb r1 _ HCU.out)
  go_wp2_with fail
  refine HC.out.mono ?_
  intro e w3 h2
  cases hp2 : pFlag r1 with
  | none =>
    rw [hp2] at h2
    obtain ⟨rfl, hg⟩ := h2
    have HE := hide (HBAD.out (by simp only [pReq, pBind, pInt, HP1.out, hp2]) _ (HG.out.trans hg))
    clear hg hp2
    go_wp2_with fail
    exact And.intro rfl HE.out
  | some xr =>
  obtain ⟨ub, r2⟩ := xr
  rw [hp2] at h2
  obtain ⟨u, rfl, rfl, hcu, hg⟩ := h2
  have HP2 := hide hp2
  have hB2 := HB.out.own hg (fun k e => by injection e with e; omega)
  have hG2 := HG.out.trans hg
  clear HB HG HCU HC hc hf hp2
  have HB := hide hB2
  have HG := hide hG2
  have HCU := hide hcu
  have hc := hB2.cell
  have hf := hB2.frozen
  clear hB2 hG2 hcu
  obtain ⟨w4, hW⟩ : ∃ W, W = ((w3).setCell ⟨w.heap.size, 0, none⟩ (.int .i64 (d : Int))).setCell ⟨w.heap.size, 4, none⟩ (.bool ub) := ⟨_, rfl⟩
  have hB3 : Blk w4 w.heap.size 49 (rqCells (d : Int) ⟨#[]⟩ ⟨#[]⟩ ⟨#[]⟩ ub Cv.zero Cv.zero Cv.zero Cv.zero 0) := by rw [hW]; exact ((HB.out.set_ 0 (.int .i64 (d : Int))).set_ 4 (.bool ub))
  have hG3 : GB w w4 pb := by rw [hW]; exact ((HG.out.set (Nat.le_refl _) 0 (.int .i64 (d : Int))).set (Nat.le_refl _) 4 (.bool ub))
  have hC3 : Cu w4 pb r2 := by rw [hW]; exact (Cu.own (Cu.own HCU.out (grown_set _ w.heap.size 0 (.int .i64 (d : Int))) (fun k e => by injection e with e; omega)) (grown_set _ w.heap.size 4 (.bool ub)) (fun k e => by injection e with e; omega))
  have HW := hide hW
  clear HB HG HCU hW
  have HB := hide hB3
  have HG := hide hG3
  have HCU := hide hC3
  have HC := hide (wtext_any pb r2 w4 HCU.out)
  clear hB3 hG3 hC3
  go_wp2_with fail
  rw [← HW.out]
  refine HC.out.mono ?_
  intro e w5 h3
  cases hp3 : pText r2 with
  | none =>
    rw [hp3] at h3
    obtain ⟨rfl, hg⟩ := h3
    have HE := hide (HBAD.out (by simp only [pReq, pBind, pInt, HP1.out, HP2.out, hp3]) _ (HG.out.trans hg))
    clear hg hp3
    go_wp2_with fail
    exact And.intro rfl HE.out
  | some xr =>
  obtain ⟨tc, r3⟩ := xr
  rw [hp3] at h3
  obtain ⟨u, rfl, rfl, hcu, hg⟩ := h3
  have HP3 := hide hp3
  have hB2 := HB.out.own hg (fun k e => by injection e with e; omega)
  have hG2 := HG.out.trans hg
  clear HB HG HCU HC hc hf HW hp3
  have HB := hide hB2
  have HG := hide hG2
  have HCU := hide hcu
  have hc := hB2.cell
  have hf := hB2.frozen
  clear hB2 hG2 hcu
  have HC := hide (wtext_any pb r3 _ HCU.out)
  go_wp2_with fail
  refine HC.out.mono ?_
  intro e w6 h4
  cases hp4 : pText r3 with
  | none =>
    rw [hp4] at h4
    obtain ⟨rfl, hg⟩ := h4
    have HE := hide (HBAD.out (by simp only [pReq, pBind, pInt, HP1.out, HP2.out, HP3.out, hp4]) _ (HG.out.trans hg))
    clear hg hp4
    go_wp2_with fail
    exact And.intro rfl HE.out
  | some xr =>
  obtain ⟨ti, r4⟩ := xr
  rw [hp4] at h4
  obtain ⟨u, rfl, rfl, hcu, hg⟩ := h4
  have HP4 := hide hp4
  have hB2 := HB.out.own hg (fun k e => by injection e with e; omega)
  have hG2 := HG.out.trans hg
  clear HB HG HCU HC hc hf hp4
  have HB := hide hB2
  have HG := hide hG2
  have HCU := hide hcu
  have hc := hB2.cell
  have hf := hB2.frozen
  clear hB2 hG2 hcu
  have HC := hide (wtext_any pb r4 _ HCU.out)
  go_wp2_with fail
  refine HC.out.mono ?_
  intro e w7 h5
  cases hp5 : pText r4 with
  | none =>
    rw [hp5] at h5
    obtain ⟨rfl, hg⟩ := h5
    have HE := hide (HBAD.out (by simp only [pReq, pBind, pInt, HP1.out, HP2.out, HP3.out, HP4.out, hp5]) _ (HG.out.trans hg))
    clear hg hp5
    go_wp2_with fail
    exact And.intro rfl HE.out
  | some xr =>
  obtain ⟨tp, r5⟩ := xr
  rw [hp5] at h5
  obtain ⟨u, rfl, rfl, hcu, hg⟩ := h5
  have HP5 := hide hp5
  have hB2 := HB.out.own hg (fun k e => by injection e with e; omega)
  have hG2 := HG.out.trans hg
  clear HB HG HCU HC hc hf hp5
  have HB := hide hB2
  have HG := hide hG2
  have HCU := hide hcu
  have hc := hB2.cell
  have hf := hB2.frozen
  clear hB2 hG2 hcu
  obtain ⟨w8, hW⟩ : ∃ W, W = (((w7).setCell ⟨w.heap.size, 1, none⟩ (.string tc)).setCell ⟨w.heap.size, 2, none⟩ (.string ti)).setCell ⟨w.heap.size, 3, none⟩ (.string tp) := ⟨_, rfl⟩
  have hB3 : Blk w8 w.heap.size 49 (rqCells (d : Int) tc ti tp ub Cv.zero Cv.zero Cv.zero Cv.zero 0) := by rw [hW]; exact (((HB.out.set_ 1 (.string tc)).set_ 2 (.string ti)).set_ 3 (.string tp))
  have hG3 : GB w w8 pb := by rw [hW]; exact (((HG.out.set (Nat.le_refl _) 1 (.string tc)).set (Nat.le_refl _) 2 (.string ti)).set (Nat.le_refl _) 3 (.string tp))
  have hC3 : Cu w8 pb r5 := by rw [hW]; exact (Cu.own (Cu.own (Cu.own HCU.out (grown_set _ w.heap.size 1 (.string tc)) (fun k e => by injection e with e; omega)) (grown_set _ w.heap.size 2 (.string ti)) (fun k e => by injection e with e; omega)) (grown_set _ w.heap.size 3 (.string tp)) (fun k e => by injection e with e; omega))
  have HW := hide hW
  clear HB HG HCU hW
  have HB := hide hB3
  have HG := hide hG3
  have HCU := hide hC3
  have HC := hide (wword_any pb r5 w8 HCU.out)
  clear hB3 hG3 hC3
  go_wp2_with fail
  rw [← HW.out]
  refine HC.out.mono ?_
  intro e w9 h6
  cases hp6 : pNum 4 r5 with
  | none =>
    rw [hp6] at h6
    obtain ⟨rfl, hg⟩ := h6
    have HE := hide (HBAD.out (by simp only [pReq, pBind, pInt, HP1.out, HP2.out, HP3.out, HP4.out, HP5.out, hp6]) _ (HG.out.trans hg))
    clear hg hp6
    go_wp2_with fail
    exact And.intro rfl HE.out
  | some xr =>
  obtain ⟨nn, r6⟩ := xr
  rw [hp6] at h6
  obtain ⟨u, rfl, rfl, hcu, hg⟩ := h6
  have HP6 := hide hp6
  have hn32 : nn < 4294967296 := (pNum_some hp6).2
  have hi32 := i32_of nn hn32
  obtain ⟨N, hN⟩ : ∃ N : Int, (if nn < 2147483648 then (nn : Int) else (nn : Int) - 4294967296) = N := ⟨_, rfl⟩
  rw [hN] at hi32
  have HN := hide hN
  have hNr : -2147483648 ≤ N ∧ N ≤ 2147483647 := by rw [← hN]; split <;> omega
  clear hN
  have hB2 := HB.out.own hg (fun k e => by injection e with e; omega)
  have hG2 := HG.out.trans hg
  clear HB HG HCU HC hc hf HW hp6
  have HB := hide hB2
  have HG := hide hG2
  have HCU := hide hcu
  have hc := hB2.cell
  have hf := hB2.frozen
  clear hB2 hG2 hcu
  obtain ⟨w10, hW⟩ : ∃ W, W = (w9).setCell ⟨w.heap.size, 25, none⟩ (.int .i64 N) := ⟨_, rfl⟩
  have hB3 : Blk w10 w.heap.size 49 (rqCells (d : Int) tc ti tp ub Cv.zero Cv.zero Cv.zero Cv.zero N) := by rw [hW]; exact (HB.out.set_ 25 (.int .i64 N))
  have hG3 : GB w w10 pb := by rw [hW]; exact (HG.out.set (Nat.le_refl _) 25 (.int .i64 N))
  have hC3 : Cu w10 pb r6 := by rw [hW]; exact (Cu.own HCU.out (grown_set _ w.heap.size 25 (.int .i64 N)) (fun k e => by injection e with e; omega))
  have HW := hide hW
  clear HB HG HCU hW
  have HB := hide hB3
  have HG := hide hG3
  have HCU := hide hC3
  have HC := hide (wmay_any pb r6 w10 (HT.out.gb HG.out hp) hp HCU.out)
  clear hB3 hG3 hC3
  go_wp2_with fail
  rw [← HW.out]
  refine HC.out.mono ?_
  intro e w11 h7
  cases hp7 : pMay r6 with
  | none =>
    rw [hp7] at h7
    obtain ⟨rfl, hg⟩ := h7
    have HE := hide (HBAD.out (by simp only [pReq, pBind, pInt, HP1.out, HP2.out, HP3.out, HP4.out, HP5.out, HP6.out, HN.out, hp7]) _ (HG.out.trans hg))
    clear hg hp7
    go_wp2_with fail
    exact And.intro rfl HE.out
  | some xr =>
  obtain ⟨vk, r7⟩ := xr
  rw [hp7] at h7
  obtain ⟨u, rfl, ⟨ck, rfl, hin⟩, hcu, hg⟩ := h7
  have HP7 := hide hp7
  have HI7 := hide hin
  have hz7 := HB.out.lt
  clear hin
  have hB2 := HB.out.own hg (fun k e => by injection e with e; omega)
  have hG2 := HG.out.trans hg
  clear HB HG HCU HC hc hf HW hp7
  have HB := hide hB2
  have HG := hide hG2
  have HCU := hide hcu
  have hc := hB2.cell
  have hf := hB2.frozen
  clear hB2 hG2 hcu
  have HC := hide (wmay_any pb r7 _ (HT.out.gb HG.out hp) hp HCU.out)
  go_wp2_with fail
  refine HC.out.mono ?_
  intro e w12 h8
  cases hp8 : pMay r7 with
  | none =>
    rw [hp8] at h8
    obtain ⟨rfl, hg⟩ := h8
    have HE := hide (HBAD.out (by simp only [pReq, pBind, pInt, HP1.out, HP2.out, HP3.out, HP4.out, HP5.out, HP6.out, HN.out, HP7.out, hp8]) _ (HG.out.trans hg))
    clear hg hp8
    go_wp2_with fail
    exact And.intro rfl HE.out
  | some xr =>
  obtain ⟨vl, r8⟩ := xr
  rw [hp8] at h8
  obtain ⟨u, rfl, ⟨cl, rfl, hin⟩, hcu, hg⟩ := h8
  have HP8 := hide hp8
  have HI7 := hide ((HI7.out.blocks hg.size (fun k h1 h2 => hg.block k (Nat.lt_of_lt_of_le h2 HI7.out.1) (fun e => by injection e with e; have := HG.out.size; omega))))
  have HI8 := hide hin
  have hz8 := HB.out.lt
  clear hin
  have hB2 := HB.out.own hg (fun k e => by injection e with e; omega)
  have hG2 := HG.out.trans hg
  clear HB HG HCU HC hc hf hp8
  have HB := hide hB2
  have HG := hide hG2
  have HCU := hide hcu
  have hc := hB2.cell
  have hf := hB2.frozen
  clear hB2 hG2 hcu
  have HC := hide (wmay_any pb r8 _ (HT.out.gb HG.out hp) hp HCU.out)
  go_wp2_with fail
  refine HC.out.mono ?_
  intro e w13 h9
  cases hp9 : pMay r8 with
  | none =>
    rw [hp9] at h9
    obtain ⟨rfl, hg⟩ := h9
    have HE := hide (HBAD.out (by simp only [pReq, pBind, pInt, HP1.out, HP2.out, HP3.out, HP4.out, HP5.out, HP6.out, HN.out, HP7.out, HP8.out, hp9]) _ (HG.out.trans hg))
    clear hg hp9
    go_wp2_with fail
    exact And.intro rfl HE.out
  | some xr =>
  obtain ⟨vh, r9⟩ := xr
  rw [hp9] at h9
  obtain ⟨u, rfl, ⟨ch, rfl, hin⟩, hcu, hg⟩ := h9
  have HP9 := hide hp9
  have HI7 := hide ((HI7.out.blocks hg.size (fun k h1 h2 => hg.block k (Nat.lt_of_lt_of_le h2 HI7.out.1) (fun e => by injection e with e; have := HG.out.size; omega))))
  have HI8 := hide ((HI8.out.blocks hg.size (fun k h1 h2 => hg.block k (Nat.lt_of_lt_of_le h2 HI8.out.1) (fun e => by injection e with e; have := HG.out.size; omega))))
  have HI9 := hide hin
  have hz9 := HB.out.lt
  clear hin
  have hB2 := HB.out.own hg (fun k e => by injection e with e; omega)
  have hG2 := HG.out.trans hg
  clear HB HG HCU HC hc hf hp9
  have HB := hide hB2
  have HG := hide hG2
  have HCU := hide hcu
  have hc := hB2.cell
  have hf := hB2.frozen
  clear hB2 hG2 hcu
  have HC := hide (wmay_any pb r9 _ (HT.out.gb HG.out hp) hp HCU.out)
  go_wp2_with fail
  refine HC.out.mono ?_
  intro e w14 h10
  cases hp10 : pMay r9 with
  | none =>
    rw [hp10] at h10
    obtain ⟨rfl, hg⟩ := h10
    have HE := hide (HBAD.out (by simp only [pReq, pBind, pInt, HP1.out, HP2.out, HP3.out, HP4.out, HP5.out, HP6.out, HN.out, HP7.out, HP8.out, HP9.out, hp10]) _ (HG.out.trans hg))
    clear hg hp10
    go_wp2_with fail
    exact And.intro rfl HE.out
  | some xr =>
  obtain ⟨vx, r10⟩ := xr
  rw [hp10] at h10
  obtain ⟨u, rfl, ⟨cx, rfl, hin⟩, hcu, hg⟩ := h10
  have HP10 := hide hp10
  have HI7 := hide ((HI7.out.blocks hg.size (fun k h1 h2 => hg.block k (Nat.lt_of_lt_of_le h2 HI7.out.1) (fun e => by injection e with e; have := HG.out.size; omega))))
  have HI8 := hide ((HI8.out.blocks hg.size (fun k h1 h2 => hg.block k (Nat.lt_of_lt_of_le h2 HI8.out.1) (fun e => by injection e with e; have := HG.out.size; omega))))
  have HI9 := hide ((HI9.out.blocks hg.size (fun k h1 h2 => hg.block k (Nat.lt_of_lt_of_le h2 HI9.out.1) (fun e => by injection e with e; have := HG.out.size; omega))))
  have HI10 := hide hin
  have hz10 := HB.out.lt
  clear hin
  have hB2 := HB.out.own hg (fun k e => by injection e with e; omega)
  have hG2 := HG.out.trans hg
  clear HB HG HCU HC hc hf hp10
  have HB := hide hB2
  have HG := hide hG2
  have HCU := hide hcu
  have hc := hB2.cell
  have hf := hB2.frozen
  clear hB2 hG2 hcu
  clear hc hf
  go_wp2_with (first
    | (with_reducible refine at_store 47 ?_; refine store_val (g := w.heap.size) (o := 5) (c := ck) (new := (rqCells (d : Int) tc ti tp ub ck Cv.zero Cv.zero Cv.zero N)) rfl rfl HB.out info_val (by simp) rfl ?_; intro x5 hB5 hg5 hs5; have HB20 := hide hB5; have HG20 := hide hg5; clear hB5 hg5)
    | (with_reducible refine at_store 47 ?_; refine store_val (g := w.heap.size) (o := 10) (c := cl) (new := (rqCells (d : Int) tc ti tp ub ck cl Cv.zero Cv.zero N)) rfl rfl HB20.out info_val (by simp) rfl ?_; intro x10 hB10 hg10 hs10; have HB21 := hide hB10; have HG21 := hide hg10; clear hB10 hg10)
    | (with_reducible refine at_store 47 ?_; refine store_val (g := w.heap.size) (o := 15) (c := ch) (new := (rqCells (d : Int) tc ti tp ub ck cl ch Cv.zero N)) rfl rfl HB21.out info_val (by simp) rfl ?_; intro x15 hB15 hg15 hs15; have HB22 := hide hB15; have HG22 := hide hg15; clear hB15 hg15)
    | (with_reducible refine at_store 47 ?_; refine store_val (g := w.heap.size) (o := 20) (c := cx) (new := (rqCells (d : Int) tc ti tp ub ck cl ch cx N)) rfl rfl HB22.out info_val (by simp) rfl ?_; intro x20 hB20 hg20 hs20; have HB23 := hide hB20; have HG23 := hide hg20; clear hB20 hg20)
    | (with_reducible refine at_load 49 ?_; refine load_blk (g := w.heap.size) (n := 26) (cells := (rqCells (d : Int) tc ti tp ub ck cl ch cx N)) Tryd.underlying49 rfl rfl HB23.out info_rQ rfl ?_)
    | (with_reducible refine at_store 49 ?_; refine store_blk (g := w.heap.size) (n := 26) (cells := (rqCells (d : Int) tc ti tp ub ck cl ch cx N)) rfl rfl HB23.out info_rQ rfl rfl (by simp [Value.oneCell']) ?_; intro x26 hB26 hg26 hs26; have HB26 := hide hB26; have HG26 := hide hg26; clear hB26 hg26))
  have HGA := hide (grown_trans (grown_trans (grown_trans (grown_trans HG20.out HG21.out) HG22.out) HG23.out) HG26.out)
  have hzA : x26.heap.size = w14.heap.size := by omega
  have hgot : pReq bs = some (⟨(d : Int), tc, ti, tp, ub, vk, vl, vh, vx, N⟩, r10) := by simp only [pReq, pBind, pInt, HP1.out, HP2.out, HP3.out, HP4.out, HP5.out, HP6.out, HN.out, HP7.out, HP8.out, HP9.out, HP10.out]
  have hblk : ∀ k, w.heap.size < k → k < w14.heap.size → x26.heap[k]? = w14.heap[k]? := fun k h1 h2 => HGA.out.block k h2 (fun e => by injection e with e; omega)
  refine bodyPost_ret (rqres rfl rfl HB26.out) rfl (HGOOD.out _ r10 hgot _ _ ⟨ck, cl, ch, cx, rfl, ?_, ?_, ?_, ?_⟩ (HCU.out.own HGA.out (fun k e => by injection e with e; omega)) (GB.own HG.out HGA.out (fun k e => by injection e with e; omega)))
  · exact (HI7.out.blocks (by omega) (fun k h1 h2 => hblk k (by omega) (Nat.lt_of_lt_of_le h2 HI7.out.1))).wider (Nat.le_of_lt hz7) (by rw [hzA]; exact HI7.out.1) (Nat.le_refl _)
  · exact (HI8.out.blocks (by omega) (fun k h1 h2 => hblk k (by omega) (Nat.lt_of_lt_of_le h2 HI8.out.1))).wider (Nat.le_of_lt hz8) (by rw [hzA]; exact HI8.out.1) (Nat.le_refl _)
  · exact (HI9.out.blocks (by omega) (fun k h1 h2 => hblk k (by omega) (Nat.lt_of_lt_of_le h2 HI9.out.1))).wider (Nat.le_of_lt hz9) (by rw [hzA]; exact HI9.out.1) (Nat.le_refl _)
  · exact (HI10.out.blocks (by omega) (fun k h1 h2 => hblk k (by omega) (Nat.lt_of_lt_of_le h2 HI10.out.1))).wider (Nat.le_of_lt hz10) (by rw [hzA]; exact HI10.out.1) (Nat.le_refl _)
theorem wrequest_any (pb : Nat) (bs : List UInt8) (w : World) (hT : Tabs w) (hp : 1 < pb) (h : Cu w pb bs) :
    Calls Tryd.prog 65 #[.pointer (some ⟨pb, 0, none⟩)] w (PrC w pb (pReq bs) (RetRq w)) :=
  wrequest_cps _ pb bs w hT hp h (fun hn w' hg => by rw [hn]; exact PrC.bad hg) (fun q r hq u w' h1 h2 h3 => by rw [hq]; exact PrC.good h1 h2 h3)
end Go.Proofs.YtojpeiihkjpeoaaDoor
