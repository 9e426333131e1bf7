/- Walk: two equal requests, held against one another. Written by wip/tools/gen_same.py. -/
import Derived.Test.YtojpeiihkjpeoaaDoorAsks
import Derived.Test.YtojpeiihkjpeoaaDoorWAwake
set_option linter.unusedVariables false
set_option linter.unusedSimpArgs false
namespace Go.Proofs.YtojpeiihkjpeoaaDoor
open Go.RowKit Go.Deep Go.WideShapes

section
variable {P : Program} {ops : Array Oper} {rest : List Oper} {a : Act} {w : World} {Q : Exit → Act → World → Prop}
/-- A value out of a block's cells from an offset on, guarded. -/
theorem at_load_gv (ty : TypeId) {d : Option Tmp} {x : Operand} {t : TypeId} {p : String} {af : Array Edge} {i : Nat} {bb : Bool} (h : wpList P ops Q (⟨d, .load ty x, t, p, af, some (i, bb)⟩ :: rest) a w) : wpList P ops Q (⟨d, .load ty x, t, p, af, some (i, bb)⟩ :: rest) a w := h
theorem load_val_g {ty t tb : TypeId} {x : Operand} {d : Option Tmp} {p : String} {af : Array Edge} {g o i : Nat} {bb : Bool} {cs : Array Value} {c : Cv} {td : TypeDesc} (hw : Region.wanted ⟨d, .load ty x, t, p, af, some (i, bb)⟩ (yielded ops a.tmps) = true) (hu : P.underlying ty = some td) (hd : td.isRow = true) (hx : a.eval x = .pointer (some ⟨g, o, none⟩)) (hB : Blk w g tb cs) (hi : (P.info? ty).map (·.size) = some 5)
    (hget : ∀ j v, c.cells.toList[j]? = some v → cs[o + j]? = some v) (h : wpList P ops Q rest (a.put d c.agg) w) : wpList P ops Q (⟨d, .load ty x, t, p, af, some (i, bb)⟩ :: rest) a w := by
  show if _ then _ ∨ _ else _
  rw [if_pos hw]
  exact .inl (wp_load_mid ty x rfl g o hx c.cells.toList td (fun j v hv => by rw [hB.cell]; exact hget j v hv) hu hd hi h)
end
/-- A request lies in the world. -/
def RqIn (w : World) (q : Rq) (u : Value) : Prop := ∃ ck cl ch cx, u = .agg (rqCells q.do_ q.coll q.index q.path q.unique ck cl ch cx q.n) ∧ In w q.key ck ∧ In w q.low cl ∧ In w q.high ch ∧ In w q.doc cx
theorem RqIn.grow {w w' : World} {q : Rq} {u : Value} (h : RqIn w q u) (hg : Grow w w') : RqIn w' q u := by
  obtain ⟨ck, cl, ch, cx, rfl, h1, h2, h3, h4⟩ := h
  exact ⟨ck, cl, ch, cx, rfl, h1.grow hg, h2.grow hg, h3.grow hg, h4.grow hg⟩
theorem RqIn.zero (w : World) : RqIn w Rq.zero (.agg zeroQ) := ⟨Cv.zero, Cv.zero, Cv.zero, Cv.zero, rfl, In.zero_ w, In.zero_ w, In.zero_ w, In.zero_ w⟩

set_option maxRecDepth 100000 in
set_option maxHeartbeats 3200000 in
theorem rq_same (q : Rq) (u v : Value) (w : World) (hu : RqIn w q u) (hv : RqIn w q v) :
    Calls Tryd.prog 30 #[u, v] w fun e w' => e = .returned (.bool true) ∧ Grow w w' := by
  obtain ⟨ak, al, ah, ax, rfl, a1, a2, a3, a4⟩ := hu
  obtain ⟨bk, bl, bh, bx, rfl, b1, b2, b3, b4⟩ := hv
  obtain ⟨d, hd⟩ : ∃ d, q.do_ = d := ⟨_, rfl⟩
  obtain ⟨N, hN⟩ : ∃ d, q.n = d := ⟨_, rfl⟩
  obtain ⟨tc, htc⟩ : ∃ d, q.coll = d := ⟨_, rfl⟩
  obtain ⟨ti, hti⟩ : ∃ d, q.index = d := ⟨_, rfl⟩
  obtain ⟨tp, htp⟩ : ∃ d, q.path = d := ⟨_, rfl⟩
  obtain ⟨ub, hub⟩ : ∃ d, q.unique = d := ⟨_, rfl⟩
  rw [hd, hN, htc, hti, htp, hub]
  have HB1 := hide ((Blk.new w 49 (rqCells d tc ti tp ub ak al ah ax N)).alloc (.cells (rqCells d tc ti tp ub bk bl bh bx N) 49))
  have HB2 := hide (show Blk ((w.alloc (.cells (rqCells d tc ti tp ub ak al ah ax N) 49)).alloc (.cells (rqCells d tc ti tp ub bk bl bh bx N) 49)) (w.heap.size + 1) 49 (rqCells d tc ti tp ub bk bl bh bx N) from Blk.new' (by simp) _ _)
  have hg0 := ((Grow.refl w).alloc (.cells (rqCells d tc ti tp ub ak al ah ax N) 49)).alloc (.cells (rqCells d tc ti tp ub bk bl bh bx N) 49)
  have HG0 := hide hg0
  have HA := hide (show In _ q.key ak ∧ In _ q.low al ∧ In _ q.high ah ∧ In _ q.doc ax from ⟨a1.grow hg0, a2.grow hg0, a3.grow hg0, a4.grow hg0⟩)
  have HB := hide (show In _ q.key bk ∧ In _ q.low bl ∧ In _ q.high bh ∧ In _ q.doc bx from ⟨b1.grow hg0, b2.grow hg0, b3.grow hg0, b4.grow hg0⟩)
  have hc1 := HB1.out.cell
  have hc2 := HB2.out.cell
  clear hd hN htc hti htp hub a1 a2 a3 a4 b1 b2 b3 b4 hg0
  go_enter Tryd.func30, Tryd.ntmps30
  go_wp2_with (first
    | ((with_reducible refine at_load_gv (x := .tmp 46) 47 ?_); refine load_val_g (g := w.heap.size) (o := 5) (c := ak) ?_ Tryd.underlying47 rfl rfl HB1.out info_val (rq_key _ _ _ _ _ _ _ _ _ _) ?_)
    | ((with_reducible refine at_load_gv (x := .tmp 48) 47 ?_); refine load_val_g (g := w.heap.size) (o := 10) (c := al) ?_ Tryd.underlying47 rfl rfl HB1.out info_val (rq_low _ _ _ _ _ _ _ _ _ _) ?_)
    | ((with_reducible refine at_load_gv (x := .tmp 50) 47 ?_); refine load_val_g (g := w.heap.size) (o := 15) (c := ah) ?_ Tryd.underlying47 rfl rfl HB1.out info_val (rq_high _ _ _ _ _ _ _ _ _ _) ?_)
    | ((with_reducible refine at_load_gv (x := .tmp 52) 47 ?_); refine load_val_g (g := w.heap.size) (o := 20) (c := ax) ?_ Tryd.underlying47 rfl rfl HB1.out info_val (rq_doc _ _ _ _ _ _ _ _ _ _) ?_)
    | ((with_reducible refine at_load_gv (x := .tmp 55) 47 ?_); refine load_val_g (g := w.heap.size + 1) (o := 5) (c := bk) ?_ Tryd.underlying47 rfl rfl HB2.out info_val (rq_key _ _ _ _ _ _ _ _ _ _) ?_)
    | ((with_reducible refine at_load_gv (x := .tmp 57) 47 ?_); refine load_val_g (g := w.heap.size + 1) (o := 10) (c := bl) ?_ Tryd.underlying47 rfl rfl HB2.out info_val (rq_low _ _ _ _ _ _ _ _ _ _) ?_)
    | ((with_reducible refine at_load_gv (x := .tmp 59) 47 ?_); refine load_val_g (g := w.heap.size + 1) (o := 15) (c := bh) ?_ Tryd.underlying47 rfl rfl HB2.out info_val (rq_high _ _ _ _ _ _ _ _ _ _) ?_)
    | ((with_reducible refine at_load_gv (x := .tmp 61) 47 ?_); refine load_val_g (g := w.heap.size + 1) (o := 20) (c := bx) ?_ Tryd.underlying47 rfl rfl HB2.out info_val (rq_doc _ _ _ _ _ _ _ _ _ _) ?_))
  have halA := (Grow.refl ((w.alloc (.cells (rqCells d tc ti tp ub ak al ah ax N) 49)).alloc (.cells (rqCells d tc ti tp ub bk bl bh bx N) 49))).alloc (.cells (quad ak al ah ax) 47)
  have halB := halA.alloc (.cells (quad bk bl bh bx) 47)
  have HLA := quad_at (show Blk (((w.alloc (.cells (rqCells d tc ti tp ub ak al ah ax N) 49)).alloc (.cells (rqCells d tc ti tp ub bk bl bh bx N) 49)).alloc (.cells (quad ak al ah ax) 47)) (w.heap.size + 1 + 1) 47 (quad ak al ah ax) from Blk.new' (by simp) _ _) (HA.out.1.grow halA) (HA.out.2.1.grow halA) (HA.out.2.2.1.grow halA) (HA.out.2.2.2.grow halA)
  have HLB := quad_at (show Blk ((((w.alloc (.cells (rqCells d tc ti tp ub ak al ah ax N) 49)).alloc (.cells (rqCells d tc ti tp ub bk bl bh bx N) 49)).alloc (.cells (quad ak al ah ax) 47)).alloc (.cells (quad bk bl bh bx) 47)) (w.heap.size + 1 + 1 + 1) 47 (quad bk bl bh bx) from Blk.new' (by simp) _ _) (HB.out.1.grow halB) (HB.out.2.1.grow halB) (HB.out.2.2.1.grow halB) (HB.out.2.2.2.grow halB)
  have HC := hide (list_same [q.key, q.low, q.high, q.doc] _ _ 4 4 _ (HLA.grow ((Grow.refl _).alloc _)) HLB)
  have HG1 := hide (HG0.out.trans halB)
  clear HLA HLB halA halB hc1 hc2
  refine HC.out.mono ?_
  rintro e w2 ⟨rfl, hg⟩
  have HG2 := hide (HG1.out.trans hg)
  clear hg
  go_wp2_with fail
  go_ret
  exact ⟨rfl, HG2.out⟩
end Go.Proofs.YtojpeiihkjpeoaaDoor
