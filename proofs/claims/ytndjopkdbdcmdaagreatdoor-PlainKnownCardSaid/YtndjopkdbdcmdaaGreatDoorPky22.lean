/- The closed law PlainKnown holds: chapter 15's examples. Conditions: the row's own (the listed tables read as their initialisers lay them; the card ties them to the program's text). -/
import Derived.Test.YtndjopkdbdcmdaaGreatDoorPky21
import Derived.Test.YtndjopkdbdcmdaaGreatDoorPky23
set_option linter.unusedVariables false
set_option linter.unusedSimpArgs false
set_option maxRecDepth 100000
set_option maxHeartbeats 12800000
namespace Go.Proofs.YtndjopkdbdcmdaaGreatDoor
section
open Go.RowKit
theorem Bare.state {w : World} {g : Nat} {T : TypeId} {A : Option Addr} {l c : Nat} (ho : Blk w g T #[.slice A l c]) : Bare w (fun q => q = g) := by
 intro p u hp hc;obtain ⟨g', o, pr⟩ := p;have hp' : g' = g := hp;subst hp'
 cases pr with
 | some x =>
  unfold World.cell? at hc;rw [show w.heap[g']? = _ from ho] at hc;simp at hc
 | none =>
  rw [ho.cell] at hc;have ho : o < 1 := by
   rcases Nat.lt_or_ge o 1 with h | h
   ·exact h
   rw [Array.getElem?_eq_none (by simpa using h)] at hc; cases hc
  obtain rfl : o = 0 := by omega
  cases hc
  refine ⟨fun n h => ?_, fun n h => ?_, fun s h => ?_⟩ <;> cases h
structure D2 (W0 : World) (st : List Co) (r : Rp) (d5 d9 d10 d11 d12 : Bool) (y1 y2 y3 y4 : Value) (W : World) : Prop where
 g : Grow W0 W
 res : d5 = true → ∃ A c dA dc, y1 = .agg #[.slice A st.length c] ∧ y2 = .agg (rpCells r.e r.n dA r.docs.length dc r.cursor) ∧ StIn W A c st ∧ InL W dA dc r.docs ∧
  (d9 = true → d11 = true → ∃ g, y3 = .pointer (some ⟨g, 0, none⟩) ∧ Blk W g 44 #[.slice A st.length c]) ∧ (d10 = true → d12 = true → ∃ g, y4 = .pointer (some ⟨g, 0, none⟩) ∧ Blk W g 31 (rpCells r.e r.n dA r.docs.length dc r.cursor))
 bs : d9 = true → ∃ g, y3 = .pointer (some ⟨g, 0, none⟩) ∧ W0.heap.size ≤ g ∧ g < W.heap.size ∧ (d11 = false → Blk W g 44 #[.slice none 0 0])
 br : d10 = true → ∃ g, y4 = .pointer (some ⟨g, 0, none⟩) ∧ W0.heap.size ≤ g ∧ g < W.heap.size ∧ (d12 = false → Blk W g 31 #[.int .i64 0, .int .i64 0, .slice none 0 0, .int .i64 0])
 ne : d9 = true → d10 = true → y3 ≠ y4
section
variable {W0 W W' : World} {st : List Co} {r : Rp} {d5 d9 d10 d11 d12 : Bool} {y1 y2 y3 y4 : Value}
theorem D2.start (W0 : World) : D2 W0 st r false false false false false undef undef undef undef W0 := ⟨Grow.refl _, fun e => (by cases e), fun e => (by cases e), fun e => (by cases e), fun e => (by cases e)⟩
theorem D2.grow (h : D2 W0 st r d5 d9 d10 d11 d12 y1 y2 y3 y4 W) (hg : Grow W W') : D2 W0 st r d5 d9 d10 d11 d12 y1 y2 y3 y4 W' := by
 refine ⟨h.g.trans hg, fun e => ?_, fun e => ?_, fun e => ?_, h.ne⟩
 ·obtain ⟨A, c, dA, dc, r1, r2, r3, r4, r5, r6⟩ := h.res e;refine ⟨A, c, dA, dc, r1, r2, r3.grow hg, r4.grow hg, fun e1 e2 => ?_, fun e1 e2 => ?_⟩
  ·obtain ⟨g, k1, k2⟩ := r5 e1 e2; exact ⟨g, k1, k2.grow hg⟩
  obtain ⟨g, k1, k2⟩ := r6 e1 e2; exact ⟨g, k1, k2.grow hg⟩
 ·obtain ⟨g, k1, k2, k3, k4⟩ := h.bs e; exact ⟨g, k1, k2, Nat.lt_of_lt_of_le k3 hg.size, fun e => (k4 e).grow hg⟩
 obtain ⟨g, k1, k2, k3, k4⟩ := h.br e; exact ⟨g, k1, k2, Nat.lt_of_lt_of_le k3 hg.size, fun e => (k4 e).grow hg⟩
theorem D2.call (h : D2 W0 st r false d9 d10 false false y1 y2 y3 y4 W) (hg : Grow W W') {A dA : Option Addr} {c dc : Nat} (hs : StIn W' A c st) (hd : InL W' dA dc r.docs) : D2 W0 st r true d9 d10 false false (.agg #[.slice A st.length c]) (.agg (rpCells r.e r.n dA r.docs.length dc r.cursor)) y3 y4 W' := by
 have h' := h.grow hg;exact ⟨h'.g, fun _ => ⟨A, c, dA, dc, rfl, rfl, hs, hd, fun _ e => (by cases e), fun _ e => (by cases e)⟩, h'.bs, h'.br, h'.ne⟩
theorem D2.mk9 (h : D2 W0 st r d5 false d10 false d12 y1 y2 y3 y4 W) : D2 W0 st r d5 true d10 false d12 y1 y2 (.pointer (some ⟨W.heap.size, 0, none⟩)) y4 (W.alloc (.cells #[.slice none 0 0] 44)) := by
 have h' := h.grow ((Grow.refl W).alloc (.cells #[.slice none 0 0] 44));refine ⟨h'.g, fun e => ?_, fun _ => ⟨_, rfl, h.g.size, by simp, fun _ => Blk.new _ _ _⟩, h'.br, fun _ e q => ?_⟩
 ·obtain ⟨A, c, dA, dc, r1, r2, r3, r4, r5, r6⟩ := h'.res e;exact ⟨A, c, dA, dc, r1, r2, r3, r4, fun _ e => (by cases e), r6⟩
 obtain ⟨g, k1, k2, k3, k4⟩ := h.br e;rw [k1] at q;injection q with q; injection q with q; injection q with q;omega
theorem D2.mk10 (h : D2 W0 st r d5 d9 false d11 false y1 y2 y3 y4 W) : D2 W0 st r d5 d9 true d11 false y1 y2 y3 (.pointer (some ⟨W.heap.size, 0, none⟩)) (W.alloc (.cells #[.int .i64 0, .int .i64 0, .slice none 0 0, .int .i64 0] 31)) := by
 have h' := h.grow ((Grow.refl W).alloc (.cells #[.int .i64 0, .int .i64 0, .slice none 0 0, .int .i64 0] 31));refine ⟨h'.g, fun e => ?_, h'.bs, fun _ => ⟨_, rfl, h.g.size, by simp, fun _ => Blk.new _ _ _⟩, fun e _ q => ?_⟩
 ·obtain ⟨A, c, dA, dc, r1, r2, r3, r4, r5, r6⟩ := h'.res e;exact ⟨A, c, dA, dc, r1, r2, r3, r4, r5, fun _ e => (by cases e)⟩
 obtain ⟨g, k1, k2, k3, k4⟩ := h.bs e;rw [k1] at q;injection q with q; injection q with q; injection q with q;omega
theorem D2.mk11 (h : D2 W0 st r true true d10 false d12 y1 y2 y3 y4 W) {g : Nat} (h3 : y3 = .pointer (some ⟨g, 0, none⟩)) {A : Option Addr} {c : Nat} (h1 : y1 = .agg #[.slice A st.length c]) : D2 W0 st r true true d10 true d12 y1 y2 y3 y4 (W.setCell ⟨g, 0, none⟩ (.slice A st.length c)) := by
 obtain ⟨g', k1, k2, k3, k4⟩ := h.bs rfl;rw [h3] at k1;injection k1 with k1; injection k1 with k1; injection k1 with k1;subst k1;have hb := k4 rfl;have hk : Kept (fun q => q = g) W (W.setCell ⟨g, 0, none⟩ (.slice A st.length c)) := (Kept.refl (S := fun q => q = g) W).set (p := ⟨g, 0, none⟩) rfl _;obtain ⟨A', c', dA, dc, r1, r2, r3, r4, r5, r6⟩ := h.res rfl;rw [h1] at r1;simp at r1;obtain ⟨rfl, rfl⟩ := r1;have hne : ∀ g2, d10 = true → y4 = .pointer (some ⟨g2, 0, none⟩) → ¬ g2 = g := fun g2 e q e2 => h.ne rfl e (by rw [h3, q, e2])
 refine ⟨h.g.below.trans (hk.below h.g.size (fun q hq => hq ▸ k2)), fun _ => ⟨A, c, dA, dc, h1, r2, r3.bare (Bare.state hb) hk, r4.bare (Bare.state hb) hk, fun _ _ => ⟨g, h3, hb.set_ 0 _⟩, fun e1 e2 => ?_⟩, fun _ => ⟨g, h3, k2, Nat.lt_of_lt_of_le k3 hk.size, fun e => (by cases e)⟩, fun e => ?_, h.ne⟩
 ·obtain ⟨g2, q1, q2⟩ := r6 e1 e2; exact ⟨g2, q1, hk.blk q2 (hne g2 e1 q1)⟩
 obtain ⟨g2, q1, q2, q3, q4⟩ := h.br e; exact ⟨g2, q1, q2, Nat.lt_of_lt_of_le q3 hk.size, fun e' => hk.blk (q4 e') (hne g2 e q1)⟩
theorem D2.mk12 (h : D2 W0 st r true d9 true d11 false y1 y2 y3 y4 W) {g : Nat} (h3 : y4 = .pointer (some ⟨g, 0, none⟩)) {dA : Option Addr} {dc : Nat} (h1 : y2 = .agg (rpCells r.e r.n dA r.docs.length dc r.cursor)) :
 D2 W0 st r true d9 true d11 true y1 y2 y3 y4 ((((W.setCell ⟨g, 0, none⟩ (.int .i64 r.e)).setCell ⟨g, 1, none⟩ (.int .i64 r.n)).setCell ⟨g, 2, none⟩ (.slice dA r.docs.length dc)).setCell ⟨g, 3, none⟩ (.int .i64 r.cursor)) := by
 obtain ⟨g', k1, k2, k3, k4⟩ := h.br rfl;rw [h3] at k1;injection k1 with k1; injection k1 with k1; injection k1 with k1;subst k1;have hb := k4 rfl;have hk : Kept (fun q => q = g) W ((((W.setCell ⟨g, 0, none⟩ (.int .i64 r.e)).setCell ⟨g, 1, none⟩ (.int .i64 r.n)).setCell ⟨g, 2, none⟩ (.slice dA r.docs.length dc)).setCell ⟨g, 3, none⟩ (.int .i64 r.cursor)) :=
  ((((Kept.refl (S := fun q => q = g) W).set (p := ⟨g, 0, none⟩) rfl _).set (p := ⟨g, 1, none⟩) rfl _).set (p := ⟨g, 2, none⟩) rfl _).set (p := ⟨g, 3, none⟩) rfl _
 obtain ⟨A, c, dA', dc', r1, r2, r3, r4, r5, r6⟩ := h.res rfl;rw [h1] at r2;simp at r2;obtain ⟨rfl, rfl⟩ := r2;have hne : ∀ g2, d9 = true → y3 = .pointer (some ⟨g2, 0, none⟩) → ¬ g2 = g := fun g2 e q e2 => h.ne e rfl (by rw [h3, q, e2])
 refine ⟨h.g.below.trans (hk.below h.g.size (fun q hq => hq ▸ k2)), fun _ => ⟨A, c, dA, dc, r1, h1, r3.bare (Bare.reply hb) hk, r4.bare (Bare.reply hb) hk, fun e1 e2 => ?_, fun _ _ => ⟨g, h3, (((hb.set_ 0 _).set_ 1 _).set_ 2 _).set_ 3 _⟩⟩, fun e => ?_, fun _ => ⟨g, h3, k2, Nat.lt_of_lt_of_le k3 hk.size, fun e => (by cases e)⟩, h.ne⟩
 ·obtain ⟨g2, q1, q2⟩ := r5 e1 e2; exact ⟨g2, q1, hk.blk q2 (hne g2 e1 q1)⟩
 obtain ⟨g2, q1, q2, q3, q4⟩ := h.bs e; exact ⟨g2, q1, q2, Nat.lt_of_lt_of_le q3 hk.size, fun e' => hk.blk (q4 e') (hne g2 e q1)⟩
theorem D2.done (h : D2 W0 st r true true true true true y1 y2 y3 y4 W) : ∃ A c dA dc gs gr, y1 = .agg #[.slice A st.length c] ∧ y2 = .agg (rpCells r.e r.n dA r.docs.length dc r.cursor) ∧ y3 = .pointer (some ⟨gs, 0, none⟩) ∧ y4 = .pointer (some ⟨gr, 0, none⟩) ∧ W0.heap.size ≤ gs ∧ W0.heap.size ≤ gr ∧ gs ≠ gr ∧ Grow W0 W ∧
 Blk W gs 44 #[.slice A st.length c] ∧ Blk W gr 31 (rpCells r.e r.n dA r.docs.length dc r.cursor) ∧ StIn W A c st ∧ InL W dA dc r.docs := by
 obtain ⟨A, c, dA, dc, r1, r2, r3, r4, r5, r6⟩ := h.res rfl;obtain ⟨gs, s1, s2⟩ := r5 rfl rfl;obtain ⟨gr, t1, t2⟩ := r6 rfl rfl;obtain ⟨g, k1, k2, -⟩ := h.bs rfl;obtain ⟨g', l1, l2, -⟩ := h.br rfl;have e1 : g = gs := by rw [s1] at k1; injection k1 with k1; injection k1 with k1; injection k1 with k1; exact k1.symm
 have e2 : g' = gr := by rw [t1] at l1; injection l1 with l1; injection l1 with l1; injection l1 with l1; exact l1.symm
 subst e1 e2;exact ⟨A, c, dA, dc, g, g', r1, r2, s1, t1, k2, l2, fun e => h.ne rfl rfl (by rw [s1, t1, e]), h.g, s2, t2, r3, r4⟩
end
end
section
open Go.RowKit
def DoR (w : World) (st : List Co) (r : Rp) (e : Ending) (w' : World) : Prop :=
 Grow w w' ∧ ∃ A c dA dc, e = .returned (.tuple #[.agg #[.slice A st.length c], .agg (rpCells r.e r.n dA r.docs.length dc r.cursor)]) ∧ StIn w' A c st ∧ InL w' dA dc r.docs
theorem do_eq (N cap : Nat) (A : Option Addr) (st st' : List Co) (r : Rp) (q : Rq) (ck cl ch cx : Cv) (w : World) (hst : StIn w A cap st) (hok : StOk N st) (hN : N ≤ 1000000) (hR : RqOk q) (hT : Tabs w) (hM : Len1 w)
 (hk : In w q.key ck) (hl : In w q.low cl) (hh : In w q.high ch) (hx : In w q.doc cx) (h : doP st q = (st', r)) :
 Calls Tryz.prog 18 #[.agg #[.slice A st.length cap], .agg (rqCells q.do_ q.coll q.index q.path q.unique ck cl ch cx q.n)] w (DoR w st' r) := by
 refine (do_any N cap A st q ck cl ch cx w hst hok hN hR (fun W hg => ⟨hT.grow hg, hM.grow hg⟩) hk hl hh hx).mono ?_;intro e w' hd;unfold DoC at hd;rw [h] at hd;exact hd
theorem isv_zero {C : Addr → Value → Prop} : IsV C V.zero Cv.zero := by
 unfold V.zero;rw [IsV];exact ⟨rfl, rfl, rfl, rfl, rfl, by decide, by decide, by decide, by simp, by simp, by simp, by simp, by simp, by simp, ⟨rfl, fun h => by simp at h⟩, fun i hi => by simp at hi, fun i hi => by simp at hi⟩
theorem zeroV_count : V.zero.count ≤ 20000 := by unfold V.zero; rw [V.count_mk]; decide
theorem dV_count (i x : Nat) : (dV i x).count ≤ 20000 := by unfold dV; rw [V.count_mk]; simp [iV_count]
theorem bV_count (i : Nat) : (bV i).count ≤ 20000 := by unfold bV; rw [V.count_mk]; simp [iV_count]
theorem xV_count (i : Nat) : (xV i).count ≤ 20000 := by unfold xV; rw [V.count_mk]; simp [iV_count]
theorem zeroV_fit : V.zero.fit := by unfold V.zero; rw [V.fit]; exact ⟨by decide, fun x h => by simp at h, fun x h => by simp at h⟩
theorem rq0_ok (d : Int) (c : ByteArray) : RqOk (rq0 d c) := ⟨zeroV_count, zeroV_count, zeroV_count, zeroV_count, zeroV_fit⟩
theorem rqD_ok (d : Int) (c : ByteArray) {x : V} (h : x.count ≤ 20000) (hf : x.fit) : RqOk (rqD d c x) := ⟨zeroV_count, zeroV_count, zeroV_count, h, hf⟩
theorem InL.oneL {w : World} {v : V} {c : Cv} (h : In w v c) : InL (w.alloc (.cells c.cells 27)) (some ⟨w.heap.size, 0, none⟩) 1 [v] := by
 have hg := (Grow.refl w).alloc (.cells c.cells 27);have hB := Blk.new w 27 c.cells;have h' := h.grow hg;have hlt := hB.lt;unfold InL In;rw [IsV];refine ⟨rfl, rfl, rfl, rfl, rfl, by decide, by decide, by decide, by simp, by simp, by simp, by simp, by simp, by simp, ⟨rfl, fun h => by simp at h⟩, fun i hi => ?_, fun i hi => by simp at hi⟩;obtain rfl : i = 0 := by simp at hi; omega
 exact ⟨w.heap.size, 0, c, rfl, ⟨⟨hB.cell 0, Nat.zero_le _, hlt⟩, ⟨hB.cell 1, Nat.zero_le _, hlt⟩, ⟨hB.cell 2, Nat.zero_le _, hlt⟩, ⟨hB.cell 3, Nat.zero_le _, hlt⟩, ⟨hB.cell 4, Nat.zero_le _, hlt⟩⟩, h'⟩
theorem StIn.at_ {w : World} {A : Option Addr} {cap : Nat} {st : List Co} (h : StIn w A cap st) (i : Nat) (hi : i < st.length) : ∃ bk o e, A = some ⟨bk, o, none⟩ ∧ bk < w.heap.size ∧ CoIn w e st[i] ∧ (∀ k v, e.cells.toList[k]? = some v → k < 3 → w.cell? ⟨bk, o + i * 3 + k, none⟩ = some v) := by
 obtain ⟨hc, es, h1, h2⟩ := h;have hel : i < es.length := by rw [h1.1]; exact hi
 obtain ⟨bk, o, hA, hcell⟩ := h2.2 (by omega);have hf : ∀ k v, es[i].cells.toList[k]? = some v → k < 3 → AtW w 0 w.heap.size ⟨bk, o + (i * 3 + k), none⟩ v := fun k v hv hk =>
  hcell (i * 3 + k) v (by rw [cellsC, fz_get _ 3 (fun _ => rfl) es i k hk es[i] (List.getElem?_eq_getElem hel)]; exact hv)
 refine ⟨bk, o, es[i], hA, (hf 0 _ rfl (by omega)).2.2, h1.at_ hel hi, fun k v hv hk => ?_⟩;rw [Nat.add_assoc];exact (hf k v hv hk).1
def E1 (b1 b2 : Bool) (ye yb : Value) (W : World) : Prop := b1 = true → b2 = false → ∃ A, ye = (dcv A 2).agg ∧ yb = .agg (rqCells 3 ⟨#[97]⟩ ⟨#[]⟩ ⟨#[]⟩ false Cv.zero Cv.zero Cv.zero (dcv A 2) 0) ∧ In W (dV 1 5) (dcv A 2)
theorem E1.grow {b1 b2 : Bool} {ye yb : Value} {W W' : World} (h : E1 b1 b2 ye yb W) (hg : Grow W W') : E1 b1 b2 ye yb W' := fun a b => by
 obtain ⟨A, h1, h2, h3⟩ := h a b;exact ⟨A, h1, h2, h3.grow hg⟩
theorem E1.overD {b1 d5 d9 d10 d11 d12 : Bool} {ye yb y1 y2 y3 y4 : Value} {W0 W : World} {st : List Co} {r : Rp} (h : D2 W0 st r d5 d9 d10 d11 d12 y1 y2 y3 y4 W) : E1 b1 true ye yb W := fun _ e => (by cases e)
theorem E1.none {b2 : Bool} {ye yb : Value} {W : World} : E1 false b2 ye yb W := fun e => (by cases e)
theorem pawake_any (w : World) (hT : Tabs w) (hM : Len1 w) : Calls Tryz.prog 13 #[] w fun e w' => e = .returned (.bool true) ∧ Grow w w' := by
 have HT := hide hT;have HM := hide hM;have H1 := hide (do_eq 0 0 none [] _ _ (rq0 1 nA) Cv.zero Cv.zero Cv.zero Cv.zero w (StIn.nil w) StOk.nil (by omega) (rq0_ok _ _) hT hM isv_zero isv_zero isv_zero isv_zero kn1);clear hT hM;go_enter Tryz.func13, Tryz.ntmps13;go_wp2_with fail;refine H1.out.mono ?_;rintro e w1 ⟨hg1, A1, c1, dA1, dc1, rfl, hst1, hdl1⟩;have HG1 := hide hg1;have HST1 := hide hst1;have HDL1 := hide hdl1;clear hg1 hst1 hdl1;have HB1 := hide ((Blk.new w1 44 #[.slice A1 (sX [] []).length c1]).alloc (.cells #[.int .i64 Rp.zero.e, .int .i64 Rp.zero.n, .slice dA1 Rp.zero.docs.length dc1, .int .i64 Rp.zero.cursor] 31));have HB2 := hide (Blk.new' (w := w1.alloc (.cells #[.slice A1 (sX [] []).length c1] 44)) (g := w1.heap.size + 1) (by simp) 31 (rpCells Rp.zero.e Rp.zero.n dA1 Rp.zero.docs.length dc1 Rp.zero.cursor))
 have HG2 := hide ((HG1.out.alloc (.cells #[.slice A1 (sX [] []).length c1] 44)).alloc (.cells #[.int .i64 Rp.zero.e, .int .i64 Rp.zero.n, .slice dA1 Rp.zero.docs.length dc1, .int .i64 Rp.zero.cursor] 31));have HST2 := hide (HST1.out.grow (((Grow.refl w1).alloc (.cells #[.slice A1 (sX [] []).length c1] 44)).alloc (.cells #[.int .i64 Rp.zero.e, .int .i64 Rp.zero.n, .slice dA1 Rp.zero.docs.length dc1, .int .i64 Rp.zero.cursor] 31)));have HDL2 := hide (HDL1.out.grow (((Grow.refl w1).alloc (.cells #[.slice A1 (sX [] []).length c1] 44)).alloc (.cells #[.int .i64 Rp.zero.e, .int .i64 Rp.zero.n, .slice dA1 Rp.zero.docs.length dc1, .int .i64 Rp.zero.cursor] 31)));have HOK1 := hide (show StOk 1 (sX [] []) from by have := doP_ok (q := rq0 1 nA) StOk.nil zeroV_fit zeroV_count; rwa [kn1] at this);go_wp2_with fail;refine wp_region_noPanic ?_
 refine wp_region_held_drew (S := fun w' => w'.cell? ⟨w1.heap.size, 0, none⟩ = some (.slice A1 (sX [] []).length c1)) (by kernel_rfl) ((HB1.out.grow (Grow.refl _).drew).cell 0) (fun hHeld => ?_);replace HB1 := hide (HB1.out.grow (Grow.refl _).drew);replace HB2 := hide (HB2.out.grow (Grow.refl _).drew);replace HG2 := hide (HG2.out.drew);replace HST2 := hide (HST2.out.grow (Grow.refl _).drew);replace HDL2 := hide (HDL2.out.grow (Grow.refl _).drew);generalize ((w1.alloc (.cells #[.slice A1 (sX [] []).length c1] 44)).alloc (.cells #[.int .i64 Rp.zero.e, .int .i64 Rp.zero.n, .slice dA1 Rp.zero.docs.length dc1, .int .i64 Rp.zero.cursor] 31)).drew = W0 at HB1 HB2 HG2 HST2 HDL2 hHeld ⊢;have HSW := hide (fun (W : World) (hg : Grow W0 W) => (HB1.out.grow hg).cell 0)
 have HDO := hide (fun (W : World) (hg : Grow W0 W) (A : Option Addr) (hx : In W (dV 1 5) (dcv A 2)) => do_eq 1 c1 A1 _ _ _ (rqD 3 nA (dV 1 5)) Cv.zero Cv.zero Cv.zero (dcv A 2) W (HST2.out.grow hg) HOK1.out (by omega) (rqD_ok _ _ (dV_count 1 5) (dV_fit (by decide) (by decide))) (HT.out.grow (HG2.out.trans hg)) (HM.out.grow (HG2.out.trans hg)) isv_zero isv_zero isv_zero hx kn2);refine tk_ 0 ?_
 try simp only [ly_]
 refine mergeA (σ := Bool × Bool × Bool × Bool × Bool × Bool × Value × Value × Value × Value × Value × Value × Value) (fun ⟨e1, d5, d9, d10, d11, d12, ye, yb, y0, y1, y2, y3, y4⟩ => cond e1 0 2 + cond d5 0 4 + cond d9 0 1 + cond d10 0 1 + cond d11 0 1 + cond d12 0 1) (fun ⟨e1, d5, d9, d10, d11, d12, ye, yb, y0, y1, y2, y3, y4⟩ => #[true, e1, e1, d5, d5, d5, d5, d9, d10, d11, d12]) (fun ⟨e1, d5, d9, d10, d11, d12, ye, yb, y0, y1, y2, y3, y4⟩ a => (fun a : Act => cond d10 (a.put (some 4) y4) a) ((fun a : Act => cond d9 (a.put (some 3) y3) a) ((fun a : Act => cond d5 ((((a.put (some 15) y0).put (some 11) y0).put (some 16) y1).put (some 17) y2) a) ((fun a : Act => cond e1 ((a.put (some 13) ye).put (some 14) yb) a) (a))))) (fun ⟨e1, d5, d9, d10, d11, d12, ye, yb, y0, y1, y2, y3, y4⟩ W => ((!d11 || (d5 && d9 && d10)) && (!d12 || d11) && (!d5 || e1)) = true ∧ E1 e1 d5 ye yb W ∧ D2 W0 (sX [dV 1 5] []) (Rp.zero) d5 d9 d10 d11 d12 y1 y2 y3 y4 W) ⟨false, false, false, false, false, false, undef, undef, undef, undef, undef, undef, undef⟩ rfl rfl (by rfl) ?_ ?_
 ·exact ⟨rfl, E1.none, D2.start W0⟩
 intro s W hI IH;obtain ⟨e1, d5, d9, d10, d11, d12, ye, yb, y0, y1, y2, y3, y4⟩ := s;dsimp only at hI
 cases e1 <;> cases d5 <;> cases d9 <;> cases d10 <;> cases d11 <;> cases d12 <;> first | exact absurd hI.1 (by decide) | skip
 ·show wpAnyH _ _ _ _ _ 10 #[true, false, false, false, false, false, false, false, false, false, false] _ _
  try simp only [lyc_, ly_]
  refine rr_ [1, 7, 8] ?_;refine rd1_ (fun K hK => ?_) ?_
  ·obtain ⟨-, hE, hD⟩ := hI;replace hD := hide hD;replace hE := hide hE;have hC := lDoc_val 1 5 1 5 rfl rfl (by decide) (by decide) W;go_simp;go_at_call 9;refine hC.mono ?_;rintro ee W3 ⟨Ae, rfl, hin, hg3⟩;have hD2 := hD.out.grow hg3;have hE2 : E1 true false (dcv Ae 2).agg (Value.agg (rqCells 3 ⟨#[97]⟩ ⟨#[]⟩ ⟨#[]⟩ false Cv.zero Cv.zero Cv.zero (dcv Ae 2) 0)) W3 := fun _ _ => ⟨Ae, rfl, rfl, hin.in_⟩
   have hI2 := And.intro (show ((!false || (false && false && false)) && (!false || false) && (!false || true)) = true from rfl) (And.intro hE2 hD2);refine hK.out _ _ (HSW.out _ hD2.g) (fun hHeld => ?_);clear hK K
   try simp only [lyc_, ly_]
   refine tk_ 2 ?_
   try simp only [ly_]
   have hIH := IH ⟨true, false, false, false, false, false, (dcv Ae 2).agg, (Value.agg (rqCells 3 ⟨#[97]⟩ ⟨#[]⟩ ⟨#[]⟩ false Cv.zero Cv.zero Cv.zero (dcv Ae 2) 0)), y0, y1, y2, y3, y4⟩ _ (show (8 : Nat) < 10 from by decide) hI2;dsimp only at hIH;simp only [lyc_, ly_] at hIH;exact hIH
  refine rd1_ (fun K hK => ?_) ?_
  ·obtain ⟨-, hE, hD⟩ := hI;replace hD := hide hD;replace hE := hide hE;go_simp;have hD2 := hD.out.mk9;have hE2 := hE.out.grow ((Grow.refl W).alloc (.cells #[.slice none 0 0] 44));have hI2 := And.intro (show ((!false || (false && true && false)) && (!false || false) && (!false || false)) = true from rfl) (And.intro hE2 hD2);refine hK.out _ _ (HSW.out _ hD2.g) (fun hHeld => ?_);clear hK K
   try simp only [lyc_, ly_]
   have hIH := IH ⟨false, false, true, false, false, false, ye, yb, y0, y1, y2, (Value.pointer (some ⟨W.heap.size, 0, none⟩)), y4⟩ _ (show (9 : Nat) < 10 from by decide) hI2;dsimp only at hIH;simp only [lyc_, ly_] at hIH;exact hIH
  refine rd1_ (fun K hK => ?_) AllReadyH.nil;obtain ⟨-, hE, hD⟩ := hI;replace hD := hide hD;replace hE := hide hE;go_simp;have hD2 := hD.out.mk10;have hE2 := hE.out.grow ((Grow.refl W).alloc (.cells #[.int .i64 0, .int .i64 0, .slice none 0 0, .int .i64 0] 31));have hI2 := And.intro (show ((!false || (false && false && true)) && (!false || false) && (!false || false)) = true from rfl) (And.intro hE2 hD2);refine hK.out _ _ (HSW.out _ hD2.g) (fun hHeld => ?_);clear hK K
  try simp only [lyc_, ly_]
  have hIH := IH ⟨false, false, false, true, false, false, ye, yb, y0, y1, y2, y3, (Value.pointer (some ⟨W.heap.size, 0, none⟩))⟩ _ (show (9 : Nat) < 10 from by decide) hI2;dsimp only at hIH;simp only [lyc_, ly_] at hIH;exact hIH
 ·show wpAnyH _ _ _ _ _ 9 #[true, false, false, false, false, false, false, false, true, false, false] _ _
  try simp only [lyc_, ly_]
  refine rr_ [1, 7] ?_;refine rd1_ (fun K hK => ?_) ?_
  ·obtain ⟨-, hE, hD⟩ := hI;replace hD := hide hD;replace hE := hide hE;have hC := lDoc_val 1 5 1 5 rfl rfl (by decide) (by decide) W;go_simp;go_at_call 9;refine hC.mono ?_;rintro ee W3 ⟨Ae, rfl, hin, hg3⟩;have hD2 := hD.out.grow hg3;have hE2 : E1 true false (dcv Ae 2).agg (Value.agg (rqCells 3 ⟨#[97]⟩ ⟨#[]⟩ ⟨#[]⟩ false Cv.zero Cv.zero Cv.zero (dcv Ae 2) 0)) W3 := fun _ _ => ⟨Ae, rfl, rfl, hin.in_⟩
   have hI2 := And.intro (show ((!false || (false && false && true)) && (!false || false) && (!false || true)) = true from rfl) (And.intro hE2 hD2);refine hK.out _ _ (HSW.out _ hD2.g) (fun hHeld => ?_);clear hK K
   try simp only [lyc_, ly_]
   refine tk_ 2 ?_
   try simp only [ly_]
   have hIH := IH ⟨true, false, false, true, false, false, (dcv Ae 2).agg, (Value.agg (rqCells 3 ⟨#[97]⟩ ⟨#[]⟩ ⟨#[]⟩ false Cv.zero Cv.zero Cv.zero (dcv Ae 2) 0)), y0, y1, y2, y3, y4⟩ _ (show (7 : Nat) < 9 from by decide) hI2;dsimp only at hIH;simp only [lyc_, ly_] at hIH;exact hIH
  refine rd1_ (fun K hK => ?_) AllReadyH.nil;obtain ⟨-, hE, hD⟩ := hI;replace hD := hide hD;replace hE := hide hE;go_simp;have hD2 := hD.out.mk9;have hE2 := hE.out.grow ((Grow.refl W).alloc (.cells #[.slice none 0 0] 44));have hI2 := And.intro (show ((!false || (false && true && true)) && (!false || false) && (!false || false)) = true from rfl) (And.intro hE2 hD2);refine hK.out _ _ (HSW.out _ hD2.g) (fun hHeld => ?_);clear hK K
  try simp only [lyc_, ly_]
  have hIH := IH ⟨false, false, true, true, false, false, ye, yb, y0, y1, y2, (Value.pointer (some ⟨W.heap.size, 0, none⟩)), y4⟩ _ (show (8 : Nat) < 9 from by decide) hI2;dsimp only at hIH;simp only [lyc_, ly_] at hIH;exact hIH
 ·show wpAnyH _ _ _ _ _ 9 #[true, false, false, false, false, false, false, true, false, false, false] _ _
  try simp only [lyc_, ly_]
  refine rr_ [1, 8] ?_;refine rd1_ (fun K hK => ?_) ?_
  ·obtain ⟨-, hE, hD⟩ := hI;replace hD := hide hD;replace hE := hide hE;have hC := lDoc_val 1 5 1 5 rfl rfl (by decide) (by decide) W;go_simp;go_at_call 9;refine hC.mono ?_;rintro ee W3 ⟨Ae, rfl, hin, hg3⟩;have hD2 := hD.out.grow hg3;have hE2 : E1 true false (dcv Ae 2).agg (Value.agg (rqCells 3 ⟨#[97]⟩ ⟨#[]⟩ ⟨#[]⟩ false Cv.zero Cv.zero Cv.zero (dcv Ae 2) 0)) W3 := fun _ _ => ⟨Ae, rfl, rfl, hin.in_⟩
   have hI2 := And.intro (show ((!false || (false && true && false)) && (!false || false) && (!false || true)) = true from rfl) (And.intro hE2 hD2);refine hK.out _ _ (HSW.out _ hD2.g) (fun hHeld => ?_);clear hK K
   try simp only [lyc_, ly_]
   refine tk_ 2 ?_
   try simp only [ly_]
   have hIH := IH ⟨true, false, true, false, false, false, (dcv Ae 2).agg, (Value.agg (rqCells 3 ⟨#[97]⟩ ⟨#[]⟩ ⟨#[]⟩ false Cv.zero Cv.zero Cv.zero (dcv Ae 2) 0)), y0, y1, y2, y3, y4⟩ _ (show (7 : Nat) < 9 from by decide) hI2;dsimp only at hIH;simp only [lyc_, ly_] at hIH;exact hIH
  refine rd1_ (fun K hK => ?_) AllReadyH.nil;obtain ⟨-, hE, hD⟩ := hI;replace hD := hide hD;replace hE := hide hE;go_simp;have hD2 := hD.out.mk10;have hE2 := hE.out.grow ((Grow.refl W).alloc (.cells #[.int .i64 0, .int .i64 0, .slice none 0 0, .int .i64 0] 31));have hI2 := And.intro (show ((!false || (false && true && true)) && (!false || false) && (!false || false)) = true from rfl) (And.intro hE2 hD2);refine hK.out _ _ (HSW.out _ hD2.g) (fun hHeld => ?_);clear hK K
  try simp only [lyc_, ly_]
  have hIH := IH ⟨false, false, true, true, false, false, ye, yb, y0, y1, y2, y3, (Value.pointer (some ⟨W.heap.size, 0, none⟩))⟩ _ (show (8 : Nat) < 9 from by decide) hI2;dsimp only at hIH;simp only [lyc_, ly_] at hIH;exact hIH
 ·show wpAnyH _ _ _ _ _ 8 #[true, false, false, false, false, false, false, true, true, false, false] _ _
  try simp only [lyc_, ly_]
  refine r1_ 1 (fun K hK => ?_);obtain ⟨-, hE, hD⟩ := hI;replace hD := hide hD;replace hE := hide hE;have hC := lDoc_val 1 5 1 5 rfl rfl (by decide) (by decide) W;go_simp;go_at_call 9;refine hC.mono ?_;rintro ee W3 ⟨Ae, rfl, hin, hg3⟩;have hD2 := hD.out.grow hg3;have hE2 : E1 true false (dcv Ae 2).agg (Value.agg (rqCells 3 ⟨#[97]⟩ ⟨#[]⟩ ⟨#[]⟩ false Cv.zero Cv.zero Cv.zero (dcv Ae 2) 0)) W3 := fun _ _ => ⟨Ae, rfl, rfl, hin.in_⟩
  have hI2 := And.intro (show ((!false || (false && true && true)) && (!false || false) && (!false || true)) = true from rfl) (And.intro hE2 hD2);refine hK.out _ _ (HSW.out _ hD2.g) (fun hHeld => ?_);clear hK K
  try simp only [lyc_, ly_]
  refine tk_ 2 ?_
  try simp only [ly_]
  have hIH := IH ⟨true, false, true, true, false, false, (dcv Ae 2).agg, (Value.agg (rqCells 3 ⟨#[97]⟩ ⟨#[]⟩ ⟨#[]⟩ false Cv.zero Cv.zero Cv.zero (dcv Ae 2) 0)), y0, y1, y2, y3, y4⟩ _ (show (6 : Nat) < 8 from by decide) hI2;dsimp only at hIH;simp only [lyc_, ly_] at hIH;exact hIH
 ·show wpAnyH _ _ _ _ _ 8 #[true, true, true, false, false, false, false, false, false, false, false] _ _
  try simp only [lyc_, ly_]
  refine rr_ [3, 7, 8] ?_;refine rd1_ (fun K hK => ?_) ?_
  ·obtain ⟨-, hE, hD⟩ := hI;replace hD := hide hD;replace hE := hide hE;obtain ⟨Ae, rfl, rfl, hin⟩ := hE.out rfl rfl;have hC := HDO.out W hD.out.g Ae hin;go_simp;go_at_call 18;refine hC.mono ?_;rintro ee W3 ⟨hg3, Aq, cq, dAq, dcq, rfl, hs3, hd3⟩;have hD2 := hD.out.call hg3 hs3 hd3;have hE2 := E1.overD (b1 := true) (ye := (dcv Ae 2).agg) (yb := (Value.agg (rqCells 3 ⟨#[97]⟩ ⟨#[]⟩ ⟨#[]⟩ false Cv.zero Cv.zero Cv.zero (dcv Ae 2) 0))) hD2;have hI2 := And.intro (show ((!false || (true && false && false)) && (!false || false) && (!true || true)) = true from rfl) (And.intro hE2 hD2);refine hK.out _ _ (HSW.out _ hD2.g) (fun hHeld => ?_);clear hK K
   try simp only [lyc_, ly_]
   refine tk_ 4 ?_
   try simp only [ly_]
   refine tk_ 5 ?_
   try simp only [ly_]
   refine tk_ 6 ?_
   try simp only [ly_]
   have hIH := IH ⟨true, true, false, false, false, false, (dcv Ae 2).agg, (Value.agg (rqCells 3 ⟨#[97]⟩ ⟨#[]⟩ ⟨#[]⟩ false Cv.zero Cv.zero Cv.zero (dcv Ae 2) 0)), (Value.tuple #[.agg #[.slice Aq (sX [dV 1 5] []).length cq], .agg (rpCells (Rp.zero).e (Rp.zero).n dAq (Rp.zero).docs.length dcq (Rp.zero).cursor)]), (Value.agg #[.slice Aq (sX [dV 1 5] []).length cq]), (Value.agg (rpCells (Rp.zero).e (Rp.zero).n dAq (Rp.zero).docs.length dcq (Rp.zero).cursor)), y3, y4⟩ _ (show (4 : Nat) < 8 from by decide) hI2;dsimp only at hIH;simp only [lyc_, ly_] at hIH;exact hIH
  refine rd1_ (fun K hK => ?_) ?_
  ·obtain ⟨-, hE, hD⟩ := hI;replace hD := hide hD;replace hE := hide hE;go_simp;have hD2 := hD.out.mk9;have hE2 := hE.out.grow ((Grow.refl W).alloc (.cells #[.slice none 0 0] 44));have hI2 := And.intro (show ((!false || (false && true && false)) && (!false || false) && (!false || true)) = true from rfl) (And.intro hE2 hD2);refine hK.out _ _ (HSW.out _ hD2.g) (fun hHeld => ?_);clear hK K
   try simp only [lyc_, ly_]
   have hIH := IH ⟨true, false, true, false, false, false, ye, yb, y0, y1, y2, (Value.pointer (some ⟨W.heap.size, 0, none⟩)), y4⟩ _ (show (7 : Nat) < 8 from by decide) hI2;dsimp only at hIH;simp only [lyc_, ly_] at hIH;exact hIH
  refine rd1_ (fun K hK => ?_) AllReadyH.nil;obtain ⟨-, hE, hD⟩ := hI;replace hD := hide hD;replace hE := hide hE;go_simp;have hD2 := hD.out.mk10;have hE2 := hE.out.grow ((Grow.refl W).alloc (.cells #[.int .i64 0, .int .i64 0, .slice none 0 0, .int .i64 0] 31));have hI2 := And.intro (show ((!false || (false && false && true)) && (!false || false) && (!false || true)) = true from rfl) (And.intro hE2 hD2);refine hK.out _ _ (HSW.out _ hD2.g) (fun hHeld => ?_);clear hK K
  try simp only [lyc_, ly_]
  have hIH := IH ⟨true, false, false, true, false, false, ye, yb, y0, y1, y2, y3, (Value.pointer (some ⟨W.heap.size, 0, none⟩))⟩ _ (show (7 : Nat) < 8 from by decide) hI2;dsimp only at hIH;simp only [lyc_, ly_] at hIH;exact hIH
 ·show wpAnyH _ _ _ _ _ 7 #[true, true, true, false, false, false, false, false, true, false, false] _ _
  try simp only [lyc_, ly_]
  refine rr_ [3, 7] ?_;refine rd1_ (fun K hK => ?_) ?_
  ·obtain ⟨-, hE, hD⟩ := hI;replace hD := hide hD;replace hE := hide hE;obtain ⟨Ae, rfl, rfl, hin⟩ := hE.out rfl rfl;have hC := HDO.out W hD.out.g Ae hin;go_simp;go_at_call 18;refine hC.mono ?_;rintro ee W3 ⟨hg3, Aq, cq, dAq, dcq, rfl, hs3, hd3⟩;have hD2 := hD.out.call hg3 hs3 hd3;have hE2 := E1.overD (b1 := true) (ye := (dcv Ae 2).agg) (yb := (Value.agg (rqCells 3 ⟨#[97]⟩ ⟨#[]⟩ ⟨#[]⟩ false Cv.zero Cv.zero Cv.zero (dcv Ae 2) 0))) hD2;have hI2 := And.intro (show ((!false || (true && false && true)) && (!false || false) && (!true || true)) = true from rfl) (And.intro hE2 hD2);refine hK.out _ _ (HSW.out _ hD2.g) (fun hHeld => ?_);clear hK K
   try simp only [lyc_, ly_]
   refine tk_ 4 ?_
   try simp only [ly_]
   refine tk_ 5 ?_
   try simp only [ly_]
   refine tk_ 6 ?_
   try simp only [ly_]
   have hIH := IH ⟨true, true, false, true, false, false, (dcv Ae 2).agg, (Value.agg (rqCells 3 ⟨#[97]⟩ ⟨#[]⟩ ⟨#[]⟩ false Cv.zero Cv.zero Cv.zero (dcv Ae 2) 0)), (Value.tuple #[.agg #[.slice Aq (sX [dV 1 5] []).length cq], .agg (rpCells (Rp.zero).e (Rp.zero).n dAq (Rp.zero).docs.length dcq (Rp.zero).cursor)]), (Value.agg #[.slice Aq (sX [dV 1 5] []).length cq]), (Value.agg (rpCells (Rp.zero).e (Rp.zero).n dAq (Rp.zero).docs.length dcq (Rp.zero).cursor)), y3, y4⟩ _ (show (3 : Nat) < 7 from by decide) hI2;dsimp only at hIH;simp only [lyc_, ly_] at hIH;exact hIH
  refine rd1_ (fun K hK => ?_) AllReadyH.nil;obtain ⟨-, hE, hD⟩ := hI;replace hD := hide hD;replace hE := hide hE;go_simp;have hD2 := hD.out.mk9;have hE2 := hE.out.grow ((Grow.refl W).alloc (.cells #[.slice none 0 0] 44));have hI2 := And.intro (show ((!false || (false && true && true)) && (!false || false) && (!false || true)) = true from rfl) (And.intro hE2 hD2);refine hK.out _ _ (HSW.out _ hD2.g) (fun hHeld => ?_);clear hK K
  try simp only [lyc_, ly_]
  have hIH := IH ⟨true, false, true, true, false, false, ye, yb, y0, y1, y2, (Value.pointer (some ⟨W.heap.size, 0, none⟩)), y4⟩ _ (show (6 : Nat) < 7 from by decide) hI2;dsimp only at hIH;simp only [lyc_, ly_] at hIH;exact hIH
 ·show wpAnyH _ _ _ _ _ 7 #[true, true, true, false, false, false, false, true, false, false, false] _ _
  try simp only [lyc_, ly_]
  refine rr_ [3, 8] ?_;refine rd1_ (fun K hK => ?_) ?_
  ·obtain ⟨-, hE, hD⟩ := hI;replace hD := hide hD;replace hE := hide hE;obtain ⟨Ae, rfl, rfl, hin⟩ := hE.out rfl rfl;have hC := HDO.out W hD.out.g Ae hin;go_simp;go_at_call 18;refine hC.mono ?_;rintro ee W3 ⟨hg3, Aq, cq, dAq, dcq, rfl, hs3, hd3⟩;have hD2 := hD.out.call hg3 hs3 hd3;have hE2 := E1.overD (b1 := true) (ye := (dcv Ae 2).agg) (yb := (Value.agg (rqCells 3 ⟨#[97]⟩ ⟨#[]⟩ ⟨#[]⟩ false Cv.zero Cv.zero Cv.zero (dcv Ae 2) 0))) hD2;have hI2 := And.intro (show ((!false || (true && true && false)) && (!false || false) && (!true || true)) = true from rfl) (And.intro hE2 hD2);refine hK.out _ _ (HSW.out _ hD2.g) (fun hHeld => ?_);clear hK K
   try simp only [lyc_, ly_]
   refine tk_ 4 ?_
   try simp only [ly_]
   refine tk_ 5 ?_
   try simp only [ly_]
   refine tk_ 6 ?_
   try simp only [ly_]
   have hIH := IH ⟨true, true, true, false, false, false, (dcv Ae 2).agg, (Value.agg (rqCells 3 ⟨#[97]⟩ ⟨#[]⟩ ⟨#[]⟩ false Cv.zero Cv.zero Cv.zero (dcv Ae 2) 0)), (Value.tuple #[.agg #[.slice Aq (sX [dV 1 5] []).length cq], .agg (rpCells (Rp.zero).e (Rp.zero).n dAq (Rp.zero).docs.length dcq (Rp.zero).cursor)]), (Value.agg #[.slice Aq (sX [dV 1 5] []).length cq]), (Value.agg (rpCells (Rp.zero).e (Rp.zero).n dAq (Rp.zero).docs.length dcq (Rp.zero).cursor)), y3, y4⟩ _ (show (3 : Nat) < 7 from by decide) hI2;dsimp only at hIH;simp only [lyc_, ly_] at hIH;exact hIH
  refine rd1_ (fun K hK => ?_) AllReadyH.nil;obtain ⟨-, hE, hD⟩ := hI;replace hD := hide hD;replace hE := hide hE;go_simp;have hD2 := hD.out.mk10;have hE2 := hE.out.grow ((Grow.refl W).alloc (.cells #[.int .i64 0, .int .i64 0, .slice none 0 0, .int .i64 0] 31));have hI2 := And.intro (show ((!false || (false && true && true)) && (!false || false) && (!false || true)) = true from rfl) (And.intro hE2 hD2);refine hK.out _ _ (HSW.out _ hD2.g) (fun hHeld => ?_);clear hK K
  try simp only [lyc_, ly_]
  have hIH := IH ⟨true, false, true, true, false, false, ye, yb, y0, y1, y2, y3, (Value.pointer (some ⟨W.heap.size, 0, none⟩))⟩ _ (show (6 : Nat) < 7 from by decide) hI2;dsimp only at hIH;simp only [lyc_, ly_] at hIH;exact hIH
 ·show wpAnyH _ _ _ _ _ 6 #[true, true, true, false, false, false, false, true, true, false, false] _ _
  try simp only [lyc_, ly_]
  refine r1_ 3 (fun K hK => ?_);obtain ⟨-, hE, hD⟩ := hI;replace hD := hide hD;replace hE := hide hE;obtain ⟨Ae, rfl, rfl, hin⟩ := hE.out rfl rfl;have hC := HDO.out W hD.out.g Ae hin;go_simp;go_at_call 18;refine hC.mono ?_;rintro ee W3 ⟨hg3, Aq, cq, dAq, dcq, rfl, hs3, hd3⟩;have hD2 := hD.out.call hg3 hs3 hd3;have hE2 := E1.overD (b1 := true) (ye := (dcv Ae 2).agg) (yb := (Value.agg (rqCells 3 ⟨#[97]⟩ ⟨#[]⟩ ⟨#[]⟩ false Cv.zero Cv.zero Cv.zero (dcv Ae 2) 0))) hD2;have hI2 := And.intro (show ((!false || (true && true && true)) && (!false || false) && (!true || true)) = true from rfl) (And.intro hE2 hD2);refine hK.out _ _ (HSW.out _ hD2.g) (fun hHeld => ?_);clear hK K
  try simp only [lyc_, ly_]
  refine tk_ 4 ?_
  try simp only [ly_]
  refine tk_ 5 ?_
  try simp only [ly_]
  refine tk_ 6 ?_
  try simp only [ly_]
  have hIH := IH ⟨true, true, true, true, false, false, (dcv Ae 2).agg, (Value.agg (rqCells 3 ⟨#[97]⟩ ⟨#[]⟩ ⟨#[]⟩ false Cv.zero Cv.zero Cv.zero (dcv Ae 2) 0)), (Value.tuple #[.agg #[.slice Aq (sX [dV 1 5] []).length cq], .agg (rpCells (Rp.zero).e (Rp.zero).n dAq (Rp.zero).docs.length dcq (Rp.zero).cursor)]), (Value.agg #[.slice Aq (sX [dV 1 5] []).length cq]), (Value.agg (rpCells (Rp.zero).e (Rp.zero).n dAq (Rp.zero).docs.length dcq (Rp.zero).cursor)), y3, y4⟩ _ (show (2 : Nat) < 6 from by decide) hI2;dsimp only at hIH;simp only [lyc_, ly_] at hIH;exact hIH
 ·show wpAnyH _ _ _ _ _ 4 #[true, true, true, true, true, true, true, false, false, false, false] _ _
  try simp only [lyc_, ly_]
  refine rr_ [7, 8] ?_;refine rd1_ (fun K hK => ?_) ?_
  ·obtain ⟨-, hE, hD⟩ := hI;replace hD := hide hD;replace hE := hide hE;go_simp;have hD2 := hD.out.mk9;have hE2 := hE.out.grow ((Grow.refl W).alloc (.cells #[.slice none 0 0] 44));have hI2 := And.intro (show ((!false || (true && true && false)) && (!false || false) && (!true || true)) = true from rfl) (And.intro hE2 hD2);refine hK.out _ _ (HSW.out _ hD2.g) (fun hHeld => ?_);clear hK K
   try simp only [lyc_, ly_]
   have hIH := IH ⟨true, true, true, false, false, false, ye, yb, y0, y1, y2, (Value.pointer (some ⟨W.heap.size, 0, none⟩)), y4⟩ _ (show (3 : Nat) < 4 from by decide) hI2;dsimp only at hIH;simp only [lyc_, ly_] at hIH;exact hIH
  refine rd1_ (fun K hK => ?_) AllReadyH.nil;obtain ⟨-, hE, hD⟩ := hI;replace hD := hide hD;replace hE := hide hE;go_simp;have hD2 := hD.out.mk10;have hE2 := hE.out.grow ((Grow.refl W).alloc (.cells #[.int .i64 0, .int .i64 0, .slice none 0 0, .int .i64 0] 31));have hI2 := And.intro (show ((!false || (true && false && true)) && (!false || false) && (!true || true)) = true from rfl) (And.intro hE2 hD2);refine hK.out _ _ (HSW.out _ hD2.g) (fun hHeld => ?_);clear hK K
  try simp only [lyc_, ly_]
  have hIH := IH ⟨true, true, false, true, false, false, ye, yb, y0, y1, y2, y3, (Value.pointer (some ⟨W.heap.size, 0, none⟩))⟩ _ (show (3 : Nat) < 4 from by decide) hI2;dsimp only at hIH;simp only [lyc_, ly_] at hIH;exact hIH
 ·show wpAnyH _ _ _ _ _ 3 #[true, true, true, true, true, true, true, false, true, false, false] _ _
  try simp only [lyc_, ly_]
  refine r1_ 7 (fun K hK => ?_);obtain ⟨-, hE, hD⟩ := hI;replace hD := hide hD;replace hE := hide hE;go_simp;have hD2 := hD.out.mk9;have hE2 := hE.out.grow ((Grow.refl W).alloc (.cells #[.slice none 0 0] 44));have hI2 := And.intro (show ((!false || (true && true && true)) && (!false || false) && (!true || true)) = true from rfl) (And.intro hE2 hD2);refine hK.out _ _ (HSW.out _ hD2.g) (fun hHeld => ?_);clear hK K
  try simp only [lyc_, ly_]
  have hIH := IH ⟨true, true, true, true, false, false, ye, yb, y0, y1, y2, (Value.pointer (some ⟨W.heap.size, 0, none⟩)), y4⟩ _ (show (2 : Nat) < 3 from by decide) hI2;dsimp only at hIH;simp only [lyc_, ly_] at hIH;exact hIH
 ·show wpAnyH _ _ _ _ _ 3 #[true, true, true, true, true, true, true, true, false, false, false] _ _
  try simp only [lyc_, ly_]
  refine r1_ 8 (fun K hK => ?_);obtain ⟨-, hE, hD⟩ := hI;replace hD := hide hD;replace hE := hide hE;go_simp;have hD2 := hD.out.mk10;have hE2 := hE.out.grow ((Grow.refl W).alloc (.cells #[.int .i64 0, .int .i64 0, .slice none 0 0, .int .i64 0] 31));have hI2 := And.intro (show ((!false || (true && true && true)) && (!false || false) && (!true || true)) = true from rfl) (And.intro hE2 hD2);refine hK.out _ _ (HSW.out _ hD2.g) (fun hHeld => ?_);clear hK K
  try simp only [lyc_, ly_]
  have hIH := IH ⟨true, true, true, true, false, false, ye, yb, y0, y1, y2, y3, (Value.pointer (some ⟨W.heap.size, 0, none⟩))⟩ _ (show (2 : Nat) < 3 from by decide) hI2;dsimp only at hIH;simp only [lyc_, ly_] at hIH;exact hIH
 ·show wpAnyH _ _ _ _ _ 2 #[true, true, true, true, true, true, true, true, true, false, false] _ _
  try simp only [lyc_, ly_]
  refine r1_ 9 (fun K hK => ?_);obtain ⟨-, hE, hD⟩ := hI;replace hD := hide hD;replace hE := hide hE;obtain ⟨Aq, cq, dAq, dcq, rfl, rfl, -⟩ := hD.out.res rfl;obtain ⟨gs, rfl, hg1, hg2, hb⟩ := hD.out.bs rfl;have hbc := (hb rfl).cell;have hbf := (hb rfl).frozen;go_simp;clear hbc hbf;have hD2 := hD.out.mk11 rfl rfl;have hE2 := E1.overD (b1 := true) (ye := ye) (yb := yb) hD2;have hI2 := And.intro (show ((!true || (true && true && true)) && (!false || true) && (!true || true)) = true from rfl) (And.intro hE2 hD2);refine hK.out _ _ (HSW.out _ hD2.g) (fun hHeld => ?_);clear hK K
  try simp only [lyc_, ly_]
  have hIH := IH ⟨true, true, true, true, true, false, ye, yb, y0, (Value.agg #[.slice Aq (sX [dV 1 5] []).length cq]), (Value.agg (rpCells (Rp.zero).e (Rp.zero).n dAq (Rp.zero).docs.length dcq (Rp.zero).cursor)), (Value.pointer (some ⟨gs, 0, none⟩)), y4⟩ _ (show (1 : Nat) < 2 from by decide) hI2;dsimp only at hIH;simp only [lyc_, ly_] at hIH;exact hIH
 ·show wpAnyH _ _ _ _ _ 1 #[true, true, true, true, true, true, true, true, true, true, false] _ _
  try simp only [lyc_, ly_]
  refine r1_ 10 (fun K hK => ?_);obtain ⟨-, hE, hD⟩ := hI;replace hD := hide hD;replace hE := hide hE;obtain ⟨Aq, cq, dAq, dcq, rfl, rfl, -⟩ := hD.out.res rfl;obtain ⟨gr, rfl, hg1, hg2, hb⟩ := hD.out.br rfl;have hbc := (hb rfl).cell;have hbf := (hb rfl).frozen;go_simp;clear hbc hbf;have hD2 := hD.out.mk12 rfl rfl;have hE2 := E1.overD (b1 := true) (ye := ye) (yb := yb) hD2;have hI2 := And.intro (show ((!true || (true && true && true)) && (!true || true) && (!true || true)) = true from rfl) (And.intro hE2 hD2);refine hK.out _ _ (HSW.out _ hD2.g) (fun hHeld => ?_);clear hK K
  try simp only [lyc_, ly_]
  have hIH := IH ⟨true, true, true, true, true, true, ye, yb, y0, (Value.agg #[.slice Aq (sX [dV 1 5] []).length cq]), (Value.agg (rpCells (Rp.zero).e (Rp.zero).n dAq (Rp.zero).docs.length dcq (Rp.zero).cursor)), y3, (Value.pointer (some ⟨gr, 0, none⟩))⟩ _ (show (0 : Nat) < 1 from by decide) hI2;dsimp only at hIH;simp only [lyc_, ly_] at hIH;exact hIH
 show wpAnyH _ _ _ _ _ 0 #[true, true, true, true, true, true, true, true, true, true, true] _ _
 try simp only [lyc_, ly_]
 clear IH;obtain ⟨-, hE, hD⟩ := hI;replace hD := hide hD;replace hE := hide hE;obtain ⟨A, c, dA, dc, gs, gr, rfl, rfl, rfl, rfl, hgs, hgr, hne, hgW, hbs, hbr, hst, hdl⟩ := hD.out.done;clear hD hE;refine dn_ ?_;obtain ⟨bk, o, e5, hA, hbk, hco, hcell⟩ := hst.at_ 0 (by decide);subst hA;have hdn : e5.dn = 1 := hco.dn;have hdc := hcell 1 _ rfl (by omega);rw [hdn] at hdc;have HGW := hide (HG2.out.trans hgW);have HGW0 := hide hgW;have HDL := hide hdl;have HEI := hide (show InL W e5.dA e5.dc [dV 1 5] from hco.docs)
 have HS3 := hide (fun (W' : World) (hg : Grow W W') => show (∀ k v, (rpCells Rp.zero.e Rp.zero.n dA1 Rp.zero.docs.length dc1 Rp.zero.cursor)[k]? = some v → W'.cell? ⟨w1.heap.size + 1, k, none⟩ = some v) ∧ (∀ k v, (rpCells Rp.zero.e Rp.zero.n dA Rp.zero.docs.length dc Rp.zero.cursor)[k]? = some v → W'.cell? ⟨gr, k, none⟩ = some v) ∧ W'.cell? ⟨gs, 0, none⟩ = some (.slice (some ⟨bk, o, none⟩) 1 c) ∧ W'.cell? ⟨bk, o + 1, none⟩ = some (.slice e5.dA 1 e5.dc) from
  ⟨fun k v h => ((HB2.out.grow (hgW.trans hg)).cell k).trans h, fun k v h => ((hbr.grow hg).cell k).trans h, (hbs.grow hg).cell 0, (hg.below.cell (p := ⟨bk, o + 1, none⟩) hbk).trans (by simpa using hdc)⟩)
 clear hgs hgr hne hgW hbs hbr hst hdl hbk hco hcell hdn hdc hHeld;go_wp2_with fail;refine wp_region_noPanic ?_;refine wp_region_held_drew (S := fun w' => (∀ k v, (rpCells Rp.zero.e Rp.zero.n dA1 Rp.zero.docs.length dc1 Rp.zero.cursor)[k]? = some v → w'.cell? ⟨w1.heap.size + 1, k, none⟩ = some v) ∧ (∀ k v, (rpCells Rp.zero.e Rp.zero.n dA Rp.zero.docs.length dc Rp.zero.cursor)[k]? = some v → w'.cell? ⟨gr, k, none⟩ = some v) ∧ w'.cell? ⟨gs, 0, none⟩ = some (.slice (some ⟨bk, o, none⟩) 1 c) ∧ w'.cell? ⟨bk, o + 1, none⟩ = some (.slice e5.dA 1 e5.dc)) (by kernel_rfl) (HS3.out _ (Grow.refl _).drew) (fun hHeld => ?_);have HG5 := hide (HGW.out.trans (Grow.refl W).drew);have HDL5 := hide (HDL.out.grow (Grow.refl W).drew);have HDL15 := hide (HDL2.out.grow ((HGW0.out.trans (Grow.refl W).drew)));have HE5 := hide (HEI.out.grow (Grow.refl W).drew)
 have HS5 := hide (fun (W' : World) (hg : Grow W.drew W') => HS3.out W' ((Grow.refl W).drew.trans hg));clear HS3;generalize W.drew = W5 at HG5 HDL5 HDL15 HE5 HS5 hHeld ⊢;have hcl : ((1 : Nat) : Int) = 1 := rfl;refine tk_ 0 (hy := Or.inl ⟨by rfl, by intro w hSw; (try dsimp only at hSw); obtain ⟨hS1, hS2, hS3, hS4⟩ := hSw; have q0 := hS1 0 _ rfl; have q1 := hS1 1 _ rfl; have q2 := hS1 2 _ rfl; have q3 := hS1 3 _ rfl; have p0 := hS2 0 _ rfl; have p1 := hS2 1 _ rfl; have p2 := hS2 2 _ rfl; have p3 := hS2 3 _ rfl; clear hS1 hS2; go_simp; try with_reducible rfl⟩) ?_
 try simp only [ly_]
 refine tk_ 1 ?_
 try simp only [ly_]
 refine r1_ 2 (fun K hK => ?_);have hC := psame_any Rp.zero Rp.zero dA1 none dc1 0 W5 (HDL15.out.grow (Grow.refl W5)) (InL.nil _);go_simp;go_at_call 23;refine hC.mono ?_;rintro ee W6 ⟨x6, rfl, hx, hg⟩;obtain rfl : x6 = true := hx.2 rfl;have HG6 := hide (Grow.trans (Grow.refl W5) hg);clear hC hx hg;refine hK.out _ _ (HS5.out _ HG6.out) (fun hHeld => ?_);clear hK K
 try simp only [ly_]
 refine tk_ 3 ?_
 try simp only [ly_]
 refine tk_ 4 (hy := Or.inl ⟨by rfl, by intro w hSw; (try dsimp only at hSw); obtain ⟨hS1, hS2, hS3, hS4⟩ := hSw; have q0 := hS1 0 _ rfl; have q1 := hS1 1 _ rfl; have q2 := hS1 2 _ rfl; have q3 := hS1 3 _ rfl; have p0 := hS2 0 _ rfl; have p1 := hS2 1 _ rfl; have p2 := hS2 2 _ rfl; have p3 := hS2 3 _ rfl; clear hS1 hS2; go_simp; try with_reducible rfl⟩) ?_
 try simp only [ly_]
 refine tk_ 5 ?_
 try simp only [ly_]
 refine r1_ 6 (fun K hK => ?_);have hC := psame_any Rp.zero Rp.zero dA none dc 0 W6 (HDL5.out.grow HG6.out) (InL.nil _);go_simp;go_at_call 23;refine hC.mono ?_;rintro ee W7 ⟨x7, rfl, hx, hg⟩;obtain rfl : x7 = true := hx.2 rfl;have HG7 := hide (Grow.trans HG6.out hg);clear hC hx hg;refine hK.out _ _ (HS5.out _ HG7.out) (fun hHeld => ?_);clear hK K
 try simp only [ly_]
 refine tk_ 7 ?_
 try simp only [ly_]
 refine tk_ 8 ?_
 try simp only [ly_]
 refine tk_ 9 ?_
 try simp only [ly_]
 refine tk_ 10 (hy := Or.inl ⟨by rfl, by intro w hSw; (try dsimp only at hSw); obtain ⟨hS1, hS2, hS3, hS4⟩ := hSw; have q0 := hS1 0 _ rfl; have q1 := hS1 1 _ rfl; have q2 := hS1 2 _ rfl; have q3 := hS1 3 _ rfl; have p0 := hS2 0 _ rfl; have p1 := hS2 1 _ rfl; have p2 := hS2 2 _ rfl; have p3 := hS2 3 _ rfl; clear hS1 hS2; go_simp; try with_reducible rfl⟩) ?_
 try simp only [ly_]
 refine tk_ 11 ?_
 try simp only [ly_]
 refine tk_ 12 ?_
 try simp only [ly_]
 refine tk_ 13 ?_
 try simp only [ly_]
 refine tk_ 14 ?_
 try simp only [ly_]
 refine tk_ 15 ?_
 try simp only [ly_]
 refine tk_ 16 (hy := Or.inl ⟨by rfl, by intro w hSw; (try dsimp only at hSw); obtain ⟨hS1, hS2, hS3, hS4⟩ := hSw; have q0 := hS1 0 _ rfl; have q1 := hS1 1 _ rfl; have q2 := hS1 2 _ rfl; have q3 := hS1 3 _ rfl; have p0 := hS2 0 _ rfl; have p1 := hS2 1 _ rfl; have p2 := hS2 2 _ rfl; have p3 := hS2 3 _ rfl; clear hS1 hS2; go_simp; try with_reducible rfl⟩) ?_
 try simp only [ly_]
 refine tk_ 17 ?_
 try simp only [ly_]
 refine tk_ 18 ?_
 try simp only [ly_]
 refine tk_ 19 (hy := Or.inl ⟨by rfl, by intro w hSw; (try dsimp only at hSw); obtain ⟨hS1, hS2, hS3, hS4⟩ := hSw; have q0 := hS1 0 _ rfl; have q1 := hS1 1 _ rfl; have q2 := hS1 2 _ rfl; have q3 := hS1 3 _ rfl; have p0 := hS2 0 _ rfl; have p1 := hS2 1 _ rfl; have p2 := hS2 2 _ rfl; have p3 := hS2 3 _ rfl; clear hS1 hS2; go_simp; try with_reducible rfl⟩) ?_
 try simp only [ly_]
 refine r1_ 20 (fun K hK => ?_);have hC := lDoc_val 1 5 1 5 rfl rfl (by decide) (by decide) W7;go_simp;go_at_call 9;refine hC.mono ?_;rintro ee W8 ⟨Ae, rfl, hin, hg⟩;have HG8 := hide (HG7.out.trans hg);have HIN8 := hide hin.in_;clear hC hin hg;refine hK.out _ _ (HS5.out _ HG8.out) (fun hHeld => ?_);clear hK K
 try simp only [ly_]
 refine r1_ 21 (fun K hK => ?_);go_simp;have HIL := hide (InL.oneL HIN8.out);have HG9 := hide (HG8.out.alloc (.cells (dcv Ae 2).cells 27));have HL9 := hide (list2_any [dV 1 5] [dV 1 5] e5.dA (some ⟨W8.heap.size, 0, none⟩) e5.dc 1 (W8.alloc (.cells (dcv Ae 2).cells 27)) (HE5.out.grow HG9.out) HIL.out);refine hK.out _ _ (HS5.out _ HG9.out) (fun hHeld => ?_);clear hK K
 try simp only [ly_]
 refine r1_ 22 (fun K hK => ?_);go_simp;go_at_call 19;refine HL9.out.mono ?_;rintro ee W10 ⟨x10, rfl, hx, hg⟩;obtain rfl : x10 = true := hx.2 rfl;have HG10 := hide (HG9.out.trans hg);clear hx hg;refine hK.out _ _ (HS5.out _ HG10.out) (fun hHeld => ?_);clear hK K
 try simp only [ly_]
 refine tk_ 23 ?_
 try simp only [ly_]
 refine tk_ 24 ?_
 try simp only [ly_]
 refine dn_ ?_;clear hHeld;go_wp2_with fail;go_ret;exact ⟨rfl, HG5.out.trans HG10.out⟩
end
section
open Go.RowKit
section
variable {P : Program} {ops : Array Oper} {a : Act}
theorem yields_cells_at {S : World → Prop} {ty t : TypeId} {x : Operand} {d : Option Tmp} {p : String} {af : Array Edge} {g o n : Nat} {cs : Array Value} {td : TypeDesc} (hu : P.underlying ty = some td) (hd : td.isRow = true) (hx : a.eval x = .pointer (some ⟨g, o, none⟩)) (hi : (P.info? ty).map (·.size) = some n) (hn : cs.size = n)
 (hget : ∀ w, S w → ∀ j v, cs[j]? = some v → w.cell? ⟨g, o + j, none⟩ = some v) : YieldsIf P ops S ⟨d, .load ty x, t, p, af, none⟩ (.agg cs) a := by
 have h := yieldsIf_load_mid (P := P) (ops := ops) (S := S) (op := ⟨d, .load ty x, t, p, af, none⟩) (a := a) (by simp [Region.wanted]) ty x rfl g o hx cs.toList td (fun w hS j v hv => hget w hS j v (by rwa [Array.getElem?_toList] at hv)) hu hd (by rw [Array.length_toList, hn]; exact hi);simpa using h
end
noncomputable def runP (l : List Rq) : List Co := l.foldl (fun s q => (doP s q).1) []
theorem runP_snoc (l : List Rq) (j : Nat) (h : j < l.length) : runP (l.take (j + 1)) = (doP (runP (l.take j)) l[j]).1 := by
 unfold runP; rw [take_snoc l j h, List.foldl_append]; rfl
theorem runP_ok {l : List Rq} (h : ∀ q ∈ l, RqOk q) : ∀ j, j ≤ l.length → StOk j (runP (l.take j))
 | 0, _ => StOk.nil
 | j + 1, hj => by
  rw [runP_snoc l j (by omega)];have hq := h l[j] (List.getElem_mem (by omega));exact doP_ok (runP_ok h j (by omega)) hq.fit hq.doc
def InPs (w : World) (A : Option Addr) (l : List Rp) : Prop := ∀ i (hi : i < l.length), ∃ (bk o : Nat) (dA : Option Addr) (dc : Nat), A = some ⟨bk, o, none⟩ ∧ bk < w.heap.size ∧
 (∀ k v, (rpCells l[i].e l[i].n dA l[i].docs.length dc l[i].cursor)[k]? = some v → w.cell? ⟨bk, o + i * 4 + k, none⟩ = some v) ∧ InL w dA dc l[i].docs
theorem InPs.grow {w w' : World} {A : Option Addr} {l : List Rp} (h : InPs w A l) (hg : Grow w w') : InPs w' A l := fun i hi => by
 obtain ⟨bk, o, dA, dc, ha, hb, hc, hd⟩ := h i hi;exact ⟨bk, o, dA, dc, ha, Nat.lt_of_lt_of_le hb hg.size, fun k v hv => (hg.below.cell (p := ⟨bk, _, none⟩) hb).trans (hc k v hv), hd.grow hg⟩
theorem play_any (l : List Rq) (want : List Rp) (A B : Option Addr) (ca cb : Nat) (w : World) (hT : Tabs w) (hM : Len1 w) (hq : InQs w A l) (hp : InPs w B want) (hlen : want.length = l.length) (hl : l.length ≤ 20000) (hok : ∀ q ∈ l, RqOk q)
 (heq : ∀ i (h : i < l.length) (h' : i < want.length), (doP (runP (l.take i)) l[i]).2 = want[i]) :
 Calls Tryz.prog 14 #[.slice A l.length ca, .slice B want.length cb] w fun e w' => e = .returned (.bool true) ∧ Grow w w' := by
 have HT := hide hT;have HM := hide hM;have HQ := hide hq;have HP := hide hp;have HOK := hide hok;have HEQ := hide heq;have HLEN := hide hlen;have HB0 := hide (Blk.new w 44 #[.slice none 0 0]);have HG0 := hide ((Grow.refl w).alloc (.cells #[.slice none 0 0] 44));clear hT hM hq hp hok heq hlen;go_enter Tryz.func14, Tryz.ntmps14;go_wp2_with fail;go_loopg [6] (l.length + 1) (fun gk i wr => ∃ (j : Nat) (A5 : Option Addr) (c5 : Nat), j ≤ l.length ∧ gk + j = l.length + 1 ∧ i = .int .i64 j ∧ Blk wr w.heap.size 44 #[.slice A5 (runP (l.take j)).length c5] ∧ StIn wr A5 c5 (runP (l.take j)) ∧ Grow w wr)
 case atStart => exact ⟨0, none, 0, Nat.zero_le _, rfl, rfl, HB0.out, StIn.nil _, HG0.out⟩
 case round =>
  obtain ⟨j, A5, c5, hj, hg, rfl, hb, hst, hgr⟩ := hrel;obtain ⟨gk', rfl⟩ := gk_ gk (by omega);by_cases hlt : j < l.length
  ·have hltp : j < want.length := by rw [HLEN.out]; exact hlt
   have hqj := HQ.out.grow hgr j hlt;have hpj := HP.out.grow hgr j hltp;have heqj := HEQ.out j hlt hltp;have hsn := runP_snoc l j hlt;have hokj := HOK.out l[j] (List.getElem_mem hlt);have hsto := runP_ok HOK.out j hj;obtain ⟨q, hq⟩ : ∃ q, l[j] = q := ⟨_, rfl⟩;obtain ⟨r, hr⟩ : ∃ r, want[j] = r := ⟨_, rfl⟩;obtain ⟨st, hs⟩ : ∃ st, runP (l.take j) = st := ⟨_, rfl⟩;rw [hq] at hqj heqj hsn hokj;rw [hr] at hpj heqj;rw [hs] at heqj hsn hsto hb hst;obtain ⟨g, o, ck, cl, ch, cx, rfl, hgl, hcell, h3, h4, h5, h6⟩ := hqj;obtain ⟨g2, o2, dA2, dc2, rfl, hgl2, hcell2, hdl2⟩ := hpj;have HB := hide hb;have HGR := hide hgr;have HSN := hide hsn;have HEJ := hide heqj;have HST := hide hst;have HDL2 := hide hdl2
   have HSW := hide (fun (W : World) (hg : Grow wr W) => show W.cell? ⟨w.heap.size, 0, none⟩ = some (.slice A5 st.length c5) ∧ (∀ k v, (rqCells q.do_ q.coll q.index q.path q.unique ck cl ch cx q.n)[k]? = some v → W.cell? ⟨g, o + j * 26 + k, none⟩ = some v) from
    ⟨(hb.grow hg).cell 0, fun k v hv => (hg.below.cell (p := ⟨g, o + j * 26 + k, none⟩) hgl).trans (hcell k v hv)⟩)
   have HDO := hide (fun (W : World) (hg : Grow wr W) => do_eq j c5 A5 st (doP st q).1 (doP st q).2 q ck cl ch cx W (hst.grow hg) hsto (by omega) hokj (HT.out.grow (hgr.trans hg)) (HM.out.grow (hgr.trans hg)) (h3.grow hg) (h4.grow hg) (h5.grow hg) (h6.grow hg) rfl);have HC2 := hide (fun (W : World) (hg : Grow wr W) (k : Nat) (v : Value) (hv : (rpCells r.e r.n dA2 r.docs.length dc2 r.cursor)[k]? = some v) => (hg.below.cell (p := ⟨g2, o2 + j * 4 + k, none⟩) hgl2).trans (hcell2 k v hv));clear heqj hsn hokj hsto hq hr hs hcell hcell2 h3 h4 h5 h6 hb hst hgr hdl2;go_wp2_with fail;refine wp_region_noPanic ?_
   refine wp_region_held_drew (S := fun w' => w'.cell? ⟨w.heap.size, 0, none⟩ = some (.slice A5 st.length c5) ∧ (∀ k v, (rqCells q.do_ q.coll q.index q.path q.unique ck cl ch cx q.n)[k]? = some v → w'.cell? ⟨g, o + j * 26 + k, none⟩ = some v)) (by kernel_rfl) (HSW.out _ (Grow.refl _).drew) (fun hHeld => ?_);have HGD := hide (show Grow wr wr.drew from (Grow.refl _).drew);generalize wr.drew = W0 at HGD hHeld ⊢;refine tk_ 0 (hy := Or.inl ⟨by rfl, by intro w hSw; (try dsimp only at hSw); obtain ⟨hS1, hS2⟩ := hSw; clear hS2; go_simp; try with_reducible rfl⟩) ?_
   try simp only [ly_]
   refine tk_ 1 ?_
   try simp only [ly_]
   refine tk_ 2 ?_
   try simp only [ly_]
   refine tk_ 3 ?_
   try simp only [ly_]
   refine wpAnyH_take (i := 4) (v := .agg (rqCells q.do_ q.coll q.index q.path q.unique ck cl ch cx q.n)) (by simp only [List.getElem?_toArray, List.getElem?_cons_succ, List.getElem?_cons_zero]; rfl) (by kernel_rfl) (by kernel_rfl) (by kernel_rfl) (fun _ _ _ h => h) (yields_cells_at (g := g) (o := o + j * 26) (n := 26) (cs := rqCells q.do_ q.coll q.index q.path q.unique ck cl ch cx q.n) Tryz.underlying33 rfl rfl info_rq rfl (fun w' hS k v hv => hS.2 k v hv)) (by assumption) ?_
   try simp only [ly_]
   refine mergeA (σ := Bool × Bool × Bool × Bool × Bool × Value × Value × Value × Value × Value) (fun ⟨d5, d9, d10, d11, d12, y0, y1, y2, y3, y4⟩ => cond d5 0 4 + cond d9 0 1 + cond d10 0 1 + cond d11 0 1 + cond d12 0 1) (fun ⟨d5, d9, d10, d11, d12, y0, y1, y2, y3, y4⟩ => #[true, true, true, true, true, d5, d5, d5, d5, d9, d10, d11, d12]) (fun ⟨d5, d9, d10, d11, d12, y0, y1, y2, y3, y4⟩ a => (fun a : Act => cond d10 (a.put (some 8) y4) a) ((fun a : Act => cond d9 (a.put (some 7) y3) a) ((fun a : Act => cond d5 ((((a.put (some 21) y0).put (some 15) y0).put (some 22) y1).put (some 23) y2) a) (a)))) (fun ⟨d5, d9, d10, d11, d12, y0, y1, y2, y3, y4⟩ W => ((!d11 || (d5 && d9 && d10)) && (!d12 || d11)) = true ∧ D2 W0 ((doP st q).1) ((doP st q).2) d5 d9 d10 d11 d12 y1 y2 y3 y4 W) ⟨false, false, false, false, false, undef, undef, undef, undef, undef⟩ rfl rfl (by rfl) ?_ ?_
   ·exact ⟨rfl, D2.start W0⟩
   intro s W hI IH;obtain ⟨d5, d9, d10, d11, d12, y0, y1, y2, y3, y4⟩ := s;dsimp only at hI
   cases d5 <;> cases d9 <;> cases d10 <;> cases d11 <;> cases d12 <;> first | exact absurd hI.1 (by decide) | skip
   ·show wpAnyH _ _ _ _ _ 8 #[true, true, true, true, true, false, false, false, false, false, false, false, false] _ _
    try simp only [lyc_, ly_]
    refine rr_ [5, 9, 10] ?_;refine rd1_ (fun K hK => ?_) ?_
    ·obtain ⟨-, hD⟩ := hI;replace hD := hide hD;have hC := HDO.out W (HGD.out.trans hD.out.g);go_simp;go_at_call 18;refine hC.mono ?_;rintro ee W3 ⟨hg3, Aq, cq, dAq, dcq, rfl, hs3, hd3⟩;have hD2 := hD.out.call hg3 hs3 hd3;have hI2 := And.intro (show ((!false || (true && false && false)) && (!false || false)) = true from rfl) hD2;refine hK.out _ _ (HSW.out _ (HGD.out.trans hD2.g)) (fun hHeld => ?_);clear hK K
     try simp only [lyc_, ly_]
     refine tk_ 6 ?_
     try simp only [ly_]
     refine tk_ 7 ?_
     try simp only [ly_]
     refine tk_ 8 ?_
     try simp only [ly_]
     have hIH := IH ⟨true, false, false, false, false, (Value.tuple #[.agg #[.slice Aq ((doP st q).1).length cq], .agg (rpCells ((doP st q).2).e ((doP st q).2).n dAq ((doP st q).2).docs.length dcq ((doP st q).2).cursor)]), (Value.agg #[.slice Aq ((doP st q).1).length cq]), (Value.agg (rpCells ((doP st q).2).e ((doP st q).2).n dAq ((doP st q).2).docs.length dcq ((doP st q).2).cursor)), y3, y4⟩ _ (show (4 : Nat) < 8 from by decide) hI2;dsimp only at hIH;simp only [lyc_, ly_] at hIH;exact hIH
    refine rd1_ (fun K hK => ?_) ?_
    ·obtain ⟨-, hD⟩ := hI;replace hD := hide hD;go_simp;have hD2 := hD.out.mk9;have hI2 := And.intro (show ((!false || (false && true && false)) && (!false || false)) = true from rfl) hD2;refine hK.out _ _ (HSW.out _ (HGD.out.trans hD2.g)) (fun hHeld => ?_);clear hK K
     try simp only [lyc_, ly_]
     have hIH := IH ⟨false, true, false, false, false, y0, y1, y2, (Value.pointer (some ⟨W.heap.size, 0, none⟩)), y4⟩ _ (show (7 : Nat) < 8 from by decide) hI2;dsimp only at hIH;simp only [lyc_, ly_] at hIH;exact hIH
    refine rd1_ (fun K hK => ?_) AllReadyH.nil;obtain ⟨-, hD⟩ := hI;replace hD := hide hD;go_simp;have hD2 := hD.out.mk10;have hI2 := And.intro (show ((!false || (false && false && true)) && (!false || false)) = true from rfl) hD2;refine hK.out _ _ (HSW.out _ (HGD.out.trans hD2.g)) (fun hHeld => ?_);clear hK K
    try simp only [lyc_, ly_]
    have hIH := IH ⟨false, false, true, false, false, y0, y1, y2, y3, (Value.pointer (some ⟨W.heap.size, 0, none⟩))⟩ _ (show (7 : Nat) < 8 from by decide) hI2;dsimp only at hIH;simp only [lyc_, ly_] at hIH;exact hIH
   ·show wpAnyH _ _ _ _ _ 7 #[true, true, true, true, true, false, false, false, false, false, true, false, false] _ _
    try simp only [lyc_, ly_]
    refine rr_ [5, 9] ?_;refine rd1_ (fun K hK => ?_) ?_
    ·obtain ⟨-, hD⟩ := hI;replace hD := hide hD;have hC := HDO.out W (HGD.out.trans hD.out.g);go_simp;go_at_call 18;refine hC.mono ?_;rintro ee W3 ⟨hg3, Aq, cq, dAq, dcq, rfl, hs3, hd3⟩;have hD2 := hD.out.call hg3 hs3 hd3;have hI2 := And.intro (show ((!false || (true && false && true)) && (!false || false)) = true from rfl) hD2;refine hK.out _ _ (HSW.out _ (HGD.out.trans hD2.g)) (fun hHeld => ?_);clear hK K
     try simp only [lyc_, ly_]
     refine tk_ 6 ?_
     try simp only [ly_]
     refine tk_ 7 ?_
     try simp only [ly_]
     refine tk_ 8 ?_
     try simp only [ly_]
     have hIH := IH ⟨true, false, true, false, false, (Value.tuple #[.agg #[.slice Aq ((doP st q).1).length cq], .agg (rpCells ((doP st q).2).e ((doP st q).2).n dAq ((doP st q).2).docs.length dcq ((doP st q).2).cursor)]), (Value.agg #[.slice Aq ((doP st q).1).length cq]), (Value.agg (rpCells ((doP st q).2).e ((doP st q).2).n dAq ((doP st q).2).docs.length dcq ((doP st q).2).cursor)), y3, y4⟩ _ (show (3 : Nat) < 7 from by decide) hI2;dsimp only at hIH;simp only [lyc_, ly_] at hIH;exact hIH
    refine rd1_ (fun K hK => ?_) AllReadyH.nil;obtain ⟨-, hD⟩ := hI;replace hD := hide hD;go_simp;have hD2 := hD.out.mk9;have hI2 := And.intro (show ((!false || (false && true && true)) && (!false || false)) = true from rfl) hD2;refine hK.out _ _ (HSW.out _ (HGD.out.trans hD2.g)) (fun hHeld => ?_);clear hK K
    try simp only [lyc_, ly_]
    have hIH := IH ⟨false, true, true, false, false, y0, y1, y2, (Value.pointer (some ⟨W.heap.size, 0, none⟩)), y4⟩ _ (show (6 : Nat) < 7 from by decide) hI2;dsimp only at hIH;simp only [lyc_, ly_] at hIH;exact hIH
   ·show wpAnyH _ _ _ _ _ 7 #[true, true, true, true, true, false, false, false, false, true, false, false, false] _ _
    try simp only [lyc_, ly_]
    refine rr_ [5, 10] ?_;refine rd1_ (fun K hK => ?_) ?_
    ·obtain ⟨-, hD⟩ := hI;replace hD := hide hD;have hC := HDO.out W (HGD.out.trans hD.out.g);go_simp;go_at_call 18;refine hC.mono ?_;rintro ee W3 ⟨hg3, Aq, cq, dAq, dcq, rfl, hs3, hd3⟩;have hD2 := hD.out.call hg3 hs3 hd3;have hI2 := And.intro (show ((!false || (true && true && false)) && (!false || false)) = true from rfl) hD2;refine hK.out _ _ (HSW.out _ (HGD.out.trans hD2.g)) (fun hHeld => ?_);clear hK K
     try simp only [lyc_, ly_]
     refine tk_ 6 ?_
     try simp only [ly_]
     refine tk_ 7 ?_
     try simp only [ly_]
     refine tk_ 8 ?_
     try simp only [ly_]
     have hIH := IH ⟨true, true, false, false, false, (Value.tuple #[.agg #[.slice Aq ((doP st q).1).length cq], .agg (rpCells ((doP st q).2).e ((doP st q).2).n dAq ((doP st q).2).docs.length dcq ((doP st q).2).cursor)]), (Value.agg #[.slice Aq ((doP st q).1).length cq]), (Value.agg (rpCells ((doP st q).2).e ((doP st q).2).n dAq ((doP st q).2).docs.length dcq ((doP st q).2).cursor)), y3, y4⟩ _ (show (3 : Nat) < 7 from by decide) hI2;dsimp only at hIH;simp only [lyc_, ly_] at hIH;exact hIH
    refine rd1_ (fun K hK => ?_) AllReadyH.nil;obtain ⟨-, hD⟩ := hI;replace hD := hide hD;go_simp;have hD2 := hD.out.mk10;have hI2 := And.intro (show ((!false || (false && true && true)) && (!false || false)) = true from rfl) hD2;refine hK.out _ _ (HSW.out _ (HGD.out.trans hD2.g)) (fun hHeld => ?_);clear hK K
    try simp only [lyc_, ly_]
    have hIH := IH ⟨false, true, true, false, false, y0, y1, y2, y3, (Value.pointer (some ⟨W.heap.size, 0, none⟩))⟩ _ (show (6 : Nat) < 7 from by decide) hI2;dsimp only at hIH;simp only [lyc_, ly_] at hIH;exact hIH
   ·show wpAnyH _ _ _ _ _ 6 #[true, true, true, true, true, false, false, false, false, true, true, false, false] _ _
    try simp only [lyc_, ly_]
    refine r1_ 5 (fun K hK => ?_);obtain ⟨-, hD⟩ := hI;replace hD := hide hD;have hC := HDO.out W (HGD.out.trans hD.out.g);go_simp;go_at_call 18;refine hC.mono ?_;rintro ee W3 ⟨hg3, Aq, cq, dAq, dcq, rfl, hs3, hd3⟩;have hD2 := hD.out.call hg3 hs3 hd3;have hI2 := And.intro (show ((!false || (true && true && true)) && (!false || false)) = true from rfl) hD2;refine hK.out _ _ (HSW.out _ (HGD.out.trans hD2.g)) (fun hHeld => ?_);clear hK K
    try simp only [lyc_, ly_]
    refine tk_ 6 ?_
    try simp only [ly_]
    refine tk_ 7 ?_
    try simp only [ly_]
    refine tk_ 8 ?_
    try simp only [ly_]
    have hIH := IH ⟨true, true, true, false, false, (Value.tuple #[.agg #[.slice Aq ((doP st q).1).length cq], .agg (rpCells ((doP st q).2).e ((doP st q).2).n dAq ((doP st q).2).docs.length dcq ((doP st q).2).cursor)]), (Value.agg #[.slice Aq ((doP st q).1).length cq]), (Value.agg (rpCells ((doP st q).2).e ((doP st q).2).n dAq ((doP st q).2).docs.length dcq ((doP st q).2).cursor)), y3, y4⟩ _ (show (2 : Nat) < 6 from by decide) hI2;dsimp only at hIH;simp only [lyc_, ly_] at hIH;exact hIH
   ·show wpAnyH _ _ _ _ _ 4 #[true, true, true, true, true, true, true, true, true, false, false, false, false] _ _
    try simp only [lyc_, ly_]
    refine rr_ [9, 10] ?_;refine rd1_ (fun K hK => ?_) ?_
    ·obtain ⟨-, hD⟩ := hI;replace hD := hide hD;go_simp;have hD2 := hD.out.mk9;have hI2 := And.intro (show ((!false || (true && true && false)) && (!false || false)) = true from rfl) hD2;refine hK.out _ _ (HSW.out _ (HGD.out.trans hD2.g)) (fun hHeld => ?_);clear hK K
     try simp only [lyc_, ly_]
     have hIH := IH ⟨true, true, false, false, false, y0, y1, y2, (Value.pointer (some ⟨W.heap.size, 0, none⟩)), y4⟩ _ (show (3 : Nat) < 4 from by decide) hI2;dsimp only at hIH;simp only [lyc_, ly_] at hIH;exact hIH
    refine rd1_ (fun K hK => ?_) AllReadyH.nil;obtain ⟨-, hD⟩ := hI;replace hD := hide hD;go_simp;have hD2 := hD.out.mk10;have hI2 := And.intro (show ((!false || (true && false && true)) && (!false || false)) = true from rfl) hD2;refine hK.out _ _ (HSW.out _ (HGD.out.trans hD2.g)) (fun hHeld => ?_);clear hK K
    try simp only [lyc_, ly_]
    have hIH := IH ⟨true, false, true, false, false, y0, y1, y2, y3, (Value.pointer (some ⟨W.heap.size, 0, none⟩))⟩ _ (show (3 : Nat) < 4 from by decide) hI2;dsimp only at hIH;simp only [lyc_, ly_] at hIH;exact hIH
   ·show wpAnyH _ _ _ _ _ 3 #[true, true, true, true, true, true, true, true, true, false, true, false, false] _ _
    try simp only [lyc_, ly_]
    refine r1_ 9 (fun K hK => ?_);obtain ⟨-, hD⟩ := hI;replace hD := hide hD;go_simp;have hD2 := hD.out.mk9;have hI2 := And.intro (show ((!false || (true && true && true)) && (!false || false)) = true from rfl) hD2;refine hK.out _ _ (HSW.out _ (HGD.out.trans hD2.g)) (fun hHeld => ?_);clear hK K
    try simp only [lyc_, ly_]
    have hIH := IH ⟨true, true, true, false, false, y0, y1, y2, (Value.pointer (some ⟨W.heap.size, 0, none⟩)), y4⟩ _ (show (2 : Nat) < 3 from by decide) hI2;dsimp only at hIH;simp only [lyc_, ly_] at hIH;exact hIH
   ·show wpAnyH _ _ _ _ _ 3 #[true, true, true, true, true, true, true, true, true, true, false, false, false] _ _
    try simp only [lyc_, ly_]
    refine r1_ 10 (fun K hK => ?_);obtain ⟨-, hD⟩ := hI;replace hD := hide hD;go_simp;have hD2 := hD.out.mk10;have hI2 := And.intro (show ((!false || (true && true && true)) && (!false || false)) = true from rfl) hD2;refine hK.out _ _ (HSW.out _ (HGD.out.trans hD2.g)) (fun hHeld => ?_);clear hK K
    try simp only [lyc_, ly_]
    have hIH := IH ⟨true, true, true, false, false, y0, y1, y2, y3, (Value.pointer (some ⟨W.heap.size, 0, none⟩))⟩ _ (show (2 : Nat) < 3 from by decide) hI2;dsimp only at hIH;simp only [lyc_, ly_] at hIH;exact hIH
   ·show wpAnyH _ _ _ _ _ 2 #[true, true, true, true, true, true, true, true, true, true, true, false, false] _ _
    try simp only [lyc_, ly_]
    refine r1_ 11 (fun K hK => ?_);obtain ⟨-, hD⟩ := hI;replace hD := hide hD;obtain ⟨Aq, cq, dAq, dcq, rfl, rfl, -⟩ := hD.out.res rfl;obtain ⟨gs, rfl, hg1, hg2, hb⟩ := hD.out.bs rfl;have hbc := (hb rfl).cell;have hbf := (hb rfl).frozen;go_simp;clear hbc hbf;have hD2 := hD.out.mk11 rfl rfl;have hI2 := And.intro (show ((!true || (true && true && true)) && (!false || true)) = true from rfl) hD2;refine hK.out _ _ (HSW.out _ (HGD.out.trans hD2.g)) (fun hHeld => ?_);clear hK K
    try simp only [lyc_, ly_]
    have hIH := IH ⟨true, true, true, true, false, y0, (Value.agg #[.slice Aq ((doP st q).1).length cq]), (Value.agg (rpCells ((doP st q).2).e ((doP st q).2).n dAq ((doP st q).2).docs.length dcq ((doP st q).2).cursor)), (Value.pointer (some ⟨gs, 0, none⟩)), y4⟩ _ (show (1 : Nat) < 2 from by decide) hI2;dsimp only at hIH;simp only [lyc_, ly_] at hIH;exact hIH
   ·show wpAnyH _ _ _ _ _ 1 #[true, true, true, true, true, true, true, true, true, true, true, true, false] _ _
    try simp only [lyc_, ly_]
    refine r1_ 12 (fun K hK => ?_);obtain ⟨-, hD⟩ := hI;replace hD := hide hD;obtain ⟨Aq, cq, dAq, dcq, rfl, rfl, -⟩ := hD.out.res rfl;obtain ⟨gr, rfl, hg1, hg2, hb⟩ := hD.out.br rfl;have hbc := (hb rfl).cell;have hbf := (hb rfl).frozen;go_simp;clear hbc hbf;have hD2 := hD.out.mk12 rfl rfl;have hI2 := And.intro (show ((!true || (true && true && true)) && (!true || true)) = true from rfl) hD2;refine hK.out _ _ (HSW.out _ (HGD.out.trans hD2.g)) (fun hHeld => ?_);clear hK K
    try simp only [lyc_, ly_]
    have hIH := IH ⟨true, true, true, true, true, y0, (Value.agg #[.slice Aq ((doP st q).1).length cq]), (Value.agg (rpCells ((doP st q).2).e ((doP st q).2).n dAq ((doP st q).2).docs.length dcq ((doP st q).2).cursor)), y3, (Value.pointer (some ⟨gr, 0, none⟩))⟩ _ (show (0 : Nat) < 1 from by decide) hI2;dsimp only at hIH;simp only [lyc_, ly_] at hIH;exact hIH
   show wpAnyH _ _ _ _ _ 0 #[true, true, true, true, true, true, true, true, true, true, true, true, true] _ _
   try simp only [lyc_, ly_]
   clear IH;obtain ⟨-, hD⟩ := hI;replace hD := hide hD;obtain ⟨A, c, dA, dc, gs, gr, rfl, rfl, rfl, rfl, hgs, hgr, hne, hgW, hbs, hbr, hst, hdl⟩ := hD.out.done;clear hD;rw [HEJ.out] at hbr hdl ⊢;have HGW := hide (HGD.out.trans hgW);have HBS := hide hbs;have HBRR := hide hbr;have HSTW := hide hst;have HDLW := hide hdl;have HNS := hide (show gs ≠ w.heap.size from fun e => by have := HB.out.lt; have := HGD.out.size; omega);clear hgs hgr hne hgW hbs hbr hst hdl;refine dn_ ?_;clear hHeld;go_wp2_with fail;have HS6 := hide (fun (W' : World) (hg : Grow W W') => show (∀ k v, (rpCells r.e r.n dA r.docs.length dc r.cursor)[k]? = some v → W'.cell? ⟨gr, k, none⟩ = some v) ∧ (∀ k v, (rpCells r.e r.n dA2 r.docs.length dc2 r.cursor)[k]? = some v → W'.cell? ⟨g2, o2 + j * 4 + k, none⟩ = some v) from
    ⟨fun k v h => ((HBRR.out.grow hg).cell k).trans h, HC2.out W' (HGW.out.trans hg)⟩)
   refine wp_region_noPanic ?_;refine wp_region_held_drew (S := fun w' => (∀ k v, (rpCells r.e r.n dA r.docs.length dc r.cursor)[k]? = some v → w'.cell? ⟨gr, k, none⟩ = some v) ∧ (∀ k v, (rpCells r.e r.n dA2 r.docs.length dc2 r.cursor)[k]? = some v → w'.cell? ⟨g2, o2 + j * 4 + k, none⟩ = some v)) (by kernel_rfl) (HS6.out _ (Grow.refl _).drew) (fun hHeld => ?_);have HG5 := hide (show Grow W W.drew from (Grow.refl W).drew);generalize W.drew = W5 at HG5 hHeld ⊢;refine tk_ 0 (hy := Or.inl ⟨by rfl, by intro w hSw; (try dsimp only at hSw); obtain ⟨hS1, hS2⟩ := hSw; have q0 := hS1 0 _ rfl; have q1 := hS1 1 _ rfl; have q2 := hS1 2 _ rfl; have q3 := hS1 3 _ rfl; have p0 := hS2 0 _ rfl; have p1 := hS2 1 _ rfl; have p2 := hS2 2 _ rfl; have p3 := hS2 3 _ rfl; rw [Nat.add_zero] at p0; clear hS1 hS2; go_simp; try with_reducible rfl⟩) ?_
   try simp only [ly_]
   refine tk_ 1 ?_
   try simp only [ly_]
   refine tk_ 2 ?_
   try simp only [ly_]
   refine tk_ 3 ?_
   try simp only [ly_]
   refine tk_ 4 (hy := Or.inl ⟨by rfl, by intro w hSw; (try dsimp only at hSw); obtain ⟨hS1, hS2⟩ := hSw; have q0 := hS1 0 _ rfl; have q1 := hS1 1 _ rfl; have q2 := hS1 2 _ rfl; have q3 := hS1 3 _ rfl; have p0 := hS2 0 _ rfl; have p1 := hS2 1 _ rfl; have p2 := hS2 2 _ rfl; have p3 := hS2 3 _ rfl; rw [Nat.add_zero] at p0; clear hS1 hS2; go_simp; try with_reducible rfl⟩) ?_
   try simp only [ly_]
   refine r1_ 5 (fun K hK => ?_);have hC := psame_any r r dA dA2 dc dc2 W5 (HDLW.out.grow HG5.out) (HDL2.out.grow (HGW.out.trans HG5.out));go_simp;go_at_call 23;refine hC.mono ?_;rintro ee W6 ⟨x6, rfl, hx, hg⟩;obtain rfl : x6 = true := hx.2 rfl;have HG6 := hide (HG5.out.trans hg);clear hC hx hg;refine hK.out _ _ (HS6.out _ HG6.out) (fun hHeld => ?_);clear hK K
   try simp only [ly_]
   refine tk_ 6 ?_
   try simp only [ly_]
   refine dn_ ?_;clear hHeld;have hbc := (HBS.out.grow HG6.out).cell;have HBW := hide (HB.out.grow (HGW.out.trans HG6.out));have hwc := HBW.out.cell;have hwf := HBW.out.frozen;have hjb : j + 1 ≤ 20001 := by omega
   go_wp2_with fail;go_roundg gk'
   case measure => omega
   case rel =>
    have hk : Kept (fun q => q = w.heap.size) W6 (W6.setCell ⟨w.heap.size, 0, none⟩ (.slice A (doP st q).1.length c)) := (Kept.refl (S := fun q => q = w.heap.size) W6).set (p := ⟨w.heap.size, 0, none⟩) rfl _;refine ⟨j + 1, A, c, by omega, by omega, by go_num, ?_, ?_, ?_⟩
    ·rw [HSN.out]; exact HBW.out.set_ 0 _
    ·rw [HSN.out]; exact (HSTW.out.grow HG6.out).bare (Bare.state HBW.out) hk
    exact HGR.out.trans (HGW.out.trans HG6.out) |>.setCell (by simp) _
  have hjl : j = l.length := by omega
  subst hjl;have HGR := hide hgr;clear hb hst hgr;go_wp2_with fail;go_ret;exact ⟨rfl, HGR.out⟩
end
section
open Go.RowKit
theorem rqK_ok (d : Int) (c : ByteArray) (i : Nat) : RqOk (rqK d c (iV i)) := ⟨by show (iV i).count ≤ 20000; rw [iV_count]; omega, zeroV_count, zeroV_count, zeroV_count, zeroV_fit⟩
abbrev RqX := Rq × Cv × Cv × Cv × Cv
abbrev RqX.cells (x : RqX) : List Value := (rqCells x.1.do_ x.1.coll x.1.index x.1.path x.1.unique x.2.1 x.2.2.1 x.2.2.2.1 x.2.2.2.2 x.1.n).toList
theorem InQs.of {w : World} {g : Nat} {cs : Array Value} (xs : List RqX) (hB : Blk w g 33 cs) (hc : cs.toList = (xs.map RqX.cells).flatten) (h : ∀ x ∈ xs, In w x.1.key x.2.1 ∧ In w x.1.low x.2.2.1 ∧ In w x.1.high x.2.2.2.1 ∧ In w x.1.doc x.2.2.2.2) : InQs w (some ⟨g, 0, none⟩) (xs.map Prod.fst) := fun i hi => by
 have hi2 : i < xs.length := by simpa using hi
 obtain ⟨h1, h2, h3, h4⟩ := h xs[i] (List.getElem_mem hi2);simp only [List.getElem_map];refine ⟨g, 0, xs[i].2.1, xs[i].2.2.1, xs[i].2.2.2.1, xs[i].2.2.2.2, rfl, hB.lt, fun k v hv => ?_, h1, h2, h3, h4⟩;rw [Nat.zero_add, hB.cell, ← Array.getElem?_toList, hc];have hk : k < 26 := by
  rcases Nat.lt_or_ge k 26 with h | h
  ·exact h
  rw [Array.getElem?_eq_none (by simpa using h)] at hv; cases hv
 rw [fz_get RqX.cells 26 (fun _ => rfl) xs i k hk xs[i] (List.getElem?_eq_getElem hi2)];rw [← Array.getElem?_toList] at hv;exact hv
abbrev RpX := Rp × Option Addr × Nat
abbrev RpX.cells (x : RpX) : List Value := (rpCells x.1.e x.1.n x.2.1 x.1.docs.length x.2.2 x.1.cursor).toList
theorem InPs.of {w : World} {g : Nat} {cs : Array Value} (xs : List RpX) (hB : Blk w g 31 cs) (hc : cs.toList = (xs.map RpX.cells).flatten) (h : ∀ x ∈ xs, InL w x.2.1 x.2.2 x.1.docs) : InPs w (some ⟨g, 0, none⟩) (xs.map Prod.fst) := fun i hi => by
 have hi2 : i < xs.length := by simpa using hi
 have h1 := h xs[i] (List.getElem_mem hi2);simp only [List.getElem_map];refine ⟨g, 0, xs[i].2.1, xs[i].2.2, rfl, hB.lt, fun k v hv => ?_, h1⟩;rw [Nat.zero_add, hB.cell, ← Array.getElem?_toList, hc];have hk : k < 4 := by
  rcases Nat.lt_or_ge k 4 with h | h
  ·exact h
  rw [Array.getElem?_eq_none (by simpa using h)] at hv; cases hv
 rw [fz_get RpX.cells 4 (fun _ => rfl) xs i k hk xs[i] (List.getElem?_eq_getElem hi2)];rw [← Array.getElem?_toList] at hv;exact hv
theorem under_rqs : Tryz.prog.underlying 36 = some (.slice 33) := by kernel_rfl
theorem info_some {t : TypeId} {n : Nat} (h : (Tryz.prog.info? t).map (·.size) = some n) : (Tryz.prog.info? t).isSome = true := by
 cases hq : Tryz.prog.info? t with
 | none => rw [hq] at h; cases h
 | some x => rfl
noncomputable def rqInfo : TypeInfo := (Tryz.prog.info? 33).get (info_some (n := 26) (by kernel_rfl))
def wantK : List Rp := [Rp.zero, Rp.zero, ⟨0, 1, [], 0⟩, ⟨0, 0, [dV 1 6], 0⟩, ⟨0, 1, [], 0⟩, Rp.zero, ⟨13, 0, [], 0⟩, ⟨6, 0, [], 0⟩, Rp.zero, ⟨0, 1, [dV 1 6], 0⟩, ⟨17, 0, [], 0⟩, ⟨5, 0, [], 0⟩, ⟨14, 0, [], 0⟩, ⟨5, 0, [], 0⟩, ⟨6, 0, [], 0⟩]
def rqsK : List Rq := [rq0 1 nA, rqD 3 nA (dV 1 5), rqD 3 nA (dV 1 6), rqK 6 nA (iV 1), rq0 10 nA, rqI, rqD 4 nA (dV 2 6), rqD 4 nA (bV 1), rqD 4 nA (bV 2), rqF, rqK 5 nA (iV 7), rqK 5 nB (iV 1), rqD 3 nA (xV 1), rqJ, rq0 1 nA]
theorem rqsK_ok : ∀ q ∈ rqsK, RqOk q := by
 intro q hq;unfold rqsK at hq;simp only [List.mem_cons, List.not_mem_nil, or_false] at hq;rcases hq with rfl | rfl | rfl | rfl | rfl | rfl | rfl | rfl | rfl | rfl | rfl | rfl | rfl | rfl | rfl
 ·exact rq0_ok _ _
 ·exact rqD_ok _ _ (dV_count _ _) (dV_fit (by decide) (by decide))
 ·exact rqD_ok _ _ (dV_count _ _) (dV_fit (by decide) (by decide))
 ·exact rqK_ok _ _ _
 ·exact rq0_ok _ _
 ·exact ⟨zeroV_count, zeroV_count, zeroV_count, zeroV_count, zeroV_fit⟩
 ·exact rqD_ok _ _ (dV_count _ _) (dV_fit (by decide) (by decide))
 ·exact rqD_ok _ _ (bV_count _) (bV_fit (by decide))
 ·exact rqD_ok _ _ (bV_count _) (bV_fit (by decide))
 ·exact ⟨zeroV_count, by show (iV 0).count ≤ 20000; rw [iV_count]; omega, by show (iV 9).count ≤ 20000; rw [iV_count]; omega, zeroV_count, zeroV_fit⟩
 ·exact rqK_ok _ _ _
 ·exact rqK_ok _ _ _
 ·exact rqD_ok _ _ (xV_count _) (xV_fit (by decide))
 ·exact ⟨zeroV_count, zeroV_count, zeroV_count, zeroV_count, zeroV_fit⟩
 exact rq0_ok _ _
theorem rk0 : runP (rqsK.take 0) = [] := rfl
theorem rk1 : runP (rqsK.take 1) = sX [] [] := (runP_snoc rqsK 0 (by decide)).trans (by rw [rk0]; exact congrArg Prod.fst kn1)
theorem rk2 : runP (rqsK.take 2) = sX [dV 1 5] [] := (runP_snoc rqsK 1 (by decide)).trans (by rw [rk1]; exact congrArg Prod.fst kn2)
theorem rk3 : runP (rqsK.take 3) = sX [dV 1 6] [] := (runP_snoc rqsK 2 (by decide)).trans (by rw [rk2]; exact congrArg Prod.fst kn3)
theorem rk4 : runP (rqsK.take 4) = sX [dV 1 6] [] := (runP_snoc rqsK 3 (by decide)).trans (by rw [rk3]; exact congrArg Prod.fst kn4)
theorem rk5 : runP (rqsK.take 5) = sX [dV 1 6] [] := (runP_snoc rqsK 4 (by decide)).trans (by rw [rk4]; exact congrArg Prod.fst kn5)
theorem rk6 : runP (rqsK.take 6) = sX [dV 1 6] [ixI] := (runP_snoc rqsK 5 (by decide)).trans (by rw [rk5]; exact congrArg Prod.fst kn6)
theorem rk7 : runP (rqsK.take 7) = sX [dV 1 6] [ixI] := (runP_snoc rqsK 6 (by decide)).trans (by rw [rk6]; exact congrArg Prod.fst kn7)
theorem rk8 : runP (rqsK.take 8) = sX [dV 1 6] [ixI] := (runP_snoc rqsK 7 (by decide)).trans (by rw [rk7]; exact congrArg Prod.fst kn8)
theorem rk9 : runP (rqsK.take 9) = sX [dV 1 6, bV 2] [ixI] := (runP_snoc rqsK 8 (by decide)).trans (by rw [rk8]; exact congrArg Prod.fst kn9)
theorem rk10 : runP (rqsK.take 10) = sX [dV 1 6, bV 2] [ixI] := (runP_snoc rqsK 9 (by decide)).trans (by rw [rk9]; exact congrArg Prod.fst kn10)
theorem rk11 : runP (rqsK.take 11) = sX [dV 1 6, bV 2] [ixI] := (runP_snoc rqsK 10 (by decide)).trans (by rw [rk10]; exact congrArg Prod.fst kn11)
theorem rk12 : runP (rqsK.take 12) = sX [dV 1 6, bV 2] [ixI] := (runP_snoc rqsK 11 (by decide)).trans (by rw [rk11]; exact congrArg Prod.fst kn12)
theorem rk13 : runP (rqsK.take 13) = sX [dV 1 6, bV 2] [ixI] := (runP_snoc rqsK 12 (by decide)).trans (by rw [rk12]; exact congrArg Prod.fst kn13)
theorem rk14 : runP (rqsK.take 14) = sX [dV 1 6, bV 2] [ixI] := (runP_snoc rqsK 13 (by decide)).trans (by rw [rk13]; exact congrArg Prod.fst kn14)
theorem wantK_eq : ∀ i (h : i < rqsK.length) (h' : i < wantK.length), (doP (runP (rqsK.take i)) rqsK[i]).2 = wantK[i] := by
 intro i h h';have h15 : i < 15 := h;have : i = 0 ∨ i = 1 ∨ i = 2 ∨ i = 3 ∨ i = 4 ∨ i = 5 ∨ i = 6 ∨ i = 7 ∨ i = 8 ∨ i = 9 ∨ i = 10 ∨ i = 11 ∨ i = 12 ∨ i = 13 ∨ i = 14 := by omega
 rcases this with rfl | rfl | rfl | rfl | rfl | rfl | rfl | rfl | rfl | rfl | rfl | rfl | rfl | rfl | rfl
 ·rw [rk0]; exact congrArg Prod.snd kn1
 ·rw [rk1]; exact congrArg Prod.snd kn2
 ·rw [rk2]; exact congrArg Prod.snd kn3
 ·rw [rk3]; exact congrArg Prod.snd kn4
 ·rw [rk4]; exact congrArg Prod.snd kn5
 ·rw [rk5]; exact congrArg Prod.snd kn6
 ·rw [rk6]; exact congrArg Prod.snd kn7
 ·rw [rk7]; exact congrArg Prod.snd kn8
 ·rw [rk8]; exact congrArg Prod.snd kn9
 ·rw [rk9]; exact congrArg Prod.snd kn10
 ·rw [rk10]; exact congrArg Prod.snd kn11
 ·rw [rk11]; exact congrArg Prod.snd kn12
 ·rw [rk12]; exact congrArg Prod.snd kn13
 ·rw [rk13]; exact congrArg Prod.snd kn14
 rw [rk14]; exact congrArg Prod.snd kn15
theorem pknown_any (w : World) (hT : Tabs w) (hM : Len1 w) : Calls Tryz.prog 3 #[] w fun e w' => e = .returned (.bool true) ∧ Grow w w' := by
 have HT := hide hT;have HM := hide hM;have HG0 := hide (Grow.refl w);clear hT hM;go_enter Tryz.func3, Tryz.ntmps3;go_wp2_with fail;have HGa1 := hide (HG0.out.trans (Grow.refl w));refine (lDoc_val 1 6 1 6 rfl rfl (by decide) (by decide) _).mono ?_;rintro e w1 ⟨D1, rfl, hin, hg⟩;have HG1 := hide (HGa1.out.trans hg);have HD1 := hide hin.in_;clear hin;clear hg;go_wp2_with fail;have HL1 := hide ((InL.oneL (v := dV 1 6) HD1.out).grow ((Grow.refl (w1.alloc (.cells (dcv D1 2).cells 27))).alloc (.cells #[.int .i64 0, .int .i64 0, .slice (some ⟨w1.heap.size, 0, none⟩) 1 1, .int .i64 0] 31)));have HR1 := hide (Blk.new' (w := w1.alloc (.cells (dcv D1 2).cells 27)) (g := w1.heap.size + 1) (by simp) 31 #[.int .i64 0, .int .i64 0, .slice (some ⟨w1.heap.size, 0, none⟩) 1 1, .int .i64 0])
 replace HD1 := hide (HD1.out.grow (((Grow.refl w1).alloc (.cells (dcv D1 2).cells 27)).alloc (.cells #[.int .i64 0, .int .i64 0, .slice (some ⟨w1.heap.size, 0, none⟩) 1 1, .int .i64 0] 31)));have HGa2 := hide (HG1.out.trans (((Grow.refl w1).alloc (.cells (dcv D1 2).cells 27)).alloc (.cells #[.int .i64 0, .int .i64 0, .slice (some ⟨w1.heap.size, 0, none⟩) 1 1, .int .i64 0] 31)));refine (lDoc_val 1 6 1 6 rfl rfl (by decide) (by decide) _).mono ?_;rintro e w2 ⟨D2, rfl, hin, hg⟩;have HG2 := hide (HGa2.out.trans hg);replace HD1 := hide (HD1.out.grow hg);replace HL1 := hide (HL1.out.grow hg);replace HR1 := hide (HR1.out.grow hg);have HD2 := hide hin.in_;clear hin;clear hg;go_wp2_with fail
 have HL2 := hide ((InL.oneL (v := dV 1 6) HD2.out).grow ((Grow.refl (w2.alloc (.cells (dcv D2 2).cells 27))).alloc (.cells #[.int .i64 0, .int .i64 1, .slice (some ⟨w2.heap.size, 0, none⟩) 1 1, .int .i64 0] 31)));have HR2 := hide (Blk.new' (w := w2.alloc (.cells (dcv D2 2).cells 27)) (g := w2.heap.size + 1) (by simp) 31 #[.int .i64 0, .int .i64 1, .slice (some ⟨w2.heap.size, 0, none⟩) 1 1, .int .i64 0]);replace HD1 := hide (HD1.out.grow (((Grow.refl w2).alloc (.cells (dcv D2 2).cells 27)).alloc (.cells #[.int .i64 0, .int .i64 1, .slice (some ⟨w2.heap.size, 0, none⟩) 1 1, .int .i64 0] 31)));replace HD2 := hide (HD2.out.grow (((Grow.refl w2).alloc (.cells (dcv D2 2).cells 27)).alloc (.cells #[.int .i64 0, .int .i64 1, .slice (some ⟨w2.heap.size, 0, none⟩) 1 1, .int .i64 0] 31)))
 replace HL1 := hide (HL1.out.grow (((Grow.refl w2).alloc (.cells (dcv D2 2).cells 27)).alloc (.cells #[.int .i64 0, .int .i64 1, .slice (some ⟨w2.heap.size, 0, none⟩) 1 1, .int .i64 0] 31)));replace HR1 := hide (HR1.out.grow (((Grow.refl w2).alloc (.cells (dcv D2 2).cells 27)).alloc (.cells #[.int .i64 0, .int .i64 1, .slice (some ⟨w2.heap.size, 0, none⟩) 1 1, .int .i64 0] 31)));have HGa3 := hide (HG2.out.trans (((Grow.refl w2).alloc (.cells (dcv D2 2).cells 27)).alloc (.cells #[.int .i64 0, .int .i64 1, .slice (some ⟨w2.heap.size, 0, none⟩) 1 1, .int .i64 0] 31)));refine (lDoc_val 1 5 1 5 rfl rfl (by decide) (by decide) _).mono ?_;rintro e w3 ⟨D3, rfl, hin, hg⟩;have HG3 := hide (HGa3.out.trans hg);replace HD1 := hide (HD1.out.grow hg);replace HD2 := hide (HD2.out.grow hg);replace HL1 := hide (HL1.out.grow hg);replace HR1 := hide (HR1.out.grow hg);replace HL2 := hide (HL2.out.grow hg)
 replace HR2 := hide (HR2.out.grow hg);have HD3 := hide hin.in_;clear hin;clear hg;go_wp2_with fail;have HGa4 := hide (HG3.out.trans (Grow.refl w3));refine (lDoc_val 1 6 1 6 rfl rfl (by decide) (by decide) _).mono ?_;rintro e w4 ⟨D4, rfl, hin, hg⟩;have HG4 := hide (HGa4.out.trans hg);replace HD1 := hide (HD1.out.grow hg);replace HD2 := hide (HD2.out.grow hg);replace HL1 := hide (HL1.out.grow hg);replace HR1 := hide (HR1.out.grow hg);replace HD3 := hide (HD3.out.grow hg);replace HL2 := hide (HL2.out.grow hg);replace HR2 := hide (HR2.out.grow hg);have HD4 := hide hin.in_;clear hin;clear hg;go_wp2_with fail;have HGa5 := hide (HG4.out.trans (Grow.refl w4));refine (lI_val 1 1 (by decide) rfl _).mono ?_;rintro e w5 ⟨rfl, hg⟩;have HG5 := hide (HGa5.out.trans hg);replace HD1 := hide (HD1.out.grow hg);replace HD2 := hide (HD2.out.grow hg);replace HL1 := hide (HL1.out.grow hg)
 replace HR1 := hide (HR1.out.grow hg);replace HD3 := hide (HD3.out.grow hg);replace HL2 := hide (HL2.out.grow hg);replace HR2 := hide (HR2.out.grow hg);replace HD4 := hide (HD4.out.grow hg);clear hg;go_wp2_with fail;have HGa6 := hide (HG5.out.trans (Grow.refl w5));refine (lDoc_val 2 6 2 6 rfl rfl (by decide) (by decide) _).mono ?_;rintro e w6 ⟨D6, rfl, hin, hg⟩;have HG6 := hide (HGa6.out.trans hg);replace HD1 := hide (HD1.out.grow hg);replace HD2 := hide (HD2.out.grow hg);replace HL1 := hide (HL1.out.grow hg);replace HR1 := hide (HR1.out.grow hg);replace HD3 := hide (HD3.out.grow hg);replace HL2 := hide (HL2.out.grow hg);replace HR2 := hide (HR2.out.grow hg);replace HD4 := hide (HD4.out.grow hg);have HD6 := hide hin.in_;clear hin;clear hg;go_wp2_with fail;have HGa7 := hide (HG6.out.trans (Grow.refl w6));refine (lBare_val 1 1 rfl (by decide) _).mono ?_;rintro e w7 ⟨D7, rfl, hin, hg⟩
 have HG7 := hide (HGa7.out.trans hg);replace HD1 := hide (HD1.out.grow hg);replace HD2 := hide (HD2.out.grow hg);replace HL1 := hide (HL1.out.grow hg);replace HR1 := hide (HR1.out.grow hg);replace HD3 := hide (HD3.out.grow hg);replace HL2 := hide (HL2.out.grow hg);replace HR2 := hide (HR2.out.grow hg);replace HD4 := hide (HD4.out.grow hg);replace HD6 := hide (HD6.out.grow hg);have HD7 := hide hin.in_;clear hin;clear hg;go_wp2_with fail;have HGa8 := hide (HG7.out.trans (Grow.refl w7));refine (lBare_val 2 2 rfl (by decide) _).mono ?_;rintro e w8 ⟨D8, rfl, hin, hg⟩;have HG8 := hide (HGa8.out.trans hg);replace HD1 := hide (HD1.out.grow hg);replace HD2 := hide (HD2.out.grow hg);replace HL1 := hide (HL1.out.grow hg);replace HR1 := hide (HR1.out.grow hg);replace HD3 := hide (HD3.out.grow hg);replace HL2 := hide (HL2.out.grow hg);replace HR2 := hide (HR2.out.grow hg)
 replace HD4 := hide (HD4.out.grow hg);replace HD6 := hide (HD6.out.grow hg);replace HD7 := hide (HD7.out.grow hg);have HD8 := hide hin.in_;clear hin;clear hg;go_wp2_with fail;have HGa9 := hide (HG8.out.trans (Grow.refl w8));refine (lI_val 0 0 (by decide) rfl _).mono ?_;rintro e w9 ⟨rfl, hg⟩;have HG9 := hide (HGa9.out.trans hg);replace HD1 := hide (HD1.out.grow hg);replace HD2 := hide (HD2.out.grow hg);replace HL1 := hide (HL1.out.grow hg);replace HR1 := hide (HR1.out.grow hg);replace HD3 := hide (HD3.out.grow hg);replace HL2 := hide (HL2.out.grow hg);replace HR2 := hide (HR2.out.grow hg);replace HD4 := hide (HD4.out.grow hg);replace HD6 := hide (HD6.out.grow hg);replace HD7 := hide (HD7.out.grow hg);replace HD8 := hide (HD8.out.grow hg);clear hg;go_wp2_with fail;have HGa10 := hide (HG9.out.trans (Grow.refl w9));refine (lI_val 9 9 (by decide) rfl _).mono ?_;rintro e w10 ⟨rfl, hg⟩
 have HG10 := hide (HGa10.out.trans hg);replace HD1 := hide (HD1.out.grow hg);replace HD2 := hide (HD2.out.grow hg);replace HL1 := hide (HL1.out.grow hg);replace HR1 := hide (HR1.out.grow hg);replace HD3 := hide (HD3.out.grow hg);replace HL2 := hide (HL2.out.grow hg);replace HR2 := hide (HR2.out.grow hg);replace HD4 := hide (HD4.out.grow hg);replace HD6 := hide (HD6.out.grow hg);replace HD7 := hide (HD7.out.grow hg);replace HD8 := hide (HD8.out.grow hg);clear hg;go_wp2_with fail;have HGa11 := hide (HG10.out.trans (Grow.refl w10));refine (lI_val 7 7 (by decide) rfl _).mono ?_;rintro e w11 ⟨rfl, hg⟩;have HG11 := hide (HGa11.out.trans hg);replace HD1 := hide (HD1.out.grow hg);replace HD2 := hide (HD2.out.grow hg);replace HL1 := hide (HL1.out.grow hg);replace HR1 := hide (HR1.out.grow hg);replace HD3 := hide (HD3.out.grow hg);replace HL2 := hide (HL2.out.grow hg)
 replace HR2 := hide (HR2.out.grow hg);replace HD4 := hide (HD4.out.grow hg);replace HD6 := hide (HD6.out.grow hg);replace HD7 := hide (HD7.out.grow hg);replace HD8 := hide (HD8.out.grow hg);clear hg;go_wp2_with fail;have HGa12 := hide (HG11.out.trans (Grow.refl w11));refine (lI_val 1 1 (by decide) rfl _).mono ?_;rintro e w12 ⟨rfl, hg⟩;have HG12 := hide (HGa12.out.trans hg);replace HD1 := hide (HD1.out.grow hg);replace HD2 := hide (HD2.out.grow hg);replace HL1 := hide (HL1.out.grow hg);replace HR1 := hide (HR1.out.grow hg);replace HD3 := hide (HD3.out.grow hg);replace HL2 := hide (HL2.out.grow hg);replace HR2 := hide (HR2.out.grow hg);replace HD4 := hide (HD4.out.grow hg);replace HD6 := hide (HD6.out.grow hg);replace HD7 := hide (HD7.out.grow hg);replace HD8 := hide (HD8.out.grow hg);clear hg;go_wp2_with fail;have HGa13 := hide (HG12.out.trans (Grow.refl w12))
 refine (lI_val 1 1 (by decide) rfl _).mono ?_;rintro e w13 ⟨rfl, hg⟩;have HG13 := hide (HGa13.out.trans hg);replace HD1 := hide (HD1.out.grow hg);replace HD2 := hide (HD2.out.grow hg);replace HL1 := hide (HL1.out.grow hg);replace HR1 := hide (HR1.out.grow hg);replace HD3 := hide (HD3.out.grow hg);replace HL2 := hide (HL2.out.grow hg);replace HR2 := hide (HR2.out.grow hg);replace HD4 := hide (HD4.out.grow hg);replace HD6 := hide (HD6.out.grow hg);replace HD7 := hide (HD7.out.grow hg);replace HD8 := hide (HD8.out.grow hg);clear hg;go_wp2_with fail;have HGa14 := hide (HG13.out.trans (Grow.refl w13));refine (lD_val nX 1 _ (by decide) (by decide)).mono ?_;rintro e w14 ⟨D14, rfl, hin, hg⟩;have HG14 := hide (HGa14.out.trans hg);replace HD1 := hide (HD1.out.grow hg);replace HD2 := hide (HD2.out.grow hg);replace HL1 := hide (HL1.out.grow hg);replace HR1 := hide (HR1.out.grow hg)
 replace HD3 := hide (HD3.out.grow hg);replace HL2 := hide (HL2.out.grow hg);replace HR2 := hide (HR2.out.grow hg);replace HD4 := hide (HD4.out.grow hg);replace HD6 := hide (HD6.out.grow hg);replace HD7 := hide (HD7.out.grow hg);replace HD8 := hide (HD8.out.grow hg);have HD14 := hide hin.in_;clear hin;clear hg;go_wp2_with fail
 obtain ⟨CQ, hCQ⟩ : ∃ C : Array Value, C = (([(rq0 1 nA, Cv.zero, Cv.zero, Cv.zero, Cv.zero), (rqD 3 nA (dV 1 5), Cv.zero, Cv.zero, Cv.zero, (dcv D3 2)), (rqD 3 nA (dV 1 6), Cv.zero, Cv.zero, Cv.zero, (dcv D4 2)), (rqK 6 nA (iV 1), (cNl 3 1), Cv.zero, Cv.zero, Cv.zero), (rq0 10 nA, Cv.zero, Cv.zero, Cv.zero, Cv.zero), (rqI, Cv.zero, Cv.zero, Cv.zero, Cv.zero), (rqD 4 nA (dV 2 6), Cv.zero, Cv.zero, Cv.zero, (dcv D6 2)), (rqD 4 nA (bV 1), Cv.zero, Cv.zero, Cv.zero, (dcv D7 1)), (rqD 4 nA (bV 2), Cv.zero, Cv.zero, Cv.zero, (dcv D8 1)), (rqF, Cv.zero, (cNl 3 0), (cNl 3 9), Cv.zero), (rqK 5 nA (iV 7), (cNl 3 7), Cv.zero, Cv.zero, Cv.zero), (rqK 5 nB (iV 1), (cNl 3 1), Cv.zero, Cv.zero, Cv.zero), (rqD 3 nA (xV 1), Cv.zero, Cv.zero, Cv.zero, (dcv D14 1)), (rqJ, Cv.zero, Cv.zero, Cv.zero, Cv.zero), (rq0 1 nA, Cv.zero, Cv.zero, Cv.zero, Cv.zero)] : List RqX).map RqX.cells).flatten.toArray := ⟨_, rfl⟩
 have HCQ := hide hCQ;clear hCQ;refine wp_buildSlice 36 33 15 _ rfl CQ rqInfo (.agg zeroQ) under_rqs (by kernel_rfl) (by kernel_rfl) (of_decide_eq_true (by kernel_rfl)) (of_decide_eq_true (by kernel_rfl)) (by rw [HCQ.out] <;> kernel_rfl) ?_;have HQB := hide (Blk.new w14 33 CQ);replace HD1 := hide (HD1.out.grow ((Grow.refl w14).alloc (.cells CQ 33)));replace HD2 := hide (HD2.out.grow ((Grow.refl w14).alloc (.cells CQ 33)));replace HL1 := hide (HL1.out.grow ((Grow.refl w14).alloc (.cells CQ 33)));replace HR1 := hide (HR1.out.grow ((Grow.refl w14).alloc (.cells CQ 33)));replace HD3 := hide (HD3.out.grow ((Grow.refl w14).alloc (.cells CQ 33)));replace HL2 := hide (HL2.out.grow ((Grow.refl w14).alloc (.cells CQ 33)));replace HR2 := hide (HR2.out.grow ((Grow.refl w14).alloc (.cells CQ 33)));replace HD4 := hide (HD4.out.grow ((Grow.refl w14).alloc (.cells CQ 33)))
 replace HD6 := hide (HD6.out.grow ((Grow.refl w14).alloc (.cells CQ 33)));replace HD7 := hide (HD7.out.grow ((Grow.refl w14).alloc (.cells CQ 33)));replace HD8 := hide (HD8.out.grow ((Grow.refl w14).alloc (.cells CQ 33)));replace HD14 := hide (HD14.out.grow ((Grow.refl w14).alloc (.cells CQ 33)));have HG15 := hide (HG14.out.alloc (.cells CQ 33))
 have HIQ := hide (InQs.of [(rq0 1 nA, Cv.zero, Cv.zero, Cv.zero, Cv.zero), (rqD 3 nA (dV 1 5), Cv.zero, Cv.zero, Cv.zero, (dcv D3 2)), (rqD 3 nA (dV 1 6), Cv.zero, Cv.zero, Cv.zero, (dcv D4 2)), (rqK 6 nA (iV 1), (cNl 3 1), Cv.zero, Cv.zero, Cv.zero), (rq0 10 nA, Cv.zero, Cv.zero, Cv.zero, Cv.zero), (rqI, Cv.zero, Cv.zero, Cv.zero, Cv.zero), (rqD 4 nA (dV 2 6), Cv.zero, Cv.zero, Cv.zero, (dcv D6 2)), (rqD 4 nA (bV 1), Cv.zero, Cv.zero, Cv.zero, (dcv D7 1)), (rqD 4 nA (bV 2), Cv.zero, Cv.zero, Cv.zero, (dcv D8 1)), (rqF, Cv.zero, (cNl 3 0), (cNl 3 9), Cv.zero), (rqK 5 nA (iV 7), (cNl 3 7), Cv.zero, Cv.zero, Cv.zero), (rqK 5 nB (iV 1), (cNl 3 1), Cv.zero, Cv.zero, Cv.zero), (rqD 3 nA (xV 1), Cv.zero, Cv.zero, Cv.zero, (dcv D14 1)), (rqJ, Cv.zero, Cv.zero, Cv.zero, Cv.zero), (rq0 1 nA, Cv.zero, Cv.zero, Cv.zero, Cv.zero)] HQB.out (by rw [HCQ.out]) (fun x hx => by
  simp only [List.mem_cons, List.not_mem_nil, or_false] at hx;rcases hx with rfl | rfl | rfl | rfl | rfl | rfl | rfl | rfl | rfl | rfl | rfl | rfl | rfl | rfl | rfl
  ·exact ⟨isv_zero, isv_zero, isv_zero, isv_zero⟩
  ·exact ⟨isv_zero, isv_zero, isv_zero, HD3.out⟩
  ·exact ⟨isv_zero, isv_zero, isv_zero, HD4.out⟩
  ·exact ⟨isv_int (by decide), isv_zero, isv_zero, isv_zero⟩
  ·exact ⟨isv_zero, isv_zero, isv_zero, isv_zero⟩
  ·exact ⟨isv_zero, isv_zero, isv_zero, isv_zero⟩
  ·exact ⟨isv_zero, isv_zero, isv_zero, HD6.out⟩
  ·exact ⟨isv_zero, isv_zero, isv_zero, HD7.out⟩
  ·exact ⟨isv_zero, isv_zero, isv_zero, HD8.out⟩
  ·exact ⟨isv_zero, isv_int (by decide), isv_int (by decide), isv_zero⟩
  ·exact ⟨isv_int (by decide), isv_zero, isv_zero, isv_zero⟩
  ·exact ⟨isv_int (by decide), isv_zero, isv_zero, isv_zero⟩
  ·exact ⟨isv_zero, isv_zero, isv_zero, HD14.out⟩
  ·exact ⟨isv_zero, isv_zero, isv_zero, isv_zero⟩
  exact ⟨isv_zero, isv_zero, isv_zero, isv_zero⟩))
 have hr1c := HR1.out.cell;have hr2c := HR2.out.cell;generalize w14.alloc (.cells CQ 33) = w15 at HG15 HIQ HQB hr1c hr2c HD1 HD2 HL1 HR1 HD3 HL2 HR2 HD4 HD6 HD7 HD8 HD14 ⊢
 have HPB := hide (Blk.new w15 31 #[.int .i64 0, .int .i64 0, .slice none 0 0, .int .i64 0, .int .i64 0, .int .i64 0, .slice none 0 0, .int .i64 0, .int .i64 0, .int .i64 1, .slice none 0 0, .int .i64 0, .int .i64 0, .int .i64 0, .slice (some ⟨w1.heap.size, 0, none⟩) 1 1, .int .i64 0, .int .i64 0, .int .i64 1, .slice none 0 0, .int .i64 0, .int .i64 0, .int .i64 0, .slice none 0 0, .int .i64 0, .int .i64 13, .int .i64 0, .slice none 0 0, .int .i64 0, .int .i64 6, .int .i64 0, .slice none 0 0, .int .i64 0, .int .i64 0, .int .i64 0, .slice none 0 0, .int .i64 0, .int .i64 0, .int .i64 1, .slice (some ⟨w2.heap.size, 0, none⟩) 1 1, .int .i64 0, .int .i64 17, .int .i64 0, .slice none 0 0, .int .i64 0, .int .i64 5, .int .i64 0, .slice none 0 0, .int .i64 0, .int .i64 14, .int .i64 0, .slice none 0 0, .int .i64 0, .int .i64 5, .int .i64 0, .slice none 0 0, .int .i64 0, .int .i64 6, .int .i64 0, .slice none 0 0, .int .i64 0])
 have HG16 := hide (HG15.out.alloc (.cells #[.int .i64 0, .int .i64 0, .slice none 0 0, .int .i64 0, .int .i64 0, .int .i64 0, .slice none 0 0, .int .i64 0, .int .i64 0, .int .i64 1, .slice none 0 0, .int .i64 0, .int .i64 0, .int .i64 0, .slice (some ⟨w1.heap.size, 0, none⟩) 1 1, .int .i64 0, .int .i64 0, .int .i64 1, .slice none 0 0, .int .i64 0, .int .i64 0, .int .i64 0, .slice none 0 0, .int .i64 0, .int .i64 13, .int .i64 0, .slice none 0 0, .int .i64 0, .int .i64 6, .int .i64 0, .slice none 0 0, .int .i64 0, .int .i64 0, .int .i64 0, .slice none 0 0, .int .i64 0, .int .i64 0, .int .i64 1, .slice (some ⟨w2.heap.size, 0, none⟩) 1 1, .int .i64 0, .int .i64 17, .int .i64 0, .slice none 0 0, .int .i64 0, .int .i64 5, .int .i64 0, .slice none 0 0, .int .i64 0, .int .i64 14, .int .i64 0, .slice none 0 0, .int .i64 0, .int .i64 5, .int .i64 0, .slice none 0 0, .int .i64 0, .int .i64 6, .int .i64 0, .slice none 0 0, .int .i64 0] 31))
 have HIQ16 := hide (HIQ.out.grow ((Grow.refl w15).alloc (.cells #[.int .i64 0, .int .i64 0, .slice none 0 0, .int .i64 0, .int .i64 0, .int .i64 0, .slice none 0 0, .int .i64 0, .int .i64 0, .int .i64 1, .slice none 0 0, .int .i64 0, .int .i64 0, .int .i64 0, .slice (some ⟨w1.heap.size, 0, none⟩) 1 1, .int .i64 0, .int .i64 0, .int .i64 1, .slice none 0 0, .int .i64 0, .int .i64 0, .int .i64 0, .slice none 0 0, .int .i64 0, .int .i64 13, .int .i64 0, .slice none 0 0, .int .i64 0, .int .i64 6, .int .i64 0, .slice none 0 0, .int .i64 0, .int .i64 0, .int .i64 0, .slice none 0 0, .int .i64 0, .int .i64 0, .int .i64 1, .slice (some ⟨w2.heap.size, 0, none⟩) 1 1, .int .i64 0, .int .i64 17, .int .i64 0, .slice none 0 0, .int .i64 0, .int .i64 5, .int .i64 0, .slice none 0 0, .int .i64 0, .int .i64 14, .int .i64 0, .slice none 0 0, .int .i64 0, .int .i64 5, .int .i64 0, .slice none 0 0, .int .i64 0, .int .i64 6, .int .i64 0, .slice none 0 0, .int .i64 0] 31)))
 have HL116 := hide (HL1.out.grow ((Grow.refl w15).alloc (.cells #[.int .i64 0, .int .i64 0, .slice none 0 0, .int .i64 0, .int .i64 0, .int .i64 0, .slice none 0 0, .int .i64 0, .int .i64 0, .int .i64 1, .slice none 0 0, .int .i64 0, .int .i64 0, .int .i64 0, .slice (some ⟨w1.heap.size, 0, none⟩) 1 1, .int .i64 0, .int .i64 0, .int .i64 1, .slice none 0 0, .int .i64 0, .int .i64 0, .int .i64 0, .slice none 0 0, .int .i64 0, .int .i64 13, .int .i64 0, .slice none 0 0, .int .i64 0, .int .i64 6, .int .i64 0, .slice none 0 0, .int .i64 0, .int .i64 0, .int .i64 0, .slice none 0 0, .int .i64 0, .int .i64 0, .int .i64 1, .slice (some ⟨w2.heap.size, 0, none⟩) 1 1, .int .i64 0, .int .i64 17, .int .i64 0, .slice none 0 0, .int .i64 0, .int .i64 5, .int .i64 0, .slice none 0 0, .int .i64 0, .int .i64 14, .int .i64 0, .slice none 0 0, .int .i64 0, .int .i64 5, .int .i64 0, .slice none 0 0, .int .i64 0, .int .i64 6, .int .i64 0, .slice none 0 0, .int .i64 0] 31)))
 have HL216 := hide (HL2.out.grow ((Grow.refl w15).alloc (.cells #[.int .i64 0, .int .i64 0, .slice none 0 0, .int .i64 0, .int .i64 0, .int .i64 0, .slice none 0 0, .int .i64 0, .int .i64 0, .int .i64 1, .slice none 0 0, .int .i64 0, .int .i64 0, .int .i64 0, .slice (some ⟨w1.heap.size, 0, none⟩) 1 1, .int .i64 0, .int .i64 0, .int .i64 1, .slice none 0 0, .int .i64 0, .int .i64 0, .int .i64 0, .slice none 0 0, .int .i64 0, .int .i64 13, .int .i64 0, .slice none 0 0, .int .i64 0, .int .i64 6, .int .i64 0, .slice none 0 0, .int .i64 0, .int .i64 0, .int .i64 0, .slice none 0 0, .int .i64 0, .int .i64 0, .int .i64 1, .slice (some ⟨w2.heap.size, 0, none⟩) 1 1, .int .i64 0, .int .i64 17, .int .i64 0, .slice none 0 0, .int .i64 0, .int .i64 5, .int .i64 0, .slice none 0 0, .int .i64 0, .int .i64 14, .int .i64 0, .slice none 0 0, .int .i64 0, .int .i64 5, .int .i64 0, .slice none 0 0, .int .i64 0, .int .i64 6, .int .i64 0, .slice none 0 0, .int .i64 0] 31)))
 have HIP16 := hide (InPs.of [(Rp.zero, none, 0), (Rp.zero, none, 0), ((⟨0, 1, [], 0⟩ : Rp), none, 0), ((⟨0, 0, [dV 1 6], 0⟩ : Rp), some ⟨w1.heap.size, 0, none⟩, 1), ((⟨0, 1, [], 0⟩ : Rp), none, 0), (Rp.zero, none, 0), ((⟨13, 0, [], 0⟩ : Rp), none, 0), ((⟨6, 0, [], 0⟩ : Rp), none, 0), (Rp.zero, none, 0), ((⟨0, 1, [dV 1 6], 0⟩ : Rp), some ⟨w2.heap.size, 0, none⟩, 1), ((⟨17, 0, [], 0⟩ : Rp), none, 0), ((⟨5, 0, [], 0⟩ : Rp), none, 0), ((⟨14, 0, [], 0⟩ : Rp), none, 0), ((⟨5, 0, [], 0⟩ : Rp), none, 0), ((⟨6, 0, [], 0⟩ : Rp), none, 0)] HPB.out (by rfl) (fun x hx => by
  simp only [List.mem_cons, List.not_mem_nil, or_false] at hx;rcases hx with rfl | rfl | rfl | rfl | rfl | rfl | rfl | rfl | rfl | rfl | rfl | rfl | rfl | rfl | rfl
  ·exact InL.nil _
  ·exact InL.nil _
  ·exact InL.nil _
  ·exact HL116.out
  ·exact InL.nil _
  ·exact InL.nil _
  ·exact InL.nil _
  ·exact InL.nil _
  ·exact InL.nil _
  ·exact HL216.out
  ·exact InL.nil _
  ·exact InL.nil _
  ·exact InL.nil _
  ·exact InL.nil _
  exact InL.nil _
 ))
 go_wp2_with fail;refine (pawake_any _ (HT.out.grow HG16.out) (HM.out.grow HG16.out)).mono ?_;rintro e w17 ⟨rfl, hg⟩;have HG17 := hide (HG16.out.trans hg);have HIQ17 := hide (HIQ16.out.grow hg);have HIP17 := hide (HIP16.out.grow hg);clear hg;go_wp2_with fail;refine (play_any rqsK wantK (some ⟨w14.heap.size, 0, none⟩) (some ⟨w15.heap.size, 0, none⟩) 15 15 w17 (HT.out.grow HG17.out) (HM.out.grow HG17.out) HIQ17.out HIP17.out rfl (by decide) rqsK_ok wantK_eq).mono ?_;rintro e w18 ⟨rfl, hg⟩;have HG18 := hide (HG17.out.trans hg);clear hg;go_wp2_with fail;go_ret;exact ⟨rfl, HG18.out⟩
end
theorem pknown_card : Rows.PlainKnownCardSaid := pknown_card_of pknown_any
end Go.Proofs.YtndjopkdbdcmdaaGreatDoor
