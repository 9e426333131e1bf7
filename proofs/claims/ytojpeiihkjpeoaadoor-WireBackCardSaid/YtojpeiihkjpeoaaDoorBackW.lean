/- Walk: WireBack. Written by wip/tools/gen_backw.py. -/
import Derived.Test.YtojpeiihkjpeoaaDoorSameQ
import Derived.Test.YtojpeiihkjpeoaaDoorGetQ
import Derived.Deep.DeepCutAuto
set_option linter.unusedVariables false
set_option linter.unusedSimpArgs false
namespace Go.Proofs.YtojpeiihkjpeoaaDoor
open Go.RowKit Go.Deep Go.WideShapes

section
variable {P : Program} {ops : Array Oper} {rest : List Oper} {a : Act} {w : World} {Q : Exit → Act → World → Prop}
theorem load_blk_gq {ty t : TypeId} {x : Operand} {d : Option Tmp} {p : String} {af : Array Edge} {g n i : Nat} {bb : Bool} {cells : Array Value} {td : TypeDesc} (hw : Region.wanted ⟨d, .load ty x, t, p, af, some (i, bb)⟩ (yielded ops a.tmps) = true) (hu : P.underlying ty = some td) (hd : (match td with | .struct _ | .array _ _ => true | _ => false) = true) (hx : a.eval x = .pointer (some ⟨g, 0, none⟩)) (hB : Blk w g ty cells) (hi : (P.info? ty).map (·.size) = some n)
    (hn : cells.size = n) (h : wpList P ops Q rest (a.put d (.agg cells)) w) : wpList P ops Q (⟨d, .load ty x, t, p, af, some (i, bb)⟩ :: rest) a w := by
  show if _ then _ ∨ _ else _
  rw [if_pos hw]
  exact .inl (wp_load_row ty x rfl g hx ty cells (0, 0) td hB hu hd (by rw [hn]; exact hi) h)
theorem at_alloc (ty : TypeId) {k : Tmp} {t : TypeId} {p : String} {af : Array Edge} (h : wpList P ops Q (⟨some k, .alloc ty, t, p, af, none⟩ :: rest) a w) : wpList P ops Q (⟨some k, .alloc ty, t, p, af, none⟩ :: rest) a w := h
theorem alloc_to {ty : TypeId} {k : Tmp} {t : TypeId} {p : String} {af : Array Edge} {cells : Array Value} (hrun : ∀ w : World, (execOp a.eval ⟨some k, .alloc ty, t, p, af, none⟩).run P w = .ok (.value (.pointer (some ⟨w.heap.size, 0, none⟩))) (w.alloc (.cells cells ty)))
    (h : wpList P ops Q rest (a.put (some k) (.pointer (some ⟨w.heap.size, 0, none⟩))) (w.alloc (.cells cells ty))) : wpList P ops Q (⟨some k, .alloc ty, t, p, af, none⟩ :: rest) a w := by
  refine wpList_plain rfl fun K hK => ?_
  unfold Oper.wp
  rw [hrun, Oper.upon_value]
  exact hK _ _ h
end
theorem rq_one (d : Int) (c i p : ByteArray) (u : Bool) (k l h x : Cv) (n : Int) : (rqCells d c i p u k l h x n).all (·.oneCell') = true := by simp [Value.oneCell']
theorem xor_bit (x : UInt8) (m : UInt8) (hm : m ≠ 0) {k : Int} (hk : k = (m.toNat : Int)) : ∃ y : UInt8, y ≠ x ∧ bits .xor .u8 (x.toNat : Int) k = (y.toNat : Int) := by
  subst hk
  refine ⟨x ^^^ m, fun h => hm ?_, ?_⟩
  · have h2 : x ^^^ (x ^^^ m) = x ^^^ x := by rw [h]
    rw [← UInt8.xor_assoc, UInt8.xor_self, UInt8.zero_xor] at h2
    exact h2
  · rw [u8_xor_nat _ _ x.toNat_lt m.toNat_lt, UInt8.toNat_xor]
theorem inB_set {w : World} {bk o J : Nat} {b : List UInt8} (y : UInt8) (hJ : J < b.length) (hc : ∀ (j : Nat) (u : Value), (u8s b)[j]? = some u → AtW w 0 w.heap.size ⟨bk, o + j, none⟩ u) : InB (w.setCell ⟨bk, o + J, none⟩ (.int .u8 (y.toNat : Int))) (some ⟨bk, o, none⟩) (b.set J y) := by
  refine ⟨by simp [u8s], fun _ => ⟨bk, o, rfl, fun j u hu => ?_⟩⟩
  have hsz : (w.setCell ⟨bk, o + J, none⟩ (.int .u8 (y.toNat : Int))).heap.size = w.heap.size := by simp [World.setCell]
  have hm : (u8s (b.set J y))[j]? = if J = j then some (.int .u8 (y.toNat : Int)) else (u8s b)[j]? := by
    unfold u8s
    rw [List.getElem?_map, List.getElem?_set, List.getElem?_map]
    by_cases h : J = j
    · subst h; simp [hJ]
    · simp [h]
  rw [hm] at hu
  have h0 := hc J _ (u8s_get b J hJ)
  refine ⟨?_, Nat.zero_le _, by rw [hsz]; exact h0.2.2⟩
  by_cases h : J = j
  · subst h
    rw [if_pos rfl] at hu
    injection hu with hu
    subst hu
    exact World.cell?_setCell_same _ _ _ h0.1
  · rw [if_neg h] at hu
    exact (World.cell?_setCell_other _ _ _ _ (by intro e; injection e with e1 e2; omega)).trans (hc j u hu).1
/-! What a written request gives when it is read: whole, in part, with a byte turned. -/
theorem Rq.put_whole {q : Rq} {b : List UInt8} (hf : q.Fit) (h : q.put = (b, 0)) : q.body.length ≤ 12000 ∧ b = frameOf q.body ∧ pReq q.body = some (q.norm, []) := by
  obtain ⟨h1, h2, rfl⟩ := putOf_ok h
  refine ⟨h2, rfl, ?_⟩
  have := pReq_app q.norm [] (Rq.ok_of hf h1)
  rwa [List.append_nil, Rq.norm_body] at this
theorem Rq.put_back {q : Rq} {b : List UInt8} (hf : q.Fit) (h : q.put = (b, 0)) (t : List UInt8) : getReq (b ++ t) = (q.norm, b.length, 0) := by
  obtain ⟨h1, rfl, h2⟩ := Rq.put_whole hf h
  unfold getReq
  rw [getOf_frame h1 h2 t, frameOf_length]
theorem Rq.put_len {q : Rq} {b : List UInt8} (h : q.put = (b, 0)) : 8 ≤ b.length ∧ b.length ≤ 12008 := by
  obtain ⟨h1, h2, rfl⟩ := putOf_ok h
  rw [frameOf_length]
  omega
theorem Rq.put_less {q : Rq} {b : List UInt8} (h : q.put = (b, 0)) (k : Nat) (hk : k < b.length) : getReq (b.take k) = (Rq.zero, 0, 17) := by
  obtain ⟨h1, h2, rfl⟩ := putOf_ok h
  unfold getReq
  rw [getOf_less h2 k (by rwa [frameOf_length] at hk)]
theorem Rq.put_turned {q : Rq} {b : List UInt8} (hf : q.Fit) (h : q.put = (b, 0)) (i : Nat) (y : UInt8) (hi : i < b.length) (hy : y ≠ b[i]) : (getReq (b.set i y)).1 = Rq.zero ∧ (getReq (b.set i y)).2.2 ≠ 0 := by
  obtain ⟨h1, rfl, h2⟩ := Rq.put_whole hf h
  exact getOf_turned h1 h2 pReq_more i y hi hy
theorem mem_sum_le0 {v : V} : ∀ (l : List V), v ∈ l → v.count ≤ (l.map V.count).sum
  | x :: l, h => by
    simp only [List.map_cons, List.sum_cons]
    rcases List.mem_cons.1 h with rfl | h
    · omega
    · have := mem_sum_le0 l h; omega
/-- A value of Kind 0 is none. -/
def nz (c : Cv) : Cv := if c.k = 0 then Cv.zero else c
theorem nz_zero {c : Cv} (h : c.k = 0) : nz c = Cv.zero := if_pos h
theorem nz_same {c : Cv} (h : ¬ c.k = 0) : nz c = c := if_neg h
theorem In.nz {w : World} {v : V} {c : Cv} (h : In w v c) : In w (norm v) (nz c) := by
  have hk := in_kind h
  unfold Go.Proofs.YtojpeiihkjpeoaaDoor.nz norm
  by_cases h0 : c.k = 0
  · rw [if_pos h0, if_pos (by omega)]; exact In.zero_ w
  · rw [if_neg h0, if_neg (by omega)]; exact h
theorem nz_at5 (d : Int) (c i p : ByteArray) (u : Bool) (k l h x : Cv) (n : Int) : put5 (rqCells d c i p u k l h x n) 5 Cv.zero = rqCells d c i p u Cv.zero l h x n := rfl
theorem nz_at10 (d : Int) (c i p : ByteArray) (u : Bool) (k l h x : Cv) (n : Int) : put5 (rqCells d c i p u k l h x n) 10 Cv.zero = rqCells d c i p u k Cv.zero h x n := rfl
theorem nz_at15 (d : Int) (c i p : ByteArray) (u : Bool) (k l h x : Cv) (n : Int) : put5 (rqCells d c i p u k l h x n) 15 Cv.zero = rqCells d c i p u k l Cv.zero x n := rfl
theorem nz_at20 (d : Int) (c i p : ByteArray) (u : Bool) (k l h x : Cv) (n : Int) : put5 (rqCells d c i p u k l h x n) 20 Cv.zero = rqCells d c i p u k l h Cv.zero n := rfl

set_option maxRecDepth 100000 in
set_option maxHeartbeats 6400000 in
theorem wback_any (q : Rq) (ck cl ch cx : Cv) (b : List UInt8) (B : Option Addr) (bc : Nat) (bit cut : Int) (w : World) (hT : Tabs w) (h1 : In w q.key ck) (h2 : In w q.low cl) (h3 : In w q.high ch) (h4 : In w q.doc cx)
    (hd : -9223372036854775808 ≤ q.do_ ∧ q.do_ ≤ 9223372036854775807) (hqn : -9223372036854775808 ≤ q.n ∧ q.n ≤ 9223372036854775807) (hs1 : q.coll.size ≤ 140737488355328) (hs2 : q.index.size ≤ 140737488355328) (hs3 : q.path.size ≤ 140737488355328)
    (hb : InB w B b) (hl : b.length ≤ 140737488351232) (hcap : b.length ≤ bc) (hbit : -9223372036854775808 ≤ bit ∧ bit ≤ 9223372036854775807) (hcut : -9223372036854775808 ≤ cut ∧ cut ≤ 9223372036854775807) :
    Calls Tryd.prog 8 #[.agg (rqCells q.do_ q.coll q.index q.path q.unique ck cl ch cx q.n), .slice B b.length bc, .int .i64 bit, .int .i64 cut] w fun e w' => e = .returned (.bool true) ∧ Grow w w' := by
  obtain ⟨d, hd0⟩ : ∃ d, q.do_ = d := ⟨_, rfl⟩
  obtain ⟨N, hN⟩ : ∃ d, q.n = d := ⟨_, rfl⟩
  obtain ⟨tc, htc⟩ : ∃ d, q.coll = d := ⟨_, rfl⟩
  obtain ⟨ti, hti⟩ : ∃ d, q.index = d := ⟨_, rfl⟩
  obtain ⟨tp, htp⟩ : ∃ d, q.path = d := ⟨_, rfl⟩
  obtain ⟨ub, hub⟩ : ∃ d, q.unique = d := ⟨_, rfl⟩
  have HPQ := hide (fun (w : World) (hT : Tabs w) (h1 : In w q.key ck) (h2 : In w q.low cl) (h3 : In w q.high ch) (h4 : In w q.doc cx) (hcount : ∀ v ∈ q.vals, v.count ≤ 20000) => putRq_any q ck cl ch cx w hT h1 h2 h3 h4 hcount hd hqn hs1 hs2 hs3)
  have HVQ := hide (fun (g : Nat) (T0 : TypeId) (w : World) (hB : Blk w g T0 (rqCells q.do_ q.coll q.index q.path q.unique ck cl ch cx q.n)) (h1 : In w q.key ck) (h2 : In w q.low cl) (h3 : In w q.high ch) (h4 : In w q.doc cx) => vastAsks_any q ck cl ch cx g T0 w hB h1 h2 h3 h4)
  rw [hd0, hN, htc, hti, htp, hub] at HPQ HVQ
  rw [hd0, hN, htc, hti, htp, hub]
  have HEQ := hide (show q.do_ = d ∧ q.coll = tc ∧ q.index = ti ∧ q.path = tp ∧ q.unique = ub ∧ q.n = N from ⟨hd0, htc, hti, htp, hub, hN⟩)
  have HFIT := hide (show q.Fit from ⟨IsV.fit _ _ h1, IsV.fit _ _ h2, IsV.fit _ _ h3, IsV.fit _ _ h4⟩)
  have HT := hide hT
  have HB := hide hb
  have H1 := hide h1
  have H2 := hide h2
  have H3 := hide h3
  have H4 := hide h4
  have HG0 := hide ((Grow.refl w).alloc (.cells (rqCells d tc ti tp ub ck cl ch cx N) 49))
  have HBQ0 := hide (Blk.new w 49 (rqCells d tc ti tp ub ck cl ch cx N))
  clear hd0 hN htc hti htp hub hT hb h1 h2 h3 h4 hd hqn hs1 hs2 hs3
  go_enter Tryd.func8, Tryd.ntmps8
  go_wp2_with fail
  refine (wawake_any _ (HT.out.grow HG0.out)).mono ?_
  rintro e w2 ⟨rfl, hg1⟩
  have HG2 := hide (HG0.out.trans hg1)
  have HBQ2 := hide (HBQ0.out.grow hg1)
  clear hg1 HG0 HBQ0
  go_wp2_with (with_reducible refine at_load 49 ?_; refine load_blk (g := w.heap.size) (n := 26) (cells := (rqCells d tc ti tp ub ck cl ch cx N)) Tryd.underlying49 rfl rfl HBQ2.out info_rQ rfl ?_)
  refine (HVQ.out w2.heap.size _ _ (Blk.new w2 _ _) (H1.out.grow (HG2.out.trans ((Grow.refl w2).alloc _))) (H2.out.grow (HG2.out.trans ((Grow.refl w2).alloc _))) (H3.out.grow (HG2.out.trans ((Grow.refl w2).alloc _))) (H4.out.grow (HG2.out.trans ((Grow.refl w2).alloc _)))).mono ?_
  rintro e w3 ⟨rfl, hg3⟩
  have HG3 := hide ((HG2.out.trans ((Grow.refl w2).alloc _)).trans hg3)
  have HBQ3 := hide ((HBQ2.out.grow ((Grow.refl w2).alloc _)).grow hg3)
  clear hg3 HG2 HBQ2
  by_cases hv2 : 20000 ≤ (q.vals.map V.count).sum
  · rw [decide_eq_true hv2]
    go_wp2_with fail
    go_ret
    exact ⟨rfl, HG3.out⟩
  rw [decide_eq_false hv2]
  have HC2 := hide (fun (v : V) (hv : v ∈ q.vals) => (show v.count ≤ 20000 from by have := mem_sum_le0 q.vals hv; omega))
  clear hv2
  go_wp2_with (with_reducible refine at_load 49 ?_; refine load_blk (g := w.heap.size) (n := 26) (cells := (rqCells d tc ti tp ub ck cl ch cx N)) Tryd.underlying49 rfl rfl HBQ3.out info_rQ rfl ?_)
  refine (HPQ.out w3 (HT.out.grow HG3.out) (H1.out.grow HG3.out) (H2.out.grow HG3.out) (H3.out.grow HG3.out) (H4.out.grow HG3.out) HC2.out).mono ?_
  rintro e w4 ⟨base4, PA, pc, rfl, hb4, hb4', hrow4, hg4⟩
  have HG4 := hide (HG3.out.trans hg4)
  have HBQ4 := hide (HBQ3.out.grow hg4)
  clear hg4 HG3 HBQ3 hb4 hb4'
  obtain ⟨pb, pe, hput⟩ : ∃ pb pe, q.put = (pb, pe) := ⟨_, _, rfl⟩
  rw [hput] at hrow4 ⊢
  dsimp only at hrow4 ⊢
  by_cases hpe : pe = 0
  rotate_left 1
  · have hpe0 : (pe != 0) = true := by simpa using hpe
    have hpb := Rq.put_split hput hpe
    subst hpb
    go_wp2_with fail
    go_ret
    exact ⟨rfl, HG4.out⟩
  subst hpe
  have HPUT := hide hput
  have HROW4 := hide hrow4
  obtain ⟨hl8, hl12⟩ := Rq.put_len hput
  have hcap4 := hrow4.cap
  clear hput hrow4
  have hlt4 := HBQ4.out.lt
  have hcq := HBQ4.out.cell
  go_upto_if 40 with (first
    | (with_reducible refine at_load 49 ?_; refine load_blk (g := w.heap.size) (n := 26) (cells := (rqCells d tc ti tp ub ck cl ch cx N)) Tryd.underlying49 rfl rfl HBQ4.out info_rQ rfl ?_)
    | ((with_reducible refine at_alloc 49 ?_); refine alloc_to (cells := zeroQ) (fun w => by kernel_rfl) ?_)
    | ((with_reducible refine at_store 49 ?_); refine store_blk (g := w4.heap.size) (n := 26) (cells := (rqCells d tc ti tp ub ck cl ch cx N)) rfl rfl (Blk.new w4 49 zeroQ) info_rQ rfl rfl (rq_one _ _ _ _ _ _ _ _ _ _) ?_; intro w5 hb5 hgs5 hz5; have hbq5 := (HBQ4.out.alloc (.cells zeroQ 49)).own hgs5 (fun k e => by injection e with e; omega); have hcq5 := hbq5.cell))
  have HW5 := hide hb5
  have HG5 := hide (((Grow.refl w4).alloc (.cells zeroQ 49)).grown hgs5 (fun k e => by injection e with e; omega))
  clear hcq hcq5 hb5 hgs5 hbq5 hz5
  have hcw := HW5.out.cell
  have hfw := HW5.out.frozen
  go_cut [] (fun wx => Blk wx w4.heap.size 49 (rqCells d tc ti tp ub (nz ck) cl ch cx N) ∧ w5.grownBy wx (some w4.heap.size))
  case first =>
    by_cases k0 : ck.k = 0
    · have hk0 : (ck.k == 0) = true := by simpa using k0
      have K0 := hide k0
      clear k0
      go_wp2_with fail
      go_meet
      exact ⟨by rw [nz_zero K0.out]; exact HW5.out.set5 5 Cv.zero, grown_set5 w5 w4.heap.size 5 Cv.zero⟩
    · have hk0 : (ck.k == 0) = false := by simpa using k0
      go_wp2_with fail
      go_meet
      exact ⟨by rw [nz_same k0]; exact HW5.out, World.grownBy.refl _ _⟩
  case rest =>
  obtain ⟨hbw, hgw⟩ := hcut
  have HW6 := hide hbw
  have HG6 := hide (HG5.out.grown hgw (fun k e => by injection e with e; omega))
  clear hcw hfw hbw hgw HW5 HG5
  rename World => w6
  have hcw := HW6.out.cell
  have hfw := HW6.out.frozen
  have hcq := (HBQ4.out.grow HG6.out).cell
  go_upto_if 46 with fail
  go_cut [] (fun wx => Blk wx w4.heap.size 49 (rqCells d tc ti tp ub (nz ck) (nz cl) ch cx N) ∧ w6.grownBy wx (some w4.heap.size))
  case first =>
    by_cases k0 : cl.k = 0
    · have hk0 : (cl.k == 0) = true := by simpa using k0
      have K0 := hide k0
      clear k0
      go_wp2_with fail
      go_meet
      exact ⟨by rw [nz_zero K0.out]; exact HW6.out.set5 10 Cv.zero, grown_set5 w6 w4.heap.size 10 Cv.zero⟩
    · have hk0 : (cl.k == 0) = false := by simpa using k0
      go_wp2_with fail
      go_meet
      exact ⟨by rw [nz_same k0]; exact HW6.out, World.grownBy.refl _ _⟩
  case rest =>
  obtain ⟨hbw, hgw⟩ := hcut
  have HW7 := hide hbw
  have HG7 := hide (HG6.out.grown hgw (fun k e => by injection e with e; omega))
  clear hcw hfw hbw hgw HW6 HG6 hcq
  rename World => w7
  have hcw := HW7.out.cell
  have hfw := HW7.out.frozen
  have hcq := (HBQ4.out.grow HG7.out).cell
  go_upto_if 52 with fail
  go_cut [] (fun wx => Blk wx w4.heap.size 49 (rqCells d tc ti tp ub (nz ck) (nz cl) (nz ch) cx N) ∧ w7.grownBy wx (some w4.heap.size))
  case first =>
    by_cases k0 : ch.k = 0
    · have hk0 : (ch.k == 0) = true := by simpa using k0
      have K0 := hide k0
      clear k0
      go_wp2_with fail
      go_meet
      exact ⟨by rw [nz_zero K0.out]; exact HW7.out.set5 15 Cv.zero, grown_set5 w7 w4.heap.size 15 Cv.zero⟩
    · have hk0 : (ch.k == 0) = false := by simpa using k0
      go_wp2_with fail
      go_meet
      exact ⟨by rw [nz_same k0]; exact HW7.out, World.grownBy.refl _ _⟩
  case rest =>
  obtain ⟨hbw, hgw⟩ := hcut
  have HW8 := hide hbw
  have HG8 := hide (HG7.out.grown hgw (fun k e => by injection e with e; omega))
  clear hcw hfw hbw hgw HW7 HG7 hcq
  rename World => w8
  have hcw := HW8.out.cell
  have hfw := HW8.out.frozen
  have hcq := (HBQ4.out.grow HG8.out).cell
  go_upto_if 58 with fail
  go_cut [] (fun wx => Blk wx w4.heap.size 49 (rqCells d tc ti tp ub (nz ck) (nz cl) (nz ch) (nz cx) N) ∧ w8.grownBy wx (some w4.heap.size))
  case first =>
    by_cases k0 : cx.k = 0
    · have hk0 : (cx.k == 0) = true := by simpa using k0
      have K0 := hide k0
      clear k0
      go_wp2_with fail
      go_meet
      exact ⟨by rw [nz_zero K0.out]; exact HW8.out.set5 20 Cv.zero, grown_set5 w8 w4.heap.size 20 Cv.zero⟩
    · have hk0 : (cx.k == 0) = false := by simpa using k0
      go_wp2_with fail
      go_meet
      exact ⟨by rw [nz_same k0]; exact HW8.out, World.grownBy.refl _ _⟩
  case rest =>
  obtain ⟨hbw, hgw⟩ := hcut
  have HW9 := hide hbw
  have HG9 := hide (HG8.out.grown hgw (fun k e => by injection e with e; omega))
  clear hcw hfw hbw hgw HW8 HG8 hcq
  rename World => w9
  have HMADE := hide (Row.made (w := w9) #[] 0 (by simp [maxLen]) rfl)
  have HROW9 := hide (HROW4.out.grow HG9.out)
  have hal9 := (Grow.refl w9).alloc (.cells #[] 5)
  have HPI := hide (HROW9.out.reads.1.grow hal9)
  have HBI := hide (HB.out.grow ((HG4.out.trans HG9.out).trans hal9))
  clear hal9
  go_wp2_with (first
    | (at_builtin; refine app_src (ys := pb) rfl (.tmp 62) (.tmp 63) _ rfl rfl HMADE.out _ rfl (Src.ofReads (c := pc) under_u8s HPI.out (u8s_one pb)) (by omega) (by simp) ?_; intro A10 c10 w10 hr10 hg10; rw [Nat.zero_add, List.nil_append] at hr10; have HG10 := hide (show Grow w9 w10 from Below.trans ((Grow.refl w9).alloc (.cells #[] 5)) (Grew.below hg10 HMADE.out (by simp))); have hz10 : w9.heap.size ≤ w10.heap.size := HG10.out.size; have HB10 := hide (HB.out.grow ((HG4.out.trans HG9.out).trans HG10.out)); have HR10 := hide hr10; clear hr10 hg10)
    | (at_builtin; refine app_src (ys := b) rfl (.tmp 64) (.tmp 65) _ rfl rfl HR10.out _ rfl (Src.ofReads (c := bc) under_u8s HB10.out (u8s_one b)) (by omega) hz10 ?_; intro A11 c11 w11 hr11 hg11; have HG11 := hide (show Grow w9 w11 from Below.trans HG10.out (Grew.below hg11 HR10.out hz10)); have HR11 := hide hr11; clear hr11 hg11))
  have hG := getQ_any (pb ++ b) A11 c11 w11 (HT.out.grow ((HG4.out.trans HG9.out).trans HG11.out)) HR11.out.reads.1 (by rw [List.length_append]; omega) (by have := HR11.out.cap; rw [List.length_append]; exact this)
  rw [Rq.put_back HFIT.out HPUT.out b, List.length_append] at hG
  have HGET := hide hG
  have HW11 := hide (HW9.out.grow HG11.out)
  have HG12 := hide (HG9.out.trans HG11.out)
  clear hG HMADE HROW9 HPI HBI HB10 HR10 HR11 HG10 HG11 HG9 HW9 hz10
  refine HGET.out.mono ?_
  rintro e w12 ⟨u, rfl, hret, hg12⟩
  obtain ⟨xk, xl, xh, xx, hu, i1, i2, i3, i4⟩ := hret
  obtain ⟨ed, ec, ei, ep, eu, en⟩ := HEQ.out
  rw [show q.norm.do_ = d from ed, show q.norm.coll = tc from ec, show q.norm.index = ti from ei, show q.norm.path = tp from ep, show q.norm.unique = ub from eu, show q.norm.n = N from en] at hu
  subst hu
  clear ed ec ei ep eu en
  have HX12 := hide (show In w12 q.norm.key xk ∧ In w12 q.norm.low xl ∧ In w12 q.norm.high xh ∧ In w12 q.norm.doc xx from ⟨i1.in_, i2.in_, i3.in_, i4.in_⟩)
  have HW12 := hide (HW11.out.grow hg12)
  have HG13 := hide (HG12.out.trans hg12)
  clear i1 i2 i3 i4 hg12 HW11 HG12 HGET
  have hlt12 := HW12.out.lt
  go_wp2_with (first
    | ((with_reducible refine at_alloc 49 ?_); refine alloc_to (cells := zeroQ) (fun w => by kernel_rfl) ?_)
    | ((with_reducible refine at_store 49 ?_); refine store_blk (g := w12.heap.size) (n := 26) (cells := (rqCells d tc ti tp ub xk xl xh xx N)) rfl rfl (Blk.new w12 49 zeroQ) info_rQ rfl rfl (rq_one _ _ _ _ _ _ _ _ _ _) ?_; intro w13 hb13 hgs13 hz13; have HY13 := hide hb13; have HG14 := hide (show Grow w12 w13 from ((Grow.refl w12).alloc (.cells zeroQ 49)).grown hgs13 (fun k e => by injection e with e; omega)); have HW13 := hide (HW12.out.grow HG14.out); clear hb13 hgs13)
    | ((with_reducible refine at_load_gv (x := .tmp 12) 49 ?_); refine load_blk_gq (g := w12.heap.size) (n := 26) (cells := (rqCells d tc ti tp ub xk xl xh xx N)) ?_ Tryd.underlying49 rfl rfl HY13.out info_rQ rfl ?_)
    | ((with_reducible refine at_load_gv (x := .tmp 11) 49 ?_); refine load_blk_gq (g := w4.heap.size) (n := 26) (cells := (rqCells d tc ti tp ub (nz ck) (nz cl) (nz ch) (nz cx) N)) ?_ Tryd.underlying49 rfl rfl HW13.out info_rQ rfl ?_))
  all_goals try ((with_reducible show Region.wanted _ _ = true); rfl)
  have HS := hide (rq_same q.norm _ _ w13 ⟨xk, xl, xh, xx, by rw [show q.norm.do_ = d from HEQ.out.1, show q.norm.coll = tc from HEQ.out.2.1, show q.norm.index = ti from HEQ.out.2.2.1, show q.norm.path = tp from HEQ.out.2.2.2.1, show q.norm.unique = ub from HEQ.out.2.2.2.2.1, show q.norm.n = N from HEQ.out.2.2.2.2.2], HX12.out.1.grow HG14.out, HX12.out.2.1.grow HG14.out, HX12.out.2.2.1.grow HG14.out, HX12.out.2.2.2.grow HG14.out⟩ ⟨nz ck, nz cl, nz ch, nz cx, by rw [show q.norm.do_ = d from HEQ.out.1, show q.norm.coll = tc from HEQ.out.2.1, show q.norm.index = ti from HEQ.out.2.2.1, show q.norm.path = tp from HEQ.out.2.2.2.1, show q.norm.unique = ub from HEQ.out.2.2.2.2.1, show q.norm.n = N from HEQ.out.2.2.2.2.2], (H1.out.grow (HG4.out.trans (HG13.out.trans HG14.out))).nz, (H2.out.grow (HG4.out.trans (HG13.out.trans HG14.out))).nz, (H3.out.grow (HG4.out.trans (HG13.out.trans HG14.out))).nz, (H4.out.grow (HG4.out.trans (HG13.out.trans HG14.out))).nz⟩)
  refine HS.out.mono ?_
  rintro e w14 ⟨rfl, hg14⟩
  have HG15 := hide ((HG4.out.trans (HG13.out.trans HG14.out)).trans hg14)
  have HROW14 := hide (HROW4.out.grow ((HG13.out.trans HG14.out).trans hg14))
  clear hg14 HS HG13 HG14 HX12 HW12 HW13 HY13 HG4 HROW4 HBQ4 hlt12 hlt4 hz13
  have HPL := hide (show pb.length = pb.length from rfl)
  obtain ⟨L, hL⟩ : ∃ L, pb.length = L := ⟨_, rfl⟩
  rw [hL] at HROW14 hcap4 hl8 hl12 ⊢
  have HL := hide hL
  have hL0 : ((L : Int) == 0) = false := by simp; omega
  obtain ⟨M, hM⟩ : ∃ M, Int.tmod cut (L : Int) = M := ⟨_, rfl⟩
  have hM2 : M.natAbs < L := by rw [← hM]; have := Int.natAbs_tmod cut (L : Int); rw [this]; exact Nat.mod_lt _ (by omega)
  clear hL
  go_upto_if 90 with fail
  have hMl : -12008 ≤ M := by omega
  have hMh : M ≤ 12008 := by omega
  go_cut [15] (fun k wx => ∃ K : Nat, k = .int .i64 (K : Int) ∧ K < L ∧ w14 = wx)
  case first =>
    by_cases hneg : M < 0
    · have hd : decide (M < 0) = true := decide_eq_true hneg
      go_wp2_with fail
      go_meet
      exact ⟨M.natAbs, congrArg (Value.int .i64) (by omega), hM2, rfl⟩
    · have hd : decide (M < 0) = false := decide_eq_false hneg
      go_wp2_with fail
      go_meet
      exact ⟨M.natAbs, congrArg (Value.int .i64) (by omega), hM2, rfl⟩
  case rest =>
  obtain ⟨K, rfl, hK, rfl⟩ := hcut
  clear hM hM2 hMl hMh hL0
  clear HPQ HVQ HB H1 H2 H3 H4 HC2
  have htl : (pb.take K).length = K := by rw [List.length_take, HL.out]; omega
  have hG2 := getQ_any (pb.take K) PA pc w14 (HT.out.grow HG15.out) (HROW14.out.reads.1.take K) (by omega) (by omega)
  rw [Rq.put_less HPUT.out K (by rw [HL.out]; exact hK), htl] at hG2
  have HGET2 := hide hG2
  clear hG2 htl
  have hKp : K ≤ pc := by omega
  go_wp2_with fail
  refine HGET2.out.mono ?_
  rintro e w15 ⟨u, rfl, hret, hg15⟩
  have HG16 := hide (HG15.out.trans hg15)
  have HROW15 := hide (HROW14.out.grow hg15)
  clear hret hg15 HGET2 HG15 HROW14
  have HMADE := hide (Row.made (w := w15) #[] 0 (by simp [maxLen]) rfl)
  have HPI := hide (HROW15.out.reads.1.grow ((Grow.refl w15).alloc (.cells #[] 5)))
  have hLr := HL.out
  have h8 : (8 * (L : Int) == 0) = false := by simp; omega
  obtain ⟨M, hM⟩ : ∃ M, Int.tmod bit (8 * (L : Int)) = M := ⟨_, rfl⟩
  have hM2 : M.natAbs < 8 * L := by rw [← hM]; have := Int.natAbs_tmod bit (8 * (L : Int)); rw [this]; exact Nat.lt_of_lt_of_le (Nat.mod_lt _ (by omega)) (by omega)
  go_upto_if 112 with (at_builtin; refine app_src (ys := pb) rfl (.tmp 103) (.tmp 104) _ rfl rfl HMADE.out _ rfl (by rw [← HL.out]; exact Src.ofReads (c := pc) under_u8s HPI.out (u8s_one pb)) (by omega) (by simp) ?_; intro A16 c16 w16 hr16 hg17; rw [Nat.zero_add, List.nil_append, HL.out] at hr16; have HG17 := hide (show Grow w15 w16 from Below.trans ((Grow.refl w15).alloc (.cells #[] 5)) (Grew.below hg17 HMADE.out (by simp))); have HR16 := hide hr16; clear hr16 hg17)
  have hMl : -96064 ≤ M := by omega
  have hMh : M ≤ 96064 := by omega
  go_cut [17] (fun k wx => ∃ I : Nat, k = .int .i64 (I : Int) ∧ I < 8 * L ∧ w16 = wx)
  case first =>
    by_cases hneg : M < 0
    · have hd : decide (M < 0) = true := decide_eq_true hneg
      go_wp2_with fail
      go_meet
      exact ⟨M.natAbs, congrArg (Value.int .i64) (by omega), hM2, rfl⟩
    · have hd : decide (M < 0) = false := decide_eq_false hneg
      go_wp2_with fail
      go_meet
      exact ⟨M.natAbs, congrArg (Value.int .i64) (by omega), hM2, rfl⟩
  case rest =>
  obtain ⟨I, rfl, hI, rfl⟩ := hcut
  clear hM hM2 hMl hMh h8 hLr HPL HMADE HPI HROW15
  obtain ⟨J, hJ⟩ : ∃ J, I / 8 = J := ⟨_, rfl⟩
  obtain ⟨R, hR⟩ : ∃ R, I % 8 = R := ⟨_, rfl⟩
  have hJL : J < L := by omega
  have hR8 : R < 8 := by omega
  have hJi : (I : Int) / 8 = (J : Int) := by omega
  have hRi : (I : Int) % 8 = (R : Int) := by omega
  have hJp : J < pb.length := by rw [HL.out]; exact hJL
  obtain ⟨bk, o, hA, hcell⟩ := HR16.out.from_.2 (by omega)
  subst hA
  obtain ⟨⟨e0, hbl, hbh⟩, f0⟩ := hcell J _ (u8s_get pb J hJp)
  have hbl2 : w15.heap.size ≤ bk := hbl
  obtain ⟨x, hx⟩ : ∃ x, pb[J] = x := ⟨_, rfl⟩
  rw [hx] at e0
  have hxl := x.toNat_lt
  have HXX := hide hx
  have HCELL := hide hcell
  have hc16 := HR16.out.cap
  clear hJ hR hx hcell
  go_upto_region 30 with fail
  go_cut [] (fun wx => ∃ y : UInt8, y ≠ x ∧ InB wx (some ⟨bk, o, none⟩) (pb.set J y) ∧ w16.grownBy wx (some bk))
  case first =>
    have hr : R = 0 ∨ R = 1 ∨ R = 2 ∨ R = 3 ∨ R = 4 ∨ R = 5 ∨ R = 6 ∨ R = 7 := by omega
    rcases hr with rfl | rfl | rfl | rfl | rfl | rfl | rfl | rfl
    · obtain ⟨y, hy, hyb⟩ := xor_bit x 1 (by decide) (k := 1) rfl
      have HY := hide (show y ≠ x ∧ bits .xor .u8 (x.toNat : Int) 1 = (y.toNat : Int) from ⟨hy, hyb⟩)
      clear hy hyb
      go_wp2_with fail
      go_meet
      exact ⟨y, HY.out.1, by rw [HY.out.2]; exact inB_set y hJp (fun j u hu => ⟨(HCELL.out j u hu).1.1, Nat.zero_le _, (HCELL.out j u hu).1.2.2⟩), grown_set _ _ _ _⟩
    · obtain ⟨y, hy, hyb⟩ := xor_bit x 2 (by decide) (k := 2) rfl
      have HY := hide (show y ≠ x ∧ bits .xor .u8 (x.toNat : Int) 2 = (y.toNat : Int) from ⟨hy, hyb⟩)
      clear hy hyb
      go_wp2_with fail
      go_meet
      exact ⟨y, HY.out.1, by rw [HY.out.2]; exact inB_set y hJp (fun j u hu => ⟨(HCELL.out j u hu).1.1, Nat.zero_le _, (HCELL.out j u hu).1.2.2⟩), grown_set _ _ _ _⟩
    · obtain ⟨y, hy, hyb⟩ := xor_bit x 4 (by decide) (k := 4) rfl
      have HY := hide (show y ≠ x ∧ bits .xor .u8 (x.toNat : Int) 4 = (y.toNat : Int) from ⟨hy, hyb⟩)
      clear hy hyb
      go_wp2_with fail
      go_meet
      exact ⟨y, HY.out.1, by rw [HY.out.2]; exact inB_set y hJp (fun j u hu => ⟨(HCELL.out j u hu).1.1, Nat.zero_le _, (HCELL.out j u hu).1.2.2⟩), grown_set _ _ _ _⟩
    · obtain ⟨y, hy, hyb⟩ := xor_bit x 8 (by decide) (k := 8) rfl
      have HY := hide (show y ≠ x ∧ bits .xor .u8 (x.toNat : Int) 8 = (y.toNat : Int) from ⟨hy, hyb⟩)
      clear hy hyb
      go_wp2_with fail
      go_meet
      exact ⟨y, HY.out.1, by rw [HY.out.2]; exact inB_set y hJp (fun j u hu => ⟨(HCELL.out j u hu).1.1, Nat.zero_le _, (HCELL.out j u hu).1.2.2⟩), grown_set _ _ _ _⟩
    · obtain ⟨y, hy, hyb⟩ := xor_bit x 16 (by decide) (k := 16) rfl
      have HY := hide (show y ≠ x ∧ bits .xor .u8 (x.toNat : Int) 16 = (y.toNat : Int) from ⟨hy, hyb⟩)
      clear hy hyb
      go_wp2_with fail
      go_meet
      exact ⟨y, HY.out.1, by rw [HY.out.2]; exact inB_set y hJp (fun j u hu => ⟨(HCELL.out j u hu).1.1, Nat.zero_le _, (HCELL.out j u hu).1.2.2⟩), grown_set _ _ _ _⟩
    · obtain ⟨y, hy, hyb⟩ := xor_bit x 32 (by decide) (k := 32) rfl
      have HY := hide (show y ≠ x ∧ bits .xor .u8 (x.toNat : Int) 32 = (y.toNat : Int) from ⟨hy, hyb⟩)
      clear hy hyb
      go_wp2_with fail
      go_meet
      exact ⟨y, HY.out.1, by rw [HY.out.2]; exact inB_set y hJp (fun j u hu => ⟨(HCELL.out j u hu).1.1, Nat.zero_le _, (HCELL.out j u hu).1.2.2⟩), grown_set _ _ _ _⟩
    · obtain ⟨y, hy, hyb⟩ := xor_bit x 64 (by decide) (k := 64) rfl
      have HY := hide (show y ≠ x ∧ bits .xor .u8 (x.toNat : Int) 64 = (y.toNat : Int) from ⟨hy, hyb⟩)
      clear hy hyb
      go_wp2_with fail
      go_meet
      exact ⟨y, HY.out.1, by rw [HY.out.2]; exact inB_set y hJp (fun j u hu => ⟨(HCELL.out j u hu).1.1, Nat.zero_le _, (HCELL.out j u hu).1.2.2⟩), grown_set _ _ _ _⟩
    · obtain ⟨y, hy, hyb⟩ := xor_bit x 128 (by decide) (k := 128) rfl
      have HY := hide (show y ≠ x ∧ bits .xor .u8 (x.toNat : Int) 128 = (y.toNat : Int) from ⟨hy, hyb⟩)
      clear hy hyb
      go_wp2_with fail
      go_meet
      exact ⟨y, HY.out.1, by rw [HY.out.2]; exact inB_set y hJp (fun j u hu => ⟨(HCELL.out j u hu).1.1, Nat.zero_le _, (HCELL.out j u hu).1.2.2⟩), grown_set _ _ _ _⟩
  case rest =>
  obtain ⟨y, hy, hin, hgs⟩ := hcut
  rename World => w17
  have hne : y ≠ pb[J] := by rw [HXX.out]; exact hy
  have HTN := hide (Rq.put_turned HFIT.out HPUT.out J y hJp hne)
  have hsl : (pb.set J y).length = L := by rw [List.length_set]; exact HL.out
  have HG18 := hide ((HG16.out.trans HG17.out).grown hgs (fun k e => by injection e with e; have := HG16.out.size; omega))
  have hG3 := getQ_any (pb.set J y) (some ⟨bk, o, none⟩) c16 w17 (HT.out.grow HG18.out) hin (by omega) (by omega)
  rw [hsl] at hG3
  have HGET3 := hide hG3
  clear hG3 hin hgs HG16 HG17 HR16 HCELL e0 f0 hJi hRi hy hne hsl
  go_wp2_with fail
  refine HGET3.out.mono ?_
  rintro e w18 ⟨u, rfl, hret, hg18⟩
  have hret0 := hret
  rw [HTN.out.1] at hret0
  obtain ⟨zk, zl, zh, zx, hu, i1, i2, i3, i4⟩ := hret0
  have HZ := hide (show In w18 Rq.zero.key zk ∧ In w18 Rq.zero.low zl ∧ In w18 Rq.zero.high zh ∧ In w18 Rq.zero.doc zx from ⟨i1.in_, i2.in_, i3.in_, i4.in_⟩)
  rw [show Rq.zero.do_ = 0 from rfl, show Rq.zero.coll = ⟨#[]⟩ from rfl, show Rq.zero.index = ⟨#[]⟩ from rfl, show Rq.zero.path = ⟨#[]⟩ from rfl, show Rq.zero.unique = false from rfl, show Rq.zero.n = 0 from rfl] at hu
  subst hu
  obtain ⟨E, hE⟩ : ∃ E, (getReq (pb.set J y)).2.2 = E := ⟨_, rfl⟩
  obtain ⟨n3, hn3⟩ : ∃ n, (getReq (pb.set J y)).2.1 = n := ⟨_, rfl⟩
  have hE0 : (E != 0) = true := by rw [← hE]; simpa using HTN.out.2
  rw [hE, hn3]
  have HG19 := hide (HG18.out.trans hg18)
  clear hret i1 i2 i3 i4 hg18 hE hn3 HGET3 HTN HG18
  go_wp2_with (first
    | ((with_reducible refine at_alloc 49 ?_); refine alloc_to (cells := zeroQ) (fun w => by kernel_rfl) ?_)
    | ((with_reducible refine at_store 49 ?_); refine store_blk (g := w18.heap.size) (n := 26) (cells := (rqCells 0 ⟨#[]⟩ ⟨#[]⟩ ⟨#[]⟩ false zk zl zh zx 0)) rfl rfl (Blk.new w18 49 zeroQ) info_rQ rfl rfl (rq_one _ _ _ _ _ _ _ _ _ _) ?_; intro w19 hb19 hgs19 hz19; have HY19 := hide hb19; have HG20 := hide (show Grow w18 w19 from ((Grow.refl w18).alloc (.cells zeroQ 49)).grown hgs19 (fun k e => by injection e with e; omega)); clear hb19 hgs19)
    | ((with_reducible refine at_load_gv (x := .tmp 18) 49 ?_); refine load_blk_gq (g := w18.heap.size) (n := 26) (cells := (rqCells 0 ⟨#[]⟩ ⟨#[]⟩ ⟨#[]⟩ false zk zl zh zx 0)) ?_ Tryd.underlying49 rfl rfl HY19.out info_rQ rfl ?_))
  all_goals try ((with_reducible show Region.wanted _ _ = true); rfl)
  refine (rq_same Rq.zero _ _ w19 ⟨zk, zl, zh, zx, rfl, HZ.out.1.grow HG20.out, HZ.out.2.1.grow HG20.out, HZ.out.2.2.1.grow HG20.out, HZ.out.2.2.2.grow HG20.out⟩ (RqIn.zero w19)).mono ?_
  rintro e w20 ⟨rfl, hg20⟩
  have HG21 := hide ((HG19.out.trans HG20.out).trans hg20)
  clear hg20
  go_wp2_with fail
  go_ret
  exact ⟨rfl, HG21.out⟩
end Go.Proofs.YtojpeiihkjpeoaaDoor
