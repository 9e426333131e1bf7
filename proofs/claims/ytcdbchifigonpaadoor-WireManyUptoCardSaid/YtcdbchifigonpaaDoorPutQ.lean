/- Walks: PutRequest. Written by wip/tools/gen_putq.py. · Walk: VastAsks of one request. Written by wip/tools/gen_asks.py. -/
import Derived.Test.YtcdbchifigonpaaDoorPutA
import Derived.Test.YtcdbchifigonpaaDoorRequest
set_option linter.unusedVariables false
set_option linter.unusedSimpArgs false
namespace Go.Proofs.YtcdbchifigonpaaDoor
open Go.RowKit Go.Shelf

set_option maxRecDepth 100000 in
set_option maxHeartbeats 1600000 in
theorem text_any (s : ByteArray) (base : Nat) (A : Option Addr) (c m : Nat) (xs : List UInt8) (w : World) (hs : s.size ≤ 200) (hown : Row w base (.slice A m c) m xs) (hbase : base ≤ w.heap.size) (hm : m + 201 ≤ 140737488355328) :
    Calls Tryd.prog 36 #[.slice A m c, .string s] w (LayC w base (.slice A m c) (xs ++ textB s)) := by
  have hxl : xs.length = m := hown.reads.2
  have HO := hide hown
  have hsl : s.data.toList.length = s.size := by simp
  have hs8 : ((UInt8.ofNat s.size).toNat : Int) = (s.size : Int) := by rw [UInt8.toNat_ofNat']; omega
  clear hown
  go_enter Tryd.func36, Tryd.ntmps36
  go_wp2_with (first
    | (at_builtin; refine app_src (ys := [UInt8.ofNat s.size]) rfl (.tmp 5) (.tmp 9) _ rfl rfl (HO.out.alloc _) _ rfl (src_one _ hs8 (Blk.new w _ _)) (by simp only [List.length_cons, List.length_nil]; omega) (by simp; omega) ?_; intro A2 c2 w2 hr2 hg2; have HR2 := hide hr2; have HG2 := hide ((Grew.of_grow (.slice A m c) ((Grow.refl w).alloc (.cells #[.int .u8 (s.size : Int)] 5))).trans hg2); have hz2 : base ≤ w2.heap.size := Nat.le_trans hbase HG2.out.size; clear hr2 hg2)
    | (at_builtin; refine app_src (ys := s.data.toList) rfl (.tmp 10) (.tmp 11) _ rfl rfl HR2.out _ rfl (src_str s) (by omega) hz2 ?_; intro A3 c3 w3 hr3 hg3; rw [hsl] at hr3 hg3; have HR3 := hide hr3; have HG3 := hide (HG2.out.trans hg3); clear hr3 hg3))
  go_ret
  exact LayC.of (by simp only [textB, List.length_append, List.length_cons, List.length_nil, hxl]; omega) (by rw [List.append_assoc]; rfl) HR3.out HG3.out

/-- A block of bytes as a row. -/
theorem row_of_blk {w : World} {g n base : Nat} {xs : List UInt8} (h : Blk w g 5 (u8s xs).toArray) (hn : xs.length = n) (hb : base ≤ g) (hm : n ≤ maxLen) : Row w base (.slice (some ⟨g, 0, none⟩) n n) n xs := by
  subst hn
  exact ⟨by simp [u8s], .inr ⟨g, xs.length, (u8s xs).toArray, rfl, hb, h, Nat.le_refl _, hm, by simp [u8s], by simp [u8s, List.take_of_length_le]⟩⟩
section
variable {P : Program} {ops : Array Oper} {rest : List Oper} {a : Act} {w : World} {Q : Exit → Act → World → Prop}
/-- A value out of a block's cells from an offset on. -/
theorem load_val {ty t tb : TypeId} {x : Operand} {d : Option Tmp} {p : String} {af : Array Edge} {g o : Nat} {cs : Array Value} {c : Cv} {td : TypeDesc} (hu : P.underlying ty = some td) (hd : td.isRow = true) (hx : a.eval x = .pointer (some ⟨g, o, none⟩)) (hB : Blk w g tb cs) (hi : (P.info? ty).map (·.size) = some 5)
    (hget : ∀ j v, c.cells.toList[j]? = some v → cs[o + j]? = some v) (h : wpList P ops Q rest (a.put d c.agg) w) : wpList P ops Q (⟨d, .load ty x, t, p, af, none⟩ :: rest) a w :=
  wpList_load_mid rfl ty x rfl g o hx c.cells.toList td (fun j v hv => by rw [hB.cell]; exact hget j v hv) hu hd hi h
end
theorem rq_key (d : Int) (c i p : ByteArray) (u : Bool) (k l h x : Cv) (n : Int) : ∀ j v, k.cells.toList[j]? = some v → (rqCells d c i p u k l h x n)[5 + j]? = some v
  | 0, v, h | 1, v, h | 2, v, h | 3, v, h | 4, v, h => h
  | j + 5, v, h => by simp at h
theorem rq_low (d : Int) (c i p : ByteArray) (u : Bool) (k l h x : Cv) (n : Int) : ∀ j v, l.cells.toList[j]? = some v → (rqCells d c i p u k l h x n)[10 + j]? = some v
  | 0, v, h | 1, v, h | 2, v, h | 3, v, h | 4, v, h => h
  | j + 5, v, h => by simp at h
theorem rq_high (d : Int) (c i p : ByteArray) (u : Bool) (k l h x : Cv) (n : Int) : ∀ j v, h.cells.toList[j]? = some v → (rqCells d c i p u k l h x n)[15 + j]? = some v
  | 0, v, h | 1, v, h | 2, v, h | 3, v, h | 4, v, h => h
  | j + 5, v, h => by simp at h
theorem rq_doc (d : Int) (c i p : ByteArray) (u : Bool) (k l h x : Cv) (n : Int) : ∀ j v, x.cells.toList[j]? = some v → (rqCells d c i p u k l h x n)[20 + j]? = some v
  | 0, v, h | 1, v, h | 2, v, h | 3, v, h | 4, v, h => h
  | j + 5, v, h => by simp at h
theorem in_kind {w : World} {v : V} {c : Cv} (h : In w v c) : c.k = v.k := by
  obtain ⟨k, n, b, l, f⟩ := v
  obtain ⟨aB, aL, aF, cB, cL, cF, rfl, _⟩ := In.open h
  rfl
theorem putRq_args {q : Rq} (h : q.args) : q.put = ([], 1) := by
  unfold Rq.put putOf Rq.err
  rw [if_pos h, if_pos (by decide)]
theorem putRq_bad {q : Rq} (h : ¬ q.args) {e : Int} (hb : firstMay q.vals = e) (he : e ≠ 0) : q.put = ([], e) := by
  unfold Rq.put putOf Rq.err
  rw [if_neg h, hb, if_pos he]
theorem putRq_good {q : Rq} (h : ¬ q.args) (hb : firstMay q.vals = 0) : q.put = if 12000 < q.body.length then ([], 2) else (frameOf q.body, 0) := by
  unfold Rq.put putOf Rq.err
  rw [if_neg h, hb, if_neg (by simp)]
theorem firstMay_to : ∀ (l : List V) (j : Nat) (h : j < l.length), (∀ i (hi : i < l.length), i < j → mayGood l[i] = 0) → mayGood l[j] ≠ 0 → firstMay l = mayGood l[j]
  | x :: l, 0, h, _, hb => by exact if_neg hb
  | x :: l, j + 1, h, hg, hb => by
    have h0 : mayGood x = 0 := hg 0 (by simp) (by omega)
    rw [firstMay, if_pos h0]
    exact firstMay_to l j (by simpa using h) (fun i hi hij => hg (i + 1) (by simpa using hi) (by omega)) hb
theorem firstMay_none : ∀ (l : List V), (∀ i (hi : i < l.length), mayGood l[i] = 0) → firstMay l = 0
  | [], _ => rfl
  | x :: l, h => by
    have h0 : mayGood x = 0 := h 0 (by simp)
    rw [firstMay, if_pos h0]
    exact firstMay_none l (fun i hi => h (i + 1) (by simpa using hi))
theorem toLe4_u32 (n : Int) (a : Nat) (h : (a : Int) = n % 18446744073709551616) : toLe 4 a = toLe 4 (u32 n) := by
  have h1 : a % 256 ^ 4 = u32 n := by unfold u32; omega
  refine toLe_inj (toLe_length _ _) (by have := u32_lt n; omega) ?_
  rw [le_toLe, h1]

set_option maxRecDepth 100000 in
set_option maxHeartbeats 6400000 in
theorem putRq_bad1 (q : Rq) (ck cl ch cx : Cv) (w : World) (hT : Tabs w) (h1 : In w q.key ck) (h2 : In w q.low cl) (h3 : In w q.high ch) (h4 : In w q.doc cx) (hcount : ∀ v ∈ q.vals, v.count ≤ 20000)
    (hd : -9223372036854775808 ≤ q.do_ ∧ q.do_ ≤ 9223372036854775807) (hn : -9223372036854775808 ≤ q.n ∧ q.n ≤ 9223372036854775807) (hs1 : q.coll.size ≤ 140737488355328) (hs2 : q.index.size ≤ 140737488355328) (hs3 : q.path.size ≤ 140737488355328) (hbad : q.do_ < 0 ∨ 255 < q.do_ ∨ q.n < -2147483648 ∨ 2147483647 < q.n) :
    Calls Tryd.prog 12 #[.agg (rqCells q.do_ q.coll q.index q.path q.unique ck cl ch cx q.n)] w (PutW w q.put) := by
  obtain ⟨D, hD⟩ : ∃ D, q.do_ = D := ⟨_, rfl⟩
  obtain ⟨N, hN⟩ : ∃ N, q.n = N := ⟨_, rfl⟩
  obtain ⟨tc, htc⟩ : ∃ s, q.coll = s := ⟨_, rfl⟩
  obtain ⟨ti, hti⟩ : ∃ s, q.index = s := ⟨_, rfl⟩
  obtain ⟨tp, htp⟩ : ∃ s, q.path = s := ⟨_, rfl⟩
  obtain ⟨ub, hub⟩ : ∃ s, q.unique = s := ⟨_, rfl⟩
  rw [hD, hN, htc, hti, htp, hub]
  rw [hD] at hd
  rw [hN] at hn
  rw [htc] at hs1
  rw [hti] at hs2
  rw [htp] at hs3
  have HB1 := hide (Blk.new w 39 (rqCells D tc ti tp ub ck cl ch cx N))
  have hc := HB1.out.cell
  have HG1 := hide ((Grow.refl w).alloc (.cells (rqCells D tc ti tp ub ck cl ch cx N) 39))
  have HT := hide hT
  have H1 := hide h1
  have H2 := hide h2
  have H3 := hide h3
  have H4 := hide h4
  have HCO := hide hcount
  clear hT h1 h2 h3 h4 hcount
  by_cases a0 : D < 0
  · have HQ := hide (show q.put = ([], 1) from putRq_args (by unfold Rq.args; omega))
    as_aux_lemma =>
      go_enter Tryd.func12, Tryd.ntmps12
      go_wp2_with fail
      go_ret2
      rw [HQ.out]
      exact PutW.bad HG1.out
  by_cases a1 : 255 < D
  · have HQ := hide (show q.put = ([], 1) from putRq_args (by unfold Rq.args; omega))
    as_aux_lemma =>
      go_enter Tryd.func12, Tryd.ntmps12
      go_wp2_with fail
      go_ret2
      rw [HQ.out]
      exact PutW.bad HG1.out
  by_cases a2 : N < -2147483648
  · have HQ := hide (show q.put = ([], 1) from putRq_args (by unfold Rq.args; omega))
    as_aux_lemma =>
      go_enter Tryd.func12, Tryd.ntmps12
      go_wp2_with fail
      go_ret2
      rw [HQ.out]
      exact PutW.bad HG1.out
  by_cases a3 : 2147483647 < N
  · have HQ := hide (show q.put = ([], 1) from putRq_args (by unfold Rq.args; omega))
    as_aux_lemma =>
      go_enter Tryd.func12, Tryd.ntmps12
      go_wp2_with fail
      go_ret2
      rw [HQ.out]
      exact PutW.bad HG1.out
  omega

set_option maxRecDepth 100000 in
set_option maxHeartbeats 6400000 in
theorem putRq_any1 (q : Rq) (ck cl ch cx : Cv) (w : World) (hT : Tabs w) (h1 : In w q.key ck) (h2 : In w q.low cl) (h3 : In w q.high ch) (h4 : In w q.doc cx) (hcount : ∀ v ∈ q.vals, v.count ≤ 20000)
    (hd : -9223372036854775808 ≤ q.do_ ∧ q.do_ ≤ 9223372036854775807) (hn : -9223372036854775808 ≤ q.n ∧ q.n ≤ 9223372036854775807) (hs1 : q.coll.size ≤ 140737488355328) (hs2 : q.index.size ≤ 140737488355328) (hs3 : q.path.size ≤ 140737488355328) (hok : ¬ (q.do_ < 0 ∨ 255 < q.do_ ∨ q.n < -2147483648 ∨ 2147483647 < q.n)) :
    Calls Tryd.prog 12 #[.agg (rqCells q.do_ q.coll q.index q.path q.unique ck cl ch cx q.n)] w (PutW w q.put) := by
  obtain ⟨D, hD⟩ : ∃ D, q.do_ = D := ⟨_, rfl⟩
  obtain ⟨N, hN⟩ : ∃ N, q.n = N := ⟨_, rfl⟩
  obtain ⟨tc, htc⟩ : ∃ s, q.coll = s := ⟨_, rfl⟩
  obtain ⟨ti, hti⟩ : ∃ s, q.index = s := ⟨_, rfl⟩
  obtain ⟨tp, htp⟩ : ∃ s, q.path = s := ⟨_, rfl⟩
  obtain ⟨ub, hub⟩ : ∃ s, q.unique = s := ⟨_, rfl⟩
  rw [hD, hN, htc, hti, htp, hub]
  rw [hD] at hd
  rw [hN] at hn
  rw [htc] at hs1
  rw [hti] at hs2
  rw [htp] at hs3
  have HB1 := hide (Blk.new w 39 (rqCells D tc ti tp ub ck cl ch cx N))
  have hc := HB1.out.cell
  have HG1 := hide ((Grow.refl w).alloc (.cells (rqCells D tc ti tp ub ck cl ch cx N) 39))
  have HT := hide hT
  have H1 := hide h1
  have H2 := hide h2
  have H3 := hide h3
  have H4 := hide h4
  have HCO := hide hcount
  clear hT h1 h2 h3 h4 hcount
  rw [hD, hN] at hok
  obtain ⟨d, rfl⟩ : ∃ d : Nat, D = (d : Int) := ⟨D.toNat, by omega⟩
  have hd1 : decide ((d : Int) < 0) = false := by simp
  have hd2 : decide (255 < (d : Int)) = false := by simp; omega
  have hd3 : decide (N < -2147483648) = false := by simp; omega
  have hd4 : decide (2147483647 < N) = false := by simp; omega
  have hz0 : (w.alloc (.cells (rqCells d tc ti tp ub ck cl ch cx N) 39)).heap.size = w.heap.size + 1 := by simp
  have hi0 : ∀ w, (Instr.index 78 (.agg #[.string tc, .string ti, .string tp]) (.int .i64 0)).run Tryd.prog w = .ok (.string tc) w := fun w => by kernel_rfl
  have hi1 : ∀ w, (Instr.index 78 (.agg #[.string tc, .string ti, .string tp]) (.int .i64 1)).run Tryd.prog w = .ok (.string ti) w := fun w => by kernel_rfl
  have hi2 : ∀ w, (Instr.index 78 (.agg #[.string tc, .string ti, .string tp]) (.int .i64 2)).run Tryd.prog w = .ok (.string tp) w := fun w => by kernel_rfl
  have HI0 := hide hi0
  have HI1 := hide hi1
  have HI2 := hide hi2
  have hal := (Grow.refl (w.alloc (.cells (rqCells d tc ti tp ub ck cl ch cx N) 39))).alloc (.cells #[.string tc, .string ti, .string tp] 78)
  clear hi0 hi1 hi2
  go_enter Tryd.func12, Tryd.ntmps12
  go_wp2_with fail
  generalize hW1 : w.alloc (.cells (rqCells d tc ti tp ub ck cl ch cx N) 39) = w1 at HB1 HG1 hc hz0 hal ⊢
  have HB2 := hide (HB1.out.grow hal)
  have HT2 := hide (show Blk (w1.alloc (.cells #[.string tc, .string ti, .string tp] 78)) (w.heap.size + 1) 78 #[.string tc, .string ti, .string tp] from Blk.new' hz0.symm _ _)
  have HG2 := hide (HG1.out.trans hal)
  have hz2 : (w1.alloc (.cells #[.string tc, .string ti, .string tp] 78)).heap.size = w.heap.size + 2 := by simp; omega
  generalize hW2 : w1.alloc (.cells #[.string tc, .string ti, .string tp] 78) = w2 at HB2 HT2 HG2 hz2 ⊢
  clear hal hW1 hW2 HB1 HG1 hc hz0
  go_loopg [39] 4 (fun gk i wr => w2 = wr ∧ ∃ j : Nat, j ≤ 3 ∧ gk + j = 4 ∧ i = .int .i64 j ∧ (0 < j → tc.size ≤ 200) ∧ (1 < j → ti.size ≤ 200) ∧ (2 < j → tp.size ≤ 200))
  case atStart => exact ⟨rfl, 0, by omega, by omega, rfl, fun h => by omega, fun h => by omega, fun h => by omega⟩
  case round =>
    obtain ⟨rfl, j, hj, hg, rfl, k0, k1, k2⟩ := hrel
    have hj3 : j = 0 ∨ j = 1 ∨ j = 2 ∨ j = 3 := by omega
    rcases hj3 with rfl | rfl | rfl | rfl
    · obtain ⟨gk', rfl⟩ : ∃ g, gk = g + 1 := ⟨gk - 1, by omega⟩
      have hix := HI0.out w2
      by_cases hl : 200 < tc.size
      · have HQ := hide (show q.put = ([], 1) from putRq_args (by unfold Rq.args; rw [htc, hti, htp]; omega))
        clear k0 k1 k2
        go_wp2_with fail
        go_ret2
        rw [HQ.out]
        exact PutW.bad HG2.out
      · go_wp2_with fail
        go_roundg gk'
        case measure => omega
        case rel => exact ⟨rfl, 1, by omega, by omega, by go_num, fun _ => by omega, fun h => by omega, fun h => by omega⟩
    · obtain ⟨gk', rfl⟩ : ∃ g, gk = g + 1 := ⟨gk - 1, by omega⟩
      have hix := HI1.out w2
      by_cases hl : 200 < ti.size
      · have HQ := hide (show q.put = ([], 1) from putRq_args (by unfold Rq.args; rw [htc, hti, htp]; omega))
        clear k0 k1 k2
        go_wp2_with fail
        go_ret2
        rw [HQ.out]
        exact PutW.bad HG2.out
      · go_wp2_with fail
        go_roundg gk'
        case measure => omega
        case rel => exact ⟨rfl, 2, by omega, by omega, by go_num, fun _ => k0 (by omega), fun _ => by omega, fun h => by omega⟩
    · obtain ⟨gk', rfl⟩ : ∃ g, gk = g + 1 := ⟨gk - 1, by omega⟩
      have hix := HI2.out w2
      by_cases hl : 200 < tp.size
      · have HQ := hide (show q.put = ([], 1) from putRq_args (by unfold Rq.args; rw [htc, hti, htp]; omega))
        clear k0 k1 k2
        go_wp2_with fail
        go_ret2
        rw [HQ.out]
        exact PutW.bad HG2.out
      · go_wp2_with fail
        go_roundg gk'
        case measure => omega
        case rel => exact ⟨rfl, 3, by omega, by omega, by go_num, fun _ => k0 (by omega), fun _ => k1 (by omega), fun _ => by omega⟩
    · have hA : ¬ q.args := by unfold Rq.args; rw [hD, hN, htc, hti, htp]; omega
      have HA := hide hA
      have l0 : tc.size ≤ 200 := k0 (by omega)
      have l1 : ti.size ≤ 200 := k1 (by omega)
      have l2 : tp.size ≤ 200 := k2 (by omega)
      have hcq := HB2.out.cell
      have hct := HT2.out.cell
      clear hA k0 k1 k2 hg hj
      have hd8 : ((UInt8.ofNat d).toNat : Int) = (d : Int) := by rw [UInt8.toNat_ofNat']; omega
      have hdm : (d : Int) % 256 = (d : Int) := by omega
      have hB3 := Blk.new w2 5 #[.int .u8 (d : Int), .int .u8 0]
      rw [hz2] at hB3
      have HB3 := hide hB3
      have hal3 := (Grow.refl w2).alloc (.cells #[.int .u8 (d : Int), .int .u8 0] 5)
      have hz3 : (w2.alloc (.cells #[.int .u8 (d : Int), .int .u8 0] 5)).heap.size = w.heap.size + 3 := by simp; omega
      have HX := hide (show q.headB = [UInt8.ofNat d, if ub then 1 else 0] ++ textB tc ++ textB ti ++ textB tp ++ toLe 4 (u32 N) by unfold Rq.headB; rw [hD, hN, htc, hti, htp, hub]; rfl)
      clear hB3
      cases ub
      · go_wp2_with fail
        have HR3 := hide (row_of_blk (base := w.heap.size + 2) (xs := [UInt8.ofNat d, 0]) (n := 2) (show Blk _ _ _ (u8s [UInt8.ofNat d, 0]).toArray by simp only [u8s, List.map_cons, List.map_nil, hd8]; exact HB3.out) rfl (Nat.le_refl _) (by decide))
        have HQ3 := hide (HB2.out.grow hal3)
        have HG3 := hide (HG2.out.trans hal3)
        generalize hW3 : w2.alloc (.cells #[.int .u8 (d : Int), .int .u8 0] 5) = w3 at HR3 HQ3 HG3 hz3 ⊢
        obtain ⟨xs0, hxs0⟩ : ∃ xs : List UInt8, [UInt8.ofNat d, 0] = xs := ⟨_, rfl⟩
        have hxl : xs0.length = 2 := by rw [← hxs0]; rfl
        rw [show [UInt8.ofNat d, if false = true then (1 : UInt8) else 0] = xs0 from hxs0] at HX
        rw [hxs0] at HR3
        clear hxs0 hW3 hal3 HB3 hcq hct HB2 HT2 HG2 hd8 hdm hz2
        have hxt := HX.out
        go_loopg [7, 55] 4 (fun gk s i wr => ∃ (j : Nat) (xs : List UInt8) (A' : Option Addr) (c' : Nat), j ≤ 3 ∧ gk + j = 4 ∧ s = .slice A' xs.length c' ∧ i = .int .i64 j ∧ xs = xs0 ++ (([tc, ti, tp].take j).map textB).flatten ∧ xs.length ≤ 2 + 201 * j ∧ Row wr (w.heap.size + 2) (.slice A' xs.length c') xs.length xs ∧ Below (w.heap.size + 2) w3 wr)
        case atStart => exact ⟨0, xs0, _, _, by omega, by omega, by rw [hxl], rfl, by simp, by omega, by rw [hxl]; exact HR3.out, Below.refl _ _⟩
        case round =>
          obtain ⟨j, xs, A', c', hj, hg, rfl, rfl, hxs, hxl2, hrow, hbel⟩ := hrel
          have HROW := hide hrow
          have HBEL := hide hbel
          have HXS := hide hxs
          have hzr : w.heap.size + 3 ≤ wr.heap.size := by rw [← hz3]; exact hbel.size
          clear hrow hbel hxs
          by_cases hlt : j < 3
          · obtain ⟨gk', rfl⟩ : ∃ g, gk = g + 1 := ⟨gk - 1, by omega⟩
            obtain ⟨s, hs⟩ : ∃ s, ([tc, ti, tp] : List ByteArray)[j]? = some s := ⟨_, List.getElem?_eq_getElem (by simpa using hlt)⟩
            have hsz : s.size ≤ 200 := by
              have hj3 : j = 0 ∨ j = 1 ∨ j = 2 := by omega
              rcases hj3 with rfl | rfl | rfl
              · injection hs with hs; subst hs; exact l0
              · injection hs with hs; subst hs; exact l1
              · injection hs with hs; subst hs; exact l2
            have hix : ∀ w, (Instr.index 78 (.agg #[.string tc, .string ti, .string tp]) (.int .i64 (j : Int))).run Tryd.prog w = .ok (.string s) w := fun w => by
              have hj3 : j = 0 ∨ j = 1 ∨ j = 2 := by omega
              rcases hj3 with rfl | rfl | rfl
              · injection hs with hs; subst hs; exact HI0.out w
              · injection hs with hs; subst hs; exact HI1.out w
              · injection hs with hs; subst hs; exact HI2.out w
            have htk : ([tc, ti, tp] : List ByteArray).take (j + 1) = ([tc, ti, tp] : List ByteArray).take j ++ [s] := by
              rw [List.take_add_one, hs]; rfl
            have HTK := hide htk
            have HC := hide (text_any s (w.heap.size + 2) A' c' xs.length xs wr hsz HROW.out (by omega) (by omega))
            have htl : (textB s).length = 1 + s.size := by
              have : s.data.toList.length = s.size := by simp
              simp only [textB, List.length_cons]
              omega
            have HTL := hide htl
            clear htk hs htl
            go_wp2_with fail
            refine HC.out.mono ?_
            rintro ee w4 ⟨A4, c4, rfl, hr4, hg4⟩
            have HR4 := hide hr4
            have HBE4 := hide (Below.trans HBEL.out (Grew.below hg4 HROW.out (by omega)))
            clear hr4 hg4
            go_wp2_with fail
            go_roundg gk'
            case measure => omega
            case rel =>
              have := HTL.out
              exact ⟨j + 1, xs ++ textB s, A4, c4, by omega, by omega, by rw [List.length_append], by go_num, by rw [HXS.out, HTK.out, List.map_append, List.flatten_append, List.append_assoc]; simp, by rw [List.length_append]; omega, HR4.out, HBE4.out⟩
          · obtain rfl : j = 3 := by omega
            have hcq := (HQ3.out.below HBEL.out (by omega)).cell
            have HQ4 := hide (HQ3.out.below HBEL.out (by omega))
            have hxl3 : xs.length ≤ 605 := by omega
            have HGR := hide (Below.trans HG3.out (Below.mono HBEL.out (by omega)))
            obtain ⟨a, ha⟩ : ∃ a : Nat, (a : Int) = N % 18446744073709551616 := ⟨(N % 18446744073709551616).toNat, by omega⟩
            have hwr : IntKind.u64.wrap N = (a : Int) := by rw [IntKind.wrap_u64]; exact ha.symm
            have hmod : N % 18446744073709551616 = (a : Int) := ha.symm
            have hau : a < 18446744073709551616 := by omega
            have HA4 := hide (toLe4_u32 N a ha)
            have HLAY := hide (lay_any a 4 (w.heap.size + 2) A' c' xs.length xs wr HROW.out (by omega) hau (by omega) (by omega))
            clear hg hlt ha
            go_wp2_with fail
            refine HLAY.out.mono ?_
            rintro ee w5 ⟨A5, c5, rfl, hr5, hg5⟩
            have HBE5 := hide (Below.trans HBEL.out (Grew.below hg5 HROW.out (by omega)))
            have hq5 := HQ4.out.below (Grew.below hg5 HROW.out (by omega)) (by omega)
            have HQ5 := hide hq5
            rw [HA4.out] at hr5
            have HR5 := hide hr5
            clear hr5 hg5 hwr hmod hau hq5 hcq
            go_wp2_with (first
              | (with_reducible refine at_build 80 ?_; refine wpList_buildTo rfl 80 _ rfl _ rfl #[.int .i64 ck.k, .int .u64 ck.n, .slice ck.aB ck.nB ck.cB, .slice ck.aL ck.nL ck.cL, .slice ck.aF ck.nF ck.cF, .int .i64 cl.k, .int .u64 cl.n, .slice cl.aB cl.nB cl.cB, .slice cl.aL cl.nL cl.cL, .slice cl.aF cl.nF cl.cF, .int .i64 ch.k, .int .u64 ch.n, .slice ch.aB ch.nB ch.cB, .slice ch.aL ch.nL ch.cL, .slice ch.aF ch.nF ch.cF, .int .i64 cx.k, .int .u64 cx.n, .slice cx.aB cx.nB cx.cB, .slice cx.aL cx.nL cx.cL, .slice cx.aF cx.nF cx.cF] (by kernel_rfl) ?_)
              | (with_reducible refine at_load (x := .tmp 67) 37 ?_; refine load_val (g := w.heap.size) (o := 5) (c := ck) Tryd.underlying37 rfl rfl HQ5.out info_val (rq_key _ _ _ _ _ _ _ _ _ _) ?_)
              | (with_reducible refine at_load (x := .tmp 69) 37 ?_; refine load_val (g := w.heap.size) (o := 10) (c := cl) Tryd.underlying37 rfl rfl HQ5.out info_val (rq_low _ _ _ _ _ _ _ _ _ _) ?_)
              | (with_reducible refine at_load (x := .tmp 71) 37 ?_; refine load_val (g := w.heap.size) (o := 15) (c := ch) Tryd.underlying37 rfl rfl HQ5.out info_val (rq_high _ _ _ _ _ _ _ _ _ _) ?_)
              | (with_reducible refine at_load (x := .tmp 73) 37 ?_; refine load_val (g := w.heap.size) (o := 20) (c := cx) Tryd.underlying37 rfl rfl HQ5.out info_val (rq_doc _ _ _ _ _ _ _ _ _ _) ?_))
            have hh : xs ++ toLe 4 (u32 N) = q.headB := by rw [HX.out, HXS.out]; simp
            have hr5 := HR5.out
            rw [hh] at hr5
            have hl5 : xs.length + 4 = q.headB.length := by rw [← hh, List.length_append, toLe_length]
            have HR6 := hide hr5
            have HG6 := hide (Below.trans HG3.out (Below.mono HBE5.out (by omega)))
            have hz5 : w.heap.size + 3 ≤ w5.heap.size := by rw [← hz3]; exact HBE5.out.size
            have hhl : q.headB.length ≤ 609 := by omega
            clear hh hr5 HR5 HBE5 HQ5 HXS HX HQ4 HROW HBEL HGR HA4 HLAY HR3 HQ3 HG3
            go_loopg [7, 76] 5 (fun gk s i wr => ∃ (j : Nat) (ys : List UInt8) (A' : Option Addr) (c' : Nat), j ≤ 4 ∧ gk + j = 5 ∧ s = .slice A' ys.length c' ∧ i = .int .i64 j ∧ ys = q.headB ++ ((q.vals.take j).map mayB).flatten ∧ ys.length ≤ 609 + 4099 * j ∧ Row wr (w.heap.size + 2) (.slice A' ys.length c') ys.length ys ∧ Grow w wr ∧ w.heap.size + 3 ≤ wr.heap.size ∧ ∀ i (hi : i < q.vals.length), i < j → mayGood q.vals[i] = 0)
            case atStart => exact ⟨0, q.headB, A5, c5, by omega, by omega, by rw [hl5], rfl, by simp, by omega, by have := HR6.out; rwa [hl5] at this, HG6.out, hz5, fun i hi h => by omega⟩
            case round =>
              obtain ⟨j, ys, A', c', hj, hg, rfl, rfl, hys, hyl, hrow, hgr, hzr, hgd⟩ := hrel
              clear hl5
              have HROW := hide hrow
              have HGR := hide hgr
              have HYS := hide hys
              have HGD := hide hgd
              clear hrow hgr hys hgd
              by_cases hlt : j < 4
              · obtain ⟨gk', rfl⟩ : ∃ g, gk = g + 1 := ⟨gk - 1, by omega⟩
                have hlt' : j < q.vals.length := hlt
                obtain ⟨v, cv, hvj, hin, hix⟩ : ∃ v cv, q.vals[j] = v ∧ In w v cv ∧ ∀ w', (Instr.index 80 (.agg #[.int .i64 ck.k, .int .u64 ck.n, .slice ck.aB ck.nB ck.cB, .slice ck.aL ck.nL ck.cL, .slice ck.aF ck.nF ck.cF, .int .i64 cl.k, .int .u64 cl.n, .slice cl.aB cl.nB cl.cB, .slice cl.aL cl.nL cl.cL, .slice cl.aF cl.nF cl.cF, .int .i64 ch.k, .int .u64 ch.n, .slice ch.aB ch.nB ch.cB, .slice ch.aL ch.nL ch.cL, .slice ch.aF ch.nF ch.cF, .int .i64 cx.k, .int .u64 cx.n, .slice cx.aB cx.nB cx.cB, .slice cx.aL cx.nL cx.cL, .slice cx.aF cx.nF cx.cF]) (.int .i64 (j : Int))).run Tryd.prog w' = .ok cv.agg w' := by
                  have hj3 : j = 0 ∨ j = 1 ∨ j = 2 ∨ j = 3 := by omega
                  rcases hj3 with rfl | rfl | rfl | rfl
                  · exact ⟨q.key, ck, rfl, H1.out, fun w' => by kernel_rfl⟩
                  · exact ⟨q.low, cl, rfl, H2.out, fun w' => by kernel_rfl⟩
                  · exact ⟨q.high, ch, rfl, H3.out, fun w' => by kernel_rfl⟩
                  · exact ⟨q.doc, cx, rfl, H4.out, fun w' => by kernel_rfl⟩
                have HCV := hide (HCO.out v (by rw [← hvj]; exact List.getElem_mem hlt'))
                have HK := hide (in_kind hin)
                have HIV := hide hin
                have HVJ := hide hvj
                have HTK := hide (show ((q.vals.take (j + 1)).map mayB).flatten = ((q.vals.take j).map mayB).flatten ++ mayB v by rw [flat_take mayB q.vals j hlt', hvj])
                have hal := (Grow.refl wr).alloc (.cells cv.cells 37)
                have hza : (wr.alloc (.cells cv.cells 37)).heap.size = wr.heap.size + 1 := by simp
                have HAL := hide hal
                have HBV := hide (Blk.new wr 37 cv.cells)
                have HRA := hide (HROW.out.grow hal)
                clear hin hvj hal
                by_cases k0 : cv.k = 0
                · have hk0 : (cv.k == 0) = true := by simpa using k0
                  have HMB := hide (show mayB v = [0] by unfold mayB; rw [if_pos (by rw [← HK.out]; exact k0)])
                  have HMG := hide (show mayGood v = 0 by unfold mayGood; rw [if_pos (by rw [← HK.out]; exact k0)])
                  clear k0
                  go_wp2_with (at_builtin; refine app_src (ys := [0]) rfl (.tmp 82) (.tmp 83) _ rfl rfl (HRA.out.alloc _) _ rfl (src_one 0 rfl (Blk.new' (by rw [hza]) _ _)) (by simp only [List.length_cons, List.length_nil]; omega) (by simp; omega) ?_; intro A6 c6 w6 hr6 hg6; have HR7 := hide hr6; have HG7 := hide (Below.trans (Below.alloc (HGR.out.trans HAL.out) (Grow.size (HGR.out.trans HAL.out)) (.cells #[.int .u8 0] 5)) (Below.mono (Grew.below hg6 (HRA.out.alloc _) (by simp; omega)) (by omega))); have hz6 := hg6.size; clear hr6 hg6)
                  go_roundg gk'
                  case measure => omega
                  case rel =>
                    simp at hz6
                    exact ⟨j + 1, ys ++ [0], A6, c6, by omega, by omega, by rw [List.length_append]; rfl, by go_num, by rw [HYS.out, HTK.out, HMB.out, List.append_assoc], by rw [List.length_append]; simp; omega, by rw [List.length_append]; exact HR7.out, HG7.out, by omega, fun i hi hij => by
                      by_cases h : i = j
                      · subst h; exact (congrArg mayGood HVJ.out).trans HMG.out
                      · exact HGD.out i hi (by omega)⟩
                · have hk0 : (cv.k == 0) = false := by simpa using k0
                  have HC := hide (good_any v (wr.alloc (.cells cv.cells 37)) cv HCV.out (HT.out.grow (HGR.out.trans HAL.out)) (HIV.out.grow (HGR.out.trans HAL.out)))
                  have HMG := hide (show mayGood v = v.good by unfold mayGood; rw [if_neg (by rw [← HK.out]; exact k0)])
                  have HMB := hide (show mayB v = [1] ++ valB v by unfold mayB; rw [if_neg (by rw [← HK.out]; exact k0)]; rfl)
                  obtain ⟨G, hG⟩ : ∃ G, v.good = G := ⟨_, rfl⟩
                  rw [hG] at HC
                  have HGG := hide hG
                  clear hG
                  go_wp2_with fail
                  refine HC.out.mono ?_
                  rintro ee w6 ⟨rfl, hg6⟩
                  have HB6 := hide (HBV.out.grow hg6)
                  have HG6 := hide ((HGR.out.trans HAL.out).trans hg6)
                  have HR6 := hide (HRA.out.grow hg6)
                  have hz6 := hg6.size
                  clear hg6
                  by_cases g0 : G = 0
                  · subst g0
                    have hvl : (valB v).length ≤ 4098 := by
                      have := (V.good_formed HGG.out).2
                      simp only [valB, List.length_append, toLe_length]; omega
                    have HVL := hide hvl
                    have hcv6 := HB6.out.cell
                    clear hvl
                    go_wp2_with fail
                    refine wp_region_noPanic ?_
                    refine wp_region_held_drew (S := fun W => Blk W wr.heap.size 37 cv.cells) (by kernel_rfl) (HB6.out.drew) (fun hHeld => ?_)
                    refine wpAnyH_take (i := 0) (v := ?_) (by simp only [List.getElem?_toArray, List.getElem?_cons_succ, List.getElem?_cons_zero]; rfl) (by kernel_rfl) (by kernel_rfl) (by kernel_rfl) (fun _ _ _ h => h) (Or.inl ⟨by rfl, ?_⟩) (by assumption) ?_
                    rotate_left 1
                    · (intro w hSw; (try dsimp only at hSw); go_simp; try with_reducible rfl)
                    try simp only [Act.put, List.setIfInBounds_toArray, List.set_cons_zero, List.set_cons_succ]
                    refine wpAnyH_take (i := 3) (v := ?_) (by simp only [List.getElem?_toArray, List.getElem?_cons_succ, List.getElem?_cons_zero]; rfl) (by kernel_rfl) (by kernel_rfl) (by kernel_rfl) (fun _ _ _ h => h) (Or.inl ⟨by rfl, ?_⟩) (by assumption) ?_
                    rotate_left 1
                    · (intro w hSw; (try dsimp only at hSw); have hc0 := hSw.cell; go_simp; try with_reducible rfl)
                    try simp only [Act.put, List.setIfInBounds_toArray, List.set_cons_zero, List.set_cons_succ]
                    refine wpAnyH_ready (rs := [1]) (by kernel_rfl) (by simp) ?_
                    refine AllReadyH.cons (by simp only [List.getElem?_toArray, List.getElem?_cons_succ, List.getElem?_cons_zero]; rfl) (fun K' hK' => ?_) AllReadyH.nil
                    replace hK' := hide hK'
                    go_simp
                    have HB7 := hide ((HB6.out.alloc (.cells #[.int .u8 1] 5)).drew)
                    have HR7 := hide ((HR6.out.alloc (.cells #[.int .u8 1] 5)).drew)
                    have HG7 := hide ((HG6.out.alloc (.cells #[.int .u8 1] 5)).drew)
                    have HS7 := hide (show Blk (w6.alloc (.cells #[.int .u8 1] 5)).drew w6.heap.size 5 #[.int .u8 1] from Blk.new w6 _ _)
                    have hz7 : (w6.alloc (.cells #[.int .u8 1] 5)).drew.heap.size = w6.heap.size + 1 := by show (w6.alloc _).heap.size = _; simp
                    generalize (w6.alloc (.cells #[.int .u8 1] 5)).drew = w7 at HB7 HR7 HG7 HS7 hz7 ⊢
                    refine hK'.out _ _ (HB7.out) (fun hHeld => ?_)
                    clear hK' K'
                    try simp only [Act.put, List.setIfInBounds_toArray, List.set_cons_zero, List.set_cons_succ]
                    refine wpAnyH_ready (rs := [2]) (by kernel_rfl) (by simp) ?_
                    refine AllReadyH.cons (by simp only [List.getElem?_toArray, List.getElem?_cons_succ, List.getElem?_cons_zero]; rfl) (fun K' hK' => ?_) AllReadyH.nil
                    replace hK' := hide hK'
                    refine step_app_src (ys := [1]) (by rfl) (.tmp 90) (.tmp 91) _ (by rfl) (by rfl) HR7.out _ (by rfl) (src_one 1 rfl HS7.out) (by simp only [List.length_cons, List.length_nil]; omega) (by omega) ?_
                    intro A8 c8 w8 hr8 hg8
                    have HB8 := hide (hg8.blk HB7.out (Row.ne HR7.out HB7.out (by decide)))
                    have HG8 := hide (Below.trans HG7.out (Below.mono (Grew.below hg8 HR7.out (by omega)) (by omega)))
                    have HR8 := hide hr8
                    have hz8 := hg8.size
                    clear hr8 hg8
                    refine hK'.out _ _ (HB8.out) (fun hHeld => ?_)
                    clear hK' K'
                    try simp only [Act.put, List.setIfInBounds_toArray, List.set_cons_zero, List.set_cons_succ]
                    refine wpAnyH_ready (rs := [4]) (by kernel_rfl) (by simp) ?_
                    refine AllReadyH.cons (by simp only [List.getElem?_toArray, List.getElem?_cons_succ, List.getElem?_cons_zero]; rfl) (fun K' hK' => ?_) AllReadyH.nil
                    replace hK' := hide hK'
                    go_simp
                    go_at_call 31
                    refine (wlayval_any v cv (w.heap.size + 2) A8 c8 (ys.length + 1) (ys ++ [1]) w8 HCV.out HGG.out (HT.out.grow HG8.out) (HIV.out.grow HG8.out) HR8.out (by omega) (by omega)).mono ?_
                    rintro ee w9 ⟨A9, c9, rfl, hr9, hg9⟩
                    have HB9 := hide (hg9.blk HB8.out (Row.ne HR8.out HB8.out (by decide)))
                    have HG9 := hide (Below.trans HG8.out (Below.mono (Grew.below hg9 HR8.out (by omega)) (by omega)))
                    have HR9 := hide hr9
                    have hz9 := hg9.size
                    clear hr9 hg9
                    refine hK'.out _ _ (HB9.out) (fun hHeld => ?_)
                    clear hK' K'
                    try simp only [Act.put, List.setIfInBounds_toArray, List.set_cons_zero, List.set_cons_succ]
                    refine wpAnyH_take (i := 5) (v := ?_) (by simp only [List.getElem?_toArray, List.getElem?_cons_succ, List.getElem?_cons_zero]; rfl) (by kernel_rfl) (by kernel_rfl) (by kernel_rfl) (fun _ _ _ h => h) (Or.inl ⟨by rfl, ?_⟩) (by assumption) ?_
                    rotate_left 1
                    · (intro w hSw; (try dsimp only at hSw); go_simp; try with_reducible rfl)
                    try simp only [Act.put, List.setIfInBounds_toArray, List.set_cons_zero, List.set_cons_succ]
                    refine wpAnyH_done (by kernel_rfl) ?_ _
                    refine NoPanic.normal ?_
                    go_wp2_with fail
                    go_roundg gk'
                    case measure => omega
                    case rel =>
                      have := HVL.out
                      have hlen9 : (ys ++ [1] ++ valB v).length = ys.length + ((valB v).length + 1) := by simp
                      exact ⟨j + 1, ys ++ [1] ++ valB v, A9, c9, by omega, by omega, by rw [hlen9], by go_num, by rw [HYS.out, HTK.out, HMB.out, List.append_assoc, List.append_assoc], by rw [hlen9]; omega, HR9.out, HG9.out, by omega, fun i hi hij => by
                        by_cases h : i = j
                        · subst h; exact (congrArg mayGood HVJ.out).trans (HMG.out.trans HGG.out)
                        · exact HGD.out i hi (by omega)⟩
                  · have hne : (G == 0) = false := by simpa using g0
                    have HQ := hide (putRq_bad HA.out ((firstMay_to q.vals j hlt' HGD.out (by rw [HVJ.out, HMG.out, HGG.out]; exact g0)).trans ((congrArg mayGood HVJ.out).trans (HMG.out.trans HGG.out))) g0)
                    go_wp2_with fail
                    go_ret2
                    rw [HQ.out]
                    exact PutW.bad HG6.out
              · obtain rfl : j = 4 := by omega
                have hput : q.put = (if 12000 < ys.length then ([], 2) else (frameOf ys, 0)) := by
                  have hb : ys = q.body := by rw [HYS.out]; rfl
                  rw [putRq_good HA.out (firstMay_none q.vals (fun i hi => HGD.out i hi (by have : q.vals.length = 4 := rfl; omega))), ← hb]
                have hF := framed_any ys A' c' wr (HROW.out.reads.1) (by omega)
                rw [← hput] at hF
                have HF := hide hF
                clear hput hg hlt hF
                go_wp2_with fail
                refine HF.out.mono ?_
                intro ee w8 h8
                obtain ⟨base, A8, c8, rfl, hb8, hb8', hr8, hg8⟩ := h8.from HGR.out
                have HFIN := hide (show PutW w q.put (.returned (.tuple #[.slice A8 q.put.1.length c8, .int .i64 q.put.2])) w8 from ⟨base, A8, c8, rfl, hb8, hb8', hr8, hg8⟩)
                clear h8 hb8 hb8' hr8 hg8
                go_wp2_with fail
                go_ret2
                exact HFIN.out
      · have hcb := HB3.out.cell
        have hfb := HB3.out.frozen
        go_wp2_with fail
        clear HB3 hal3 hz3 hcb hfb
        have hB3 := Blk.new w2 5 #[.int .u8 (d : Int), .int .u8 1]
        rw [hz2] at hB3
        have HB3 := hide hB3
        have hal3 := (Grow.refl w2).alloc (.cells #[.int .u8 (d : Int), .int .u8 1] 5)
        have hz3 : (w2.alloc (.cells #[.int .u8 (d : Int), .int .u8 1] 5)).heap.size = w.heap.size + 3 := by simp; omega
        clear hB3
        have HR3 := hide (row_of_blk (base := w.heap.size + 2) (xs := [UInt8.ofNat d, 1]) (n := 2) (show Blk _ _ _ (u8s [UInt8.ofNat d, 1]).toArray by simp only [u8s, List.map_cons, List.map_nil, hd8]; exact HB3.out) rfl (Nat.le_refl _) (by decide))
        have HQ3 := hide (HB2.out.grow hal3)
        have HG3 := hide (HG2.out.trans hal3)
        generalize hW3 : w2.alloc (.cells #[.int .u8 (d : Int), .int .u8 1] 5) = w3 at HR3 HQ3 HG3 hz3 ⊢
        obtain ⟨xs0, hxs0⟩ : ∃ xs : List UInt8, [UInt8.ofNat d, 1] = xs := ⟨_, rfl⟩
        have hxl : xs0.length = 2 := by rw [← hxs0]; rfl
        simp only [if_true] at HX
        rw [hxs0] at HX
        rw [hxs0] at HR3
        clear hxs0 hW3 hal3 HB3 hcq hct HB2 HT2 HG2 hd8 hdm hz2
        have hxt := HX.out
        go_loopg [7, 55] 4 (fun gk s i wr => ∃ (j : Nat) (xs : List UInt8) (A' : Option Addr) (c' : Nat), j ≤ 3 ∧ gk + j = 4 ∧ s = .slice A' xs.length c' ∧ i = .int .i64 j ∧ xs = xs0 ++ (([tc, ti, tp].take j).map textB).flatten ∧ xs.length ≤ 2 + 201 * j ∧ Row wr (w.heap.size + 2) (.slice A' xs.length c') xs.length xs ∧ Below (w.heap.size + 2) w3 wr)
        case atStart => exact ⟨0, xs0, _, _, by omega, by omega, by rw [hxl], rfl, by simp, by omega, by rw [hxl]; exact HR3.out, Below.refl _ _⟩
        case round =>
          obtain ⟨j, xs, A', c', hj, hg, rfl, rfl, hxs, hxl2, hrow, hbel⟩ := hrel
          have HROW := hide hrow
          have HBEL := hide hbel
          have HXS := hide hxs
          have hzr : w.heap.size + 3 ≤ wr.heap.size := by rw [← hz3]; exact hbel.size
          clear hrow hbel hxs
          by_cases hlt : j < 3
          · obtain ⟨gk', rfl⟩ : ∃ g, gk = g + 1 := ⟨gk - 1, by omega⟩
            obtain ⟨s, hs⟩ : ∃ s, ([tc, ti, tp] : List ByteArray)[j]? = some s := ⟨_, List.getElem?_eq_getElem (by simpa using hlt)⟩
            have hsz : s.size ≤ 200 := by
              have hj3 : j = 0 ∨ j = 1 ∨ j = 2 := by omega
              rcases hj3 with rfl | rfl | rfl
              · injection hs with hs; subst hs; exact l0
              · injection hs with hs; subst hs; exact l1
              · injection hs with hs; subst hs; exact l2
            have hix : ∀ w, (Instr.index 78 (.agg #[.string tc, .string ti, .string tp]) (.int .i64 (j : Int))).run Tryd.prog w = .ok (.string s) w := fun w => by
              have hj3 : j = 0 ∨ j = 1 ∨ j = 2 := by omega
              rcases hj3 with rfl | rfl | rfl
              · injection hs with hs; subst hs; exact HI0.out w
              · injection hs with hs; subst hs; exact HI1.out w
              · injection hs with hs; subst hs; exact HI2.out w
            have htk : ([tc, ti, tp] : List ByteArray).take (j + 1) = ([tc, ti, tp] : List ByteArray).take j ++ [s] := by
              rw [List.take_add_one, hs]; rfl
            have HTK := hide htk
            have HC := hide (text_any s (w.heap.size + 2) A' c' xs.length xs wr hsz HROW.out (by omega) (by omega))
            have htl : (textB s).length = 1 + s.size := by
              have : s.data.toList.length = s.size := by simp
              simp only [textB, List.length_cons]
              omega
            have HTL := hide htl
            clear htk hs htl
            go_wp2_with fail
            refine HC.out.mono ?_
            rintro ee w4 ⟨A4, c4, rfl, hr4, hg4⟩
            have HR4 := hide hr4
            have HBE4 := hide (Below.trans HBEL.out (Grew.below hg4 HROW.out (by omega)))
            clear hr4 hg4
            go_wp2_with fail
            go_roundg gk'
            case measure => omega
            case rel =>
              have := HTL.out
              exact ⟨j + 1, xs ++ textB s, A4, c4, by omega, by omega, by rw [List.length_append], by go_num, by rw [HXS.out, HTK.out, List.map_append, List.flatten_append, List.append_assoc]; simp, by rw [List.length_append]; omega, HR4.out, HBE4.out⟩
          · obtain rfl : j = 3 := by omega
            have hcq := (HQ3.out.below HBEL.out (by omega)).cell
            have HQ4 := hide (HQ3.out.below HBEL.out (by omega))
            have hxl3 : xs.length ≤ 605 := by omega
            have HGR := hide (Below.trans HG3.out (Below.mono HBEL.out (by omega)))
            obtain ⟨a, ha⟩ : ∃ a : Nat, (a : Int) = N % 18446744073709551616 := ⟨(N % 18446744073709551616).toNat, by omega⟩
            have hwr : IntKind.u64.wrap N = (a : Int) := by rw [IntKind.wrap_u64]; exact ha.symm
            have hmod : N % 18446744073709551616 = (a : Int) := ha.symm
            have hau : a < 18446744073709551616 := by omega
            have HA4 := hide (toLe4_u32 N a ha)
            have HLAY := hide (lay_any a 4 (w.heap.size + 2) A' c' xs.length xs wr HROW.out (by omega) hau (by omega) (by omega))
            clear hg hlt ha
            go_wp2_with fail
            refine HLAY.out.mono ?_
            rintro ee w5 ⟨A5, c5, rfl, hr5, hg5⟩
            have HBE5 := hide (Below.trans HBEL.out (Grew.below hg5 HROW.out (by omega)))
            have hq5 := HQ4.out.below (Grew.below hg5 HROW.out (by omega)) (by omega)
            have HQ5 := hide hq5
            rw [HA4.out] at hr5
            have HR5 := hide hr5
            clear hr5 hg5 hwr hmod hau hq5 hcq
            go_wp2_with (first
              | (with_reducible refine at_build 80 ?_; refine wpList_buildTo rfl 80 _ rfl _ rfl #[.int .i64 ck.k, .int .u64 ck.n, .slice ck.aB ck.nB ck.cB, .slice ck.aL ck.nL ck.cL, .slice ck.aF ck.nF ck.cF, .int .i64 cl.k, .int .u64 cl.n, .slice cl.aB cl.nB cl.cB, .slice cl.aL cl.nL cl.cL, .slice cl.aF cl.nF cl.cF, .int .i64 ch.k, .int .u64 ch.n, .slice ch.aB ch.nB ch.cB, .slice ch.aL ch.nL ch.cL, .slice ch.aF ch.nF ch.cF, .int .i64 cx.k, .int .u64 cx.n, .slice cx.aB cx.nB cx.cB, .slice cx.aL cx.nL cx.cL, .slice cx.aF cx.nF cx.cF] (by kernel_rfl) ?_)
              | (with_reducible refine at_load (x := .tmp 67) 37 ?_; refine load_val (g := w.heap.size) (o := 5) (c := ck) Tryd.underlying37 rfl rfl HQ5.out info_val (rq_key _ _ _ _ _ _ _ _ _ _) ?_)
              | (with_reducible refine at_load (x := .tmp 69) 37 ?_; refine load_val (g := w.heap.size) (o := 10) (c := cl) Tryd.underlying37 rfl rfl HQ5.out info_val (rq_low _ _ _ _ _ _ _ _ _ _) ?_)
              | (with_reducible refine at_load (x := .tmp 71) 37 ?_; refine load_val (g := w.heap.size) (o := 15) (c := ch) Tryd.underlying37 rfl rfl HQ5.out info_val (rq_high _ _ _ _ _ _ _ _ _ _) ?_)
              | (with_reducible refine at_load (x := .tmp 73) 37 ?_; refine load_val (g := w.heap.size) (o := 20) (c := cx) Tryd.underlying37 rfl rfl HQ5.out info_val (rq_doc _ _ _ _ _ _ _ _ _ _) ?_))
            have hh : xs ++ toLe 4 (u32 N) = q.headB := by rw [HX.out, HXS.out]; simp
            have hr5 := HR5.out
            rw [hh] at hr5
            have hl5 : xs.length + 4 = q.headB.length := by rw [← hh, List.length_append, toLe_length]
            have HR6 := hide hr5
            have HG6 := hide (Below.trans HG3.out (Below.mono HBE5.out (by omega)))
            have hz5 : w.heap.size + 3 ≤ w5.heap.size := by rw [← hz3]; exact HBE5.out.size
            have hhl : q.headB.length ≤ 609 := by omega
            clear hh hr5 HR5 HBE5 HQ5 HXS HX HQ4 HROW HBEL HGR HA4 HLAY HR3 HQ3 HG3
            go_loopg [7, 76] 5 (fun gk s i wr => ∃ (j : Nat) (ys : List UInt8) (A' : Option Addr) (c' : Nat), j ≤ 4 ∧ gk + j = 5 ∧ s = .slice A' ys.length c' ∧ i = .int .i64 j ∧ ys = q.headB ++ ((q.vals.take j).map mayB).flatten ∧ ys.length ≤ 609 + 4099 * j ∧ Row wr (w.heap.size + 2) (.slice A' ys.length c') ys.length ys ∧ Grow w wr ∧ w.heap.size + 3 ≤ wr.heap.size ∧ ∀ i (hi : i < q.vals.length), i < j → mayGood q.vals[i] = 0)
            case atStart => exact ⟨0, q.headB, A5, c5, by omega, by omega, by rw [hl5], rfl, by simp, by omega, by have := HR6.out; rwa [hl5] at this, HG6.out, hz5, fun i hi h => by omega⟩
            case round =>
              obtain ⟨j, ys, A', c', hj, hg, rfl, rfl, hys, hyl, hrow, hgr, hzr, hgd⟩ := hrel
              clear hl5
              have HROW := hide hrow
              have HGR := hide hgr
              have HYS := hide hys
              have HGD := hide hgd
              clear hrow hgr hys hgd
              by_cases hlt : j < 4
              · obtain ⟨gk', rfl⟩ : ∃ g, gk = g + 1 := ⟨gk - 1, by omega⟩
                have hlt' : j < q.vals.length := hlt
                obtain ⟨v, cv, hvj, hin, hix⟩ : ∃ v cv, q.vals[j] = v ∧ In w v cv ∧ ∀ w', (Instr.index 80 (.agg #[.int .i64 ck.k, .int .u64 ck.n, .slice ck.aB ck.nB ck.cB, .slice ck.aL ck.nL ck.cL, .slice ck.aF ck.nF ck.cF, .int .i64 cl.k, .int .u64 cl.n, .slice cl.aB cl.nB cl.cB, .slice cl.aL cl.nL cl.cL, .slice cl.aF cl.nF cl.cF, .int .i64 ch.k, .int .u64 ch.n, .slice ch.aB ch.nB ch.cB, .slice ch.aL ch.nL ch.cL, .slice ch.aF ch.nF ch.cF, .int .i64 cx.k, .int .u64 cx.n, .slice cx.aB cx.nB cx.cB, .slice cx.aL cx.nL cx.cL, .slice cx.aF cx.nF cx.cF]) (.int .i64 (j : Int))).run Tryd.prog w' = .ok cv.agg w' := by
                  have hj3 : j = 0 ∨ j = 1 ∨ j = 2 ∨ j = 3 := by omega
                  rcases hj3 with rfl | rfl | rfl | rfl
                  · exact ⟨q.key, ck, rfl, H1.out, fun w' => by kernel_rfl⟩
                  · exact ⟨q.low, cl, rfl, H2.out, fun w' => by kernel_rfl⟩
                  · exact ⟨q.high, ch, rfl, H3.out, fun w' => by kernel_rfl⟩
                  · exact ⟨q.doc, cx, rfl, H4.out, fun w' => by kernel_rfl⟩
                have HCV := hide (HCO.out v (by rw [← hvj]; exact List.getElem_mem hlt'))
                have HK := hide (in_kind hin)
                have HIV := hide hin
                have HVJ := hide hvj
                have HTK := hide (show ((q.vals.take (j + 1)).map mayB).flatten = ((q.vals.take j).map mayB).flatten ++ mayB v by rw [flat_take mayB q.vals j hlt', hvj])
                have hal := (Grow.refl wr).alloc (.cells cv.cells 37)
                have hza : (wr.alloc (.cells cv.cells 37)).heap.size = wr.heap.size + 1 := by simp
                have HAL := hide hal
                have HBV := hide (Blk.new wr 37 cv.cells)
                have HRA := hide (HROW.out.grow hal)
                clear hin hvj hal
                by_cases k0 : cv.k = 0
                · have hk0 : (cv.k == 0) = true := by simpa using k0
                  have HMB := hide (show mayB v = [0] by unfold mayB; rw [if_pos (by rw [← HK.out]; exact k0)])
                  have HMG := hide (show mayGood v = 0 by unfold mayGood; rw [if_pos (by rw [← HK.out]; exact k0)])
                  clear k0
                  go_wp2_with (at_builtin; refine app_src (ys := [0]) rfl (.tmp 82) (.tmp 83) _ rfl rfl (HRA.out.alloc _) _ rfl (src_one 0 rfl (Blk.new' (by rw [hza]) _ _)) (by simp only [List.length_cons, List.length_nil]; omega) (by simp; omega) ?_; intro A6 c6 w6 hr6 hg6; have HR7 := hide hr6; have HG7 := hide (Below.trans (Below.alloc (HGR.out.trans HAL.out) (Grow.size (HGR.out.trans HAL.out)) (.cells #[.int .u8 0] 5)) (Below.mono (Grew.below hg6 (HRA.out.alloc _) (by simp; omega)) (by omega))); have hz6 := hg6.size; clear hr6 hg6)
                  go_roundg gk'
                  case measure => omega
                  case rel =>
                    simp at hz6
                    exact ⟨j + 1, ys ++ [0], A6, c6, by omega, by omega, by rw [List.length_append]; rfl, by go_num, by rw [HYS.out, HTK.out, HMB.out, List.append_assoc], by rw [List.length_append]; simp; omega, by rw [List.length_append]; exact HR7.out, HG7.out, by omega, fun i hi hij => by
                      by_cases h : i = j
                      · subst h; exact (congrArg mayGood HVJ.out).trans HMG.out
                      · exact HGD.out i hi (by omega)⟩
                · have hk0 : (cv.k == 0) = false := by simpa using k0
                  have HC := hide (good_any v (wr.alloc (.cells cv.cells 37)) cv HCV.out (HT.out.grow (HGR.out.trans HAL.out)) (HIV.out.grow (HGR.out.trans HAL.out)))
                  have HMG := hide (show mayGood v = v.good by unfold mayGood; rw [if_neg (by rw [← HK.out]; exact k0)])
                  have HMB := hide (show mayB v = [1] ++ valB v by unfold mayB; rw [if_neg (by rw [← HK.out]; exact k0)]; rfl)
                  obtain ⟨G, hG⟩ : ∃ G, v.good = G := ⟨_, rfl⟩
                  rw [hG] at HC
                  have HGG := hide hG
                  clear hG
                  go_wp2_with fail
                  refine HC.out.mono ?_
                  rintro ee w6 ⟨rfl, hg6⟩
                  have HB6 := hide (HBV.out.grow hg6)
                  have HG6 := hide ((HGR.out.trans HAL.out).trans hg6)
                  have HR6 := hide (HRA.out.grow hg6)
                  have hz6 := hg6.size
                  clear hg6
                  by_cases g0 : G = 0
                  · subst g0
                    have hvl : (valB v).length ≤ 4098 := by
                      have := (V.good_formed HGG.out).2
                      simp only [valB, List.length_append, toLe_length]; omega
                    have HVL := hide hvl
                    have hcv6 := HB6.out.cell
                    clear hvl
                    go_wp2_with fail
                    refine wp_region_noPanic ?_
                    refine wp_region_held_drew (S := fun W => Blk W wr.heap.size 37 cv.cells) (by kernel_rfl) (HB6.out.drew) (fun hHeld => ?_)
                    refine wpAnyH_take (i := 0) (v := ?_) (by simp only [List.getElem?_toArray, List.getElem?_cons_succ, List.getElem?_cons_zero]; rfl) (by kernel_rfl) (by kernel_rfl) (by kernel_rfl) (fun _ _ _ h => h) (Or.inl ⟨by rfl, ?_⟩) (by assumption) ?_
                    rotate_left 1
                    · (intro w hSw; (try dsimp only at hSw); go_simp; try with_reducible rfl)
                    try simp only [Act.put, List.setIfInBounds_toArray, List.set_cons_zero, List.set_cons_succ]
                    refine wpAnyH_take (i := 3) (v := ?_) (by simp only [List.getElem?_toArray, List.getElem?_cons_succ, List.getElem?_cons_zero]; rfl) (by kernel_rfl) (by kernel_rfl) (by kernel_rfl) (fun _ _ _ h => h) (Or.inl ⟨by rfl, ?_⟩) (by assumption) ?_
                    rotate_left 1
                    · (intro w hSw; (try dsimp only at hSw); have hc0 := hSw.cell; go_simp; try with_reducible rfl)
                    try simp only [Act.put, List.setIfInBounds_toArray, List.set_cons_zero, List.set_cons_succ]
                    refine wpAnyH_ready (rs := [1]) (by kernel_rfl) (by simp) ?_
                    refine AllReadyH.cons (by simp only [List.getElem?_toArray, List.getElem?_cons_succ, List.getElem?_cons_zero]; rfl) (fun K' hK' => ?_) AllReadyH.nil
                    replace hK' := hide hK'
                    go_simp
                    have HB7 := hide ((HB6.out.alloc (.cells #[.int .u8 1] 5)).drew)
                    have HR7 := hide ((HR6.out.alloc (.cells #[.int .u8 1] 5)).drew)
                    have HG7 := hide ((HG6.out.alloc (.cells #[.int .u8 1] 5)).drew)
                    have HS7 := hide (show Blk (w6.alloc (.cells #[.int .u8 1] 5)).drew w6.heap.size 5 #[.int .u8 1] from Blk.new w6 _ _)
                    have hz7 : (w6.alloc (.cells #[.int .u8 1] 5)).drew.heap.size = w6.heap.size + 1 := by show (w6.alloc _).heap.size = _; simp
                    generalize (w6.alloc (.cells #[.int .u8 1] 5)).drew = w7 at HB7 HR7 HG7 HS7 hz7 ⊢
                    refine hK'.out _ _ (HB7.out) (fun hHeld => ?_)
                    clear hK' K'
                    try simp only [Act.put, List.setIfInBounds_toArray, List.set_cons_zero, List.set_cons_succ]
                    refine wpAnyH_ready (rs := [2]) (by kernel_rfl) (by simp) ?_
                    refine AllReadyH.cons (by simp only [List.getElem?_toArray, List.getElem?_cons_succ, List.getElem?_cons_zero]; rfl) (fun K' hK' => ?_) AllReadyH.nil
                    replace hK' := hide hK'
                    refine step_app_src (ys := [1]) (by rfl) (.tmp 90) (.tmp 91) _ (by rfl) (by rfl) HR7.out _ (by rfl) (src_one 1 rfl HS7.out) (by simp only [List.length_cons, List.length_nil]; omega) (by omega) ?_
                    intro A8 c8 w8 hr8 hg8
                    have HB8 := hide (hg8.blk HB7.out (Row.ne HR7.out HB7.out (by decide)))
                    have HG8 := hide (Below.trans HG7.out (Below.mono (Grew.below hg8 HR7.out (by omega)) (by omega)))
                    have HR8 := hide hr8
                    have hz8 := hg8.size
                    clear hr8 hg8
                    refine hK'.out _ _ (HB8.out) (fun hHeld => ?_)
                    clear hK' K'
                    try simp only [Act.put, List.setIfInBounds_toArray, List.set_cons_zero, List.set_cons_succ]
                    refine wpAnyH_ready (rs := [4]) (by kernel_rfl) (by simp) ?_
                    refine AllReadyH.cons (by simp only [List.getElem?_toArray, List.getElem?_cons_succ, List.getElem?_cons_zero]; rfl) (fun K' hK' => ?_) AllReadyH.nil
                    replace hK' := hide hK'
                    go_simp
                    go_at_call 31
                    refine (wlayval_any v cv (w.heap.size + 2) A8 c8 (ys.length + 1) (ys ++ [1]) w8 HCV.out HGG.out (HT.out.grow HG8.out) (HIV.out.grow HG8.out) HR8.out (by omega) (by omega)).mono ?_
                    rintro ee w9 ⟨A9, c9, rfl, hr9, hg9⟩
                    have HB9 := hide (hg9.blk HB8.out (Row.ne HR8.out HB8.out (by decide)))
                    have HG9 := hide (Below.trans HG8.out (Below.mono (Grew.below hg9 HR8.out (by omega)) (by omega)))
                    have HR9 := hide hr9
                    have hz9 := hg9.size
                    clear hr9 hg9
                    refine hK'.out _ _ (HB9.out) (fun hHeld => ?_)
                    clear hK' K'
                    try simp only [Act.put, List.setIfInBounds_toArray, List.set_cons_zero, List.set_cons_succ]
                    refine wpAnyH_take (i := 5) (v := ?_) (by simp only [List.getElem?_toArray, List.getElem?_cons_succ, List.getElem?_cons_zero]; rfl) (by kernel_rfl) (by kernel_rfl) (by kernel_rfl) (fun _ _ _ h => h) (Or.inl ⟨by rfl, ?_⟩) (by assumption) ?_
                    rotate_left 1
                    · (intro w hSw; (try dsimp only at hSw); go_simp; try with_reducible rfl)
                    try simp only [Act.put, List.setIfInBounds_toArray, List.set_cons_zero, List.set_cons_succ]
                    refine wpAnyH_done (by kernel_rfl) ?_ _
                    refine NoPanic.normal ?_
                    go_wp2_with fail
                    go_roundg gk'
                    case measure => omega
                    case rel =>
                      have := HVL.out
                      have hlen9 : (ys ++ [1] ++ valB v).length = ys.length + ((valB v).length + 1) := by simp
                      exact ⟨j + 1, ys ++ [1] ++ valB v, A9, c9, by omega, by omega, by rw [hlen9], by go_num, by rw [HYS.out, HTK.out, HMB.out, List.append_assoc, List.append_assoc], by rw [hlen9]; omega, HR9.out, HG9.out, by omega, fun i hi hij => by
                        by_cases h : i = j
                        · subst h; exact (congrArg mayGood HVJ.out).trans (HMG.out.trans HGG.out)
                        · exact HGD.out i hi (by omega)⟩
                  · have hne : (G == 0) = false := by simpa using g0
                    have HQ := hide (putRq_bad HA.out ((firstMay_to q.vals j hlt' HGD.out (by rw [HVJ.out, HMG.out, HGG.out]; exact g0)).trans ((congrArg mayGood HVJ.out).trans (HMG.out.trans HGG.out))) g0)
                    go_wp2_with fail
                    go_ret2
                    rw [HQ.out]
                    exact PutW.bad HG6.out
              · obtain rfl : j = 4 := by omega
                have hput : q.put = (if 12000 < ys.length then ([], 2) else (frameOf ys, 0)) := by
                  have hb : ys = q.body := by rw [HYS.out]; rfl
                  rw [putRq_good HA.out (firstMay_none q.vals (fun i hi => HGD.out i hi (by have : q.vals.length = 4 := rfl; omega))), ← hb]
                have hF := framed_any ys A' c' wr (HROW.out.reads.1) (by omega)
                rw [← hput] at hF
                have HF := hide hF
                clear hput hg hlt hF
                go_wp2_with fail
                refine HF.out.mono ?_
                intro ee w8 h8
                obtain ⟨base, A8, c8, rfl, hb8, hb8', hr8, hg8⟩ := h8.from HGR.out
                have HFIN := hide (show PutW w q.put (.returned (.tuple #[.slice A8 q.put.1.length c8, .int .i64 q.put.2])) w8 from ⟨base, A8, c8, rfl, hb8, hb8', hr8, hg8⟩)
                clear h8 hb8 hb8' hr8 hg8
                go_wp2_with fail
                go_ret2
                exact HFIN.out
theorem putRq_any (q : Rq) (ck cl ch cx : Cv) (w : World) (hT : Tabs w) (h1 : In w q.key ck) (h2 : In w q.low cl) (h3 : In w q.high ch) (h4 : In w q.doc cx) (hcount : ∀ v ∈ q.vals, v.count ≤ 20000)
    (hd : -9223372036854775808 ≤ q.do_ ∧ q.do_ ≤ 9223372036854775807) (hn : -9223372036854775808 ≤ q.n ∧ q.n ≤ 9223372036854775807) (hs1 : q.coll.size ≤ 140737488355328) (hs2 : q.index.size ≤ 140737488355328) (hs3 : q.path.size ≤ 140737488355328) :
    Calls Tryd.prog 12 #[.agg (rqCells q.do_ q.coll q.index q.path q.unique ck cl ch cx q.n)] w (PutW w q.put) := by
  by_cases hok : q.do_ < 0 ∨ 255 < q.do_ ∨ q.n < -2147483648 ∨ 2147483647 < q.n
  · exact putRq_bad1 q ck cl ch cx w hT h1 h2 h3 h4 hcount hd hn hs1 hs2 hs3 hok
  · exact putRq_any1 q ck cl ch cx w hT h1 h2 h3 h4 hcount hd hn hs1 hs2 hs3 hok
end Go.Proofs.YtcdbchifigonpaaDoor

set_option linter.unusedVariables false
set_option linter.unusedSimpArgs false
namespace Go.Proofs.YtcdbchifigonpaaDoor
open Go.RowKit Go.Deep Go.WideShapes
section
variable {P : Program} {ops : Array Oper} {a : Act}
theorem yields_load_val {S : World → Prop} {ty t tb : TypeId} {x : Operand} {d : Option Tmp} {p : String} {af : Array Edge} {g o : Nat} {cs : Array Value} {c : Cv} {td : TypeDesc} (hu : P.underlying ty = some td) (hd : td.isRow = true) (hx : a.eval x = .pointer (some ⟨g, o, none⟩)) (hB : ∀ w, S w → Blk w g tb cs) (hi : (P.info? ty).map (·.size) = some 5)
    (hget : ∀ j v, c.cells.toList[j]? = some v → cs[o + j]? = some v) : YieldsIf P ops S ⟨d, .load ty x, t, p, af, none⟩ c.agg a :=
  yieldsIf_load_mid (by simp [Region.wanted]) ty x rfl g o hx c.cells.toList td (fun w hS j v hv => by rw [(hB w hS).cell]; exact hget j v hv) hu hd hi
end
abbrev quad (ck cl ch cx : Cv) : Array Value := #[.int .i64 ck.k, .int .u64 ck.n, .slice ck.aB ck.nB ck.cB, .slice ck.aL ck.nL ck.cL, .slice ck.aF ck.nF ck.cF, .int .i64 cl.k, .int .u64 cl.n, .slice cl.aB cl.nB cl.cB, .slice cl.aL cl.nL cl.cL, .slice cl.aF cl.nF cl.cF, .int .i64 ch.k, .int .u64 ch.n, .slice ch.aB ch.nB ch.cB, .slice ch.aL ch.nL ch.cL, .slice ch.aF ch.nF ch.cF, .int .i64 cx.k, .int .u64 cx.n, .slice cx.aB cx.nB cx.cB, .slice cx.aL cx.nL cx.cL, .slice cx.aF cx.nF cx.cF]
abbrev zero20 : Array Value := #[.int .i64 0, .int .u64 0, .slice none 0 0, .slice none 0 0, .slice none 0 0, .int .i64 0, .int .u64 0, .slice none 0 0, .slice none 0 0, .slice none 0 0, .int .i64 0, .int .u64 0, .slice none 0 0, .slice none 0 0, .slice none 0 0, .int .i64 0, .int .u64 0, .slice none 0 0, .slice none 0 0, .slice none 0 0]
theorem info_4 : (Tryd.prog.info? 80).map (·.size) = some 20 := by kernel_rfl
theorem quad_one (ck cl ch cx : Cv) : (quad ck cl ch cx).all (·.oneCell') = true := by simp [quad, Value.oneCell']
theorem quad_at {w : World} {g : Nat} {t : TypeId} {ck cl ch cx : Cv} {a b c d : V} (h : Blk w g t (quad ck cl ch cx)) (h1 : In w a ck) (h2 : In w b cl) (h3 : In w c ch) (h4 : In w d cx) : InL w (some ⟨g, 0, none⟩) 4 [a, b, c, d] := by
  have hlt := h.lt
  unfold InL In
  rw [IsV]
  refine ⟨rfl, rfl, rfl, rfl, rfl, by decide, by decide, by decide, by simp, by simp, by simp, by simp, by simp, by simp, ⟨rfl, fun h => by simp at h⟩, fun i hi => ?_, fun i hi => by simp at hi⟩
  have hi4 : i < 4 := hi
  have hj3 : i = 0 ∨ i = 1 ∨ i = 2 ∨ i = 3 := by omega
  rcases hj3 with rfl | rfl | rfl | rfl
  · exact ⟨g, 0, ck, rfl, ⟨⟨h.cell 0, Nat.zero_le _, hlt⟩, ⟨h.cell 1, Nat.zero_le _, hlt⟩, ⟨h.cell 2, Nat.zero_le _, hlt⟩, ⟨h.cell 3, Nat.zero_le _, hlt⟩, ⟨h.cell 4, Nat.zero_le _, hlt⟩⟩, h1⟩
  · exact ⟨g, 0, cl, rfl, ⟨⟨h.cell 5, Nat.zero_le _, hlt⟩, ⟨h.cell 6, Nat.zero_le _, hlt⟩, ⟨h.cell 7, Nat.zero_le _, hlt⟩, ⟨h.cell 8, Nat.zero_le _, hlt⟩, ⟨h.cell 9, Nat.zero_le _, hlt⟩⟩, h2⟩
  · exact ⟨g, 0, ch, rfl, ⟨⟨h.cell 10, Nat.zero_le _, hlt⟩, ⟨h.cell 11, Nat.zero_le _, hlt⟩, ⟨h.cell 12, Nat.zero_le _, hlt⟩, ⟨h.cell 13, Nat.zero_le _, hlt⟩, ⟨h.cell 14, Nat.zero_le _, hlt⟩⟩, h3⟩
  · exact ⟨g, 0, cx, rfl, ⟨⟨h.cell 15, Nat.zero_le _, hlt⟩, ⟨h.cell 16, Nat.zero_le _, hlt⟩, ⟨h.cell 17, Nat.zero_le _, hlt⟩, ⟨h.cell 18, Nat.zero_le _, hlt⟩, ⟨h.cell 19, Nat.zero_le _, hlt⟩⟩, h4⟩

end Go.Proofs.YtcdbchifigonpaaDoor
