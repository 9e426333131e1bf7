/- Walk: the reference's GetRequest. Written by wip/tools/gen_refgq.py. -/
import Derived.Test.YthjjmndjfoebgaaDoorRefC
import Derived.Test.YthjjmndjfoebgaaDoorSameQ
set_option linter.unusedVariables false
set_option linter.unusedSimpArgs false
namespace Go.Proofs.YthjjmndjfoebgaaDoor
open Go.RowKit Go.Shelf

/-! The chain of states, and what the parser says. -/
theorem word_good {st : Option (List UInt8)} {r : List UInt8} (h : nextO pText st = some r) : ∃ r0, st = some r0 ∧ pText r0 = some (wordO st, r) := by
  unfold nextO at h
  unfold wordO
  cases st with
  | none => cases h
  | some r0 =>
    refine ⟨r0, rfl, ?_⟩
    show pText r0 = some (((pText r0).map Prod.fst).getD ⟨#[]⟩, r)
    have h : (pText r0).map Prod.snd = some r := h
    cases hp : pText r0 with
    | none => rw [hp] at h; cases h
    | some x => rw [hp] at h; obtain ⟨a, b⟩ := x; injection h with h; subst h; rfl
theorem val_good {p : List UInt8 → P V} {st : Option (List UInt8)} {r : List UInt8} (h : nextO p st = some r) : ∃ r0, st = some r0 ∧ p r0 = some (valO p st, r) := by
  unfold nextO at h
  unfold valO
  cases st with
  | none => cases h
  | some r0 =>
    refine ⟨r0, rfl, ?_⟩
    show p r0 = some (((p r0).map Prod.fst).getD V.zero, r)
    have h : (p r0).map Prod.snd = some r := h
    cases hp : p r0 with
    | none => rw [hp] at h; cases h
    | some x => rw [hp] at h; obtain ⟨a, b⟩ := x; injection h with h; subst h; rfl
/-- A number's 32 bits as a number that may be below 0. -/
def intOf32 (k : Nat) : Int := if k < 2147483648 then (k : Int) else (k : Int) - 4294967296
theorem chain_good {s0 s1 s2 s3 s4 s5 s6 s7 s8 s9 s10 : Option (List UInt8)} {body r : List UInt8} (h0 : s0 = some body) (h1 : nextO (pNum 1) s0 = s1) (h2 : nextO (pNum 1) s1 = s2) (h3 : nextO pText s2 = s3) (h4 : nextO pText s3 = s4) (h5 : nextO pText s4 = s5) (h6 : nextO (pNum 4) s5 = s6)
    (h7 : nextO pMay s6 = s7) (h8 : nextO pMay s7 = s8) (h9 : nextO pMay s8 = s9) (h10 : nextO pMay s9 = s10) (hr : s10 = some r) (hu : numO 1 s1 ≤ 1) :
    pReq body = some (⟨(numO 1 s0 : Nat), wordO s2, wordO s3, wordO s4, decide (numO 1 s1 = 1), valO pMay s6, valO pMay s7, valO pMay s8, valO pMay s9, intOf32 (numO 4 s5)⟩, r) := by
  subst hr
  obtain ⟨r9, e9, k9⟩ := val_good h10
  obtain ⟨r8, e8, k8⟩ := val_good (h9.trans e9)
  obtain ⟨r7, e7, k7⟩ := val_good (h8.trans e8)
  obtain ⟨r6, e6, k6⟩ := val_good (h7.trans e7)
  obtain ⟨r5, e5, k5⟩ := numO_good (h6.trans e6)
  obtain ⟨r4, e4, k4⟩ := word_good (h5.trans e5)
  obtain ⟨r3, e3, k3⟩ := word_good (h4.trans e4)
  obtain ⟨r2, e2, k2⟩ := word_good (h3.trans e3)
  obtain ⟨r1, e1, k1⟩ := numO_good (h2.trans e2)
  obtain ⟨r0, e0, k0⟩ := numO_good (h1.trans e1)
  obtain rfl : r0 = body := by rw [h0] at e0; injection e0 with e0; exact e0.symm
  have hf : pFlag r1 = some (decide (numO 1 s1 = 1), r2) := by unfold pFlag; rw [k1]; simp only; rw [if_pos hu]
  have hi : pInt r5 = some (intOf32 (numO 4 s5), r6) := pInt_of k5
  unfold pReq
  rw [k0]; simp only [pBind]
  rw [hf]; simp only
  rw [k2]; simp only
  rw [k3]; simp only
  rw [k4]; simp only
  rw [hi]; simp only
  rw [k6]; simp only
  rw [k7]; simp only
  rw [k8]; simp only
  rw [k9]
theorem chain_bad {s0 s1 s2 s3 s4 s5 s6 s7 s8 s9 s10 : Option (List UInt8)} {body : List UInt8} (h0 : s0 = some body) (h1 : nextO (pNum 1) s0 = s1) (h2 : nextO (pNum 1) s1 = s2) (h3 : nextO pText s2 = s3) (h4 : nextO pText s3 = s4) (h5 : nextO pText s4 = s5) (h6 : nextO (pNum 4) s5 = s6)
    (h7 : nextO pMay s6 = s7) (h8 : nextO pMay s7 = s8) (h9 : nextO pMay s8 = s9) (h10 : nextO pMay s9 = s10) (hr : s10 = none ∨ 1 < numO 1 s1) : pReq body = none := by
  cases hq : pReq body with
  | none => rfl
  | some x =>
    exfalso
    obtain ⟨q, r⟩ := x
    unfold pReq at hq
    obtain ⟨d, r1, e1, hq⟩ := pBind_some hq
    obtain ⟨u, r2, e2, hq⟩ := pBind_some hq
    obtain ⟨c, r3, e3, hq⟩ := pBind_some hq
    obtain ⟨i, r4, e4, hq⟩ := pBind_some hq
    obtain ⟨p, r5, e5, hq⟩ := pBind_some hq
    obtain ⟨n, r6, e6, hq⟩ := pBind_some hq
    obtain ⟨k, r7, e7, hq⟩ := pBind_some hq
    obtain ⟨l, r8, e8, hq⟩ := pBind_some hq
    obtain ⟨hh, r9, e9, hq⟩ := pBind_some hq
    obtain ⟨y, r10, e10, hq⟩ := pBind_some hq
    have t1 : s1 = some r1 := by rw [← h1, h0]; exact nextO_some e1
    obtain ⟨u', e2', hu'⟩ : ∃ u', pNum 1 r1 = some (u', r2) ∧ u' ≤ 1 := by
      unfold pFlag at e2
      cases hx : pNum 1 r1 with
      | none => rw [hx] at e2; cases e2
      | some z =>
        obtain ⟨u', r'⟩ := z
        rw [hx] at e2
        simp only at e2
        split at e2
        · rename_i hle
          injection e2 with e2
          injection e2 with _ e2
          subst e2
          exact ⟨u', rfl, hle⟩
        · cases e2
    have t2 : s2 = some r2 := by rw [← h2, t1]; exact nextO_some e2'
    have tu : numO 1 s1 = u' := by rw [t1]; simp [numO, e2']
    have t3 : s3 = some r3 := by rw [← h3, t2]; exact nextO_some e3
    have t4 : s4 = some r4 := by rw [← h4, t3]; exact nextO_some e4
    have t5 : s5 = some r5 := by rw [← h5, t4]; exact nextO_some e5
    obtain ⟨n', e6'⟩ : ∃ n', pNum 4 r5 = some (n', r6) := by
      unfold pInt at e6
      cases hx : pNum 4 r5 with
      | none => rw [hx] at e6; cases e6
      | some z =>
        obtain ⟨n', r'⟩ := z
        rw [hx] at e6
        injection e6 with e6
        injection e6 with _ e6
        subst e6
        exact ⟨n', rfl⟩
    have t6 : s6 = some r6 := by rw [← h6, t5]; exact nextO_some e6'
    have t7 : s7 = some r7 := by rw [← h7, t6]; exact nextO_some e7
    have t8 : s8 = some r8 := by rw [← h8, t7]; exact nextO_some e8
    have t9 : s9 = some r9 := by rw [← h9, t8]; exact nextO_some e9
    have t10 : s10 = some r10 := by rw [← h10, t9]; exact nextO_some e10
    rcases hr with hr | hr
    · rw [t10] at hr; cases hr
    · omega

/-! Stores into the cursor's block and the request's. -/
section
variable {φ : World → Prop} {w1 : World} {g8 g9 : Nat} {v0 v1 v2 x0 x1 x2 y : Value} {T8 T9 : TypeId} {cs : Array Value}
theorem keep2 {w1 wa w2 : World} {g8 g9 : Nat} (hA : w1.grownBy wa (some g9)) (hB : wa.grownBy w2 (some g8)) : w1.heap.size ≤ w2.heap.size ∧ ∀ k, k < w1.heap.size → k ≠ g8 → k ≠ g9 → w2.heap[k]? = w1.heap[k]? :=
  ⟨Nat.le_trans hA.size hB.size, fun k hk h8 h9 => (hB.block k (Nat.lt_of_lt_of_le hk hA.size) (fun e => by injection e with e; exact h8 e)).trans (hA.block k hk (fun e => by injection e with e; exact h9 e))⟩
theorem keep2' {w1 wa w2 : World} {g8 g9 : Nat} (hB : w1.grownBy wa (some g8)) (hA : wa.grownBy w2 (some g9)) : w1.heap.size ≤ w2.heap.size ∧ ∀ k, k < w1.heap.size → k ≠ g8 → k ≠ g9 → w2.heap[k]? = w1.heap[k]? :=
  ⟨Nat.le_trans hB.size hA.size, fun k hk h8 h9 => (hA.block k (Nat.lt_of_lt_of_le hk hB.size) (fun e => by injection e with e; exact h9 e)).trans (hB.block k hk (fun e => by injection e with e; exact h8 e))⟩
theorem set_A (o : Nat) (h8 : Blk w1 g8 T8 #[x0, x1, x2]) (h9 : Blk w1 g9 T9 cs) (hlt : g8 < g9) (h : ∀ w2, Blk w2 g8 T8 #[v0, v1, v2] → Blk w2 g9 T9 (cs.setIfInBounds o y) → Below g8 w1 w2 → (w1.heap.size ≤ w2.heap.size ∧ ∀ k, k < w1.heap.size → k ≠ g8 → k ≠ g9 → w2.heap[k]? = w1.heap[k]?) → φ w2) :
    φ ((((w1.setCell ⟨g9, o, none⟩ y).setCell ⟨g8, 0, none⟩ v0).setCell ⟨g8, 1, none⟩ v1).setCell ⟨g8, 2, none⟩ v2) := by
  refine h _ ((((h8.own (grown_set w1 g9 o y) (fun k e => by injection e with e; omega)).set_ 0 v0).set_ 1 v1).set_ 2 v2) ?_ ?_ ?_
  · exact (((h9.set_ o y).own (grown_set _ g8 0 v0) (fun k e => by injection e with e; omega)).own (grown_set _ g8 1 v1) (fun k e => by injection e with e; omega)).own (grown_set _ g8 2 v2) (fun k e => by injection e with e; omega)
  · exact ((((Below.refl g8 w1).setCell (by show g8 ≤ g9; omega) _).setCell (Nat.le_refl g8) _).setCell (Nat.le_refl g8) _).setCell (Nat.le_refl g8) _
  · have gA := grown_set w1 g9 o y
    have gB : GB (w1.setCell ⟨g9, o, none⟩ y) _ g8 := GB.trans (GB.trans (grown_set _ g8 0 v0) (grown_set _ g8 1 v1)) (grown_set _ g8 2 v2)
    exact keep2 gA gB
theorem set_B (o : Nat) (h8 : Blk w1 g8 T8 #[x0, x1, x2]) (h9 : Blk w1 g9 T9 cs) (hlt : g8 < g9) (h : ∀ w2, Blk w2 g8 T8 #[v0, v1, v2] → Blk w2 g9 T9 (cs.setIfInBounds o y) → Below g8 w1 w2 → (w1.heap.size ≤ w2.heap.size ∧ ∀ k, k < w1.heap.size → k ≠ g8 → k ≠ g9 → w2.heap[k]? = w1.heap[k]?) → φ w2) :
    φ ((((w1.setCell ⟨g8, 0, none⟩ v0).setCell ⟨g8, 1, none⟩ v1).setCell ⟨g8, 2, none⟩ v2).setCell ⟨g9, o, none⟩ y) := by
  refine h _ ((((h8.set_ 0 v0).set_ 1 v1).set_ 2 v2).own (grown_set _ g9 o y) (fun k e => by injection e with e; omega)) ?_ ?_ ?_
  · exact (((h9.own (grown_set _ g8 0 v0) (fun k e => by injection e with e; omega)).own (grown_set _ g8 1 v1) (fun k e => by injection e with e; omega)).own (grown_set _ g8 2 v2) (fun k e => by injection e with e; omega)).set_ o y
  · exact ((((Below.refl g8 w1).setCell (Nat.le_refl g8) _).setCell (Nat.le_refl g8) _).setCell (Nat.le_refl g8) _).setCell (by show g8 ≤ g9; omega) _
  · have gB := (GB.trans (GB.trans (grown_set w1 g8 0 v0) (grown_set _ g8 1 v1)) (grown_set _ g8 2 v2) : GB w1 _ g8)
    have gA := grown_set (((w1.setCell ⟨g8, 0, none⟩ v0).setCell ⟨g8, 1, none⟩ v1).setCell ⟨g8, 2, none⟩ v2) g9 o y
    exact keep2' gB gA
theorem set_C (o : Nat) (c : Cv) (h8 : Blk w1 g8 T8 #[x0, x1, x2]) (h9 : Blk w1 g9 T9 cs) (hlt : g8 < g9) (h : ∀ w2, Blk w2 g8 T8 #[v0, v1, v2] → Blk w2 g9 T9 (put5 cs o c) → Below g8 w1 w2 → (w1.heap.size ≤ w2.heap.size ∧ ∀ k, k < w1.heap.size → k ≠ g8 → k ≠ g9 → w2.heap[k]? = w1.heap[k]?) → φ w2) :
    φ (((w1.setCells g9 o c.cells.toList).setCell ⟨g8, 0, none⟩ v0).setCell ⟨g8, 1, none⟩ v1 |>.setCell ⟨g8, 2, none⟩ v2) := by
  refine h _ ((((h8.own (grown_set5 w1 g9 o c) (fun k e => by injection e with e; omega)).set_ 0 v0).set_ 1 v1).set_ 2 v2) ?_ ?_ ?_
  · exact (((h9.set5 o c).own (grown_set _ g8 0 v0) (fun k e => by injection e with e; omega)).own (grown_set _ g8 1 v1) (fun k e => by injection e with e; omega)).own (grown_set _ g8 2 v2) (fun k e => by injection e with e; omega)
  · exact ((((Below.refl g8 w1).grown (grown_set5 w1 g9 o c) (Nat.le_of_lt h8.lt) (fun k e => by injection e with e; omega)).setCell (Nat.le_refl g8) _).setCell (Nat.le_refl g8) _).setCell (Nat.le_refl g8) _
  · have gA := grown_set5 w1 g9 o c
    have gB : GB (w1.setCells g9 o c.cells.toList) _ g8 := GB.trans (GB.trans (grown_set _ g8 0 v0) (grown_set _ g8 1 v1)) (grown_set _ g8 2 v2)
    exact keep2 gA gB
end
theorem gq_results {F : Func} {W : World} {vb : Nat} {tmps : Array Value} {cs : Array Value} {u v : Value} (hF : F.results = #[ResultVar.cell 2 29, ResultVar.tmp 3, ResultVar.tmp 4]) (h2 : tmps.getD 2 undef = .pointer (some ⟨vb, 0, none⟩)) (h3 : tmps.getD 3 undef = u) (h4 : tmps.getD 4 undef = v) (hn : cs.size = 26) (hB : Blk W vb 29 cs) :
    (results F tmps).run Tryd.prog W = .ok (.tuple #[.agg cs, u, v]) W := by
  have hl := run_loadVar_row (P := Tryd.prog) W vb 29 29 cs (0, 0) _ hB Tryd.underlying29 rfl (by rw [hn]; exact info_rQ)
  have h2' : tmps[2]?.getD undef = .pointer (some ⟨vb, 0, none⟩) := by simpa using h2
  have h3' : tmps[3]?.getD undef = u := by simpa using h3
  have h4' : tmps[4]?.getD undef = v := by simpa using h4
  simp [results, hF, h2', h3', h4', asAddr, hl]
section
variable {P : Program} {ops : Array Oper} {rest : List Oper} {a : Act} {w : World} {Q : Exit → Act → World → Prop}
theorem at_alloc (ty : TypeId) {k : Tmp} {t : TypeId} {p : String} {af : Array Edge} (h : wpList P ops Q (⟨some k, .alloc ty, t, p, af, none⟩ :: rest) a w) : wpList P ops Q (⟨some k, .alloc ty, t, p, af, none⟩ :: rest) a w := h
theorem alloc_to {ty : TypeId} {k : Tmp} {t : TypeId} {p : String} {af : Array Edge} {cells : Array Value} (hrun : ∀ w : World, (execOp a.eval ⟨some k, .alloc ty, t, p, af, none⟩).run P w = .ok (.value (.pointer (some ⟨w.heap.size, 0, none⟩))) (w.alloc (.cells cells ty)))
    (h : wpList P ops Q rest (a.put (some k) (.pointer (some ⟨w.heap.size, 0, none⟩))) (w.alloc (.cells cells ty))) : wpList P ops Q (⟨some k, .alloc ty, t, p, af, none⟩ :: rest) a w := by
  refine wpList_plain rfl fun K hK => ?_
  unfold Oper.wp
  rw [hrun, Oper.upon_value]
  exact hK _ _ h
end
theorem cuV_inj {bk o len cap q q' : Nat} {ok ok' : Bool} (h : cuV bk o len cap q ok = cuV bk o len cap q' ok') : q = q' ∧ ok = ok' := by
  have e1 : (Value.int .i64 (q : Int)) = .int .i64 (q' : Int) := by
    have := congrArg (fun a : Array Value => a.toList[1]?) h
    injection this
  have e2 : Value.bool ok = .bool ok' := by
    have := congrArg (fun a : Array Value => a.toList[2]?) h
    injection this
  injection e1 with _ e1
  injection e2 with e2
  exact ⟨by omega, e2⟩
/-- What the reference's reading of bytes tells. -/
def RGotQ (w : World) (got : Rq × Nat × Int) (e : Ending) (w' : World) : Prop :=
  ∃ u, e = .returned (.tuple #[u, .int .i64 (got.2.1 : Nat), .int .i64 got.2.2]) ∧ RqIn w' got.1 u ∧ Grow w w'
theorem RGotQ.of {w w' : World} {q : Rq} {n : Nat} {x : Int} {got : Rq × Nat × Int} {u : Value} (h : got = (q, n, x)) (hr : RqIn w' q u) (hg : Grow w w') : RGotQ w got (.returned (.tuple #[u, .int .i64 n, .int .i64 x])) w' := by
  subst h; exact ⟨u, rfl, hr, hg⟩

set_option maxRecDepth 100000 in
set_option maxHeartbeats 6400000 in
theorem refGetQ_any (b : List UInt8) (A : Option Addr) (cap : Nat) (w : World) (hb : InB w A b) (hl : b.length ≤ 140737488355328) (hcap : b.length ≤ cap) :
    Calls Tryd.prog 20 #[.slice A b.length cap] w (RGotQ w (getReq b)) := by
  have HB := hide hb
  have HGA := hide ((Grow.refl w).alloc (.cells zeroQ 29))
  clear hb
  go_enter Tryd.func20, Tryd.ntmps20
  go_wp2_with (first
    | ((with_reducible refine at_build 29 ?_); refine wpList_buildTo rfl 29 _ rfl _ rfl zeroQ (by kernel_rfl) ?_)
    | ((with_reducible refine at_alloc 29 ?_); refine alloc_to (cells := zeroQ) (fun w => by kernel_rfl) ?_)
    | ((with_reducible refine at_store 29 ?_); refine store_blk (g := (w.alloc (.cells zeroQ 29)).heap.size) (n := 26) (cells := zeroQ) rfl rfl (Blk.new (w.alloc (.cells zeroQ 29)) 29 zeroQ) info_rQ rfl rfl zeroQ_one ?_; intro w1 hb1 hg1 hz1))
  have hz0 : (w.alloc (.cells zeroQ 29)).heap.size = w.heap.size + 1 := by simp
  rw [hz0] at hb1 hg1
  have H5 := hide hb1
  clear hz0
  have H2 := hide (((Blk.new w 29 zeroQ).alloc (.cells zeroQ 29)).own hg1 (fun k e => by injection e with e; omega))
  have HG1 := hide ((HGA.out.alloc (.cells zeroQ 29)).grown hg1 (fun k e => by injection e with e; omega))
  clear hb1 hg1
  clear hz1
  have hz1' : w.heap.size + 1 < w1.heap.size := H5.out.lt
  obtain ⟨Z, hZ⟩ : ∃ Z, zeroQ = Z := ⟨_, rfl⟩
  have hZn : Z.size = 26 := by rw [← hZ]; rfl
  have hZ1 : Z.all (·.oneCell') = true := by rw [← hZ]; exact zeroQ_one
  have h5 := H5.out
  rw [hZ] at h5
  clear H5
  have H5 := hide h5
  have HZ := hide hZ
  have HZN := hide hZn
  have HZ1 := hide hZ1
  clear h5 hZ hZn hZ1 HGA
  have HH := hide (refHead_any b A cap w1 (HB.out.grow HG1.out) hl hcap)
  refine HH.out.mono ?_
  rintro e w2 ⟨rfl, hg2⟩
  obtain ⟨n, e0, hh⟩ : ∃ n e, head b = (n, e) := ⟨_, _, rfl⟩
  rw [hh]
  dsimp only
  have H2' := hide (H2.out.grow hg2)
  have H5' := hide (H5.out.grow hg2)
  have HG2 := hide (HG1.out.trans hg2)
  have HHD := hide hh
  have hz2 := hg2.size
  clear hg2 hh H2 H5 HG1 HH
  by_cases he : e0 = 0
  rotate_left 1
  · have he0 : (e0 != 0) = true := by simpa using he
    go_wp2_with (first
      | ((with_reducible refine at_load 29 ?_); refine load_blk (g := w.heap.size + 1) (n := 26) (cells := Z) Tryd.underlying29 rfl rfl H5'.out info_rQ HZN.out ?_)
      | ((with_reducible refine at_store 29 ?_); refine store_blk (g := w.heap.size) (n := 26) (cells := Z) rfl rfl H2'.out info_rQ rfl HZN.out HZ1.out ?_; intro w3 hb3 hg3 hz3; have HB3 := hide hb3; have HG3 := hide (HG2.out.grown hg3 (fun k e => by injection e with e; omega)); clear hb3 hg3))
    refine bodyPost_ret (gq_results (u := .int .i64 (n : Nat)) (v := .int .i64 e0) rfl rfl rfl rfl HZN.out HB3.out) rfl (RGotQ.of (getQ_bad HHD.out he) (by rw [← HZ.out]; exact RqIn.zero _) HG3.out)
  subst he
  obtain ⟨body, rest', hbb, hm, hbl, hbody⟩ := head_sound HHD.out
  subst hm
  have hl8 : body.length + 8 ≤ b.length := by
    have := congrArg List.length hbb
    rw [List.length_append, frameOf_length] at this; omega
  obtain ⟨bk, o, hA, hcl⟩ := HB.out.2 (by omega)
  subst hA
  have HBK := hide (show bk < w.heap.size from (hcl 0 _ (u8s_get b 0 (by omega))).2.2)
  clear hcl
  have HBI := hide (show InB w (some ⟨bk, o + 4, none⟩) body from by
    have := HB.out.mid 4 body.length
    rwa [show body.length = body.length + 8 - 8 from by omega, hbody] at this)
  have HBODY := hide hbody
  clear hbb hbody
  go_wp2_with ((with_reducible refine at_alloc 29 ?_); refine alloc_to (cells := zeroQ) (fun w => by kernel_rfl) ?_)
  have H8 := hide ((Blk.new w2 111 (cuV bk (o + 4) body.length (cap - 4) 0 true)).alloc (.cells zeroQ 29))
  have H9 := hide (show Blk ((w2.alloc (.cells (cuV bk (o + 4) body.length (cap - 4) 0 true) 111)).alloc (.cells zeroQ 29)) (w2.heap.size + 1) 29 (rqCells 0 ⟨#[]⟩ ⟨#[]⟩ ⟨#[]⟩ false Cv.zero Cv.zero Cv.zero Cv.zero 0) from Blk.new' (by simp) _ _)
  have hal := ((Grow.refl w2).alloc (.cells (cuV bk (o + 4) body.length (cap - 4) 0 true) 111)).alloc (.cells zeroQ 29)
  have H2 := hide (H2'.out.grow hal)
  have H5 := hide (H5'.out.grow hal)
  have HG := hide (HG2.out.trans hal)
  have hzw : w.heap.size + 1 < w2.heap.size := H5'.out.lt
  have HC := hide (show CuR bk (o + 4) (cap - 4) body (some body) (cuV bk (o + 4) body.length (cap - 4) 0 true) from CuR.yes (Nat.zero_le _) rfl)
  obtain ⟨s0, hs0⟩ : ∃ s, some body = s := ⟨_, rfl⟩
  rw [hs0] at HC
  have HS0 := hide hs0
  have hcp4 : body.length < cap - 4 := by omega
  clear hal H2' H5' HG2 hs0 hz2
  generalize hg8 : w2.heap.size = g8 at H8 H9 hzw ⊢
  generalize hW0 : (w2.alloc (.cells _ 111)).alloc (.cells _ 29) = wb0 at H8 H9 H2 H5 HG ⊢
  clear hW0 hg8
  -- step 1
  refine (rnum_any bk (o + 4) (cap - 4) body 1 (by omega) (by omega) s0 _ wb0 hbl hcp4 (HBI.out.grow HG.out) HC.out).mono ?_
  rintro e wa1 ⟨cv, rfl, hr, hg⟩
  obtain ⟨q1, hq, rfl, hst⟩ := hr
  have hcu := (show CuR bk (o + 4) (cap - 4) body _ _ from ⟨q1, hq, rfl, hst⟩)
  clear hst HC
  obtain ⟨d, hd⟩ : ∃ n, numO 1 s0 = n := ⟨_, rfl⟩
  have dlt : d < 256 := by have := numO_lt 1 s0; rw [hd] at this; exact this
  rw [hd]
  have Hd := hide hd
  clear hd
  obtain ⟨s1, hs1⟩ : ∃ s, nextO (pNum 1) s0 = s := ⟨_, rfl⟩
  rw [hs1] at hcu ⊢
  have HS1 := hide hs1
  generalize hok : Option.isSome s1 = ok1 at hcu ⊢
  have HC := hide hcu
  clear hok hcu hs1
  have h8 := H8.out.grow hg
  have h9 := H9.out.grow hg
  have h2 := H2.out.grow hg
  have h5 := H5.out.grow hg
  have hgg := HG.out.trans hg
  clear hg H8 H9 H2 H5 HG
  have H2 := hide h2
  have H5 := hide h5
  have HG := hide hgg
  have hc8 := h8.cell
  have hf8 := h8.frozen
  have hc9 := h9.cell
  have hf9 := h9.frozen
  clear h2 h5 hgg
  go_wp2_with fail
  refine set_A (φ := fun w => Calls _ _ _ w _) 0 h8 h9 (by omega) (fun wb1 hb8 hb9 hbl hkk => ?_)
  have H8 := hide hb8
  have H9 := hide (show Blk wb1 (g8 + 1) 29 (rqCells (d : Int) ⟨#[]⟩ ⟨#[]⟩ ⟨#[]⟩ false Cv.zero Cv.zero Cv.zero Cv.zero 0) from hb9)
  have h2 := H2.out.below hbl (by omega)
  have h5 := H5.out.below hbl (by omega)
  have hgg := Below.trans HG.out (Below.mono hbl (by omega))
  clear H2 H5 HG h8 h9 hc8 hf8 hc9 hf9 hbl hkk hb8 hb9
  have H2 := hide h2
  have H5 := hide h5
  have HG := hide (show Grow w wb1 from hgg)
  clear h2 h5 hgg
  -- step 2
  refine (rnum_any bk (o + 4) (cap - 4) body 1 (by omega) (by omega) s1 _ wb1 hbl hcp4 (HBI.out.grow HG.out) HC.out).mono ?_
  rintro e wa2 ⟨cv, rfl, hr, hg⟩
  obtain ⟨q2, hq, rfl, hst⟩ := hr
  have hcu := (show CuR bk (o + 4) (cap - 4) body _ _ from ⟨q2, hq, rfl, hst⟩)
  clear hst HC
  obtain ⟨u, hu⟩ : ∃ n, numO 1 s1 = n := ⟨_, rfl⟩
  have ult : u < 256 := by have := numO_lt 1 s1; rw [hu] at this; exact this
  rw [hu]
  have Hu := hide hu
  clear hu
  obtain ⟨ub, hub⟩ : ∃ ub, ((u : Int) == 1) = ub := ⟨_, rfl⟩
  obtain ⟨s2, hs2⟩ : ∃ s, nextO (pNum 1) s1 = s := ⟨_, rfl⟩
  rw [hs2] at hcu ⊢
  have HS2 := hide hs2
  generalize hok : Option.isSome s2 = ok2 at hcu ⊢
  have HC := hide hcu
  clear hok hcu hs2
  have h8 := H8.out.grow hg
  have h9 := H9.out.grow hg
  have h2 := H2.out.grow hg
  have h5 := H5.out.grow hg
  have hgg := HG.out.trans hg
  clear hg H8 H9 H2 H5 HG
  have H2 := hide h2
  have H5 := hide h5
  have HG := hide hgg
  have hc8 := h8.cell
  have hf8 := h8.frozen
  have hc9 := h9.cell
  have hf9 := h9.frozen
  clear h2 h5 hgg
  go_wp2_with fail
  refine set_B (φ := fun w => Calls _ _ _ w _) 4 h8 h9 (by omega) (fun wb2 hb8 hb9 hbl hkk => ?_)
  have HUB := hide (show ub = decide (u = 1) from by rw [← hub]; by_cases h : u = 1 <;> simp [h] <;> omega)
  clear hub
  have H8 := hide hb8
  have H9 := hide (show Blk wb2 (g8 + 1) 29 (rqCells (d : Int) ⟨#[]⟩ ⟨#[]⟩ ⟨#[]⟩ ub Cv.zero Cv.zero Cv.zero Cv.zero 0) from hb9)
  have h2 := H2.out.below hbl (by omega)
  have h5 := H5.out.below hbl (by omega)
  have hgg := Below.trans HG.out (Below.mono hbl (by omega))
  clear H2 H5 HG h8 h9 hc8 hf8 hc9 hf9 hbl hkk hb8 hb9
  have H2 := hide h2
  have H5 := hide h5
  have HG := hide (show Grow w wb2 from hgg)
  clear h2 h5 hgg
  -- step 3
  refine (rword_any bk (o + 4) (cap - 4) body s2 _ wb2 (by have := (H8.out).lt; have := HBK.out; have := HG.out.size; omega) hbl hcp4 (HBI.out.grow HG.out) HC.out).mono ?_
  rintro e wa3 ⟨cv, rfl, hr, hg⟩
  obtain ⟨q3, hq, rfl, hst⟩ := hr
  have hcu := (show CuR bk (o + 4) (cap - 4) body _ _ from ⟨q3, hq, rfl, hst⟩)
  clear hst HC
  obtain ⟨tc, htc⟩ : ∃ n, wordO s2 = n := ⟨_, rfl⟩
  rw [htc]
  have Htc := hide htc
  clear htc
  obtain ⟨s3, hs3⟩ : ∃ s, nextO pText s2 = s := ⟨_, rfl⟩
  rw [hs3] at hcu ⊢
  have HS3 := hide hs3
  generalize hok : Option.isSome s3 = ok3 at hcu ⊢
  have HC := hide hcu
  clear hok hcu hs3
  have h8 := H8.out.grow hg
  have h9 := H9.out.grow hg
  have h2 := H2.out.grow hg
  have h5 := H5.out.grow hg
  have hgg := HG.out.trans hg
  clear hg H8 H9 H2 H5 HG
  have H2 := hide h2
  have H5 := hide h5
  have HG := hide hgg
  have hc8 := h8.cell
  have hf8 := h8.frozen
  have hc9 := h9.cell
  have hf9 := h9.frozen
  clear h2 h5 hgg
  go_wp2_with fail
  refine set_A (φ := fun w => Calls _ _ _ w _) 1 h8 h9 (by omega) (fun wb3 hb8 hb9 hbl hkk => ?_)
  have H8 := hide hb8
  have H9 := hide (show Blk wb3 (g8 + 1) 29 (rqCells (d : Int) tc ⟨#[]⟩ ⟨#[]⟩ ub Cv.zero Cv.zero Cv.zero Cv.zero 0) from hb9)
  have h2 := H2.out.below hbl (by omega)
  have h5 := H5.out.below hbl (by omega)
  have hgg := Below.trans HG.out (Below.mono hbl (by omega))
  clear H2 H5 HG h8 h9 hc8 hf8 hc9 hf9 hbl hkk hb8 hb9
  have H2 := hide h2
  have H5 := hide h5
  have HG := hide (show Grow w wb3 from hgg)
  clear h2 h5 hgg
  -- step 4
  refine (rword_any bk (o + 4) (cap - 4) body s3 _ wb3 (by have := (H8.out).lt; have := HBK.out; have := HG.out.size; omega) hbl hcp4 (HBI.out.grow HG.out) HC.out).mono ?_
  rintro e wa4 ⟨cv, rfl, hr, hg⟩
  obtain ⟨q4, hq, rfl, hst⟩ := hr
  have hcu := (show CuR bk (o + 4) (cap - 4) body _ _ from ⟨q4, hq, rfl, hst⟩)
  clear hst HC
  obtain ⟨ti, hti⟩ : ∃ n, wordO s3 = n := ⟨_, rfl⟩
  rw [hti]
  have Hti := hide hti
  clear hti
  obtain ⟨s4, hs4⟩ : ∃ s, nextO pText s3 = s := ⟨_, rfl⟩
  rw [hs4] at hcu ⊢
  have HS4 := hide hs4
  generalize hok : Option.isSome s4 = ok4 at hcu ⊢
  have HC := hide hcu
  clear hok hcu hs4
  have h8 := H8.out.grow hg
  have h9 := H9.out.grow hg
  have h2 := H2.out.grow hg
  have h5 := H5.out.grow hg
  have hgg := HG.out.trans hg
  clear hg H8 H9 H2 H5 HG
  have H2 := hide h2
  have H5 := hide h5
  have HG := hide hgg
  have hc8 := h8.cell
  have hf8 := h8.frozen
  have hc9 := h9.cell
  have hf9 := h9.frozen
  clear h2 h5 hgg
  go_wp2_with fail
  refine set_A (φ := fun w => Calls _ _ _ w _) 2 h8 h9 (by omega) (fun wb4 hb8 hb9 hbl hkk => ?_)
  have H8 := hide hb8
  have H9 := hide (show Blk wb4 (g8 + 1) 29 (rqCells (d : Int) tc ti ⟨#[]⟩ ub Cv.zero Cv.zero Cv.zero Cv.zero 0) from hb9)
  have h2 := H2.out.below hbl (by omega)
  have h5 := H5.out.below hbl (by omega)
  have hgg := Below.trans HG.out (Below.mono hbl (by omega))
  clear H2 H5 HG h8 h9 hc8 hf8 hc9 hf9 hbl hkk hb8 hb9
  have H2 := hide h2
  have H5 := hide h5
  have HG := hide (show Grow w wb4 from hgg)
  clear h2 h5 hgg
  -- step 5
  refine (rword_any bk (o + 4) (cap - 4) body s4 _ wb4 (by have := (H8.out).lt; have := HBK.out; have := HG.out.size; omega) hbl hcp4 (HBI.out.grow HG.out) HC.out).mono ?_
  rintro e wa5 ⟨cv, rfl, hr, hg⟩
  obtain ⟨q5, hq, rfl, hst⟩ := hr
  have hcu := (show CuR bk (o + 4) (cap - 4) body _ _ from ⟨q5, hq, rfl, hst⟩)
  clear hst HC
  obtain ⟨tp, htp⟩ : ∃ n, wordO s4 = n := ⟨_, rfl⟩
  rw [htp]
  have Htp := hide htp
  clear htp
  obtain ⟨s5, hs5⟩ : ∃ s, nextO pText s4 = s := ⟨_, rfl⟩
  rw [hs5] at hcu ⊢
  have HS5 := hide hs5
  generalize hok : Option.isSome s5 = ok5 at hcu ⊢
  have HC := hide hcu
  clear hok hcu hs5
  have h8 := H8.out.grow hg
  have h9 := H9.out.grow hg
  have h2 := H2.out.grow hg
  have h5 := H5.out.grow hg
  have hgg := HG.out.trans hg
  clear hg H8 H9 H2 H5 HG
  have H2 := hide h2
  have H5 := hide h5
  have HG := hide hgg
  have hc8 := h8.cell
  have hf8 := h8.frozen
  have hc9 := h9.cell
  have hf9 := h9.frozen
  clear h2 h5 hgg
  go_wp2_with fail
  refine set_A (φ := fun w => Calls _ _ _ w _) 3 h8 h9 (by omega) (fun wb5 hb8 hb9 hbl hkk => ?_)
  have H8 := hide hb8
  have H9 := hide (show Blk wb5 (g8 + 1) 29 (rqCells (d : Int) tc ti tp ub Cv.zero Cv.zero Cv.zero Cv.zero 0) from hb9)
  have h2 := H2.out.below hbl (by omega)
  have h5 := H5.out.below hbl (by omega)
  have hgg := Below.trans HG.out (Below.mono hbl (by omega))
  clear H2 H5 HG h8 h9 hc8 hf8 hc9 hf9 hbl hkk hb8 hb9
  have H2 := hide h2
  have H5 := hide h5
  have HG := hide (show Grow w wb5 from hgg)
  clear h2 h5 hgg
  -- step 6
  refine (rnum_any bk (o + 4) (cap - 4) body 4 (by omega) (by omega) s5 _ wb5 hbl hcp4 (HBI.out.grow HG.out) HC.out).mono ?_
  rintro e wa6 ⟨cv, rfl, hr, hg⟩
  obtain ⟨q6, hq, rfl, hst⟩ := hr
  have hcu := (show CuR bk (o + 4) (cap - 4) body _ _ from ⟨q6, hq, rfl, hst⟩)
  clear hst HC
  obtain ⟨k, hk⟩ : ∃ n, numO 4 s5 = n := ⟨_, rfl⟩
  have klt : k < 4294967296 := by have := numO_lt 4 s5; rw [hk] at this; exact this
  rw [hk]
  have Hk := hide hk
  clear hk
  obtain ⟨N, hN⟩ : ∃ N, intOf32 k = N := ⟨_, rfl⟩
  have hw1 : IntKind.u32.wrap (k : Int) = (k : Int) := by rw [IntKind.wrap_u32]; omega
  have hw2 : IntKind.i32.wrap (k : Int) = N := by rw [i32_of k klt]; exact hN
  have hw3 : IntKind.i64.wrap N = N := IntWalk.i64_in _ (by unfold intOf32 at hN; split at hN <;> omega)
  have hNlo : -2147483648 ≤ N := by unfold intOf32 at hN; split at hN <;> omega
  have hNhi : N ≤ 2147483647 := by unfold intOf32 at hN; split at hN <;> omega
  have HN := hide hN
  clear hN
  obtain ⟨s6, hs6⟩ : ∃ s, nextO (pNum 4) s5 = s := ⟨_, rfl⟩
  rw [hs6] at hcu ⊢
  have HS6 := hide hs6
  generalize hok : Option.isSome s6 = ok6 at hcu ⊢
  have HC := hide hcu
  clear hok hcu hs6
  have h8 := H8.out.grow hg
  have h9 := H9.out.grow hg
  have h2 := H2.out.grow hg
  have h5 := H5.out.grow hg
  have hgg := HG.out.trans hg
  clear hg H8 H9 H2 H5 HG
  have H2 := hide h2
  have H5 := hide h5
  have HG := hide hgg
  have hc8 := h8.cell
  have hf8 := h8.frozen
  have hc9 := h9.cell
  have hf9 := h9.frozen
  clear h2 h5 hgg
  go_wp2_with fail
  refine set_B (φ := fun w => Calls _ _ _ w _) 25 h8 h9 (by omega) (fun wb6 hb8 hb9 hbl hkk => ?_)
  clear hw1 hw2 hw3
  have H8 := hide hb8
  have H9 := hide (show Blk wb6 (g8 + 1) 29 (rqCells (d : Int) tc ti tp ub Cv.zero Cv.zero Cv.zero Cv.zero N) from hb9)
  have h2 := H2.out.below hbl (by omega)
  have h5 := H5.out.below hbl (by omega)
  have hgg := Below.trans HG.out (Below.mono hbl (by omega))
  clear H2 H5 HG h8 h9 hc8 hf8 hc9 hf9 hbl hkk hb8 hb9
  have H2 := hide h2
  have H5 := hide h5
  have HG := hide (show Grow w wb6 from hgg)
  clear h2 h5 hgg
  -- step 7
  refine (rmay_any bk (o + 4) (cap - 4) body s6 _ wb6 hbl hcp4 (HBI.out.grow HG.out) HC.out).mono ?_
  rintro e wa7 ⟨ck, cv, rfl, hin, hr, hg⟩
  obtain ⟨q7, hq, rfl, hst⟩ := hr
  have hcu := (show CuR bk (o + 4) (cap - 4) body _ _ from ⟨q7, hq, rfl, hst⟩)
  clear hst HC
  obtain ⟨vck, hvck⟩ : ∃ v, valO pMay s6 = v := ⟨_, rfl⟩
  rw [hvck] at hin
  have HVck := hide hvck
  have Ick := hide (hin.wider (lo' := g8 + 2) (by have := H9.out.lt; omega) (Nat.le_refl _) (Nat.le_refl _))
  clear hvck hin
  obtain ⟨s7, hs7⟩ : ∃ s, nextO pMay s6 = s := ⟨_, rfl⟩
  rw [hs7] at hcu ⊢
  have HS7 := hide hs7
  generalize hok : Option.isSome s7 = ok7 at hcu ⊢
  have HC := hide hcu
  clear hok hcu hs7
  have h8 := H8.out.grow hg
  have h9 := H9.out.grow hg
  have h2 := H2.out.grow hg
  have h5 := H5.out.grow hg
  have hgg := HG.out.trans hg
  clear hg H8 H9 H2 H5 HG
  have H2 := hide h2
  have H5 := hide h5
  have HG := hide hgg
  have hc8 := h8.cell
  have hf8 := h8.frozen
  have hc9 := h9.cell
  have hf9 := h9.frozen
  clear h2 h5 hgg
  go_wp2_with fail
  refine set_C (φ := fun w => Calls _ _ _ w _) 5 ck h8 h9 (by omega) (fun wb7 hb8 hb9 hbl hkk => ?_)
  have H8 := hide hb8
  have H9 := hide (show Blk wb7 (g8 + 1) 29 (rqCells (d : Int) tc ti tp ub ck Cv.zero Cv.zero Cv.zero N) from hb9)
  have h2 := H2.out.below hbl (by omega)
  have h5 := H5.out.below hbl (by omega)
  have hgg := Below.trans HG.out (Below.mono hbl (by omega))
  have ick := Ick.out.blocks hkk.1 (fun k h1 h2 => hkk.2 k (Nat.lt_of_lt_of_le h2 Ick.out.1) (by omega) (by omega))
  clear H2 H5 HG h8 h9 hc8 hf8 hc9 hf9 hbl hkk hb8 hb9 Ick
  have H2 := hide h2
  have H5 := hide h5
  have HG := hide (show Grow w wb7 from hgg)
  have Ick := hide ick
  clear h2 h5 hgg ick
  -- step 8
  refine (rmay_any bk (o + 4) (cap - 4) body s7 _ wb7 hbl hcp4 (HBI.out.grow HG.out) HC.out).mono ?_
  rintro e wa8 ⟨cl, cv, rfl, hin, hr, hg⟩
  obtain ⟨q8, hq, rfl, hst⟩ := hr
  have hcu := (show CuR bk (o + 4) (cap - 4) body _ _ from ⟨q8, hq, rfl, hst⟩)
  clear hst HC
  obtain ⟨vcl, hvcl⟩ : ∃ v, valO pMay s7 = v := ⟨_, rfl⟩
  rw [hvcl] at hin
  have HVcl := hide hvcl
  have Icl := hide (hin.wider (lo' := g8 + 2) (by have := H9.out.lt; omega) (Nat.le_refl _) (Nat.le_refl _))
  clear hvcl hin
  obtain ⟨s8, hs8⟩ : ∃ s, nextO pMay s7 = s := ⟨_, rfl⟩
  rw [hs8] at hcu ⊢
  have HS8 := hide hs8
  generalize hok : Option.isSome s8 = ok8 at hcu ⊢
  have HC := hide hcu
  clear hok hcu hs8
  have h8 := H8.out.grow hg
  have h9 := H9.out.grow hg
  have h2 := H2.out.grow hg
  have h5 := H5.out.grow hg
  have hgg := HG.out.trans hg
  have ick := Ick.out.grow hg
  clear hg H8 H9 H2 H5 HG Ick
  have H2 := hide h2
  have H5 := hide h5
  have HG := hide hgg
  have hc8 := h8.cell
  have hf8 := h8.frozen
  have hc9 := h9.cell
  have hf9 := h9.frozen
  have Ick := hide ick
  clear h2 h5 hgg ick
  go_wp2_with fail
  refine set_C (φ := fun w => Calls _ _ _ w _) 10 cl h8 h9 (by omega) (fun wb8 hb8 hb9 hbl hkk => ?_)
  have H8 := hide hb8
  have H9 := hide (show Blk wb8 (g8 + 1) 29 (rqCells (d : Int) tc ti tp ub ck cl Cv.zero Cv.zero N) from hb9)
  have h2 := H2.out.below hbl (by omega)
  have h5 := H5.out.below hbl (by omega)
  have hgg := Below.trans HG.out (Below.mono hbl (by omega))
  have ick := Ick.out.blocks hkk.1 (fun k h1 h2 => hkk.2 k (Nat.lt_of_lt_of_le h2 Ick.out.1) (by omega) (by omega))
  have icl := Icl.out.blocks hkk.1 (fun k h1 h2 => hkk.2 k (Nat.lt_of_lt_of_le h2 Icl.out.1) (by omega) (by omega))
  clear H2 H5 HG h8 h9 hc8 hf8 hc9 hf9 hbl hkk hb8 hb9 Ick Icl
  have H2 := hide h2
  have H5 := hide h5
  have HG := hide (show Grow w wb8 from hgg)
  have Ick := hide ick
  have Icl := hide icl
  clear h2 h5 hgg ick icl
  -- step 9
  refine (rmay_any bk (o + 4) (cap - 4) body s8 _ wb8 hbl hcp4 (HBI.out.grow HG.out) HC.out).mono ?_
  rintro e wa9 ⟨ch, cv, rfl, hin, hr, hg⟩
  obtain ⟨q9, hq, rfl, hst⟩ := hr
  have hcu := (show CuR bk (o + 4) (cap - 4) body _ _ from ⟨q9, hq, rfl, hst⟩)
  clear hst HC
  obtain ⟨vch, hvch⟩ : ∃ v, valO pMay s8 = v := ⟨_, rfl⟩
  rw [hvch] at hin
  have HVch := hide hvch
  have Ich := hide (hin.wider (lo' := g8 + 2) (by have := H9.out.lt; omega) (Nat.le_refl _) (Nat.le_refl _))
  clear hvch hin
  obtain ⟨s9, hs9⟩ : ∃ s, nextO pMay s8 = s := ⟨_, rfl⟩
  rw [hs9] at hcu ⊢
  have HS9 := hide hs9
  generalize hok : Option.isSome s9 = ok9 at hcu ⊢
  have HC := hide hcu
  clear hok hcu hs9
  have h8 := H8.out.grow hg
  have h9 := H9.out.grow hg
  have h2 := H2.out.grow hg
  have h5 := H5.out.grow hg
  have hgg := HG.out.trans hg
  have ick := Ick.out.grow hg
  have icl := Icl.out.grow hg
  clear hg H8 H9 H2 H5 HG Ick Icl
  have H2 := hide h2
  have H5 := hide h5
  have HG := hide hgg
  have hc8 := h8.cell
  have hf8 := h8.frozen
  have hc9 := h9.cell
  have hf9 := h9.frozen
  have Ick := hide ick
  have Icl := hide icl
  clear h2 h5 hgg ick icl
  go_wp2_with fail
  refine set_C (φ := fun w => Calls _ _ _ w _) 15 ch h8 h9 (by omega) (fun wb9 hb8 hb9 hbl hkk => ?_)
  have H8 := hide hb8
  have H9 := hide (show Blk wb9 (g8 + 1) 29 (rqCells (d : Int) tc ti tp ub ck cl ch Cv.zero N) from hb9)
  have h2 := H2.out.below hbl (by omega)
  have h5 := H5.out.below hbl (by omega)
  have hgg := Below.trans HG.out (Below.mono hbl (by omega))
  have ick := Ick.out.blocks hkk.1 (fun k h1 h2 => hkk.2 k (Nat.lt_of_lt_of_le h2 Ick.out.1) (by omega) (by omega))
  have icl := Icl.out.blocks hkk.1 (fun k h1 h2 => hkk.2 k (Nat.lt_of_lt_of_le h2 Icl.out.1) (by omega) (by omega))
  have ich := Ich.out.blocks hkk.1 (fun k h1 h2 => hkk.2 k (Nat.lt_of_lt_of_le h2 Ich.out.1) (by omega) (by omega))
  clear H2 H5 HG h8 h9 hc8 hf8 hc9 hf9 hbl hkk hb8 hb9 Ick Icl Ich
  have H2 := hide h2
  have H5 := hide h5
  have HG := hide (show Grow w wb9 from hgg)
  have Ick := hide ick
  have Icl := hide icl
  have Ich := hide ich
  clear h2 h5 hgg ick icl ich
  -- step 10
  refine (rmay_any bk (o + 4) (cap - 4) body s9 _ wb9 hbl hcp4 (HBI.out.grow HG.out) HC.out).mono ?_
  rintro e wa10 ⟨cx, cv, rfl, hin, hr, hg⟩
  obtain ⟨q10, hq, rfl, hst⟩ := hr
  have hcu := (show CuR bk (o + 4) (cap - 4) body _ _ from ⟨q10, hq, rfl, hst⟩)
  clear hst HC
  obtain ⟨vcx, hvcx⟩ : ∃ v, valO pMay s9 = v := ⟨_, rfl⟩
  rw [hvcx] at hin
  have HVcx := hide hvcx
  have Icx := hide (hin.wider (lo' := g8 + 2) (by have := H9.out.lt; omega) (Nat.le_refl _) (Nat.le_refl _))
  clear hvcx hin
  obtain ⟨s10, hs10⟩ : ∃ s, nextO pMay s9 = s := ⟨_, rfl⟩
  rw [hs10] at hcu ⊢
  have HS10 := hide hs10
  generalize hok : Option.isSome s10 = ok10 at hcu ⊢
  have HC := hide hcu
  clear hok hcu hs10
  have h8 := H8.out.grow hg
  have h9 := H9.out.grow hg
  have h2 := H2.out.grow hg
  have h5 := H5.out.grow hg
  have hgg := HG.out.trans hg
  have ick := Ick.out.grow hg
  have icl := Icl.out.grow hg
  have ich := Ich.out.grow hg
  clear hg H8 H9 H2 H5 HG Ick Icl Ich
  have H2 := hide h2
  have H5 := hide h5
  have HG := hide hgg
  have hc8 := h8.cell
  have hf8 := h8.frozen
  have hc9 := h9.cell
  have hf9 := h9.frozen
  have Ick := hide ick
  have Icl := hide icl
  have Ich := hide ich
  clear h2 h5 hgg ick icl ich
  go_upto_region 19 with fail
  refine set_C (φ := fun w => Code.wp _ _ _ _ w) 20 cx h8 h9 (by omega) (fun wb10 hb8 hb9 hbl hkk => ?_)
  have H8 := hide hb8
  have H9 := hide (show Blk wb10 (g8 + 1) 29 (rqCells (d : Int) tc ti tp ub ck cl ch cx N) from hb9)
  have h2 := H2.out.below hbl (by omega)
  have h5 := H5.out.below hbl (by omega)
  have hgg := Below.trans HG.out (Below.mono hbl (by omega))
  have ick := Ick.out.blocks hkk.1 (fun k h1 h2 => hkk.2 k (Nat.lt_of_lt_of_le h2 Ick.out.1) (by omega) (by omega))
  have icl := Icl.out.blocks hkk.1 (fun k h1 h2 => hkk.2 k (Nat.lt_of_lt_of_le h2 Icl.out.1) (by omega) (by omega))
  have ich := Ich.out.blocks hkk.1 (fun k h1 h2 => hkk.2 k (Nat.lt_of_lt_of_le h2 Ich.out.1) (by omega) (by omega))
  have icx := Icx.out.blocks hkk.1 (fun k h1 h2 => hkk.2 k (Nat.lt_of_lt_of_le h2 Icx.out.1) (by omega) (by omega))
  clear H2 H5 HG h8 h9 hc8 hf8 hc9 hf9 hbl hkk hb8 hb9 Ick Icl Ich Icx
  have H2 := hide h2
  have H5 := hide h5
  have HG := hide (show Grow w wb10 from hgg)
  have Ick := hide ick
  have Icl := hide icl
  have Ich := hide ich
  have Icx := hide icx
  clear h2 h5 hgg ick icl ich icx
  have HPB := hide (fun (hr : s10 = none ∨ 1 < u) => chain_bad HS0.out.symm HS1.out HS2.out HS3.out HS4.out HS5.out HS6.out HS7.out HS8.out HS9.out HS10.out (by rw [Hu.out]; exact hr))
  have HPG := hide (fun (r : List UInt8) (hr : s10 = some r) (hu : u ≤ 1) => (show pReq body = some (⟨(d : Int), tc, ti, tp, ub, vck, vcl, vch, vcx, N⟩, r) from by
    have h := chain_good HS0.out.symm HS1.out HS2.out HS3.out HS4.out HS5.out HS6.out HS7.out HS8.out HS9.out HS10.out hr (by rw [Hu.out]; exact hu)
    rw [Hd.out, Htc.out, Hti.out, Htp.out, Hu.out, ← HUB.out, HVck.out, HVcl.out, HVch.out, HVcx.out, Hk.out, HN.out] at h
    exact h))
  have hcs := HC.out
  have hc8 := H8.out.cell
  clear HC HS0 HS1 HS2 HS3 HS4 HS5 HS6 HS7 HS8 HS9 HS10 Hd Hu HUB Htc Hti Htp Hk HN HVck HVcl HVch HVcx
  rcases hcs.open with ⟨qq, hqq, hs, hcv⟩ | ⟨qq, hqq, hs, hcv⟩
  rotate_left 1
  · obtain ⟨rfl, rfl⟩ : q10 = qq ∧ ok10 = false := cuV_inj hcv
    have HP := hide (HPB.out (.inl hs))
    clear hs hcs hcv
    have HGT := hide (getQ_none HHD.out HBODY.out HP.out)
    go_wp2_with (first
      | ((with_reducible refine at_load 29 ?_); refine load_blk (g := w.heap.size + 1) (n := 26) (cells := Z) Tryd.underlying29 rfl rfl H5.out info_rQ HZN.out ?_)
      | ((with_reducible refine at_store 29 ?_); refine store_blk (g := w.heap.size) (n := 26) (cells := Z) rfl rfl H2.out info_rQ rfl HZN.out HZ1.out ?_; intro w3 hb3 hg3 hz3; have HB3 := hide hb3; have HG3 := hide (HG.out.grown hg3 (fun k e => by injection e with e; omega)); clear hb3 hg3))
    exact bodyPost_ret (gq_results (u := .int .i64 ((body.length + 8 : Nat) : Int)) (v := .int .i64 4) rfl rfl rfl rfl HZN.out HB3.out) rfl (RGotQ.of HGT.out (by rw [← HZ.out]; exact RqIn.zero _) HG3.out)
  obtain ⟨rfl, rfl⟩ : q10 = qq ∧ ok10 = true := cuV_inj hcv
  have HSS := hide hs
  clear hs hcs hcv
  by_cases hu1 : 1 < u
  · have hd1 : decide ((1 : Int) < (u : Int)) = true := by simp; omega
    have HP := hide (HPB.out (.inr hu1))
    have HGT := hide (getQ_none HHD.out HBODY.out HP.out)
    go_wp2_with (first
      | ((with_reducible refine at_load 29 ?_); refine load_blk (g := w.heap.size + 1) (n := 26) (cells := Z) Tryd.underlying29 rfl rfl H5.out info_rQ HZN.out ?_)
      | ((with_reducible refine at_store 29 ?_); refine store_blk (g := w.heap.size) (n := 26) (cells := Z) rfl rfl H2.out info_rQ rfl HZN.out HZ1.out ?_; intro w3 hb3 hg3 hz3; have HB3 := hide hb3; have HG3 := hide (HG.out.grown hg3 (fun k e => by injection e with e; omega)); clear hb3 hg3))
    exact bodyPost_ret (gq_results (u := .int .i64 ((body.length + 8 : Nat) : Int)) (v := .int .i64 4) rfl rfl rfl rfl HZN.out HB3.out) rfl (RGotQ.of HGT.out (by rw [← HZ.out]; exact RqIn.zero _) HG3.out)
  have hd1 : decide ((1 : Int) < (u : Int)) = false := by simp; omega
  have HP := hide (HPG.out _ HSS.out (by omega))
  by_cases hqe : q10 = body.length
  rotate_left 1
  · have hd2 : ((q10 : Int) != (body.length : Int)) = true := by simp; omega
    have HGT := hide (show getReq b = (Rq.zero, body.length + 8, 4) from by rw [getQ_some HHD.out HBODY.out HP.out, if_neg (by rw [List.drop_eq_nil_iff]; omega)])
    go_wp2_with (first
      | ((with_reducible refine at_load 29 ?_); refine load_blk (g := w.heap.size + 1) (n := 26) (cells := Z) Tryd.underlying29 rfl rfl H5.out info_rQ HZN.out ?_)
      | ((with_reducible refine at_store 29 ?_); refine store_blk (g := w.heap.size) (n := 26) (cells := Z) rfl rfl H2.out info_rQ rfl HZN.out HZ1.out ?_; intro w3 hb3 hg3 hz3; have HB3 := hide hb3; have HG3 := hide (HG.out.grown hg3 (fun k e => by injection e with e; omega)); clear hb3 hg3))
    exact bodyPost_ret (gq_results (u := .int .i64 ((body.length + 8 : Nat) : Int)) (v := .int .i64 4) rfl rfl rfl rfl HZN.out HB3.out) rfl (RGotQ.of HGT.out (by rw [← HZ.out]; exact RqIn.zero _) HG3.out)
  subst hqe
  have HGT := hide (show getReq b = (_, body.length + 8, 0) from by rw [getQ_some HHD.out HBODY.out HP.out, if_pos (by rw [List.drop_eq_nil_iff]; omega)])
  have hRQ : RqIn wb10 ⟨(d : Int), tc, ti, tp, ub, vck, vcl, vch, vcx, N⟩ (.agg (rqCells (d : Int) tc ti tp ub ck cl ch cx N)) := ⟨ck, cl, ch, cx, rfl, Ick.out.in_, Icl.out.in_, Ich.out.in_, Icx.out.in_⟩
  have HRQ := hide (fun (w' : World) (hk : wb10.grownBy w' (some w.heap.size)) => (show RqIn w' ⟨(d : Int), tc, ti, tp, ub, vck, vcl, vch, vcx, N⟩ (.agg (rqCells (d : Int) tc ti tp ub ck cl ch cx N)) from
    ⟨ck, cl, ch, cx, rfl, (Ick.out.blocks hk.size (fun k h1 h2 => hk.block k (Nat.lt_of_lt_of_le h2 Ick.out.1) (fun e => by injection e with e; omega))).in_, (Icl.out.blocks hk.size (fun k h1 h2 => hk.block k (Nat.lt_of_lt_of_le h2 Icl.out.1) (fun e => by injection e with e; omega))).in_, (Ich.out.blocks hk.size (fun k h1 h2 => hk.block k (Nat.lt_of_lt_of_le h2 Ich.out.1) (fun e => by injection e with e; omega))).in_, (Icx.out.blocks hk.size (fun k h1 h2 => hk.block k (Nat.lt_of_lt_of_le h2 Icx.out.1) (fun e => by injection e with e; omega))).in_⟩))
  have h9 := H9.out
  have hnn : ((rqCells (d : Int) tc ti tp ub ck cl ch cx N)).size = 26 := rfl
  have hon : ((rqCells (d : Int) tc ti tp ub ck cl ch cx N)).all (·.oneCell') = true := by simp [Value.oneCell']
  clear hRQ H9
  generalize hCS : (rqCells (d : Int) tc ti tp ub ck cl ch cx N) = CS at h9 hnn hon HRQ
  have H9 := hide h9
  clear hCS h9
  go_wp2_with (first
    | ((with_reducible refine at_load 29 ?_); refine load_blk (g := g8 + 1) (n := 26) (cells := CS) Tryd.underlying29 rfl rfl H9.out info_rQ hnn ?_)
    | ((with_reducible refine at_store 29 ?_); refine store_blk (g := w.heap.size) (n := 26) (cells := CS) rfl rfl H2.out info_rQ rfl hnn hon ?_; intro w3 hb3 hg3 hz3; have HB3 := hide hb3; have HG3 := hide (HG.out.grown hg3 (fun k e => by injection e with e; omega)); have HK3 := hide hg3; clear hb3 hg3))
  exact bodyPost_ret (gq_results (u := .int .i64 ((body.length + 8 : Nat) : Int)) (v := .int .i64 0) rfl rfl rfl rfl hnn HB3.out) rfl (RGotQ.of HGT.out (HRQ.out _ HK3.out) HG3.out)
end Go.Proofs.YthjjmndjfoebgaaDoor
