/- Walks: the reference's cursor over a frame's body: take, num, word, val. Written by wip/tools/gen_refc.py. -/
import Derived.Test.YthjjmndjfoebgaaDoorWirePl
import Derived.Test.YthjjmndjfoebgaaDoorFrames
import Derived.Test.YthjjmndjfoebgaaDoorRget5
import Derived.Test.YthjjmndjfoebgaaDoorCurA
import Derived.RegionTactic
import Derived.ChangeAlike
set_option linter.unusedVariables false
set_option linter.unusedSimpArgs false
namespace Go.Proofs.YthjjmndjfoebgaaDoor
open Go.RowKit Go.Shelf

/-- The cursor's three cells. -/
abbrev cuV (bk o len cap q : Nat) (ok : Bool) : Array Value := #[.slice (some ⟨bk, o, none⟩) len cap, .int .i64 (q : Int), .bool ok]
theorem info_cu : (Tryd.prog.info? 111).map (·.size) = some 3 := by kernel_rfl
theorem cu_results {F : Func} {W : World} {cb i j : Nat} {tmps : Array Value} {u : Value} {cs : Array Value} (hF : F.results = #[ResultVar.tmp i, ResultVar.cell j 111]) (h4 : tmps.getD i undef = u) (h5 : tmps.getD j undef = .pointer (some ⟨cb, 0, none⟩)) (hn : cs.size = 3) (hB : Blk W cb 111 cs) :
    (results F tmps).run Tryd.prog W = .ok (.tuple #[u, .agg cs]) W := by
  have hl := run_loadVar_row (P := Tryd.prog) W cb 111 111 cs (0, 0) _ hB Tryd.underlying111 rfl (by rw [hn]; exact info_cu)
  have h4' : tmps[i]?.getD undef = u := by simpa using h4
  have h5' : tmps[j]?.getD undef = .pointer (some ⟨cb, 0, none⟩) := by simpa using h5
  simp [results, hF, h4', h5', asAddr, hl]

set_option maxHeartbeats 800000 in
theorem rtake_ok (bk o len cap q n : Nat) (w : World) (hl : len ≤ 12000) (hc : len < cap) (h : q + n ≤ len) :
    Calls Tryd.prog 108 #[.agg (cuV bk o len cap q true), .int .i64 (n : Int)] w fun e w' => e = .returned (.tuple #[.slice (some ⟨bk, o + q, none⟩) n (cap - q), .agg (cuV bk o len cap (q + n) true)]) ∧ Grow w w' := by
  have hd : decide ((len : Int) - (q : Int) < (n : Int)) = false := by simp; omega
  have hne : ¬ cap = q := by omega
  have h1 : q ≤ q + n := by omega
  have h2 : q + n ≤ cap := by omega
  go_enter Tryd.func108, Tryd.ntmps108
  go_wp2_with fail
  go_region
  go_wp2_with fail
  have hn : q + n - q = n := by omega
  rw [hn]
  refine bodyPost_ret (cu_results (u := .slice (some ⟨bk, o + q, none⟩) n (cap - q)) (cs := cuV bk o len cap (q + n) true) rfl rfl rfl rfl ?_) rfl ⟨rfl, (((Grow.refl w).alloc _).alloc _).drew⟩
  rw [show cuV bk o len cap (q + n) true = #[.slice (some ⟨bk, o, none⟩) len cap, .int .i64 ((q : Int) + (n : Int)), .bool true] from by rw [cuV, Int.natCast_add]]
  exact (Blk.new' (by simp) _ _).drew

theorem rmake_zeros (q : Nat) (hq : q ≤ 140737488355328) : ∃ cur : Array Value, cur.toList = List.replicate q (.int .u8 0) ∧ ∀ w : World, (Instr.makeSlice 23 (.int .i64 (q : Int)) (.int .i64 (q : Int))).run Tryd.prog w = .ok (.slice (some ⟨w.heap.size, 0, none⟩) q q) (w.alloc (.cells cur 5)) := by
  obtain ⟨i0, hi0, hz0, hz1, hz2⟩ := info_parts info_u8
  refine ⟨madeCells (Value.int .u8 0).cells (q * i0.size), ?_, fun w => ?_⟩
  · rw [hz1, Nat.mul_one]; exact toList_madeCells_one _ q
  · exact run_make (P := Tryd.prog) (w := w) 23 5 i0 (.int .u8 0) under_u8s hi0 hz0 .i64 .i64 (q : Int) (q : Int) (by omega) (by omega) (by rw [hz2]; omega) (by omega)
theorem zeros_inB {w : World} {g k : Nat} {cur : Array Value} (hc : cur.toList = List.replicate k (.int .u8 0)) (hB : Blk w g 5 cur) : InB w (some ⟨g, 0, none⟩) (List.replicate k 0) := by
  refine ⟨by simp [u8s], fun _ => ⟨g, 0, rfl, fun j u hu => ⟨?_, Nat.zero_le _, hB.lt⟩⟩⟩
  rw [Nat.zero_add, hB.cell, ← Array.getElem?_toList, hc, ← hu]
  simp [u8s]
/-- What a taking that fails tells: some noughts. -/
def TakeNo (w : World) (m : Nat) (cv : Array Value) (e : Ending) (w' : World) : Prop :=
  ∃ g, w.heap.size ≤ g ∧ e = .returned (.tuple #[.slice (some ⟨g, 0, none⟩) m m, .agg cv]) ∧ InB w' (some ⟨g, 0, none⟩) (List.replicate m 0) ∧ Grow w w'
set_option maxHeartbeats 1600000 in
theorem rtake_no (bk o len cap q n : Nat) (ok : Bool) (w : World) (hl : len ≤ 12000) (hn : n ≤ 70000) (m : Nat) (hm : min n 16 = m) (hq : q ≤ len) (h : ok = true → len < q + n) :
    Calls Tryd.prog 108 #[.agg (cuV bk o len cap q ok), .int .i64 (n : Int)] w (TakeNo w m (cuV bk o len cap q false)) := by
  unfold TakeNo
  obtain ⟨cur, hcur, hmk⟩ := rmake_zeros m (by omega)
  have HCUR := hide hcur
  have hmin : (if 16 < (n : Int) then (16 : Int) else n) = (m : Int) := by split <;> omega
  have hmin2 : min (n : Int) 16 = (m : Int) := by omega
  clear hcur
  cases ok
  · clear h
    go_enter Tryd.func108, Tryd.ntmps108
    go_wp2_with fail
    go_region
    go_wp2_with fail
    refine bodyPost_ret (cu_results (u := .slice (some ⟨w.heap.size + 1 + 1, 0, none⟩) m m) (cs := cuV bk o len cap q false) rfl rfl rfl rfl (((show Blk _ _ _ _ from Blk.new' (by simp) _ _).alloc _).drew)) rfl ⟨_, by omega, rfl, zeros_inB HCUR.out (show Blk _ _ _ _ from Blk.new' (by simp) _ _).drew, ((((Grow.refl w).alloc _).alloc _).alloc _).drew⟩
  · have hd : decide ((len : Int) - (q : Int) < (n : Int)) = true := by have := h rfl; simp; omega
    clear h
    go_enter Tryd.func108, Tryd.ntmps108
    go_wp2_with fail
    go_region
    go_wp2_with fail
    refine bodyPost_ret (cu_results (u := .slice (some ⟨w.heap.size + 1 + 1, 0, none⟩) m m) (cs := cuV bk o len cap q false) rfl rfl rfl rfl (((show Blk _ _ _ _ from Blk.new' (by simp) _ _).alloc _).drew)) rfl ⟨_, by omega, rfl, zeros_inB HCUR.out (show Blk _ _ _ _ from Blk.new' (by simp) _ _).drew, ((((Grow.refl w).alloc _).alloc _).alloc _).drew⟩

/-! The cursor's states: what is left of the body, or nothing, where it has failed. -/
def CuR (bk o cap : Nat) (bs : List UInt8) (st : Option (List UInt8)) (cv : Array Value) : Prop :=
  ∃ q : Nat, q ≤ bs.length ∧ cv = cuV bk o bs.length cap q st.isSome ∧ ∀ r, st = some r → bs.drop q = r
theorem CuR.open {bk o cap : Nat} {bs : List UInt8} {st : Option (List UInt8)} {cv : Array Value} (h : CuR bk o cap bs st cv) : (∃ q, q ≤ bs.length ∧ st = some (bs.drop q) ∧ cv = cuV bk o bs.length cap q true) ∨ (∃ q, q ≤ bs.length ∧ st = none ∧ cv = cuV bk o bs.length cap q false) := by
  obtain ⟨q, hq, rfl, h2⟩ := h
  cases st with
  | none => exact .inr ⟨q, hq, rfl, rfl⟩
  | some r => exact .inl ⟨q, hq, by rw [h2 r rfl], rfl⟩
theorem CuR.yes {bk o cap q : Nat} {bs r : List UInt8} (hq : q ≤ bs.length) (hr : bs.drop q = r) : CuR bk o cap bs (some r) (cuV bk o bs.length cap q true) := ⟨q, hq, rfl, fun r' e => by injection e with e; rw [← e]; exact hr⟩
theorem CuR.no {bk o cap q : Nat} {bs : List UInt8} (hq : q ≤ bs.length) : CuR bk o cap bs none (cuV bk o bs.length cap q false) := ⟨q, hq, rfl, fun r' e => by cases e⟩
def numO (size : Nat) (st : Option (List UInt8)) : Nat := ((st.bind (pNum size)).map Prod.fst).getD 0
def nextO {α : Type} (p : List UInt8 → P α) (st : Option (List UInt8)) : Option (List UInt8) := (st.bind p).map Prod.snd
theorem numO_none (size : Nat) : numO size none = 0 := rfl
theorem nextO_none {α : Type} (p : List UInt8 → P α) : nextO p none = none := rfl
theorem nextO_some {α : Type} {p : List UInt8 → P α} {r : List UInt8} {x : α} {r' : List UInt8} (h : p r = some (x, r')) : nextO p (some r) = some r' := by simp [nextO, h]
theorem nextO_fail {α : Type} {p : List UInt8 → P α} {r : List UInt8} (h : p r = none) : nextO p (some r) = none := by simp [nextO, h]
theorem pNum_drop (size q : Nat) (bs : List UInt8) (h : q + size ≤ bs.length) : pNum size (bs.drop q) = some (le ((bs.drop q).take size), bs.drop (q + size)) := by
  unfold pNum pTake
  rw [if_pos (by rw [List.length_drop]; omega), List.drop_drop]
theorem pNum_short (size q : Nat) (bs : List UInt8) (hq : q ≤ bs.length) (h : bs.length < q + size) : pNum size (bs.drop q) = none := by
  unfold pNum pTake
  rw [if_neg (by rw [List.length_drop]; omega)]
theorem le_noughts (k n : Nat) : le ((List.replicate k (0 : UInt8)).take n) = 0 := by
  rw [List.take_replicate]
  generalize min n k = m
  induction m with
  | zero => rfl
  | succ m ih => rw [List.replicate_succ, le_cons, ih]; rfl
theorem InB.mid {w : World} {bk o : Nat} {bs : List UInt8} (h : InB w (some ⟨bk, o, none⟩) bs) (q n : Nat) : InB w (some ⟨bk, o + q, none⟩) ((bs.drop q).take n) := by
  refine ⟨by simp [u8s], fun h0 => ⟨bk, o + q, rfl, fun j u hu => ?_⟩⟩
  obtain ⟨bk', o', e, hc⟩ := h.2 (by rw [List.length_take, List.length_drop] at h0; omega)
  injection e with e
  injection e with e1 e2
  subst e1 e2
  have h2 : (u8s bs)[q + j]? = some u := by
    rw [u8s_take, u8s_drop, List.getElem?_take] at hu
    split at hu
    · rwa [List.getElem?_drop] at hu
    · cases hu
  have := hc (q + j) u h2
  rwa [← Nat.add_assoc] at this
theorem InB.own {w w' : World} {g o : Nat} {b : List UInt8} {row : Option Nat} (h : InB w (some ⟨g, o, none⟩) b) (hg : w.grownBy w' row) (hne : ∀ k, row = some k → k ≠ g) : InB w' (some ⟨g, o, none⟩) b := by
  refine ⟨h.1, fun h0 => ?_⟩
  obtain ⟨bk', o', e, hc⟩ := h.2 h0
  injection e with e
  injection e with e1 e2
  subst e1 e2
  refine ⟨g, o, rfl, fun j u hu => ?_⟩
  obtain ⟨q1, q2, q3⟩ := hc j u hu
  exact ⟨World.grownBy.cell hg q1 (fun e => hne _ e.symm rfl), q2, Nat.lt_of_lt_of_le q3 hg.size⟩
abbrev zero3 : Array Value := #[.slice none 0 0, .int .i64 0, .bool false]
theorem cuV_one (bk o len cap q : Nat) (ok : Bool) : (cuV bk o len cap q ok).all (·.oneCell') = true := by simp [Value.oneCell']
/-- Three cells of a block, stored one by one. -/
theorem code_set3 {P : Program} {c : Code} {K : Exit → Act → World → Prop} {a : Act} {w1 : World} {g : Nat} {T : TypeId} {v0 v1 v2 x0 x1 x2 : Value} (hB : Blk w1 g T #[x0, x1, x2]) (h : ∀ w2, Blk w2 g T #[v0, v1, v2] → w1.grownBy w2 (some g) → Code.wp P c K a w2) :
    Code.wp P c K a (((w1.setCell ⟨g, 0, none⟩ v0).setCell ⟨g, 1, none⟩ v1).setCell ⟨g, 2, none⟩ v2) :=
  h _ (((hB.set_ 0 v0).set_ 1 v1).set_ 2 v2) (GB.trans (GB.trans (grown_set w1 g 0 v0) (grown_set _ g 1 v1)) (grown_set _ g 2 v2) : GB w1 _ g)
/-- What a number's reading tells. -/
def NumC (bk o cap : Nat) (bs : List UInt8) (size : Nat) (st : Option (List UInt8)) (w : World) (e : Ending) (w' : World) : Prop :=
  ∃ cv, e = .returned (.tuple #[.int .i64 (numO size st : Nat), .agg cv]) ∧ CuR bk o cap bs (nextO (pNum size) st) cv ∧ Grow w w'
theorem NumC.of {bk o cap : Nat} {bs : List UInt8} {size n : Nat} {st : Option (List UInt8)} {w w' : World} {cv : Array Value} (hn : numO size st = n) (hr : CuR bk o cap bs (nextO (pNum size) st) cv) (hg : Grow w w') : NumC bk o cap bs size st w (.returned (.tuple #[.int .i64 (n : Nat), .agg cv])) w' := ⟨cv, by rw [hn], hr, hg⟩
set_option maxRecDepth 100000 in
set_option maxHeartbeats 1600000 in
theorem rnum_any (bk o cap : Nat) (bs : List UInt8) (size : Nat) (hs : size ≤ 4) (hs0 : 0 < size) (st : Option (List UInt8)) (cv : Array Value) (w : World) (hl : bs.length ≤ 12000) (hc : bs.length < cap) (hb : InB w (some ⟨bk, o, none⟩) bs) (hr : CuR bk o cap bs st cv) :
    Calls Tryd.prog 68 #[.agg cv, .int .i64 (size : Int)] w (NumC bk o cap bs size st w) := by
  have HB := hide hb
  clear hb
  rcases hr.open with ⟨q, hq, rfl, rfl⟩ | ⟨q, hq, rfl, rfl⟩
  · by_cases hlen : q + size ≤ bs.length
    · have HP := hide (pNum_drop size q bs hlen)
      have HLT := hide (le_lt ((bs.drop q).take size))
      have hsl : ((bs.drop q).take size).length = size := by rw [List.length_take, List.length_drop]; omega
      obtain ⟨n, hn⟩ : ∃ n, le ((bs.drop q).take size) = n := ⟨_, rfl⟩
      have hn4 : n < 4294967296 := by have := le_lt ((bs.drop q).take size); rw [hsl, hn] at this; exact Nat.lt_of_lt_of_le this (Nat.pow_le_pow_right (by omega) hs)
      have HC1 := hide (rtake_ok bk o bs.length cap q size ((w.alloc (.cells ((cuV bk o bs.length cap q true)) 111)).alloc (.cells zero3 111)) hl hc hlen)
      have HIP := hide (HB.out.mid q size)
      have HBP := hide ((Blk.new w 111 (cuV bk o bs.length cap q true)).alloc (.cells zero3 111))
      have HBR := hide (show Blk ((w.alloc (.cells ((cuV bk o bs.length cap q true)) 111)).alloc (.cells zero3 111)) (w.heap.size + 1) 111 zero3 from Blk.new' (by simp) _ _)
      have HG0 := hide (((Grow.refl w).alloc (.cells ((cuV bk o bs.length cap q true)) 111)).alloc (.cells zero3 111))
      clear hr
      go_enter Tryd.func68, Tryd.ntmps68
      go_wp2_with fail
      refine HC1.out.mono ?_
      rintro e w1 ⟨rfl, hg1⟩
      have hb1 := HBP.out.grow hg1
      have hb2 := HBR.out.grow hg1
      have HG1 := hide (HG0.out.trans hg1)
      have HB2 := hide hb2
      have hz1 : w.heap.size + 1 < w1.heap.size := hb2.lt
      have hc1 := hb1.cell
      have hf1 := hb1.frozen
      go_wp2_with fail
      refine code_set3 hb1 (fun w2 hb3 hg2 => ?_)
      have HB3 := hide hb3
      have HB4 := hide (HB2.out.own hg2 (fun k e => by injection e with e; omega))
      have HG2 := hide (HG1.out.grown hg2 (fun k e => by injection e with e; omega))
      have hwr : IntKind.i64.wrap (n : Int) = (n : Int) := IntWalk.i64_in _ (by omega)
      clear hc1 hf1 hb1 hb2 hb3 hg1 hg2 HB2 HG1 HC1
      refine wp_region_noPanic ?_
      refine wp_region_held_drew (S := fun W => Blk W w.heap.size 111 (cuV bk o bs.length cap (q + size) true)) (by kernel_rfl) (HB3.out.drew) (fun hHeld => ?_)
      refine wpAnyH_take (i := 0) (v := ?_) (by simp only [List.getElem?_toArray, List.getElem?_cons_succ, List.getElem?_cons_zero]; rfl) (by kernel_rfl) (by kernel_rfl) (by kernel_rfl) (fun _ _ _ h => h) (Or.inl ⟨by rfl, ?_⟩) (by assumption) ?_
      rotate_left 1
      · (intro w hSw; (try dsimp only at hSw); go_simp; try with_reducible rfl)
      try simp only [Act.put, List.setIfInBounds_toArray, List.set_cons_zero, List.set_cons_succ]
      refine wpAnyH_take (i := 1) (v := ?_) (by simp only [List.getElem?_toArray, List.getElem?_cons_succ, List.getElem?_cons_zero]; rfl) (by kernel_rfl) (by kernel_rfl) (by kernel_rfl) (fun _ _ _ h => h) (Or.inl ⟨by rfl, ?_⟩) (by assumption) ?_
      rotate_left 1
      · (intro w hSw; (try dsimp only at hSw); go_simp; try with_reducible rfl)
      try simp only [Act.put, List.setIfInBounds_toArray, List.set_cons_zero, List.set_cons_succ]
      refine wpAnyH_take (i := 4) (v := .agg (cuV bk o bs.length cap (q + size) true)) (by simp only [List.getElem?_toArray, List.getElem?_cons_succ, List.getElem?_cons_zero]; rfl) (by kernel_rfl) (by kernel_rfl) (by kernel_rfl) (fun _ _ _ h => h) (yields_load_blk (n := 3) Tryd.underlying111 rfl rfl (fun _ h => h) info_cu rfl) (by assumption) ?_
      try simp only [Act.put, List.setIfInBounds_toArray, List.set_cons_zero, List.set_cons_succ]
      refine wpAnyH_ready (rs := [2]) (by kernel_rfl) (by simp) ?_
      refine AllReadyH.cons (by simp only [List.getElem?_toArray, List.getElem?_cons_succ, List.getElem?_cons_zero]; rfl) (fun K hK => ?_) AllReadyH.nil
      go_simp
      go_at_call 107
      have hget := refGet_any ((bs.drop q).take size) (some ⟨bk, o + q, none⟩) (cap - q) 0 size w2.drew (HIP.out.grow HG2.out.drew) (by omega) (by rw [hsl]; omega) (by rw [hsl]; omega)
      rw [hsl, List.drop_zero, List.take_take, Nat.min_self, hn] at hget
      refine hget.mono ?_
      rintro ee w3 ⟨rfl, rfl⟩
      refine hK.out _ _ (HB3.out.drew) (fun hHeld => ?_)
      clear hK K
      try simp only [Act.put, List.setIfInBounds_toArray, List.set_cons_zero, List.set_cons_succ]
      refine wpAnyH_take (i := 3) (v := ?_) (by simp only [List.getElem?_toArray, List.getElem?_cons_succ, List.getElem?_cons_zero]; rfl) (by kernel_rfl) (by kernel_rfl) (by kernel_rfl) (fun _ _ _ h => h) (Or.inl ⟨by rfl, ?_⟩) (by assumption) ?_
      rotate_left 1
      · (intro w hSw; (try dsimp only at hSw); go_simp; try with_reducible rfl)
      try simp only [Act.put, List.setIfInBounds_toArray, List.set_cons_zero, List.set_cons_succ]
      refine wpAnyH_take (i := 5) (v := ?_) (by simp only [List.getElem?_toArray, List.getElem?_cons_succ, List.getElem?_cons_zero]; rfl) (by kernel_rfl) (by kernel_rfl) (by kernel_rfl) (fun _ _ _ h => h) (Or.inl ⟨by rfl, ?_⟩) (by assumption) ?_
      rotate_left 1
      · (intro w hSw; (try dsimp only at hSw); go_simp; try with_reducible rfl)
      try simp only [Act.put, List.setIfInBounds_toArray, List.set_cons_zero, List.set_cons_succ]
      refine wpAnyH_ready (rs := [6]) (by kernel_rfl) (by simp) ?_
      refine AllReadyH.cons (by simp only [List.getElem?_toArray, List.getElem?_cons_succ, List.getElem?_cons_zero]; rfl) (fun K hK => ?_) AllReadyH.nil
      refine step_store_blk (n := 3) (cells := cuV bk o bs.length cap (q + size) true) (by rfl) (by rfl) HB4.out.drew info_cu rfl rfl (cuV_one _ _ _ _ _ _) ?_
      intro w5 hb5 hg5 hz5
      have HB5 := hide hb5
      have HG5 := hide (HG2.out.drew.grown hg5 (fun k e => by injection e with e; omega))
      refine hK _ _ (HB3.out.drew.own hg5 (fun k e => by injection e with e; omega)) (fun hHeld => ?_)
      clear hK K
      try simp only [Act.put, List.setIfInBounds_toArray, List.set_cons_zero, List.set_cons_succ]
      refine wpAnyH_done (by kernel_rfl) ?_ _
      refine NoPanic.normal ?_
      go_wp2_with fail
      refine bodyPost_ret (cu_results (u := .int .i64 (n : Nat)) (cs := cuV bk o bs.length cap (q + size) true) rfl rfl rfl rfl HB5.out) rfl (NumC.of (n := n) ?_ ?_ HG5.out)
      · simp [numO, HP.out, hn]
      · rw [nextO_some HP.out]; exact CuR.yes (by omega) rfl
    · have HP := hide (pNum_short size q bs hq (by omega))
      have HC1 := hide (rtake_no bk o bs.length cap q size true ((w.alloc (.cells ((cuV bk o bs.length cap q true)) 111)).alloc (.cells zero3 111)) hl (by omega) size (by omega) hq (fun _ => by omega))
      have HBP := hide ((Blk.new w 111 (cuV bk o bs.length cap q true)).alloc (.cells zero3 111))
      have HBR := hide (show Blk ((w.alloc (.cells ((cuV bk o bs.length cap q true)) 111)).alloc (.cells zero3 111)) (w.heap.size + 1) 111 zero3 from Blk.new' (by simp) _ _)
      have HG0 := hide (((Grow.refl w).alloc (.cells ((cuV bk o bs.length cap q true)) 111)).alloc (.cells zero3 111))
      clear hr
      go_enter Tryd.func68, Tryd.ntmps68
      go_wp2_with fail
      refine HC1.out.mono ?_
      rintro e w1 ⟨g, hgl, rfl, hi1, hg1⟩
      simp only [World.size_alloc] at hgl
      have hb1 := HBP.out.grow hg1
      have hb2 := HBR.out.grow hg1
      have HG1 := hide (HG0.out.trans hg1)
      have HB2 := hide hb2
      have hz1 : w.heap.size + 1 < w1.heap.size := hb2.lt
      have hc1 := hb1.cell
      have hf1 := hb1.frozen
      go_wp2_with fail
      refine code_set3 hb1 (fun w2 hb3 hg2 => ?_)
      have HB3 := hide hb3
      have HB4 := hide (HB2.out.own hg2 (fun k e => by injection e with e; omega))
      have HG2 := hide (HG1.out.grown hg2 (fun k e => by injection e with e; omega))
      have HIZ := hide (hi1.own hg2 (fun k e => by injection e with e; omega))
      clear hi1
      clear hc1 hf1 hb1 hb2 hb3 hg1 hg2 HB2 HG1 HC1
      refine wp_region_noPanic ?_
      refine wp_region_held_drew (S := fun W => Blk W w.heap.size 111 (cuV bk o bs.length cap q false)) (by kernel_rfl) (HB3.out.drew) (fun hHeld => ?_)
      refine wpAnyH_take (i := 0) (v := ?_) (by simp only [List.getElem?_toArray, List.getElem?_cons_succ, List.getElem?_cons_zero]; rfl) (by kernel_rfl) (by kernel_rfl) (by kernel_rfl) (fun _ _ _ h => h) (Or.inl ⟨by rfl, ?_⟩) (by assumption) ?_
      rotate_left 1
      · (intro w hSw; (try dsimp only at hSw); go_simp; try with_reducible rfl)
      try simp only [Act.put, List.setIfInBounds_toArray, List.set_cons_zero, List.set_cons_succ]
      refine wpAnyH_take (i := 1) (v := ?_) (by simp only [List.getElem?_toArray, List.getElem?_cons_succ, List.getElem?_cons_zero]; rfl) (by kernel_rfl) (by kernel_rfl) (by kernel_rfl) (fun _ _ _ h => h) (Or.inl ⟨by rfl, ?_⟩) (by assumption) ?_
      rotate_left 1
      · (intro w hSw; (try dsimp only at hSw); go_simp; try with_reducible rfl)
      try simp only [Act.put, List.setIfInBounds_toArray, List.set_cons_zero, List.set_cons_succ]
      refine wpAnyH_take (i := 4) (v := .agg (cuV bk o bs.length cap q false)) (by simp only [List.getElem?_toArray, List.getElem?_cons_succ, List.getElem?_cons_zero]; rfl) (by kernel_rfl) (by kernel_rfl) (by kernel_rfl) (fun _ _ _ h => h) (yields_load_blk (n := 3) Tryd.underlying111 rfl rfl (fun _ h => h) info_cu rfl) (by assumption) ?_
      try simp only [Act.put, List.setIfInBounds_toArray, List.set_cons_zero, List.set_cons_succ]
      refine wpAnyH_ready (rs := [2]) (by kernel_rfl) (by simp) ?_
      refine AllReadyH.cons (by simp only [List.getElem?_toArray, List.getElem?_cons_succ, List.getElem?_cons_zero]; rfl) (fun K hK => ?_) AllReadyH.nil
      go_simp
      go_at_call 107
      have hget := refGet_any (List.replicate size 0) (some ⟨g, 0, none⟩) size 0 size w2.drew (HIZ.out.drewN 1) (by omega) (by simp) (by simp; omega)
      rw [List.length_replicate, List.drop_zero, le_noughts] at hget
      refine hget.mono ?_
      rintro ee w3 ⟨rfl, rfl⟩
      refine hK.out _ _ (HB3.out.drew) (fun hHeld => ?_)
      clear hK K
      try simp only [Act.put, List.setIfInBounds_toArray, List.set_cons_zero, List.set_cons_succ]
      refine wpAnyH_take (i := 3) (v := ?_) (by simp only [List.getElem?_toArray, List.getElem?_cons_succ, List.getElem?_cons_zero]; rfl) (by kernel_rfl) (by kernel_rfl) (by kernel_rfl) (fun _ _ _ h => h) (Or.inl ⟨by rfl, ?_⟩) (by assumption) ?_
      rotate_left 1
      · (intro w hSw; (try dsimp only at hSw); go_simp; try with_reducible rfl)
      try simp only [Act.put, List.setIfInBounds_toArray, List.set_cons_zero, List.set_cons_succ]
      refine wpAnyH_take (i := 5) (v := ?_) (by simp only [List.getElem?_toArray, List.getElem?_cons_succ, List.getElem?_cons_zero]; rfl) (by kernel_rfl) (by kernel_rfl) (by kernel_rfl) (fun _ _ _ h => h) (Or.inl ⟨by rfl, ?_⟩) (by assumption) ?_
      rotate_left 1
      · (intro w hSw; (try dsimp only at hSw); go_simp; try with_reducible rfl)
      try simp only [Act.put, List.setIfInBounds_toArray, List.set_cons_zero, List.set_cons_succ]
      refine wpAnyH_ready (rs := [6]) (by kernel_rfl) (by simp) ?_
      refine AllReadyH.cons (by simp only [List.getElem?_toArray, List.getElem?_cons_succ, List.getElem?_cons_zero]; rfl) (fun K hK => ?_) AllReadyH.nil
      refine step_store_blk (n := 3) (cells := cuV bk o bs.length cap q false) (by rfl) (by rfl) HB4.out.drew info_cu rfl rfl (cuV_one _ _ _ _ _ _) ?_
      intro w5 hb5 hg5 hz5
      have HB5 := hide hb5
      have HG5 := hide (HG2.out.drew.grown hg5 (fun k e => by injection e with e; omega))
      refine hK _ _ (HB3.out.drew.own hg5 (fun k e => by injection e with e; omega)) (fun hHeld => ?_)
      clear hK K
      try simp only [Act.put, List.setIfInBounds_toArray, List.set_cons_zero, List.set_cons_succ]
      refine wpAnyH_done (by kernel_rfl) ?_ _
      refine NoPanic.normal ?_
      go_wp2_with fail
      refine bodyPost_ret (cu_results (u := .int .i64 0) (cs := cuV bk o bs.length cap q false) rfl rfl rfl rfl HB5.out) rfl (NumC.of (n := 0) ?_ ?_ HG5.out)
      · simp [numO, HP.out]
      · rw [nextO_fail HP.out]; exact CuR.no hq
  · skip
    have HC1 := hide (rtake_no bk o bs.length cap q size false ((w.alloc (.cells ((cuV bk o bs.length cap q false)) 111)).alloc (.cells zero3 111)) hl (by omega) size (by omega) hq (fun h => by cases h))
    have HBP := hide ((Blk.new w 111 (cuV bk o bs.length cap q false)).alloc (.cells zero3 111))
    have HBR := hide (show Blk ((w.alloc (.cells ((cuV bk o bs.length cap q false)) 111)).alloc (.cells zero3 111)) (w.heap.size + 1) 111 zero3 from Blk.new' (by simp) _ _)
    have HG0 := hide (((Grow.refl w).alloc (.cells ((cuV bk o bs.length cap q false)) 111)).alloc (.cells zero3 111))
    clear hr
    go_enter Tryd.func68, Tryd.ntmps68
    go_wp2_with fail
    refine HC1.out.mono ?_
    rintro e w1 ⟨g, hgl, rfl, hi1, hg1⟩
    simp only [World.size_alloc] at hgl
    have hb1 := HBP.out.grow hg1
    have hb2 := HBR.out.grow hg1
    have HG1 := hide (HG0.out.trans hg1)
    have HB2 := hide hb2
    have hz1 : w.heap.size + 1 < w1.heap.size := hb2.lt
    have hc1 := hb1.cell
    have hf1 := hb1.frozen
    go_wp2_with fail
    refine code_set3 hb1 (fun w2 hb3 hg2 => ?_)
    have HB3 := hide hb3
    have HB4 := hide (HB2.out.own hg2 (fun k e => by injection e with e; omega))
    have HG2 := hide (HG1.out.grown hg2 (fun k e => by injection e with e; omega))
    have HIZ := hide (hi1.own hg2 (fun k e => by injection e with e; omega))
    clear hi1
    clear hc1 hf1 hb1 hb2 hb3 hg1 hg2 HB2 HG1 HC1
    refine wp_region_noPanic ?_
    refine wp_region_held_drew (S := fun W => Blk W w.heap.size 111 (cuV bk o bs.length cap q false)) (by kernel_rfl) (HB3.out.drew) (fun hHeld => ?_)
    refine wpAnyH_take (i := 0) (v := ?_) (by simp only [List.getElem?_toArray, List.getElem?_cons_succ, List.getElem?_cons_zero]; rfl) (by kernel_rfl) (by kernel_rfl) (by kernel_rfl) (fun _ _ _ h => h) (Or.inl ⟨by rfl, ?_⟩) (by assumption) ?_
    rotate_left 1
    · (intro w hSw; (try dsimp only at hSw); go_simp; try with_reducible rfl)
    try simp only [Act.put, List.setIfInBounds_toArray, List.set_cons_zero, List.set_cons_succ]
    refine wpAnyH_take (i := 1) (v := ?_) (by simp only [List.getElem?_toArray, List.getElem?_cons_succ, List.getElem?_cons_zero]; rfl) (by kernel_rfl) (by kernel_rfl) (by kernel_rfl) (fun _ _ _ h => h) (Or.inl ⟨by rfl, ?_⟩) (by assumption) ?_
    rotate_left 1
    · (intro w hSw; (try dsimp only at hSw); go_simp; try with_reducible rfl)
    try simp only [Act.put, List.setIfInBounds_toArray, List.set_cons_zero, List.set_cons_succ]
    refine wpAnyH_take (i := 4) (v := .agg (cuV bk o bs.length cap q false)) (by simp only [List.getElem?_toArray, List.getElem?_cons_succ, List.getElem?_cons_zero]; rfl) (by kernel_rfl) (by kernel_rfl) (by kernel_rfl) (fun _ _ _ h => h) (yields_load_blk (n := 3) Tryd.underlying111 rfl rfl (fun _ h => h) info_cu rfl) (by assumption) ?_
    try simp only [Act.put, List.setIfInBounds_toArray, List.set_cons_zero, List.set_cons_succ]
    refine wpAnyH_ready (rs := [2]) (by kernel_rfl) (by simp) ?_
    refine AllReadyH.cons (by simp only [List.getElem?_toArray, List.getElem?_cons_succ, List.getElem?_cons_zero]; rfl) (fun K hK => ?_) AllReadyH.nil
    go_simp
    go_at_call 107
    have hget := refGet_any (List.replicate size 0) (some ⟨g, 0, none⟩) size 0 size w2.drew (HIZ.out.drewN 1) (by omega) (by simp) (by simp; omega)
    rw [List.length_replicate, List.drop_zero, le_noughts] at hget
    refine hget.mono ?_
    rintro ee w3 ⟨rfl, rfl⟩
    refine hK.out _ _ (HB3.out.drew) (fun hHeld => ?_)
    clear hK K
    try simp only [Act.put, List.setIfInBounds_toArray, List.set_cons_zero, List.set_cons_succ]
    refine wpAnyH_take (i := 3) (v := ?_) (by simp only [List.getElem?_toArray, List.getElem?_cons_succ, List.getElem?_cons_zero]; rfl) (by kernel_rfl) (by kernel_rfl) (by kernel_rfl) (fun _ _ _ h => h) (Or.inl ⟨by rfl, ?_⟩) (by assumption) ?_
    rotate_left 1
    · (intro w hSw; (try dsimp only at hSw); go_simp; try with_reducible rfl)
    try simp only [Act.put, List.setIfInBounds_toArray, List.set_cons_zero, List.set_cons_succ]
    refine wpAnyH_take (i := 5) (v := ?_) (by simp only [List.getElem?_toArray, List.getElem?_cons_succ, List.getElem?_cons_zero]; rfl) (by kernel_rfl) (by kernel_rfl) (by kernel_rfl) (fun _ _ _ h => h) (Or.inl ⟨by rfl, ?_⟩) (by assumption) ?_
    rotate_left 1
    · (intro w hSw; (try dsimp only at hSw); go_simp; try with_reducible rfl)
    try simp only [Act.put, List.setIfInBounds_toArray, List.set_cons_zero, List.set_cons_succ]
    refine wpAnyH_ready (rs := [6]) (by kernel_rfl) (by simp) ?_
    refine AllReadyH.cons (by simp only [List.getElem?_toArray, List.getElem?_cons_succ, List.getElem?_cons_zero]; rfl) (fun K hK => ?_) AllReadyH.nil
    refine step_store_blk (n := 3) (cells := cuV bk o bs.length cap q false) (by rfl) (by rfl) HB4.out.drew info_cu rfl rfl (cuV_one _ _ _ _ _ _) ?_
    intro w5 hb5 hg5 hz5
    have HB5 := hide hb5
    have HG5 := hide (HG2.out.drew.grown hg5 (fun k e => by injection e with e; omega))
    refine hK _ _ (HB3.out.drew.own hg5 (fun k e => by injection e with e; omega)) (fun hHeld => ?_)
    clear hK K
    try simp only [Act.put, List.setIfInBounds_toArray, List.set_cons_zero, List.set_cons_succ]
    refine wpAnyH_done (by kernel_rfl) ?_ _
    refine NoPanic.normal ?_
    go_wp2_with fail
    refine bodyPost_ret (cu_results (u := .int .i64 0) (cs := cuV bk o bs.length cap q false) rfl rfl rfl rfl HB5.out) rfl (NumC.of (n := 0) ?_ ?_ HG5.out)
    · rfl
    · exact CuR.no hq

theorem calls_set3 {P : Program} {f : FuncId} {args : Array Value} {Q : Ending → World → Prop} {w1 : World} {g : Nat} {T : TypeId} {v0 v1 v2 x0 x1 x2 : Value} (hB : Blk w1 g T #[x0, x1, x2]) (h : ∀ w2, Blk w2 g T #[v0, v1, v2] → w1.grownBy w2 (some g) → Calls P f args w2 Q) :
    Calls P f args (((w1.setCell ⟨g, 0, none⟩ v0).setCell ⟨g, 1, none⟩ v1).setCell ⟨g, 2, none⟩ v2) Q :=
  h _ (((hB.set_ 0 v0).set_ 1 v1).set_ 2 v2) (GB.trans (GB.trans (grown_set w1 g 0 v0) (grown_set _ g 1 v1)) (grown_set _ g 2 v2) : GB w1 _ g)
theorem calls_set4 {P : Program} {f : FuncId} {args : Array Value} {Q : Ending → World → Prop} {w1 : World} {g : Nat} {T : TypeId} {v0 v1 v2 v3 x0 x1 x2 : Value} (hB : Blk w1 g T #[x0, x1, x2]) (h : ∀ w2, Blk w2 g T #[v0, v1, v3] → w1.grownBy w2 (some g) → Calls P f args w2 Q) :
    Calls P f args ((((w1.setCell ⟨g, 0, none⟩ v0).setCell ⟨g, 1, none⟩ v1).setCell ⟨g, 2, none⟩ v2).setCell ⟨g, 2, none⟩ v3) Q :=
  h _ ((((hB.set_ 0 v0).set_ 1 v1).set_ 2 v2).set_ 2 v3) (GB.trans (GB.trans (GB.trans (grown_set w1 g 0 v0) (grown_set _ g 1 v1)) (grown_set _ g 2 v2)) (grown_set _ g 2 v3) : GB w1 _ g)
theorem numO_lt (size : Nat) (st : Option (List UInt8)) : numO size st < 256 ^ size := by
  unfold numO
  cases st with
  | none => exact Nat.pow_pos (by omega)
  | some r =>
    show ((pNum size r).map Prod.fst).getD 0 < _
    cases hp : pNum size r with
    | none => exact Nat.pow_pos (by omega)
    | some x =>
      obtain ⟨n, r'⟩ := x
      exact (pNum_some hp).2
theorem numO_bad {size : Nat} {st : Option (List UInt8)} (h : nextO (pNum size) st = none) : numO size st = 0 := by
  unfold nextO at h
  unfold numO
  cases hx : st.bind (pNum size) with
  | none => rfl
  | some x => rw [hx] at h; cases h
theorem numO_good {size : Nat} {st : Option (List UInt8)} {r : List UInt8} (h : nextO (pNum size) st = some r) : ∃ r0, st = some r0 ∧ pNum size r0 = some (numO size st, r) := by
  unfold nextO at h
  unfold numO
  cases st with
  | none => cases h
  | some r0 =>
    refine ⟨r0, rfl, ?_⟩
    show pNum size r0 = some (((pNum size r0).map Prod.fst).getD 0, r)
    have h : (pNum size r0).map Prod.snd = some r := h
    cases hp : pNum size r0 with
    | none => rw [hp] at h; cases h
    | some x => rw [hp] at h; obtain ⟨a, b⟩ := x; injection h with h; subst h; rfl
def wordO (st : Option (List UInt8)) : ByteArray := ((st.bind pText).map Prod.fst).getD ⟨#[]⟩
/-- What a text's reading tells. -/
def WordC (bk o cap : Nat) (bs : List UInt8) (st : Option (List UInt8)) (w : World) (e : Ending) (w' : World) : Prop :=
  ∃ cv, e = .returned (.tuple #[.string (wordO st), .agg cv]) ∧ CuR bk o cap bs (nextO pText st) cv ∧ Grow w w'
theorem WordC.of {bk o cap : Nat} {bs : List UInt8} {s : ByteArray} {st : Option (List UInt8)} {w w' : World} {cv : Array Value} (hn : wordO st = s ∧ CuR bk o cap bs (nextO pText st) cv) (hg : Grow w w') : WordC bk o cap bs st w (.returned (.tuple #[.string s, .agg cv])) w' := ⟨cv, by rw [hn.1], hn.2, hg⟩
theorem text_bad1 {bk o cap q : Nat} {bs : List UInt8} {st : Option (List UInt8)} (h : nextO (pNum 1) st = none) (hq : q ≤ bs.length) : wordO st = ⟨#[]⟩ ∧ CuR bk o cap bs (nextO pText st) (cuV bk o bs.length cap q false) := by
  have hx : st.bind pText = none := by
    cases st with
    | none => rfl
    | some r =>
      show pText r = none
      have h : (pNum 1 r).map Prod.snd = none := h
      unfold pText
      cases hp : pNum 1 r with
      | none => rfl
      | some x => rw [hp] at h; cases h
  unfold wordO nextO
  rw [hx]
  exact ⟨rfl, CuR.no hq⟩
theorem text_bad2 {bk o cap q q1 : Nat} {bs : List UInt8} {st : Option (List UInt8)} (h : nextO (pNum 1) st = some (bs.drop q1)) (hq1 : q1 ≤ bs.length) (hb : 200 < numO 1 st ∨ bs.length < q1 + numO 1 st) (hq : q ≤ bs.length) : wordO st = ⟨#[]⟩ ∧ CuR bk o cap bs (nextO pText st) (cuV bk o bs.length cap q false) := by
  have hx : st.bind pText = none := by
    obtain ⟨r0, hr0, hp⟩ := numO_good h
    generalize numO 1 st = n at hb hp
    subst hr0
    show pText r0 = none
    unfold pText
    rw [hp]
    simp only
    split
    · unfold pTake
      rw [if_neg (by rw [List.length_drop]; omega)]
    · rfl
  unfold wordO nextO
  rw [hx]
  exact ⟨rfl, CuR.no hq⟩
theorem text_good {bk o cap q1 n : Nat} {bs : List UInt8} {st : Option (List UInt8)} (h : nextO (pNum 1) st = some (bs.drop q1)) (hn : numO 1 st = n) (h2 : n ≤ 200) (hq1 : q1 + n ≤ bs.length) : wordO st = ⟨((bs.drop q1).take n).toArray⟩ ∧ CuR bk o cap bs (nextO pText st) (cuV bk o bs.length cap (q1 + n) true) := by
  have hx : st.bind pText = some (⟨((bs.drop q1).take n).toArray⟩, bs.drop (q1 + n)) := by
    obtain ⟨r0, hr0, hp⟩ := numO_good h
    rw [hn] at hp
    subst hr0
    show pText r0 = _
    unfold pText
    rw [hp]
    simp only
    rw [if_pos h2]
    unfold pTake
    rw [if_pos (by rw [List.length_drop]; omega), List.drop_drop]
  unfold wordO nextO
  rw [hx]
  exact ⟨rfl, CuR.yes hq1 rfl⟩

set_option maxRecDepth 100000 in
set_option maxHeartbeats 1600000 in
theorem rword_any (bk o cap : Nat) (bs : List UInt8) (st : Option (List UInt8)) (cv : Array Value) (w : World) (hbk : bk < w.heap.size) (hl : bs.length ≤ 12000) (hc : bs.length < cap) (hb : InB w (some ⟨bk, o, none⟩) bs) (hr : CuR bk o cap bs st cv) :
    Calls Tryd.prog 69 #[.agg cv] w (WordC bk o cap bs st w) := by
  have HB := hide hb
  clear hb
  obtain ⟨q0, hq0, rfl, hst0⟩ := hr
  have HN := hide (rnum_any bk o cap bs 1 (by omega) (by omega) st _ ((w.alloc (.cells (cuV bk o bs.length cap q0 st.isSome) 111)).alloc (.cells zero3 111)) hl hc (HB.out.grow (((Grow.refl w).alloc _).alloc _)) ⟨q0, hq0, rfl, hst0⟩)
  generalize hok : st.isSome = ok at HN ⊢
  have HBP := hide ((Blk.new w 111 (cuV bk o bs.length cap q0 ok)).alloc (.cells zero3 111))
  have HBR := hide (show Blk ((w.alloc (.cells (cuV bk o bs.length cap q0 ok) 111)).alloc (.cells zero3 111)) (w.heap.size + 1) 111 zero3 from Blk.new' (by simp) _ _)
  have HG0 := hide (((Grow.refl w).alloc (.cells (cuV bk o bs.length cap q0 ok) 111)).alloc (.cells zero3 111))
  obtain ⟨n, hn⟩ : ∃ n, numO 1 st = n := ⟨_, rfl⟩
  have hn2 : n < 256 := by have := numO_lt 1 st; rw [hn] at this; exact this
  have HNN := hide hn
  have HLT := hide hbk
  clear hst0 hok hbk
  go_enter Tryd.func69, Tryd.ntmps69
  go_wp2_with fail
  refine HN.out.mono ?_
  rintro e w1 ⟨cv1, rfl, hr1, hg1⟩
  rw [hn]
  have hb1 := HBP.out.grow hg1
  have HB2 := hide (HBR.out.grow hg1)
  have HG1 := hide (HG0.out.trans hg1)
  have hz1 : w.heap.size + 1 < w1.heap.size := HB2.out.lt
  have hc1 := hb1.cell
  have hf1 := hb1.frozen
  clear hn hg1 HN
  rcases hr1.open with ⟨q1, hq1, hs1, rfl⟩ | ⟨q1, hq1, hs1, rfl⟩
  · have HS1 := hide hs1
    clear hs1 hr1
    by_cases h200 : 200 < n
    · obtain ⟨m, hm⟩ : ∃ m, min n 16 = m := ⟨_, rfl⟩
      have hd : decide ((200 : Int) < (n : Int)) = true := by simp; omega
      go_wp2_with ((with_reducible refine at_load 111 ?_); refine load_blk (n := 3) (cells := cuV bk o bs.length cap q1 false) Tryd.underlying111 rfl rfl ((((hb1.set_ 0 _).set_ 1 _).set_ 2 _).set_ 2 _) info_cu rfl ?_)
      refine calls_set4 hb1 (fun w2 hb3 hg2 => ?_)
      have HB3 := hide hb3
      have HB4 := hide (HB2.out.own hg2 (fun k e => by injection e with e; omega))
      have HG2 := hide (HG1.out.grown hg2 (fun k e => by injection e with e; omega))
      clear hb1 hb3 hg2 HB2 HG1 hc1 hf1
      refine (rtake_no bk o bs.length cap q1 n false w2 hl (by omega) m hm hq1 (fun h => by cases h)).mono ?_
      rintro e w3 ⟨g, hgl, rfl, hi3, hg3⟩
      have hb5 := HB3.out.grow hg3
      have HB6 := hide (HB4.out.grow hg3)
      have HG3 := hide (HG2.out.trans hg3)
      have hz3 : w.heap.size + 1 < w3.heap.size := HB6.out.lt
      have hc5 := hb5.cell
      have hf5 := hb5.frozen
      clear hg3 HB3 HB4 HG2 hi3
      go_wp2_with fail
      refine code_set3 hb5 (fun w4 hb7 hg4 => ?_)
      have HB7 := hide hb7
      have HB8 := hide (HB6.out.own hg4 (fun k e => by injection e with e; omega))
      have HG4 := hide (HG3.out.grown hg4 (fun k e => by injection e with e; omega))
      clear hb5 hb7 hg4 HB6 HG3 hc5 hf5
      refine wp_region_noPanic ?_
      refine wp_region_held_drew (S := fun W => Blk W w.heap.size 111 (cuV bk o bs.length cap q1 false)) (by kernel_rfl) (HB7.out.drew) (fun hHeld => ?_)
      refine wpAnyH_take (i := 0) (v := .agg (cuV bk o bs.length cap q1 false)) (by simp only [List.getElem?_toArray, List.getElem?_cons_succ, List.getElem?_cons_zero]; rfl) (by kernel_rfl) (by kernel_rfl) (by kernel_rfl) (fun _ _ _ h => h) (yields_load_blk (n := 3) Tryd.underlying111 rfl rfl (fun _ h => h) info_cu rfl) (by assumption) ?_
      try simp only [Act.put, List.setIfInBounds_toArray, List.set_cons_zero, List.set_cons_succ]
      refine wpAnyH_take (i := 1) (v := ?_) (by simp only [List.getElem?_toArray, List.getElem?_cons_succ, List.getElem?_cons_zero]; rfl) (by kernel_rfl) (by kernel_rfl) (by kernel_rfl) (fun _ _ _ h => h) (Or.inl ⟨by rfl, ?_⟩) (by assumption) ?_
      rotate_left 1
      · (intro w hSw; (try dsimp only at hSw); go_simp; try with_reducible rfl)
      try simp only [Act.put, List.setIfInBounds_toArray, List.set_cons_zero, List.set_cons_succ]
      refine wpAnyH_ready (rs := [2]) (by kernel_rfl) (by simp) ?_
      refine AllReadyH.cons (by simp only [List.getElem?_toArray, List.getElem?_cons_succ, List.getElem?_cons_zero]; rfl) (fun K hK => ?_) AllReadyH.nil
      refine step_store_blk (n := 3) (cells := cuV bk o bs.length cap q1 false) (by rfl) (by rfl) HB8.out.drew info_cu rfl rfl (cuV_one _ _ _ _ _ _) ?_
      intro w9 hb9 hg9 hz9
      have HB9 := hide hb9
      have HG9 := hide (HG4.out.drew.grown hg9 (fun k e => by injection e with e; omega))
      refine hK _ _ (HB7.out.drew.own hg9 (fun k e => by injection e with e; omega)) (fun hHeld => ?_)
      clear hK K
      try simp only [Act.put, List.setIfInBounds_toArray, List.set_cons_zero, List.set_cons_succ]
      refine wpAnyH_done (by kernel_rfl) ?_ _
      refine NoPanic.normal ?_
      go_wp2_with fail
      refine bodyPost_ret (cu_results (u := .string ⟨#[]⟩) (cs := cuV bk o bs.length cap q1 false) rfl rfl rfl rfl HB9.out) rfl (WordC.of ?_ HG9.out)
      exact text_bad2 HS1.out hq1 (.inl (by rw [HNN.out]; exact h200)) hq1
    · have hd : decide ((200 : Int) < (n : Int)) = false := by simp; omega
      by_cases hfit : q1 + n ≤ bs.length
      · go_wp2_with fail
        refine calls_set3 hb1 (fun w2 hb3 hg2 => ?_)
        have HB3 := hide hb3
        have HB4 := hide (HB2.out.own hg2 (fun k e => by injection e with e; omega))
        have HG2 := hide (HG1.out.grown hg2 (fun k e => by injection e with e; omega))
        clear hb1 hb3 hg2 HB2 HG1 hc1 hf1
        refine (rtake_ok bk o bs.length cap q1 n w2 hl hc hfit).mono ?_
        rintro e w3 ⟨rfl, hg3⟩
        have hb5 := HB3.out.grow hg3
        have HB6 := hide (HB4.out.grow hg3)
        have HG3 := hide (HG2.out.trans hg3)
        have hz3 : w.heap.size + 1 < w3.heap.size := HB6.out.lt
        have hc5 := hb5.cell
        have hf5 := hb5.frozen
        clear hg3 HB3 HB4 HG2
        go_wp2_with fail
        refine code_set3 hb5 (fun w4 hb7 hg4 => ?_)
        have HB7 := hide hb7
        have HB8 := hide (HB6.out.own hg4 (fun k e => by injection e with e; omega))
        have HG4 := hide (HG3.out.grown hg4 (fun k e => by injection e with e; omega))
        have HX := hide ((HB.out.grow HG4.out).mid q1 n)
        have hxl : ((bs.drop q1).take n).length = n := by rw [List.length_take, List.length_drop]; omega
        clear hb5 hb7 hg4 HB6 HG3 hc5 hf5
        refine wp_region_noPanic ?_
        refine wp_region_held_drew (S := fun W => Blk W w.heap.size 111 (cuV bk o bs.length cap (q1 + n) true) ∧ InB W (some ⟨bk, o + q1, none⟩) ((bs.drop q1).take n)) (by kernel_rfl) ⟨HB7.out.drew, HX.out.drewN 1⟩ (fun hHeld => ?_)
        refine wpAnyH_take (i := 0) (v := ?_) (by simp only [List.getElem?_toArray, List.getElem?_cons_succ, List.getElem?_cons_zero]; rfl) (by kernel_rfl) (by kernel_rfl) (by kernel_rfl) (fun _ _ _ h => h) (Or.inl ⟨by rfl, ?_⟩) (by assumption) ?_
        rotate_left 1
        · (intro w hSw; (try dsimp only at hSw); go_simp; try with_reducible rfl)
        try simp only [Act.put, List.setIfInBounds_toArray, List.set_cons_zero, List.set_cons_succ]
        refine wpAnyH_take (i := 1) (v := ?_) (by simp only [List.getElem?_toArray, List.getElem?_cons_succ, List.getElem?_cons_zero]; rfl) (by kernel_rfl) (by kernel_rfl) (by kernel_rfl) (fun _ _ _ h => h) (Or.inl ⟨by rfl, ?_⟩) (by assumption) ?_
        rotate_left 1
        · (intro w hSw; (try dsimp only at hSw); obtain ⟨hS1, hS2⟩ := hSw; have hcv := conv_bstr (cap := cap - q1) hxl (by have h := hS2; unfold InB at h; rwa [hxl] at h); go_simp; try with_reducible rfl)
        try simp only [Act.put, List.setIfInBounds_toArray, List.set_cons_zero, List.set_cons_succ]
        refine wpAnyH_take (i := 2) (v := .agg (cuV bk o bs.length cap (q1 + n) true)) (by simp only [List.getElem?_toArray, List.getElem?_cons_succ, List.getElem?_cons_zero]; rfl) (by kernel_rfl) (by kernel_rfl) (by kernel_rfl) (fun _ _ _ h => h) (yields_load_blk (n := 3) Tryd.underlying111 rfl rfl (fun _ h => h.1) info_cu rfl) (by assumption) ?_
        try simp only [Act.put, List.setIfInBounds_toArray, List.set_cons_zero, List.set_cons_succ]
        refine wpAnyH_take (i := 3) (v := ?_) (by simp only [List.getElem?_toArray, List.getElem?_cons_succ, List.getElem?_cons_zero]; rfl) (by kernel_rfl) (by kernel_rfl) (by kernel_rfl) (fun _ _ _ h => h) (Or.inl ⟨by rfl, ?_⟩) (by assumption) ?_
        rotate_left 1
        · (intro w hSw; (try dsimp only at hSw); go_simp; try with_reducible rfl)
        try simp only [Act.put, List.setIfInBounds_toArray, List.set_cons_zero, List.set_cons_succ]
        refine wpAnyH_ready (rs := [4]) (by kernel_rfl) (by simp) ?_
        refine AllReadyH.cons (by simp only [List.getElem?_toArray, List.getElem?_cons_succ, List.getElem?_cons_zero]; rfl) (fun K hK => ?_) AllReadyH.nil
        refine step_store_blk (n := 3) (cells := cuV bk o bs.length cap (q1 + n) true) (by rfl) (by rfl) HB8.out.drew info_cu rfl rfl (cuV_one _ _ _ _ _ _) ?_
        intro w9 hb9 hg9 hz9
        have HB9 := hide hb9
        have HG9 := hide (HG4.out.drew.grown hg9 (fun k e => by injection e with e; omega))
        refine hK _ _ (⟨HB7.out.drew.own hg9 (fun k e => by injection e with e; omega), (HX.out.drewN 1).own hg9 (fun k e => by injection e with e; have := HLT.out; omega)⟩) (fun hHeld => ?_)
        clear hK K
        try simp only [Act.put, List.setIfInBounds_toArray, List.set_cons_zero, List.set_cons_succ]
        refine wpAnyH_done (by kernel_rfl) ?_ _
        refine NoPanic.normal ?_
        go_wp2_with fail
        refine bodyPost_ret (cu_results (u := .string ⟨((bs.drop q1).take n).toArray⟩) (cs := cuV bk o bs.length cap (q1 + n) true) rfl rfl rfl rfl HB9.out) rfl (WordC.of ?_ HG9.out)
        exact text_good HS1.out HNN.out (by omega) hfit
      · obtain ⟨m, hm⟩ : ∃ m, min n 16 = m := ⟨_, rfl⟩
        go_wp2_with fail
        refine calls_set3 hb1 (fun w2 hb3 hg2 => ?_)
        have HB3 := hide hb3
        have HB4 := hide (HB2.out.own hg2 (fun k e => by injection e with e; omega))
        have HG2 := hide (HG1.out.grown hg2 (fun k e => by injection e with e; omega))
        clear hb1 hb3 hg2 HB2 HG1 hc1 hf1
        refine (rtake_no bk o bs.length cap q1 n true w2 hl (by omega) m hm hq1 (fun _ => by omega)).mono ?_
        rintro e w3 ⟨g, hgl, rfl, hi3, hg3⟩
        have hb5 := HB3.out.grow hg3
        have HB6 := hide (HB4.out.grow hg3)
        have HG3 := hide (HG2.out.trans hg3)
        have hz3 : w.heap.size + 1 < w3.heap.size := HB6.out.lt
        have hc5 := hb5.cell
        have hf5 := hb5.frozen
        clear hg3 HB3 HB4 HG2 hi3
        go_wp2_with fail
        refine code_set3 hb5 (fun w4 hb7 hg4 => ?_)
        have HB7 := hide hb7
        have HB8 := hide (HB6.out.own hg4 (fun k e => by injection e with e; omega))
        have HG4 := hide (HG3.out.grown hg4 (fun k e => by injection e with e; omega))
        clear hb5 hb7 hg4 HB6 HG3 hc5 hf5
        refine wp_region_noPanic ?_
        refine wp_region_held_drew (S := fun W => Blk W w.heap.size 111 (cuV bk o bs.length cap q1 false)) (by kernel_rfl) (HB7.out.drew) (fun hHeld => ?_)
        refine wpAnyH_take (i := 0) (v := .agg (cuV bk o bs.length cap q1 false)) (by simp only [List.getElem?_toArray, List.getElem?_cons_succ, List.getElem?_cons_zero]; rfl) (by kernel_rfl) (by kernel_rfl) (by kernel_rfl) (fun _ _ _ h => h) (yields_load_blk (n := 3) Tryd.underlying111 rfl rfl (fun _ h => h) info_cu rfl) (by assumption) ?_
        try simp only [Act.put, List.setIfInBounds_toArray, List.set_cons_zero, List.set_cons_succ]
        refine wpAnyH_take (i := 1) (v := ?_) (by simp only [List.getElem?_toArray, List.getElem?_cons_succ, List.getElem?_cons_zero]; rfl) (by kernel_rfl) (by kernel_rfl) (by kernel_rfl) (fun _ _ _ h => h) (Or.inl ⟨by rfl, ?_⟩) (by assumption) ?_
        rotate_left 1
        · (intro w hSw; (try dsimp only at hSw); go_simp; try with_reducible rfl)
        try simp only [Act.put, List.setIfInBounds_toArray, List.set_cons_zero, List.set_cons_succ]
        refine wpAnyH_ready (rs := [2]) (by kernel_rfl) (by simp) ?_
        refine AllReadyH.cons (by simp only [List.getElem?_toArray, List.getElem?_cons_succ, List.getElem?_cons_zero]; rfl) (fun K hK => ?_) AllReadyH.nil
        refine step_store_blk (n := 3) (cells := cuV bk o bs.length cap q1 false) (by rfl) (by rfl) HB8.out.drew info_cu rfl rfl (cuV_one _ _ _ _ _ _) ?_
        intro w9 hb9 hg9 hz9
        have HB9 := hide hb9
        have HG9 := hide (HG4.out.drew.grown hg9 (fun k e => by injection e with e; omega))
        refine hK _ _ (HB7.out.drew.own hg9 (fun k e => by injection e with e; omega)) (fun hHeld => ?_)
        clear hK K
        try simp only [Act.put, List.setIfInBounds_toArray, List.set_cons_zero, List.set_cons_succ]
        refine wpAnyH_done (by kernel_rfl) ?_ _
        refine NoPanic.normal ?_
        go_wp2_with fail
        refine bodyPost_ret (cu_results (u := .string ⟨#[]⟩) (cs := cuV bk o bs.length cap q1 false) rfl rfl rfl rfl HB9.out) rfl (WordC.of ?_ HG9.out)
        exact text_bad2 HS1.out hq1 (.inr (by rw [HNN.out]; omega)) hq1
  · have HS1 := hide hs1
    clear hs1 hr1
    obtain rfl : n = 0 := by have := numO_bad HS1.out; rw [HNN.out] at this; exact this
    obtain ⟨m, hm⟩ : ∃ m, min 0 16 = m := ⟨_, rfl⟩
    have hd : decide ((200 : Int) < ((0 : Nat) : Int)) = false := by decide
    go_wp2_with fail
    refine calls_set3 hb1 (fun w2 hb3 hg2 => ?_)
    have HB3 := hide hb3
    have HB4 := hide (HB2.out.own hg2 (fun k e => by injection e with e; omega))
    have HG2 := hide (HG1.out.grown hg2 (fun k e => by injection e with e; omega))
    clear hb1 hb3 hg2 HB2 HG1 hc1 hf1
    refine (rtake_no bk o bs.length cap q1 0 false w2 hl (by omega) m hm hq1 (fun h => by cases h)).mono ?_
    rintro e w3 ⟨g, hgl, rfl, hi3, hg3⟩
    have hb5 := HB3.out.grow hg3
    have HB6 := hide (HB4.out.grow hg3)
    have HG3 := hide (HG2.out.trans hg3)
    have hz3 : w.heap.size + 1 < w3.heap.size := HB6.out.lt
    have hc5 := hb5.cell
    have hf5 := hb5.frozen
    clear hg3 HB3 HB4 HG2 hi3
    go_wp2_with fail
    refine code_set3 hb5 (fun w4 hb7 hg4 => ?_)
    have HB7 := hide hb7
    have HB8 := hide (HB6.out.own hg4 (fun k e => by injection e with e; omega))
    have HG4 := hide (HG3.out.grown hg4 (fun k e => by injection e with e; omega))
    clear hb5 hb7 hg4 HB6 HG3 hc5 hf5
    refine wp_region_noPanic ?_
    refine wp_region_held_drew (S := fun W => Blk W w.heap.size 111 (cuV bk o bs.length cap q1 false)) (by kernel_rfl) (HB7.out.drew) (fun hHeld => ?_)
    refine wpAnyH_take (i := 0) (v := .agg (cuV bk o bs.length cap q1 false)) (by simp only [List.getElem?_toArray, List.getElem?_cons_succ, List.getElem?_cons_zero]; rfl) (by kernel_rfl) (by kernel_rfl) (by kernel_rfl) (fun _ _ _ h => h) (yields_load_blk (n := 3) Tryd.underlying111 rfl rfl (fun _ h => h) info_cu rfl) (by assumption) ?_
    try simp only [Act.put, List.setIfInBounds_toArray, List.set_cons_zero, List.set_cons_succ]
    refine wpAnyH_take (i := 1) (v := ?_) (by simp only [List.getElem?_toArray, List.getElem?_cons_succ, List.getElem?_cons_zero]; rfl) (by kernel_rfl) (by kernel_rfl) (by kernel_rfl) (fun _ _ _ h => h) (Or.inl ⟨by rfl, ?_⟩) (by assumption) ?_
    rotate_left 1
    · (intro w hSw; (try dsimp only at hSw); go_simp; try with_reducible rfl)
    try simp only [Act.put, List.setIfInBounds_toArray, List.set_cons_zero, List.set_cons_succ]
    refine wpAnyH_ready (rs := [2]) (by kernel_rfl) (by simp) ?_
    refine AllReadyH.cons (by simp only [List.getElem?_toArray, List.getElem?_cons_succ, List.getElem?_cons_zero]; rfl) (fun K hK => ?_) AllReadyH.nil
    refine step_store_blk (n := 3) (cells := cuV bk o bs.length cap q1 false) (by rfl) (by rfl) HB8.out.drew info_cu rfl rfl (cuV_one _ _ _ _ _ _) ?_
    intro w9 hb9 hg9 hz9
    have HB9 := hide hb9
    have HG9 := hide (HG4.out.drew.grown hg9 (fun k e => by injection e with e; omega))
    refine hK _ _ (HB7.out.drew.own hg9 (fun k e => by injection e with e; omega)) (fun hHeld => ?_)
    clear hK K
    try simp only [Act.put, List.setIfInBounds_toArray, List.set_cons_zero, List.set_cons_succ]
    refine wpAnyH_done (by kernel_rfl) ?_ _
    refine NoPanic.normal ?_
    go_wp2_with fail
    refine bodyPost_ret (cu_results (u := .string ⟨#[]⟩) (cs := cuV bk o bs.length cap q1 false) rfl rfl rfl rfl HB9.out) rfl (WordC.of ?_ HG9.out)
    exact text_bad1 HS1.out hq1

theorem val_results {W : World} {vb cb : Nat} {tmps : Array Value} {c : Cv} {cs : Array Value} (h4 : tmps.getD 4 undef = .pointer (some ⟨vb, 0, none⟩)) (h5 : tmps.getD 5 undef = .pointer (some ⟨cb, 0, none⟩)) (hn : cs.size = 3) (hV : Blk W vb 27 c.cells) (hB : Blk W cb 111 cs) :
    (results Tryd.f70 tmps).run Tryd.prog W = .ok (.tuple #[c.agg, .agg cs]) W := by
  have hl := run_loadVar_row (P := Tryd.prog) W cb 111 111 cs (0, 0) _ hB Tryd.underlying111 rfl (by rw [hn]; exact info_cu)
  have hlv := run_loadVar_row (P := Tryd.prog) W vb 27 27 c.cells (0, 0) _ hV Tryd.underlying27 rfl (by exact info_val)
  have h4' : tmps[4]?.getD undef = .pointer (some ⟨vb, 0, none⟩) := by simpa using h4
  have h5' : tmps[5]?.getD undef = .pointer (some ⟨cb, 0, none⟩) := by simpa using h5
  simp [results, Tryd.results70, h4', h5', asAddr, hl, hlv]
noncomputable def valO (p : List UInt8 → P V) (st : Option (List UInt8)) : V := ((st.bind p).map Prod.fst).getD V.zero
theorem bind_num {α : Type} {size : Nat} {st : Option (List UInt8)} {p : List UInt8 → P α} (h : nextO (pNum size) st = none) (hp : ∀ r, pNum size r = none → p r = none) : st.bind p = none := by
  cases st with
  | none => rfl
  | some r =>
    show p r = none
    have h : (pNum size r).map Prod.snd = none := h
    cases hq : pNum size r with
    | none => exact hp r hq
    | some x => rw [hq] at h; cases h
theorem pval_bad1 {st : Option (List UInt8)} (h : nextO (pNum 2) st = none) : st.bind pVal = none := bind_num h (fun r hr => by unfold pVal; rw [hr])
theorem pval_bad2 {st : Option (List UInt8)} {bs : List UInt8} {q n : Nat} (h : nextO (pNum 2) st = some (bs.drop q)) (hn : numO 2 st = n) (hb : bs.length < q + n) (hq : q ≤ bs.length) : st.bind pVal = none := by
  obtain ⟨r0, rfl, hp⟩ := numO_good h
  rw [hn] at hp
  show pVal r0 = none
  unfold pVal
  rw [hp]
  simp only
  unfold pTake
  rw [if_neg (by rw [List.length_drop]; omega)]
theorem pval_bad3 {st : Option (List UInt8)} {bs : List UInt8} {q n : Nat} {x : Int} (h : nextO (pNum 2) st = some (bs.drop q)) (hn : numO 2 st = n) (hq : q + n ≤ bs.length) (hx : rdAll ((bs.drop q).take n) = .error x) : st.bind pVal = none := by
  obtain ⟨r0, rfl, hp⟩ := numO_good h
  rw [hn] at hp
  show pVal r0 = none
  unfold pVal
  rw [hp]
  simp only
  unfold pTake
  rw [if_pos (by rw [List.length_drop]; omega)]
  simp only
  rw [hx]
theorem pval_good {st : Option (List UInt8)} {bs : List UInt8} {q n : Nat} {v : V} (h : nextO (pNum 2) st = some (bs.drop q)) (hn : numO 2 st = n) (hq : q + n ≤ bs.length) (hx : rdAll ((bs.drop q).take n) = .ok v) : st.bind pVal = some (v, bs.drop (q + n)) := by
  obtain ⟨r0, rfl, hp⟩ := numO_good h
  rw [hn] at hp
  show pVal r0 = _
  unfold pVal
  rw [hp]
  simp only
  unfold pTake
  rw [if_pos (by rw [List.length_drop]; omega)]
  simp only
  rw [hx, List.drop_drop]
theorem pmay_bad1 {st : Option (List UInt8)} (h : nextO (pNum 1) st = none) : st.bind pMay = none := bind_num h (fun r hr => by unfold pMay pFlag; rw [hr])
theorem pmay_bad2 {st : Option (List UInt8)} {r : List UInt8} (h : nextO (pNum 1) st = some r) (hn : 1 < numO 1 st) : st.bind pMay = none := by
  obtain ⟨r0, rfl, hp⟩ := numO_good h
  show pMay r0 = none
  unfold pMay pFlag
  rw [hp]
  simp only
  rw [if_neg (by omega)]
theorem pmay_zero {st : Option (List UInt8)} {r : List UInt8} (h : nextO (pNum 1) st = some r) (hn : numO 1 st = 0) : st.bind pMay = some (V.zero, r) := by
  obtain ⟨r0, rfl, hp⟩ := numO_good h
  rw [hn] at hp
  show pMay r0 = _
  unfold pMay pFlag
  rw [hp]
  rfl
theorem pmay_one {st : Option (List UInt8)} {r : List UInt8} (h : nextO (pNum 1) st = some r) (hn : numO 1 st = 1) : st.bind pMay = pVal r := by
  obtain ⟨r0, rfl, hp⟩ := numO_good h
  rw [hn] at hp
  show pMay r0 = _
  unfold pMay pFlag
  rw [hp]
  rfl
/-- What a value's reading tells. -/
def RValC (p : List UInt8 → P V) (bk o cap : Nat) (bs : List UInt8) (st : Option (List UInt8)) (w : World) (e : Ending) (w' : World) : Prop :=
  ∃ c cv, e = .returned (.tuple #[Cv.agg c, .agg cv]) ∧ InS w' w.heap.size w'.heap.size (valO p st) c ∧ CuR bk o cap bs (nextO p st) cv ∧ Grow w w'
theorem RValC.bad {p : List UInt8 → P V} {bk o cap q : Nat} {bs : List UInt8} {st : Option (List UInt8)} {w w' : World} (h : st.bind p = none) (hq : q ≤ bs.length) (hg : Grow w w') : RValC p bk o cap bs st w (.returned (.tuple #[Cv.zero.agg, .agg (cuV bk o bs.length cap q false)])) w' :=
  ⟨_, _, rfl, by unfold valO; rw [h]; exact InS.zero w', by unfold nextO; rw [h]; exact CuR.no hq, hg⟩
theorem RValC.good {p : List UInt8 → P V} {bk o cap q : Nat} {bs : List UInt8} {st : Option (List UInt8)} {w w' : World} {v : V} {c : Cv} (h : st.bind p = some (v, bs.drop q)) (hq : q ≤ bs.length) (hv : InS w' w.heap.size w'.heap.size v c) (hg : Grow w w') : RValC p bk o cap bs st w (.returned (.tuple #[c.agg, .agg (cuV bk o bs.length cap q true)])) w' :=
  ⟨_, _, rfl, by unfold valO; rw [h]; exact hv, by unfold nextO; rw [h]; exact CuR.yes hq rfl, hg⟩
theorem cv_one (c : Cv) : c.cells.all (·.oneCell') = true := by simp [Cv.cells, Value.oneCell']

theorem code_set1 {P : Program} {c : Code} {K : Exit → Act → World → Prop} {a : Act} {w1 : World} {g : Nat} {T : TypeId} {v x0 x1 x2 : Value} (hB : Blk w1 g T #[x0, x1, x2]) (h : ∀ w2, Blk w2 g T #[x0, x1, v] → w1.grownBy w2 (some g) → Code.wp P c K a w2) :
    Code.wp P c K a (w1.setCell ⟨g, 2, none⟩ v) :=
  h _ (hB.set_ 2 v) (grown_set w1 g 2 v)
theorem wpl_set3 {P : Program} {ops : Array Oper} {rest : List Oper} {a : Act} {Q : Exit → Act → World → Prop} {ob : Oper} {w1 : World} {g : Nat} {T : TypeId} {v0 v1 v2 x0 x1 x2 : Value} (hB : Blk w1 g T #[x0, x1, x2]) (h : ∀ w2, Blk w2 g T #[v0, v1, v2] → w1.grownBy w2 (some g) → wpList P ops Q (ob :: rest) a w2) :
    wpList P ops Q (ob :: rest) a (((w1.setCell ⟨g, 0, none⟩ v0).setCell ⟨g, 1, none⟩ v1).setCell ⟨g, 2, none⟩ v2) :=
  h _ (((hB.set_ 0 v0).set_ 1 v1).set_ 2 v2) (GB.trans (GB.trans (grown_set w1 g 0 v0) (grown_set _ g 1 v1)) (grown_set _ g 2 v2) : GB w1 _ g)

theorem rdAll_err0 {b : List UInt8} {x : Int} (h : rdAll b = .error x) : x ≠ 0 := by
  have := rdAll_err h
  unfold Err at this
  omega
theorem InS.own2 {w0 w w' w'' : World} {lo hi : Nat} {v : V} {c : Cv} (h : InS w lo hi v c) (hlo : w0.heap.size + 2 < lo) (h1 : w.drew.grownBy w' (some (w0.heap.size + 1))) (h2 : w'.grownBy w'' (some (w0.heap.size + 2))) : InS w'' w0.heap.size w''.heap.size v c := by
  have k0 := h.grow ((Grow.refl w).drew)
  have k1 : InS w' lo hi v c := k0.blocks h1.size (fun k a b => h1.block k (Nat.lt_of_lt_of_le b k0.1) (fun e => by injection e with e; omega))
  have k2 : InS w'' lo hi v c := k1.blocks h2.size (fun k a b => h2.block k (Nat.lt_of_lt_of_le b k1.1) (fun e => by injection e with e; omega))
  exact k2.wider (by omega) k2.1 (Nat.le_refl _)
set_option maxRecDepth 100000 in
set_option maxHeartbeats 3200000 in
theorem rval_any (bk o cap : Nat) (bs : List UInt8) (st : Option (List UInt8)) (cv : Array Value) (w : World) (hl : bs.length ≤ 12000) (hc : bs.length < cap) (hb : InB w (some ⟨bk, o, none⟩) bs) (hr : CuR bk o cap bs st cv) :
    Calls Tryd.prog 70 #[.agg cv, .bool false] w (RValC pVal bk o cap bs st w) := by
  have HB := hide hb
  clear hb
  obtain ⟨q0, hq0, rfl, hst0⟩ := hr
  have HST := hide (show CuR bk o cap bs st _ from ⟨q0, hq0, rfl, hst0⟩)
  generalize hok : st.isSome = ok at HST ⊢
  have HBc := hide (((Blk.new w 111 (cuV bk o bs.length cap q0 ok)).alloc (.cells Cv.zero.cells 27)).alloc (.cells zero3 111))
  have HBv := hide ((show Blk ((w.alloc (.cells (cuV bk o bs.length cap q0 ok) 111)).alloc (.cells Cv.zero.cells 27)) (w.heap.size + 1) 27 Cv.zero.cells from Blk.new' (by simp) _ _).alloc (.cells zero3 111))
  have HBr := hide (show Blk (((w.alloc (.cells (cuV bk o bs.length cap q0 ok) 111)).alloc (.cells Cv.zero.cells 27)).alloc (.cells zero3 111)) (w.heap.size + 2) 111 zero3 from Blk.new' (by simp) _ _)
  have HG := hide ((((Grow.refl w).alloc (.cells (cuV bk o bs.length cap q0 ok) 111)).alloc (.cells Cv.zero.cells 27)).alloc (.cells zero3 111))
  have HTR := hide True.intro
  obtain ⟨n, hn⟩ : ∃ n, numO 2 st = n := ⟨_, rfl⟩
  have hn2 : n < 65536 := by have := numO_lt 2 st; rw [hn] at this; exact this
  have HN2 := hide hn
  clear hst0 hok hn
  go_enter Tryd.func70, Tryd.ntmps70
  go_wp2_with fail
  refine (rnum_any bk o cap bs 2 (by omega) (by omega) (st) _ _ hl hc (HB.out.grow HG.out) HST.out).mono ?_
  rintro e w1 ⟨cv1, rfl, hr1, hg1⟩
  rw [HN2.out]
  have hbc := HBc.out.grow hg1
  have hbv := HBv.out.grow hg1
  have hbr := HBr.out.grow hg1
  have hgg := HG.out.trans hg1
  clear hg1 HBc HBv HBr HG
  have HBc := hide hbc
  have HBv := hide hbv
  have HBr := hide hbr
  have HG := hide hgg
  have hz : w.heap.size + 2 < w1.heap.size := hbr.lt
  have hc1 := hbc.cell
  have hf1 := hbc.frozen
  clear hbv hbr hgg
  rcases hr1.open with ⟨q1, hq1, hs1, rfl⟩ | ⟨q1, hq1, hs1, rfl⟩
  · have HS1 := hide hs1
    clear hs1 hr1
    by_cases hfit : q1 + n ≤ bs.length
    · go_wp2_with fail
      refine calls_set3 hbc (fun w2 hb3 hg2 => ?_)
      have hbv := HBv.out.own hg2 (fun k e => by injection e with e; omega)
      have hbr := HBr.out.own hg2 (fun k e => by injection e with e; omega)
      have hgg := HG.out.grown hg2 (fun k e => by injection e with e; omega)
      clear HBc HBv HBr HG hc1 hf1 hbc hg2
      have HBc := hide hb3
      have HBv := hide hbv
      have HBr := hide hbr
      have HG := hide hgg
      clear hbv hbr hgg
      clear hb3
      refine (rtake_ok bk o bs.length cap q1 n w2 hl hc hfit).mono ?_
      rintro e w3 ⟨rfl, hg3⟩
      have hbc := HBc.out.grow hg3
      have hbv := HBv.out.grow hg3
      have hbr := HBr.out.grow hg3
      have hgg := HG.out.trans hg3
      clear hg3 HBc HBv HBr HG
      have HBc := hide hbc
      have HBv := hide hbv
      have HBr := hide hbr
      have HG := hide hgg
      have hz : w.heap.size + 2 < w3.heap.size := hbr.lt
      have hc1 := hbc.cell
      have hf1 := hbc.frozen
      clear hbv hbr hgg
      go_wp2_with fail
      refine calls_set3 hbc (fun w4 hb7 hg4 => ?_)
      have hbv := HBv.out.own hg4 (fun k e => by injection e with e; omega)
      have hbr := HBr.out.own hg4 (fun k e => by injection e with e; omega)
      have hgg := HG.out.grown hg4 (fun k e => by injection e with e; omega)
      clear HBc HBv HBr HG hc1 hf1 hbc hg4
      have HBc := hide hb7
      have HBv := hide hbv
      have HBr := hide hbr
      have HG := hide hgg
      clear hbv hbr hgg
      clear hb7
      have hz4 : w.heap.size + 2 < w4.heap.size := HBr.out.lt
      have hxl : ((bs.drop q1).take n).length = n := by rw [List.length_take, List.length_drop]; omega
      have hget := refGetAll_any ((bs.drop q1).take n) (some ⟨bk, o + q1, none⟩) (cap - q1) w4 ((HB.out.grow HG.out).mid q1 n) (by omega) (by omega)
      rw [hxl] at hget
      have HGET := hide hget
      clear hget
      cases hx : rdAll ((bs.drop q1).take n) with
      | error x =>
        rw [hx] at HGET
        have hx0 : (x != 0) = true := by simpa using rdAll_err0 hx
        have HXX := hide hx
        clear hx
        refine HGET.out.mono ?_
        rintro e w5 ⟨rfl, hg5⟩
        have hbc := HBc.out.grow hg5
        have hbv := HBv.out.grow hg5
        have hbr := HBr.out.grow hg5
        have hgg := HG.out.trans hg5
        clear hg5 HBc HBv HBr HG
        have HBc := hide hbc
        have HBv := hide hbv
        have HBr := hide hbr
        have HG := hide hgg
        have hz : w.heap.size + 2 < w5.heap.size := hbr.lt
        have hc1 := hbc.cell
        have hf1 := hbc.frozen
        clear hbv hbr hgg
        have hal := (Grow.refl w5).alloc (.cells Cv.zero.cells 27)
        have hbc6 := hbc.grow hal
        have hc6 := hbc6.cell
        have hf6 := hbc6.frozen
        have hbv6 := HBv.out.grow hal
        have hbr6 := HBr.out.grow hal
        have hgg6 := HG.out.trans hal
        clear HBv HBr HG HBc
        have HBv := hide hbv6
        have HBr := hide hbr6
        have HG := hide hgg6
        have HBX := hide (Blk.new w5 27 Cv.zero.cells)
        clear hbv6 hbr6 hgg6 hal hbc hc1 hf1
        have hbc := hbc6
        have hc1 : True := trivial
        have hf1 : True := trivial
        have HBc : True := trivial
        go_wp2_with fail
        refine code_set1 hbc6 (fun w7 hb7 hg7 => ?_)
        have HBX7 := hide (HBX.out.own hg7 (fun k e => by injection e with e; omega))
        clear hc6 hf6 hbc6
        have hbv := HBv.out.own hg7 (fun k e => by injection e with e; omega)
        have hbr := HBr.out.own hg7 (fun k e => by injection e with e; omega)
        have hgg := HG.out.grown hg7 (fun k e => by injection e with e; omega)
        clear HBc HBv HBr HG hc1 hf1 hbc hg7
        have HBc := hide hb7
        have HBv := hide hbv
        have HBr := hide hbr
        have HG := hide hgg
        clear hbv hbr hgg
        clear hb7
        refine wp_region_noPanic ?_
        refine wp_region_held_drew (S := fun W => Blk W w.heap.size 111 (cuV bk o bs.length cap (q1 + n) false) ∧ Blk W w5.heap.size 27 Cv.zero.cells) (by kernel_rfl) ⟨HBc.out.drew, HBX7.out.drew⟩ (fun hHeld => ?_)
        refine wpAnyH_take (i := 0) (v := Cv.agg Cv.zero) (by simp only [List.getElem?_toArray, List.getElem?_cons_succ, List.getElem?_cons_zero]; rfl) (by kernel_rfl) (by kernel_rfl) (by kernel_rfl) (fun _ _ _ h => h) (yields_load_blk (n := 5) Tryd.underlying27 rfl rfl (fun _ h => h.2) info_val rfl) (by assumption) ?_
        try simp only [Act.put, List.setIfInBounds_toArray, List.set_cons_zero, List.set_cons_succ]
        refine wpAnyH_take (i := 1) (v := .agg (cuV bk o bs.length cap (q1 + n) false)) (by simp only [List.getElem?_toArray, List.getElem?_cons_succ, List.getElem?_cons_zero]; rfl) (by kernel_rfl) (by kernel_rfl) (by kernel_rfl) (fun _ _ _ h => h) (yields_load_blk (n := 3) Tryd.underlying111 rfl rfl (fun _ h => h.1) info_cu rfl) (by assumption) ?_
        try simp only [Act.put, List.setIfInBounds_toArray, List.set_cons_zero, List.set_cons_succ]
        refine wpAnyH_ready (rs := [2]) (by kernel_rfl) (by simp) ?_
        refine AllReadyH.cons (by simp only [List.getElem?_toArray, List.getElem?_cons_succ, List.getElem?_cons_zero]; rfl) (fun K hK => ?_) AllReadyH.nil
        refine step_store_blk (n := 5) (cells := Cv.cells Cv.zero) (by rfl) (by rfl) HBv.out.drew info_val rfl rfl (cv_one _) ?_
        intro w9 hb9 hg9 hz9
        have HGB9 := hide hg9
        have HBv9 := hide hb9
        have HBr9 := hide (HBr.out.drew.own hg9 (fun k e => by injection e with e; omega))
        have HG9 := hide (HG.out.drew.grown hg9 (fun k e => by injection e with e; omega))
        have HS9 := hide (And.intro (HBc.out.drew.own hg9 (fun k e => by injection e with e; omega)) (HBX7.out.drew.own hg9 (fun k e => by injection e with e; omega)))
        clear hb9 hg9
        refine hK _ _ (HS9.out) (fun hHeld => ?_)
        clear hK K
        try simp only [Act.put, List.setIfInBounds_toArray, List.set_cons_zero, List.set_cons_succ]
        refine wpAnyH_ready (rs := [3]) (by kernel_rfl) (by simp) ?_
        refine AllReadyH.cons (by simp only [List.getElem?_toArray, List.getElem?_cons_succ, List.getElem?_cons_zero]; rfl) (fun K hK => ?_) AllReadyH.nil
        refine step_store_blk (n := 3) (cells := cuV bk o bs.length cap (q1 + n) false) (by rfl) (by rfl) HBr9.out info_cu rfl rfl (cuV_one _ _ _ _ _ _) ?_
        intro w10 hb10 hg10 hz10
        have HBr10 := hide hb10
        have HBv10 := hide (HBv9.out.own hg10 (fun k e => by injection e with e; omega))
        have HG10 := hide (HG9.out.grown hg10 (fun k e => by injection e with e; omega))
        have HGB10 := hide hg10
        refine hK _ _ (And.intro (HS9.out.1.own hg10 (fun k e => by injection e with e; omega)) (HS9.out.2.own hg10 (fun k e => by injection e with e; omega))) (fun hHeld => ?_)
        clear hK K
        try simp only [Act.put, List.setIfInBounds_toArray, List.set_cons_zero, List.set_cons_succ]
        refine wpAnyH_done (by kernel_rfl) ?_ _
        refine NoPanic.normal ?_
        go_wp2_with fail
        refine bodyPost_ret (val_results rfl rfl rfl HBv10.out HBr10.out) rfl ?_
        exact RValC.bad (pval_bad3 HS1.out HN2.out hfit HXX.out) hfit HG10.out
      | ok v =>
        rw [hx] at HGET
        have HXX := hide hx
        clear hx
        refine HGET.out.mono ?_
        rintro e w5 ⟨c, rfl, hin5, hg5⟩
        have HIN := hide hin5
        clear hin5
        have hbc := HBc.out.grow hg5
        have hbv := HBv.out.grow hg5
        have hbr := HBr.out.grow hg5
        have hgg := HG.out.trans hg5
        clear hg5 HBc HBv HBr HG
        have HBc := hide hbc
        have HBv := hide hbv
        have HBr := hide hbr
        have HG := hide hgg
        have hz : w.heap.size + 2 < w5.heap.size := hbr.lt
        have hc1 := hbc.cell
        have hf1 := hbc.frozen
        clear hbv hbr hgg
        have hal := (Grow.refl w5).alloc (.cells c.cells 27)
        have hbc6 := HBc.out.grow hal
        have hbv6 := HBv.out.grow hal
        have hbr6 := HBr.out.grow hal
        have hgg6 := HG.out.trans hal
        clear HBv HBr HG HBc hc1 hf1 hbc
        have HBc := hide hbc6
        have HBv := hide hbv6
        have HBr := hide hbr6
        have HG := hide hgg6
        have HBX := hide (Blk.new w5 27 c.cells)
        have HIN6 := hide (HIN.out.grow hal)
        clear hbc6 hbv6 hbr6 hgg6
        go_wp2_with fail
        generalize hW6 : w5.alloc (.cells _ 27) = w6 at HBc HBv HBr HG HBX HIN6 hal ⊢
        have hz6 : w5.heap.size < w6.heap.size := HBX.out.lt
        clear hW6 hal
        refine wp_region_noPanic ?_
        refine wp_region_held_drew (S := fun W => Blk W w.heap.size 111 (cuV bk o bs.length cap (q1 + n) true) ∧ Blk W w5.heap.size 27 c.cells) (by kernel_rfl) ⟨HBc.out.drew, HBX.out.drew⟩ (fun hHeld => ?_)
        refine wpAnyH_take (i := 0) (v := Cv.agg c) (by simp only [List.getElem?_toArray, List.getElem?_cons_succ, List.getElem?_cons_zero]; rfl) (by kernel_rfl) (by kernel_rfl) (by kernel_rfl) (fun _ _ _ h => h) (yields_load_blk (n := 5) Tryd.underlying27 rfl rfl (fun _ h => h.2) info_val rfl) (by assumption) ?_
        try simp only [Act.put, List.setIfInBounds_toArray, List.set_cons_zero, List.set_cons_succ]
        refine wpAnyH_take (i := 1) (v := .agg (cuV bk o bs.length cap (q1 + n) true)) (by simp only [List.getElem?_toArray, List.getElem?_cons_succ, List.getElem?_cons_zero]; rfl) (by kernel_rfl) (by kernel_rfl) (by kernel_rfl) (fun _ _ _ h => h) (yields_load_blk (n := 3) Tryd.underlying111 rfl rfl (fun _ h => h.1) info_cu rfl) (by assumption) ?_
        try simp only [Act.put, List.setIfInBounds_toArray, List.set_cons_zero, List.set_cons_succ]
        refine wpAnyH_ready (rs := [2]) (by kernel_rfl) (by simp) ?_
        refine AllReadyH.cons (by simp only [List.getElem?_toArray, List.getElem?_cons_succ, List.getElem?_cons_zero]; rfl) (fun K hK => ?_) AllReadyH.nil
        refine step_store_blk (n := 5) (cells := Cv.cells c) (by rfl) (by rfl) HBv.out.drew info_val rfl rfl (cv_one _) ?_
        intro w9 hb9 hg9 hz9
        have HGB9 := hide hg9
        have HBv9 := hide hb9
        have HBr9 := hide (HBr.out.drew.own hg9 (fun k e => by injection e with e; omega))
        have HG9 := hide (HG.out.drew.grown hg9 (fun k e => by injection e with e; omega))
        have HS9 := hide (And.intro (HBc.out.drew.own hg9 (fun k e => by injection e with e; omega)) (HBX.out.drew.own hg9 (fun k e => by injection e with e; omega)))
        clear hb9 hg9
        refine hK _ _ (HS9.out) (fun hHeld => ?_)
        clear hK K
        try simp only [Act.put, List.setIfInBounds_toArray, List.set_cons_zero, List.set_cons_succ]
        refine wpAnyH_ready (rs := [3]) (by kernel_rfl) (by simp) ?_
        refine AllReadyH.cons (by simp only [List.getElem?_toArray, List.getElem?_cons_succ, List.getElem?_cons_zero]; rfl) (fun K hK => ?_) AllReadyH.nil
        refine step_store_blk (n := 3) (cells := cuV bk o bs.length cap (q1 + n) true) (by rfl) (by rfl) HBr9.out info_cu rfl rfl (cuV_one _ _ _ _ _ _) ?_
        intro w10 hb10 hg10 hz10
        have HBr10 := hide hb10
        have HBv10 := hide (HBv9.out.own hg10 (fun k e => by injection e with e; omega))
        have HG10 := hide (HG9.out.grown hg10 (fun k e => by injection e with e; omega))
        have HGB10 := hide hg10
        refine hK _ _ (And.intro (HS9.out.1.own hg10 (fun k e => by injection e with e; omega)) (HS9.out.2.own hg10 (fun k e => by injection e with e; omega))) (fun hHeld => ?_)
        clear hK K
        try simp only [Act.put, List.setIfInBounds_toArray, List.set_cons_zero, List.set_cons_succ]
        refine wpAnyH_done (by kernel_rfl) ?_ _
        refine NoPanic.normal ?_
        go_wp2_with fail
        refine bodyPost_ret (val_results rfl rfl rfl HBv10.out HBr10.out) rfl ?_
        have hfin := InS.own2 (w0 := w) HIN6.out hz4 HGB9.out HGB10.out
        exact RValC.good (pval_good HS1.out HN2.out hfit HXX.out) hfit hfin HG10.out
    · obtain ⟨m, hm⟩ : ∃ m, min n 16 = m := ⟨_, rfl⟩
      go_wp2_with fail
      refine calls_set3 hbc (fun w2 hb3 hg2 => ?_)
      have hbv := HBv.out.own hg2 (fun k e => by injection e with e; omega)
      have hbr := HBr.out.own hg2 (fun k e => by injection e with e; omega)
      have hgg := HG.out.grown hg2 (fun k e => by injection e with e; omega)
      clear HBc HBv HBr HG hc1 hf1 hbc hg2
      have HBc := hide hb3
      have HBv := hide hbv
      have HBr := hide hbr
      have HG := hide hgg
      clear hbv hbr hgg
      clear hb3
      refine (rtake_no bk o bs.length cap q1 n true w2 hl (by omega) m hm hq1 (fun _ => by omega)).mono ?_
      rintro e w3 ⟨g3, hgl, rfl, hi3, hg3⟩
      have hbc := HBc.out.grow hg3
      have hbv := HBv.out.grow hg3
      have hbr := HBr.out.grow hg3
      have hgg := HG.out.trans hg3
      clear hg3 HBc HBv HBr HG
      have HBc := hide hbc
      have HBv := hide hbv
      have HBr := hide hbr
      have HG := hide hgg
      have hz : w.heap.size + 2 < w3.heap.size := hbr.lt
      have hc1 := hbc.cell
      have hf1 := hbc.frozen
      clear hbv hbr hgg
      clear hi3
      go_wp2_with fail
      refine code_set3 hbc (fun w4 hb7 hg4 => ?_)
      have hbv := HBv.out.own hg4 (fun k e => by injection e with e; omega)
      have hbr := HBr.out.own hg4 (fun k e => by injection e with e; omega)
      have hgg := HG.out.grown hg4 (fun k e => by injection e with e; omega)
      clear HBc HBv HBr HG hc1 hf1 hbc hg4
      have HBc := hide hb7
      have HBv := hide hbv
      have HBr := hide hbr
      have HG := hide hgg
      clear hbv hbr hgg
      clear hb7
      refine wp_region_noPanic ?_
      refine wp_region_held_drew (S := fun W => Blk W w.heap.size 111 (cuV bk o bs.length cap q1 false) ∧ True) (by kernel_rfl) ⟨HBc.out.drew, HTR.out⟩ (fun hHeld => ?_)
      refine wpAnyH_take (i := 0) (v := ?_) (by simp only [List.getElem?_toArray, List.getElem?_cons_succ, List.getElem?_cons_zero]; rfl) (by kernel_rfl) (by kernel_rfl) (by kernel_rfl) (fun _ _ _ h => h) (Or.inl ⟨by rfl, ?_⟩) (by assumption) ?_
      rotate_left 1
      · (intro w hSw; (try dsimp only at hSw); go_simp; try with_reducible rfl)
      try simp only [Act.put, List.setIfInBounds_toArray, List.set_cons_zero, List.set_cons_succ]
      refine wpAnyH_take (i := 1) (v := .agg (cuV bk o bs.length cap q1 false)) (by simp only [List.getElem?_toArray, List.getElem?_cons_succ, List.getElem?_cons_zero]; rfl) (by kernel_rfl) (by kernel_rfl) (by kernel_rfl) (fun _ _ _ h => h) (yields_load_blk (n := 3) Tryd.underlying111 rfl rfl (fun _ h => h.1) info_cu rfl) (by assumption) ?_
      try simp only [Act.put, List.setIfInBounds_toArray, List.set_cons_zero, List.set_cons_succ]
      refine wpAnyH_ready (rs := [2]) (by kernel_rfl) (by simp) ?_
      refine AllReadyH.cons (by simp only [List.getElem?_toArray, List.getElem?_cons_succ, List.getElem?_cons_zero]; rfl) (fun K hK => ?_) AllReadyH.nil
      refine step_store_blk (n := 5) (cells := Cv.cells Cv.zero) (by rfl) (by rfl) HBv.out.drew info_val rfl rfl (cv_one _) ?_
      intro w9 hb9 hg9 hz9
      have HGB9 := hide hg9
      have HBv9 := hide hb9
      have HBr9 := hide (HBr.out.drew.own hg9 (fun k e => by injection e with e; omega))
      have HG9 := hide (HG.out.drew.grown hg9 (fun k e => by injection e with e; omega))
      have HS9 := hide (And.intro (HBc.out.drew.own hg9 (fun k e => by injection e with e; omega)) HTR.out)
      clear hb9 hg9
      refine hK _ _ (HS9.out) (fun hHeld => ?_)
      clear hK K
      try simp only [Act.put, List.setIfInBounds_toArray, List.set_cons_zero, List.set_cons_succ]
      refine wpAnyH_ready (rs := [3]) (by kernel_rfl) (by simp) ?_
      refine AllReadyH.cons (by simp only [List.getElem?_toArray, List.getElem?_cons_succ, List.getElem?_cons_zero]; rfl) (fun K hK => ?_) AllReadyH.nil
      refine step_store_blk (n := 3) (cells := cuV bk o bs.length cap q1 false) (by rfl) (by rfl) HBr9.out info_cu rfl rfl (cuV_one _ _ _ _ _ _) ?_
      intro w10 hb10 hg10 hz10
      have HBr10 := hide hb10
      have HBv10 := hide (HBv9.out.own hg10 (fun k e => by injection e with e; omega))
      have HG10 := hide (HG9.out.grown hg10 (fun k e => by injection e with e; omega))
      have HGB10 := hide hg10
      refine hK _ _ (And.intro (HS9.out.1.own hg10 (fun k e => by injection e with e; omega)) HTR.out) (fun hHeld => ?_)
      clear hK K
      try simp only [Act.put, List.setIfInBounds_toArray, List.set_cons_zero, List.set_cons_succ]
      refine wpAnyH_done (by kernel_rfl) ?_ _
      refine NoPanic.normal ?_
      go_wp2_with fail
      refine bodyPost_ret (val_results rfl rfl rfl HBv10.out HBr10.out) rfl ?_
      exact RValC.bad (pval_bad2 HS1.out HN2.out (by omega) hq1) hq1 HG10.out
  · have HS1 := hide hs1
    clear hs1 hr1
    obtain rfl : n = 0 := by have := numO_bad HS1.out; rw [HN2.out] at this; exact this
    obtain ⟨m, hm⟩ : ∃ m, min 0 16 = m := ⟨_, rfl⟩
    go_wp2_with fail
    refine calls_set3 hbc (fun w2 hb3 hg2 => ?_)
    have hbv := HBv.out.own hg2 (fun k e => by injection e with e; omega)
    have hbr := HBr.out.own hg2 (fun k e => by injection e with e; omega)
    have hgg := HG.out.grown hg2 (fun k e => by injection e with e; omega)
    clear HBc HBv HBr HG hc1 hf1 hbc hg2
    have HBc := hide hb3
    have HBv := hide hbv
    have HBr := hide hbr
    have HG := hide hgg
    clear hbv hbr hgg
    clear hb3
    refine (rtake_no bk o bs.length cap q1 0 false w2 hl (by omega) m hm hq1 (fun h => by cases h)).mono ?_
    rintro e w3 ⟨g3, hgl, rfl, hi3, hg3⟩
    have hbc := HBc.out.grow hg3
    have hbv := HBv.out.grow hg3
    have hbr := HBr.out.grow hg3
    have hgg := HG.out.trans hg3
    clear hg3 HBc HBv HBr HG
    have HBc := hide hbc
    have HBv := hide hbv
    have HBr := hide hbr
    have HG := hide hgg
    have hz : w.heap.size + 2 < w3.heap.size := hbr.lt
    have hc1 := hbc.cell
    have hf1 := hbc.frozen
    clear hbv hbr hgg
    clear hi3
    go_wp2_with fail
    refine code_set3 hbc (fun w4 hb7 hg4 => ?_)
    have hbv := HBv.out.own hg4 (fun k e => by injection e with e; omega)
    have hbr := HBr.out.own hg4 (fun k e => by injection e with e; omega)
    have hgg := HG.out.grown hg4 (fun k e => by injection e with e; omega)
    clear HBc HBv HBr HG hc1 hf1 hbc hg4
    have HBc := hide hb7
    have HBv := hide hbv
    have HBr := hide hbr
    have HG := hide hgg
    clear hbv hbr hgg
    clear hb7
    refine wp_region_noPanic ?_
    refine wp_region_held_drew (S := fun W => Blk W w.heap.size 111 (cuV bk o bs.length cap q1 false) ∧ True) (by kernel_rfl) ⟨HBc.out.drew, HTR.out⟩ (fun hHeld => ?_)
    refine wpAnyH_take (i := 0) (v := ?_) (by simp only [List.getElem?_toArray, List.getElem?_cons_succ, List.getElem?_cons_zero]; rfl) (by kernel_rfl) (by kernel_rfl) (by kernel_rfl) (fun _ _ _ h => h) (Or.inl ⟨by rfl, ?_⟩) (by assumption) ?_
    rotate_left 1
    · (intro w hSw; (try dsimp only at hSw); go_simp; try with_reducible rfl)
    try simp only [Act.put, List.setIfInBounds_toArray, List.set_cons_zero, List.set_cons_succ]
    refine wpAnyH_take (i := 1) (v := .agg (cuV bk o bs.length cap q1 false)) (by simp only [List.getElem?_toArray, List.getElem?_cons_succ, List.getElem?_cons_zero]; rfl) (by kernel_rfl) (by kernel_rfl) (by kernel_rfl) (fun _ _ _ h => h) (yields_load_blk (n := 3) Tryd.underlying111 rfl rfl (fun _ h => h.1) info_cu rfl) (by assumption) ?_
    try simp only [Act.put, List.setIfInBounds_toArray, List.set_cons_zero, List.set_cons_succ]
    refine wpAnyH_ready (rs := [2]) (by kernel_rfl) (by simp) ?_
    refine AllReadyH.cons (by simp only [List.getElem?_toArray, List.getElem?_cons_succ, List.getElem?_cons_zero]; rfl) (fun K hK => ?_) AllReadyH.nil
    refine step_store_blk (n := 5) (cells := Cv.cells Cv.zero) (by rfl) (by rfl) HBv.out.drew info_val rfl rfl (cv_one _) ?_
    intro w9 hb9 hg9 hz9
    have HGB9 := hide hg9
    have HBv9 := hide hb9
    have HBr9 := hide (HBr.out.drew.own hg9 (fun k e => by injection e with e; omega))
    have HG9 := hide (HG.out.drew.grown hg9 (fun k e => by injection e with e; omega))
    have HS9 := hide (And.intro (HBc.out.drew.own hg9 (fun k e => by injection e with e; omega)) HTR.out)
    clear hb9 hg9
    refine hK _ _ (HS9.out) (fun hHeld => ?_)
    clear hK K
    try simp only [Act.put, List.setIfInBounds_toArray, List.set_cons_zero, List.set_cons_succ]
    refine wpAnyH_ready (rs := [3]) (by kernel_rfl) (by simp) ?_
    refine AllReadyH.cons (by simp only [List.getElem?_toArray, List.getElem?_cons_succ, List.getElem?_cons_zero]; rfl) (fun K hK => ?_) AllReadyH.nil
    refine step_store_blk (n := 3) (cells := cuV bk o bs.length cap q1 false) (by rfl) (by rfl) HBr9.out info_cu rfl rfl (cuV_one _ _ _ _ _ _) ?_
    intro w10 hb10 hg10 hz10
    have HBr10 := hide hb10
    have HBv10 := hide (HBv9.out.own hg10 (fun k e => by injection e with e; omega))
    have HG10 := hide (HG9.out.grown hg10 (fun k e => by injection e with e; omega))
    have HGB10 := hide hg10
    refine hK _ _ (And.intro (HS9.out.1.own hg10 (fun k e => by injection e with e; omega)) HTR.out) (fun hHeld => ?_)
    clear hK K
    try simp only [Act.put, List.setIfInBounds_toArray, List.set_cons_zero, List.set_cons_succ]
    refine wpAnyH_done (by kernel_rfl) ?_ _
    refine NoPanic.normal ?_
    go_wp2_with fail
    refine bodyPost_ret (val_results rfl rfl rfl HBv10.out HBr10.out) rfl ?_
    exact RValC.bad (pval_bad1 HS1.out) hq1 HG10.out

set_option maxRecDepth 100000 in
set_option maxHeartbeats 3200000 in
theorem rmay_any (bk o cap : Nat) (bs : List UInt8) (st : Option (List UInt8)) (cv : Array Value) (w : World) (hl : bs.length ≤ 12000) (hc : bs.length < cap) (hb : InB w (some ⟨bk, o, none⟩) bs) (hr : CuR bk o cap bs st cv) :
    Calls Tryd.prog 70 #[.agg cv, .bool true] w (RValC pMay bk o cap bs st w) := by
  have HB := hide hb
  clear hb
  obtain ⟨q0, hq0, rfl, hst0⟩ := hr
  have HST := hide (show CuR bk o cap bs st _ from ⟨q0, hq0, rfl, hst0⟩)
  generalize hok : st.isSome = ok at HST ⊢
  have HBc := hide (((Blk.new w 111 (cuV bk o bs.length cap q0 ok)).alloc (.cells Cv.zero.cells 27)).alloc (.cells zero3 111))
  have HBv := hide ((show Blk ((w.alloc (.cells (cuV bk o bs.length cap q0 ok) 111)).alloc (.cells Cv.zero.cells 27)) (w.heap.size + 1) 27 Cv.zero.cells from Blk.new' (by simp) _ _).alloc (.cells zero3 111))
  have HBr := hide (show Blk (((w.alloc (.cells (cuV bk o bs.length cap q0 ok) 111)).alloc (.cells Cv.zero.cells 27)).alloc (.cells zero3 111)) (w.heap.size + 2) 111 zero3 from Blk.new' (by simp) _ _)
  have HG := hide ((((Grow.refl w).alloc (.cells (cuV bk o bs.length cap q0 ok) 111)).alloc (.cells Cv.zero.cells 27)).alloc (.cells zero3 111))
  have HTR := hide True.intro
  obtain ⟨k, hk⟩ : ∃ k, numO 1 st = k := ⟨_, rfl⟩
  have hk2 : k < 256 := by have := numO_lt 1 st; rw [hk] at this; exact this
  have HK := hide hk
  clear hst0 hok hk
  go_enter Tryd.func70, Tryd.ntmps70
  go_wp2_with fail
  refine (rnum_any bk o cap bs 1 (by omega) (by omega) st _ _ hl hc (HB.out.grow HG.out) HST.out).mono ?_
  rintro e w0 ⟨cv0, rfl, hr0, hg0⟩
  rw [HK.out]
  have hbc := HBc.out.grow hg0
  have hbv := HBv.out.grow hg0
  have hbr := HBr.out.grow hg0
  have hgg := HG.out.trans hg0
  clear hg0 HBc HBv HBr HG
  have HBc := hide hbc
  have HBv := hide hbv
  have HBr := hide hbr
  have HG := hide hgg
  have hz : w.heap.size + 2 < w0.heap.size := hbr.lt
  have hc1 := hbc.cell
  have hf1 := hbc.frozen
  clear hbv hbr hgg
  rcases hr0.open with ⟨q2, hq2, hs2, rfl⟩ | ⟨q2, hq2, hs2, rfl⟩
  · have HS2 := hide hs2
    clear hs2 hr0
    have hal := (Grow.refl w0).alloc (.cells (cuV bk o bs.length cap q2 true) 111)
    have hbc6 := HBc.out.grow hal
    have hbv6 := HBv.out.grow hal
    have hbr6 := HBr.out.grow hal
    have hgg6 := HG.out.trans hal
    clear HBv HBr HG HBc hc1 hf1 hbc
    have HBc := hide hbc6
    have HBv := hide hbv6
    have HBr := hide hbr6
    have HG := hide hgg6
    have hbc := hbc6
    have hc1 := hbc.cell
    have hf1 := hbc.frozen
    clear hbc6 hbv6 hbr6 hgg6 hal
    by_cases hk1 : 1 < k
    · have hd1 : decide ((1 : Int) < (k : Int)) = true := by simp; omega
      have hd0 : ((k : Int) == 0) = false := by simp; omega
      go_wp2_with ((with_reducible refine wpl_set3 hbc (fun w2 hb3 hg2 => ?_)); (have hbc2 := hb3); (have hg22 := hg2); (clear hb3 hg2 hc1 hf1 hbc); (have hc1 := hbc2.cell); (have hf1 := hbc2.frozen))
      refine code_set1 hbc2 (fun w4 hb7 hg4 => ?_)
      have hbv2 := HBv.out.own hg22 (fun k e => by injection e with e; omega)
      have hbr2 := HBr.out.own hg22 (fun k e => by injection e with e; omega)
      have hgg2 := HG.out.grown hg22 (fun k e => by injection e with e; omega)
      clear HBv HBr HG HBc hg22 hbc2 hc1 hf1
      have HBv := hide (hbv2.own hg4 (fun k e => by injection e with e; omega))
      have HBr := hide (hbr2.own hg4 (fun k e => by injection e with e; omega))
      have HG := hide (hgg2.grown hg4 (fun k e => by injection e with e; omega))
      have HBc := hide hb7
      clear hbv2 hbr2 hgg2 hg4 hb7
      refine wp_region_noPanic ?_
      refine wp_region_held_drew (S := fun W => Blk W w.heap.size 111 (cuV bk o bs.length cap q2 false) ∧ True) (by kernel_rfl) ⟨HBc.out.drew, HTR.out⟩ (fun hHeld => ?_)
      refine wpAnyH_take (i := 0) (v := ?_) (by simp only [List.getElem?_toArray, List.getElem?_cons_succ, List.getElem?_cons_zero]; rfl) (by kernel_rfl) (by kernel_rfl) (by kernel_rfl) (fun _ _ _ h => h) (Or.inl ⟨by rfl, ?_⟩) (by assumption) ?_
      rotate_left 1
      · (intro w hSw; (try dsimp only at hSw); go_simp; try with_reducible rfl)
      try simp only [Act.put, List.setIfInBounds_toArray, List.set_cons_zero, List.set_cons_succ]
      refine wpAnyH_take (i := 1) (v := .agg (cuV bk o bs.length cap q2 false)) (by simp only [List.getElem?_toArray, List.getElem?_cons_succ, List.getElem?_cons_zero]; rfl) (by kernel_rfl) (by kernel_rfl) (by kernel_rfl) (fun _ _ _ h => h) (yields_load_blk (n := 3) Tryd.underlying111 rfl rfl (fun _ h => h.1) info_cu rfl) (by assumption) ?_
      try simp only [Act.put, List.setIfInBounds_toArray, List.set_cons_zero, List.set_cons_succ]
      refine wpAnyH_ready (rs := [2]) (by kernel_rfl) (by simp) ?_
      refine AllReadyH.cons (by simp only [List.getElem?_toArray, List.getElem?_cons_succ, List.getElem?_cons_zero]; rfl) (fun K hK => ?_) AllReadyH.nil
      refine step_store_blk (n := 5) (cells := Cv.cells Cv.zero) (by rfl) (by rfl) HBv.out.drew info_val rfl rfl (cv_one _) ?_
      intro w9 hb9 hg9 hz9
      have HGB9 := hide hg9
      have HBv9 := hide hb9
      have HBr9 := hide (HBr.out.drew.own hg9 (fun k e => by injection e with e; omega))
      have HG9 := hide (HG.out.drew.grown hg9 (fun k e => by injection e with e; omega))
      have HS9 := hide (And.intro (HBc.out.drew.own hg9 (fun k e => by injection e with e; omega)) HTR.out)
      clear hb9 hg9
      refine hK _ _ (HS9.out) (fun hHeld => ?_)
      clear hK K
      try simp only [Act.put, List.setIfInBounds_toArray, List.set_cons_zero, List.set_cons_succ]
      refine wpAnyH_ready (rs := [3]) (by kernel_rfl) (by simp) ?_
      refine AllReadyH.cons (by simp only [List.getElem?_toArray, List.getElem?_cons_succ, List.getElem?_cons_zero]; rfl) (fun K hK => ?_) AllReadyH.nil
      refine step_store_blk (n := 3) (cells := cuV bk o bs.length cap q2 false) (by rfl) (by rfl) HBr9.out info_cu rfl rfl (cuV_one _ _ _ _ _ _) ?_
      intro w10 hb10 hg10 hz10
      have HBr10 := hide hb10
      have HBv10 := hide (HBv9.out.own hg10 (fun k e => by injection e with e; omega))
      have HG10 := hide (HG9.out.grown hg10 (fun k e => by injection e with e; omega))
      have HGB10 := hide hg10
      refine hK _ _ (And.intro (HS9.out.1.own hg10 (fun k e => by injection e with e; omega)) HTR.out) (fun hHeld => ?_)
      clear hK K
      try simp only [Act.put, List.setIfInBounds_toArray, List.set_cons_zero, List.set_cons_succ]
      refine wpAnyH_done (by kernel_rfl) ?_ _
      refine NoPanic.normal ?_
      go_wp2_with fail
      refine bodyPost_ret (val_results rfl rfl rfl HBv10.out HBr10.out) rfl ?_
      exact RValC.bad (pmay_bad2 HS2.out (by rw [HK.out]; exact hk1)) hq2 HG10.out
    · have hd1 : decide ((1 : Int) < (k : Int)) = false := by simp; omega
      have hk01 : k = 0 ∨ k = 1 := by omega
      rcases hk01 with rfl | rfl
      · go_wp2_with fail
        refine code_set3 hbc (fun w4 hb7 hg4 => ?_)
        have hbv := HBv.out.own hg4 (fun k e => by injection e with e; omega)
        have hbr := HBr.out.own hg4 (fun k e => by injection e with e; omega)
        have hgg := HG.out.grown hg4 (fun k e => by injection e with e; omega)
        clear HBc HBv HBr HG hc1 hf1 hbc hg4
        have HBc := hide hb7
        have HBv := hide hbv
        have HBr := hide hbr
        have HG := hide hgg
        clear hbv hbr hgg
        clear hb7
        refine wp_region_noPanic ?_
        refine wp_region_held_drew (S := fun W => Blk W w.heap.size 111 (cuV bk o bs.length cap q2 true) ∧ True) (by kernel_rfl) ⟨HBc.out.drew, HTR.out⟩ (fun hHeld => ?_)
        refine wpAnyH_take (i := 0) (v := ?_) (by simp only [List.getElem?_toArray, List.getElem?_cons_succ, List.getElem?_cons_zero]; rfl) (by kernel_rfl) (by kernel_rfl) (by kernel_rfl) (fun _ _ _ h => h) (Or.inl ⟨by rfl, ?_⟩) (by assumption) ?_
        rotate_left 1
        · (intro w hSw; (try dsimp only at hSw); go_simp; try with_reducible rfl)
        try simp only [Act.put, List.setIfInBounds_toArray, List.set_cons_zero, List.set_cons_succ]
        refine wpAnyH_take (i := 1) (v := .agg (cuV bk o bs.length cap q2 true)) (by simp only [List.getElem?_toArray, List.getElem?_cons_succ, List.getElem?_cons_zero]; rfl) (by kernel_rfl) (by kernel_rfl) (by kernel_rfl) (fun _ _ _ h => h) (yields_load_blk (n := 3) Tryd.underlying111 rfl rfl (fun _ h => h.1) info_cu rfl) (by assumption) ?_
        try simp only [Act.put, List.setIfInBounds_toArray, List.set_cons_zero, List.set_cons_succ]
        refine wpAnyH_ready (rs := [2]) (by kernel_rfl) (by simp) ?_
        refine AllReadyH.cons (by simp only [List.getElem?_toArray, List.getElem?_cons_succ, List.getElem?_cons_zero]; rfl) (fun K hK => ?_) AllReadyH.nil
        refine step_store_blk (n := 5) (cells := Cv.cells Cv.zero) (by rfl) (by rfl) HBv.out.drew info_val rfl rfl (cv_one _) ?_
        intro w9 hb9 hg9 hz9
        have HGB9 := hide hg9
        have HBv9 := hide hb9
        have HBr9 := hide (HBr.out.drew.own hg9 (fun k e => by injection e with e; omega))
        have HG9 := hide (HG.out.drew.grown hg9 (fun k e => by injection e with e; omega))
        have HS9 := hide (And.intro (HBc.out.drew.own hg9 (fun k e => by injection e with e; omega)) HTR.out)
        clear hb9 hg9
        refine hK _ _ (HS9.out) (fun hHeld => ?_)
        clear hK K
        try simp only [Act.put, List.setIfInBounds_toArray, List.set_cons_zero, List.set_cons_succ]
        refine wpAnyH_ready (rs := [3]) (by kernel_rfl) (by simp) ?_
        refine AllReadyH.cons (by simp only [List.getElem?_toArray, List.getElem?_cons_succ, List.getElem?_cons_zero]; rfl) (fun K hK => ?_) AllReadyH.nil
        refine step_store_blk (n := 3) (cells := cuV bk o bs.length cap q2 true) (by rfl) (by rfl) HBr9.out info_cu rfl rfl (cuV_one _ _ _ _ _ _) ?_
        intro w10 hb10 hg10 hz10
        have HBr10 := hide hb10
        have HBv10 := hide (HBv9.out.own hg10 (fun k e => by injection e with e; omega))
        have HG10 := hide (HG9.out.grown hg10 (fun k e => by injection e with e; omega))
        have HGB10 := hide hg10
        refine hK _ _ (And.intro (HS9.out.1.own hg10 (fun k e => by injection e with e; omega)) HTR.out) (fun hHeld => ?_)
        clear hK K
        try simp only [Act.put, List.setIfInBounds_toArray, List.set_cons_zero, List.set_cons_succ]
        refine wpAnyH_done (by kernel_rfl) ?_ _
        refine NoPanic.normal ?_
        go_wp2_with fail
        refine bodyPost_ret (val_results rfl rfl rfl HBv10.out HBr10.out) rfl ?_
        exact RValC.good (pmay_zero HS2.out HK.out) hq2 (InS.zero _) HG10.out
      · have hd0 : (((1 : Nat) : Int) == 0) = false := by decide
        obtain ⟨n, hn⟩ : ∃ n, numO 2 (some (bs.drop q2)) = n := ⟨_, rfl⟩
        have hn2 : n < 65536 := by have := numO_lt 2 (some (bs.drop q2)); rw [hn] at this; exact this
        have HN2 := hide hn
        have HST2 := hide (show CuR bk o cap bs (some (bs.drop q2)) (cuV bk o bs.length cap q2 true) from CuR.yes hq2 rfl)
        have HPM := hide (pmay_one HS2.out HK.out)
        clear hn
        go_wp2_with fail
        refine calls_set3 hbc (fun w2 hb3 hg2 => ?_)
        have hbv := HBv.out.own hg2 (fun k e => by injection e with e; omega)
        have hbr := HBr.out.own hg2 (fun k e => by injection e with e; omega)
        have hgg := HG.out.grown hg2 (fun k e => by injection e with e; omega)
        clear HBc HBv HBr HG hc1 hf1 hbc hg2
        have HBc := hide hb3
        have HBv := hide hbv
        have HBr := hide hbr
        have HG := hide hgg
        clear hbv hbr hgg
        clear hb3
        refine (rnum_any bk o cap bs 2 (by omega) (by omega) (some (bs.drop q2)) _ _ hl hc (HB.out.grow HG.out) HST2.out).mono ?_
        rintro e w1 ⟨cv1, rfl, hr1, hg1⟩
        rw [HN2.out]
        have hbc := HBc.out.grow hg1
        have hbv := HBv.out.grow hg1
        have hbr := HBr.out.grow hg1
        have hgg := HG.out.trans hg1
        clear hg1 HBc HBv HBr HG
        have HBc := hide hbc
        have HBv := hide hbv
        have HBr := hide hbr
        have HG := hide hgg
        have hz : w.heap.size + 2 < w1.heap.size := hbr.lt
        have hc1 := hbc.cell
        have hf1 := hbc.frozen
        clear hbv hbr hgg
        rcases hr1.open with ⟨q1, hq1, hs1, rfl⟩ | ⟨q1, hq1, hs1, rfl⟩
        · have HS1 := hide hs1
          clear hs1 hr1
          by_cases hfit : q1 + n ≤ bs.length
          · go_wp2_with fail
            refine calls_set3 hbc (fun w2 hb3 hg2 => ?_)
            have hbv := HBv.out.own hg2 (fun k e => by injection e with e; omega)
            have hbr := HBr.out.own hg2 (fun k e => by injection e with e; omega)
            have hgg := HG.out.grown hg2 (fun k e => by injection e with e; omega)
            clear HBc HBv HBr HG hc1 hf1 hbc hg2
            have HBc := hide hb3
            have HBv := hide hbv
            have HBr := hide hbr
            have HG := hide hgg
            clear hbv hbr hgg
            clear hb3
            refine (rtake_ok bk o bs.length cap q1 n w2 hl hc hfit).mono ?_
            rintro e w3 ⟨rfl, hg3⟩
            have hbc := HBc.out.grow hg3
            have hbv := HBv.out.grow hg3
            have hbr := HBr.out.grow hg3
            have hgg := HG.out.trans hg3
            clear hg3 HBc HBv HBr HG
            have HBc := hide hbc
            have HBv := hide hbv
            have HBr := hide hbr
            have HG := hide hgg
            have hz : w.heap.size + 2 < w3.heap.size := hbr.lt
            have hc1 := hbc.cell
            have hf1 := hbc.frozen
            clear hbv hbr hgg
            go_wp2_with fail
            refine calls_set3 hbc (fun w4 hb7 hg4 => ?_)
            have hbv := HBv.out.own hg4 (fun k e => by injection e with e; omega)
            have hbr := HBr.out.own hg4 (fun k e => by injection e with e; omega)
            have hgg := HG.out.grown hg4 (fun k e => by injection e with e; omega)
            clear HBc HBv HBr HG hc1 hf1 hbc hg4
            have HBc := hide hb7
            have HBv := hide hbv
            have HBr := hide hbr
            have HG := hide hgg
            clear hbv hbr hgg
            clear hb7
            have hz4 : w.heap.size + 2 < w4.heap.size := HBr.out.lt
            have hxl : ((bs.drop q1).take n).length = n := by rw [List.length_take, List.length_drop]; omega
            have hget := refGetAll_any ((bs.drop q1).take n) (some ⟨bk, o + q1, none⟩) (cap - q1) w4 ((HB.out.grow HG.out).mid q1 n) (by omega) (by omega)
            rw [hxl] at hget
            have HGET := hide hget
            clear hget
            cases hx : rdAll ((bs.drop q1).take n) with
            | error x =>
              rw [hx] at HGET
              have hx0 : (x != 0) = true := by simpa using rdAll_err0 hx
              have HXX := hide hx
              clear hx
              refine HGET.out.mono ?_
              rintro e w5 ⟨rfl, hg5⟩
              have hbc := HBc.out.grow hg5
              have hbv := HBv.out.grow hg5
              have hbr := HBr.out.grow hg5
              have hgg := HG.out.trans hg5
              clear hg5 HBc HBv HBr HG
              have HBc := hide hbc
              have HBv := hide hbv
              have HBr := hide hbr
              have HG := hide hgg
              have hz : w.heap.size + 2 < w5.heap.size := hbr.lt
              have hc1 := hbc.cell
              have hf1 := hbc.frozen
              clear hbv hbr hgg
              have hal := (Grow.refl w5).alloc (.cells Cv.zero.cells 27)
              have hbc6 := hbc.grow hal
              have hc6 := hbc6.cell
              have hf6 := hbc6.frozen
              have hbv6 := HBv.out.grow hal
              have hbr6 := HBr.out.grow hal
              have hgg6 := HG.out.trans hal
              clear HBv HBr HG HBc
              have HBv := hide hbv6
              have HBr := hide hbr6
              have HG := hide hgg6
              have HBX := hide (Blk.new w5 27 Cv.zero.cells)
              clear hbv6 hbr6 hgg6 hal hbc hc1 hf1
              have hbc := hbc6
              have hc1 : True := trivial
              have hf1 : True := trivial
              have HBc : True := trivial
              go_wp2_with fail
              refine code_set1 hbc6 (fun w7 hb7 hg7 => ?_)
              have HBX7 := hide (HBX.out.own hg7 (fun k e => by injection e with e; omega))
              clear hc6 hf6 hbc6
              have hbv := HBv.out.own hg7 (fun k e => by injection e with e; omega)
              have hbr := HBr.out.own hg7 (fun k e => by injection e with e; omega)
              have hgg := HG.out.grown hg7 (fun k e => by injection e with e; omega)
              clear HBc HBv HBr HG hc1 hf1 hbc hg7
              have HBc := hide hb7
              have HBv := hide hbv
              have HBr := hide hbr
              have HG := hide hgg
              clear hbv hbr hgg
              clear hb7
              refine wp_region_noPanic ?_
              refine wp_region_held_drew (S := fun W => Blk W w.heap.size 111 (cuV bk o bs.length cap (q1 + n) false) ∧ Blk W w5.heap.size 27 Cv.zero.cells) (by kernel_rfl) ⟨HBc.out.drew, HBX7.out.drew⟩ (fun hHeld => ?_)
              refine wpAnyH_take (i := 0) (v := Cv.agg Cv.zero) (by simp only [List.getElem?_toArray, List.getElem?_cons_succ, List.getElem?_cons_zero]; rfl) (by kernel_rfl) (by kernel_rfl) (by kernel_rfl) (fun _ _ _ h => h) (yields_load_blk (n := 5) Tryd.underlying27 rfl rfl (fun _ h => h.2) info_val rfl) (by assumption) ?_
              try simp only [Act.put, List.setIfInBounds_toArray, List.set_cons_zero, List.set_cons_succ]
              refine wpAnyH_take (i := 1) (v := .agg (cuV bk o bs.length cap (q1 + n) false)) (by simp only [List.getElem?_toArray, List.getElem?_cons_succ, List.getElem?_cons_zero]; rfl) (by kernel_rfl) (by kernel_rfl) (by kernel_rfl) (fun _ _ _ h => h) (yields_load_blk (n := 3) Tryd.underlying111 rfl rfl (fun _ h => h.1) info_cu rfl) (by assumption) ?_
              try simp only [Act.put, List.setIfInBounds_toArray, List.set_cons_zero, List.set_cons_succ]
              refine wpAnyH_ready (rs := [2]) (by kernel_rfl) (by simp) ?_
              refine AllReadyH.cons (by simp only [List.getElem?_toArray, List.getElem?_cons_succ, List.getElem?_cons_zero]; rfl) (fun K hK => ?_) AllReadyH.nil
              refine step_store_blk (n := 5) (cells := Cv.cells Cv.zero) (by rfl) (by rfl) HBv.out.drew info_val rfl rfl (cv_one _) ?_
              intro w9 hb9 hg9 hz9
              have HGB9 := hide hg9
              have HBv9 := hide hb9
              have HBr9 := hide (HBr.out.drew.own hg9 (fun k e => by injection e with e; omega))
              have HG9 := hide (HG.out.drew.grown hg9 (fun k e => by injection e with e; omega))
              have HS9 := hide (And.intro (HBc.out.drew.own hg9 (fun k e => by injection e with e; omega)) (HBX7.out.drew.own hg9 (fun k e => by injection e with e; omega)))
              clear hb9 hg9
              refine hK _ _ (HS9.out) (fun hHeld => ?_)
              clear hK K
              try simp only [Act.put, List.setIfInBounds_toArray, List.set_cons_zero, List.set_cons_succ]
              refine wpAnyH_ready (rs := [3]) (by kernel_rfl) (by simp) ?_
              refine AllReadyH.cons (by simp only [List.getElem?_toArray, List.getElem?_cons_succ, List.getElem?_cons_zero]; rfl) (fun K hK => ?_) AllReadyH.nil
              refine step_store_blk (n := 3) (cells := cuV bk o bs.length cap (q1 + n) false) (by rfl) (by rfl) HBr9.out info_cu rfl rfl (cuV_one _ _ _ _ _ _) ?_
              intro w10 hb10 hg10 hz10
              have HBr10 := hide hb10
              have HBv10 := hide (HBv9.out.own hg10 (fun k e => by injection e with e; omega))
              have HG10 := hide (HG9.out.grown hg10 (fun k e => by injection e with e; omega))
              have HGB10 := hide hg10
              refine hK _ _ (And.intro (HS9.out.1.own hg10 (fun k e => by injection e with e; omega)) (HS9.out.2.own hg10 (fun k e => by injection e with e; omega))) (fun hHeld => ?_)
              clear hK K
              try simp only [Act.put, List.setIfInBounds_toArray, List.set_cons_zero, List.set_cons_succ]
              refine wpAnyH_done (by kernel_rfl) ?_ _
              refine NoPanic.normal ?_
              go_wp2_with fail
              refine bodyPost_ret (val_results rfl rfl rfl HBv10.out HBr10.out) rfl ?_
              exact RValC.bad (HPM.out.trans (pval_bad3 HS1.out HN2.out hfit HXX.out)) hfit HG10.out
            | ok v =>
              rw [hx] at HGET
              have HXX := hide hx
              clear hx
              refine HGET.out.mono ?_
              rintro e w5 ⟨c, rfl, hin5, hg5⟩
              have HIN := hide hin5
              clear hin5
              have hbc := HBc.out.grow hg5
              have hbv := HBv.out.grow hg5
              have hbr := HBr.out.grow hg5
              have hgg := HG.out.trans hg5
              clear hg5 HBc HBv HBr HG
              have HBc := hide hbc
              have HBv := hide hbv
              have HBr := hide hbr
              have HG := hide hgg
              have hz : w.heap.size + 2 < w5.heap.size := hbr.lt
              have hc1 := hbc.cell
              have hf1 := hbc.frozen
              clear hbv hbr hgg
              have hal := (Grow.refl w5).alloc (.cells c.cells 27)
              have hbc6 := HBc.out.grow hal
              have hbv6 := HBv.out.grow hal
              have hbr6 := HBr.out.grow hal
              have hgg6 := HG.out.trans hal
              clear HBv HBr HG HBc hc1 hf1 hbc
              have HBc := hide hbc6
              have HBv := hide hbv6
              have HBr := hide hbr6
              have HG := hide hgg6
              have HBX := hide (Blk.new w5 27 c.cells)
              have HIN6 := hide (HIN.out.grow hal)
              clear hbc6 hbv6 hbr6 hgg6
              go_wp2_with fail
              generalize hW6 : w5.alloc (.cells _ 27) = w6 at HBc HBv HBr HG HBX HIN6 hal ⊢
              have hz6 : w5.heap.size < w6.heap.size := HBX.out.lt
              clear hW6 hal
              refine wp_region_noPanic ?_
              refine wp_region_held_drew (S := fun W => Blk W w.heap.size 111 (cuV bk o bs.length cap (q1 + n) true) ∧ Blk W w5.heap.size 27 c.cells) (by kernel_rfl) ⟨HBc.out.drew, HBX.out.drew⟩ (fun hHeld => ?_)
              refine wpAnyH_take (i := 0) (v := Cv.agg c) (by simp only [List.getElem?_toArray, List.getElem?_cons_succ, List.getElem?_cons_zero]; rfl) (by kernel_rfl) (by kernel_rfl) (by kernel_rfl) (fun _ _ _ h => h) (yields_load_blk (n := 5) Tryd.underlying27 rfl rfl (fun _ h => h.2) info_val rfl) (by assumption) ?_
              try simp only [Act.put, List.setIfInBounds_toArray, List.set_cons_zero, List.set_cons_succ]
              refine wpAnyH_take (i := 1) (v := .agg (cuV bk o bs.length cap (q1 + n) true)) (by simp only [List.getElem?_toArray, List.getElem?_cons_succ, List.getElem?_cons_zero]; rfl) (by kernel_rfl) (by kernel_rfl) (by kernel_rfl) (fun _ _ _ h => h) (yields_load_blk (n := 3) Tryd.underlying111 rfl rfl (fun _ h => h.1) info_cu rfl) (by assumption) ?_
              try simp only [Act.put, List.setIfInBounds_toArray, List.set_cons_zero, List.set_cons_succ]
              refine wpAnyH_ready (rs := [2]) (by kernel_rfl) (by simp) ?_
              refine AllReadyH.cons (by simp only [List.getElem?_toArray, List.getElem?_cons_succ, List.getElem?_cons_zero]; rfl) (fun K hK => ?_) AllReadyH.nil
              refine step_store_blk (n := 5) (cells := Cv.cells c) (by rfl) (by rfl) HBv.out.drew info_val rfl rfl (cv_one _) ?_
              intro w9 hb9 hg9 hz9
              have HGB9 := hide hg9
              have HBv9 := hide hb9
              have HBr9 := hide (HBr.out.drew.own hg9 (fun k e => by injection e with e; omega))
              have HG9 := hide (HG.out.drew.grown hg9 (fun k e => by injection e with e; omega))
              have HS9 := hide (And.intro (HBc.out.drew.own hg9 (fun k e => by injection e with e; omega)) (HBX.out.drew.own hg9 (fun k e => by injection e with e; omega)))
              clear hb9 hg9
              refine hK _ _ (HS9.out) (fun hHeld => ?_)
              clear hK K
              try simp only [Act.put, List.setIfInBounds_toArray, List.set_cons_zero, List.set_cons_succ]
              refine wpAnyH_ready (rs := [3]) (by kernel_rfl) (by simp) ?_
              refine AllReadyH.cons (by simp only [List.getElem?_toArray, List.getElem?_cons_succ, List.getElem?_cons_zero]; rfl) (fun K hK => ?_) AllReadyH.nil
              refine step_store_blk (n := 3) (cells := cuV bk o bs.length cap (q1 + n) true) (by rfl) (by rfl) HBr9.out info_cu rfl rfl (cuV_one _ _ _ _ _ _) ?_
              intro w10 hb10 hg10 hz10
              have HBr10 := hide hb10
              have HBv10 := hide (HBv9.out.own hg10 (fun k e => by injection e with e; omega))
              have HG10 := hide (HG9.out.grown hg10 (fun k e => by injection e with e; omega))
              have HGB10 := hide hg10
              refine hK _ _ (And.intro (HS9.out.1.own hg10 (fun k e => by injection e with e; omega)) (HS9.out.2.own hg10 (fun k e => by injection e with e; omega))) (fun hHeld => ?_)
              clear hK K
              try simp only [Act.put, List.setIfInBounds_toArray, List.set_cons_zero, List.set_cons_succ]
              refine wpAnyH_done (by kernel_rfl) ?_ _
              refine NoPanic.normal ?_
              go_wp2_with fail
              refine bodyPost_ret (val_results rfl rfl rfl HBv10.out HBr10.out) rfl ?_
              have hfin := InS.own2 (w0 := w) HIN6.out hz4 HGB9.out HGB10.out
              exact RValC.good (HPM.out.trans (pval_good HS1.out HN2.out hfit HXX.out)) hfit hfin HG10.out
          · obtain ⟨m, hm⟩ : ∃ m, min n 16 = m := ⟨_, rfl⟩
            go_wp2_with fail
            refine calls_set3 hbc (fun w2 hb3 hg2 => ?_)
            have hbv := HBv.out.own hg2 (fun k e => by injection e with e; omega)
            have hbr := HBr.out.own hg2 (fun k e => by injection e with e; omega)
            have hgg := HG.out.grown hg2 (fun k e => by injection e with e; omega)
            clear HBc HBv HBr HG hc1 hf1 hbc hg2
            have HBc := hide hb3
            have HBv := hide hbv
            have HBr := hide hbr
            have HG := hide hgg
            clear hbv hbr hgg
            clear hb3
            refine (rtake_no bk o bs.length cap q1 n true w2 hl (by omega) m hm hq1 (fun _ => by omega)).mono ?_
            rintro e w3 ⟨g3, hgl, rfl, hi3, hg3⟩
            have hbc := HBc.out.grow hg3
            have hbv := HBv.out.grow hg3
            have hbr := HBr.out.grow hg3
            have hgg := HG.out.trans hg3
            clear hg3 HBc HBv HBr HG
            have HBc := hide hbc
            have HBv := hide hbv
            have HBr := hide hbr
            have HG := hide hgg
            have hz : w.heap.size + 2 < w3.heap.size := hbr.lt
            have hc1 := hbc.cell
            have hf1 := hbc.frozen
            clear hbv hbr hgg
            clear hi3
            go_wp2_with fail
            refine code_set3 hbc (fun w4 hb7 hg4 => ?_)
            have hbv := HBv.out.own hg4 (fun k e => by injection e with e; omega)
            have hbr := HBr.out.own hg4 (fun k e => by injection e with e; omega)
            have hgg := HG.out.grown hg4 (fun k e => by injection e with e; omega)
            clear HBc HBv HBr HG hc1 hf1 hbc hg4
            have HBc := hide hb7
            have HBv := hide hbv
            have HBr := hide hbr
            have HG := hide hgg
            clear hbv hbr hgg
            clear hb7
            refine wp_region_noPanic ?_
            refine wp_region_held_drew (S := fun W => Blk W w.heap.size 111 (cuV bk o bs.length cap q1 false) ∧ True) (by kernel_rfl) ⟨HBc.out.drew, HTR.out⟩ (fun hHeld => ?_)
            refine wpAnyH_take (i := 0) (v := ?_) (by simp only [List.getElem?_toArray, List.getElem?_cons_succ, List.getElem?_cons_zero]; rfl) (by kernel_rfl) (by kernel_rfl) (by kernel_rfl) (fun _ _ _ h => h) (Or.inl ⟨by rfl, ?_⟩) (by assumption) ?_
            rotate_left 1
            · (intro w hSw; (try dsimp only at hSw); go_simp; try with_reducible rfl)
            try simp only [Act.put, List.setIfInBounds_toArray, List.set_cons_zero, List.set_cons_succ]
            refine wpAnyH_take (i := 1) (v := .agg (cuV bk o bs.length cap q1 false)) (by simp only [List.getElem?_toArray, List.getElem?_cons_succ, List.getElem?_cons_zero]; rfl) (by kernel_rfl) (by kernel_rfl) (by kernel_rfl) (fun _ _ _ h => h) (yields_load_blk (n := 3) Tryd.underlying111 rfl rfl (fun _ h => h.1) info_cu rfl) (by assumption) ?_
            try simp only [Act.put, List.setIfInBounds_toArray, List.set_cons_zero, List.set_cons_succ]
            refine wpAnyH_ready (rs := [2]) (by kernel_rfl) (by simp) ?_
            refine AllReadyH.cons (by simp only [List.getElem?_toArray, List.getElem?_cons_succ, List.getElem?_cons_zero]; rfl) (fun K hK => ?_) AllReadyH.nil
            refine step_store_blk (n := 5) (cells := Cv.cells Cv.zero) (by rfl) (by rfl) HBv.out.drew info_val rfl rfl (cv_one _) ?_
            intro w9 hb9 hg9 hz9
            have HGB9 := hide hg9
            have HBv9 := hide hb9
            have HBr9 := hide (HBr.out.drew.own hg9 (fun k e => by injection e with e; omega))
            have HG9 := hide (HG.out.drew.grown hg9 (fun k e => by injection e with e; omega))
            have HS9 := hide (And.intro (HBc.out.drew.own hg9 (fun k e => by injection e with e; omega)) HTR.out)
            clear hb9 hg9
            refine hK _ _ (HS9.out) (fun hHeld => ?_)
            clear hK K
            try simp only [Act.put, List.setIfInBounds_toArray, List.set_cons_zero, List.set_cons_succ]
            refine wpAnyH_ready (rs := [3]) (by kernel_rfl) (by simp) ?_
            refine AllReadyH.cons (by simp only [List.getElem?_toArray, List.getElem?_cons_succ, List.getElem?_cons_zero]; rfl) (fun K hK => ?_) AllReadyH.nil
            refine step_store_blk (n := 3) (cells := cuV bk o bs.length cap q1 false) (by rfl) (by rfl) HBr9.out info_cu rfl rfl (cuV_one _ _ _ _ _ _) ?_
            intro w10 hb10 hg10 hz10
            have HBr10 := hide hb10
            have HBv10 := hide (HBv9.out.own hg10 (fun k e => by injection e with e; omega))
            have HG10 := hide (HG9.out.grown hg10 (fun k e => by injection e with e; omega))
            have HGB10 := hide hg10
            refine hK _ _ (And.intro (HS9.out.1.own hg10 (fun k e => by injection e with e; omega)) HTR.out) (fun hHeld => ?_)
            clear hK K
            try simp only [Act.put, List.setIfInBounds_toArray, List.set_cons_zero, List.set_cons_succ]
            refine wpAnyH_done (by kernel_rfl) ?_ _
            refine NoPanic.normal ?_
            go_wp2_with fail
            refine bodyPost_ret (val_results rfl rfl rfl HBv10.out HBr10.out) rfl ?_
            exact RValC.bad (HPM.out.trans (pval_bad2 HS1.out HN2.out (by omega) hq1)) hq1 HG10.out
        · have HS1 := hide hs1
          clear hs1 hr1
          obtain rfl : n = 0 := by have := numO_bad HS1.out; rw [HN2.out] at this; exact this
          obtain ⟨m, hm⟩ : ∃ m, min 0 16 = m := ⟨_, rfl⟩
          go_wp2_with fail
          refine calls_set3 hbc (fun w2 hb3 hg2 => ?_)
          have hbv := HBv.out.own hg2 (fun k e => by injection e with e; omega)
          have hbr := HBr.out.own hg2 (fun k e => by injection e with e; omega)
          have hgg := HG.out.grown hg2 (fun k e => by injection e with e; omega)
          clear HBc HBv HBr HG hc1 hf1 hbc hg2
          have HBc := hide hb3
          have HBv := hide hbv
          have HBr := hide hbr
          have HG := hide hgg
          clear hbv hbr hgg
          clear hb3
          refine (rtake_no bk o bs.length cap q1 0 false w2 hl (by omega) m hm hq1 (fun h => by cases h)).mono ?_
          rintro e w3 ⟨g3, hgl, rfl, hi3, hg3⟩
          have hbc := HBc.out.grow hg3
          have hbv := HBv.out.grow hg3
          have hbr := HBr.out.grow hg3
          have hgg := HG.out.trans hg3
          clear hg3 HBc HBv HBr HG
          have HBc := hide hbc
          have HBv := hide hbv
          have HBr := hide hbr
          have HG := hide hgg
          have hz : w.heap.size + 2 < w3.heap.size := hbr.lt
          have hc1 := hbc.cell
          have hf1 := hbc.frozen
          clear hbv hbr hgg
          clear hi3
          go_wp2_with fail
          refine code_set3 hbc (fun w4 hb7 hg4 => ?_)
          have hbv := HBv.out.own hg4 (fun k e => by injection e with e; omega)
          have hbr := HBr.out.own hg4 (fun k e => by injection e with e; omega)
          have hgg := HG.out.grown hg4 (fun k e => by injection e with e; omega)
          clear HBc HBv HBr HG hc1 hf1 hbc hg4
          have HBc := hide hb7
          have HBv := hide hbv
          have HBr := hide hbr
          have HG := hide hgg
          clear hbv hbr hgg
          clear hb7
          refine wp_region_noPanic ?_
          refine wp_region_held_drew (S := fun W => Blk W w.heap.size 111 (cuV bk o bs.length cap q1 false) ∧ True) (by kernel_rfl) ⟨HBc.out.drew, HTR.out⟩ (fun hHeld => ?_)
          refine wpAnyH_take (i := 0) (v := ?_) (by simp only [List.getElem?_toArray, List.getElem?_cons_succ, List.getElem?_cons_zero]; rfl) (by kernel_rfl) (by kernel_rfl) (by kernel_rfl) (fun _ _ _ h => h) (Or.inl ⟨by rfl, ?_⟩) (by assumption) ?_
          rotate_left 1
          · (intro w hSw; (try dsimp only at hSw); go_simp; try with_reducible rfl)
          try simp only [Act.put, List.setIfInBounds_toArray, List.set_cons_zero, List.set_cons_succ]
          refine wpAnyH_take (i := 1) (v := .agg (cuV bk o bs.length cap q1 false)) (by simp only [List.getElem?_toArray, List.getElem?_cons_succ, List.getElem?_cons_zero]; rfl) (by kernel_rfl) (by kernel_rfl) (by kernel_rfl) (fun _ _ _ h => h) (yields_load_blk (n := 3) Tryd.underlying111 rfl rfl (fun _ h => h.1) info_cu rfl) (by assumption) ?_
          try simp only [Act.put, List.setIfInBounds_toArray, List.set_cons_zero, List.set_cons_succ]
          refine wpAnyH_ready (rs := [2]) (by kernel_rfl) (by simp) ?_
          refine AllReadyH.cons (by simp only [List.getElem?_toArray, List.getElem?_cons_succ, List.getElem?_cons_zero]; rfl) (fun K hK => ?_) AllReadyH.nil
          refine step_store_blk (n := 5) (cells := Cv.cells Cv.zero) (by rfl) (by rfl) HBv.out.drew info_val rfl rfl (cv_one _) ?_
          intro w9 hb9 hg9 hz9
          have HGB9 := hide hg9
          have HBv9 := hide hb9
          have HBr9 := hide (HBr.out.drew.own hg9 (fun k e => by injection e with e; omega))
          have HG9 := hide (HG.out.drew.grown hg9 (fun k e => by injection e with e; omega))
          have HS9 := hide (And.intro (HBc.out.drew.own hg9 (fun k e => by injection e with e; omega)) HTR.out)
          clear hb9 hg9
          refine hK _ _ (HS9.out) (fun hHeld => ?_)
          clear hK K
          try simp only [Act.put, List.setIfInBounds_toArray, List.set_cons_zero, List.set_cons_succ]
          refine wpAnyH_ready (rs := [3]) (by kernel_rfl) (by simp) ?_
          refine AllReadyH.cons (by simp only [List.getElem?_toArray, List.getElem?_cons_succ, List.getElem?_cons_zero]; rfl) (fun K hK => ?_) AllReadyH.nil
          refine step_store_blk (n := 3) (cells := cuV bk o bs.length cap q1 false) (by rfl) (by rfl) HBr9.out info_cu rfl rfl (cuV_one _ _ _ _ _ _) ?_
          intro w10 hb10 hg10 hz10
          have HBr10 := hide hb10
          have HBv10 := hide (HBv9.out.own hg10 (fun k e => by injection e with e; omega))
          have HG10 := hide (HG9.out.grown hg10 (fun k e => by injection e with e; omega))
          have HGB10 := hide hg10
          refine hK _ _ (And.intro (HS9.out.1.own hg10 (fun k e => by injection e with e; omega)) HTR.out) (fun hHeld => ?_)
          clear hK K
          try simp only [Act.put, List.setIfInBounds_toArray, List.set_cons_zero, List.set_cons_succ]
          refine wpAnyH_done (by kernel_rfl) ?_ _
          refine NoPanic.normal ?_
          go_wp2_with fail
          refine bodyPost_ret (val_results rfl rfl rfl HBv10.out HBr10.out) rfl ?_
          exact RValC.bad (HPM.out.trans (pval_bad1 HS1.out)) hq1 HG10.out
  · have HS2 := hide hs2
    clear hs2 hr0
    obtain rfl : k = 0 := by have := numO_bad HS2.out; rw [HK.out] at this; exact this
    have hal := (Grow.refl w0).alloc (.cells (cuV bk o bs.length cap q2 false) 111)
    have hbc6 := HBc.out.grow hal
    have hbv6 := HBv.out.grow hal
    have hbr6 := HBr.out.grow hal
    have hgg6 := HG.out.trans hal
    clear HBv HBr HG HBc hc1 hf1 hbc
    have HBc := hide hbc6
    have HBv := hide hbv6
    have HBr := hide hbr6
    have HG := hide hgg6
    have hbc := hbc6
    have hc1 := hbc.cell
    have hf1 := hbc.frozen
    clear hbc6 hbv6 hbr6 hgg6 hal
    go_wp2_with fail
    refine code_set3 hbc (fun w4 hb7 hg4 => ?_)
    have hbv := HBv.out.own hg4 (fun k e => by injection e with e; omega)
    have hbr := HBr.out.own hg4 (fun k e => by injection e with e; omega)
    have hgg := HG.out.grown hg4 (fun k e => by injection e with e; omega)
    clear HBc HBv HBr HG hc1 hf1 hbc hg4
    have HBc := hide hb7
    have HBv := hide hbv
    have HBr := hide hbr
    have HG := hide hgg
    clear hbv hbr hgg
    clear hb7
    refine wp_region_noPanic ?_
    refine wp_region_held_drew (S := fun W => Blk W w.heap.size 111 (cuV bk o bs.length cap q2 false) ∧ True) (by kernel_rfl) ⟨HBc.out.drew, HTR.out⟩ (fun hHeld => ?_)
    refine wpAnyH_take (i := 0) (v := ?_) (by simp only [List.getElem?_toArray, List.getElem?_cons_succ, List.getElem?_cons_zero]; rfl) (by kernel_rfl) (by kernel_rfl) (by kernel_rfl) (fun _ _ _ h => h) (Or.inl ⟨by rfl, ?_⟩) (by assumption) ?_
    rotate_left 1
    · (intro w hSw; (try dsimp only at hSw); go_simp; try with_reducible rfl)
    try simp only [Act.put, List.setIfInBounds_toArray, List.set_cons_zero, List.set_cons_succ]
    refine wpAnyH_take (i := 1) (v := .agg (cuV bk o bs.length cap q2 false)) (by simp only [List.getElem?_toArray, List.getElem?_cons_succ, List.getElem?_cons_zero]; rfl) (by kernel_rfl) (by kernel_rfl) (by kernel_rfl) (fun _ _ _ h => h) (yields_load_blk (n := 3) Tryd.underlying111 rfl rfl (fun _ h => h.1) info_cu rfl) (by assumption) ?_
    try simp only [Act.put, List.setIfInBounds_toArray, List.set_cons_zero, List.set_cons_succ]
    refine wpAnyH_ready (rs := [2]) (by kernel_rfl) (by simp) ?_
    refine AllReadyH.cons (by simp only [List.getElem?_toArray, List.getElem?_cons_succ, List.getElem?_cons_zero]; rfl) (fun K hK => ?_) AllReadyH.nil
    refine step_store_blk (n := 5) (cells := Cv.cells Cv.zero) (by rfl) (by rfl) HBv.out.drew info_val rfl rfl (cv_one _) ?_
    intro w9 hb9 hg9 hz9
    have HGB9 := hide hg9
    have HBv9 := hide hb9
    have HBr9 := hide (HBr.out.drew.own hg9 (fun k e => by injection e with e; omega))
    have HG9 := hide (HG.out.drew.grown hg9 (fun k e => by injection e with e; omega))
    have HS9 := hide (And.intro (HBc.out.drew.own hg9 (fun k e => by injection e with e; omega)) HTR.out)
    clear hb9 hg9
    refine hK _ _ (HS9.out) (fun hHeld => ?_)
    clear hK K
    try simp only [Act.put, List.setIfInBounds_toArray, List.set_cons_zero, List.set_cons_succ]
    refine wpAnyH_ready (rs := [3]) (by kernel_rfl) (by simp) ?_
    refine AllReadyH.cons (by simp only [List.getElem?_toArray, List.getElem?_cons_succ, List.getElem?_cons_zero]; rfl) (fun K hK => ?_) AllReadyH.nil
    refine step_store_blk (n := 3) (cells := cuV bk o bs.length cap q2 false) (by rfl) (by rfl) HBr9.out info_cu rfl rfl (cuV_one _ _ _ _ _ _) ?_
    intro w10 hb10 hg10 hz10
    have HBr10 := hide hb10
    have HBv10 := hide (HBv9.out.own hg10 (fun k e => by injection e with e; omega))
    have HG10 := hide (HG9.out.grown hg10 (fun k e => by injection e with e; omega))
    have HGB10 := hide hg10
    refine hK _ _ (And.intro (HS9.out.1.own hg10 (fun k e => by injection e with e; omega)) HTR.out) (fun hHeld => ?_)
    clear hK K
    try simp only [Act.put, List.setIfInBounds_toArray, List.set_cons_zero, List.set_cons_succ]
    refine wpAnyH_done (by kernel_rfl) ?_ _
    refine NoPanic.normal ?_
    go_wp2_with fail
    refine bodyPost_ret (val_results rfl rfl rfl HBv10.out HBr10.out) rfl ?_
    exact RValC.bad (pmay_bad1 HS2.out) hq2 HG10.out
end Go.Proofs.YthjjmndjfoebgaaDoor
