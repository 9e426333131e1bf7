/- Walks: wire.read, GetRequest: the frame's body, read to its end. Written by wip/tools/gen_getw.py. · Walk: two equal requests, held against one another. Written by wip/tools/gen_same.py. -/
import Derived.Test.YtcdbchifigonpaaDoorRequest
import Derived.Test.YtcdbchifigonpaaDoorCurA
import Derived.Test.YtcdbchifigonpaaDoorFrames
import Derived.Deep.RegionLaw
import Derived.Test.YtcdbchifigonpaaDoorPutQ
import Derived.Test.YtcdbchifigonpaaDoorWAwake
set_option linter.unusedVariables false
set_option linter.unusedSimpArgs false
namespace Go.Proofs.YtcdbchifigonpaaDoor
open Go.RowKit Go.Shelf

theorem readQ_results {W : World} {vb eb : Nat} {tmps : Array Value} {cs : Array Value} {m e : Int} (h4 : tmps.getD 4 undef = .pointer (some ⟨vb, 0, none⟩)) (h5 : tmps.getD 5 undef = .int .i64 m) (h6 : tmps.getD 6 undef = .pointer (some ⟨eb, 0, none⟩)) (hn : cs.size = 26) (hv : Blk W vb 39 cs) (he : Blk W eb 26 #[.int .i64 e]) :
    (results Tryd.f34 tmps).run Tryd.prog W = .ok (.tuple #[.agg cs, .int .i64 m, .int .i64 e]) W := by
  have hec := he.cell
  have hl := run_loadVar_row (P := Tryd.prog) W vb 39 39 cs (0, 0) _ hv Tryd.underlying39 rfl (by rw [hn]; exact info_rQ)
  have hle : (loadVar 26 ⟨eb, 0, none⟩).run Tryd.prog W = .ok (.int .i64 e) W := by simp [loadVar, go_sem, hec]
  have h4' : tmps[4]?.getD undef = .pointer (some ⟨vb, 0, none⟩) := by simpa using h4
  have h5' : tmps[5]?.getD undef = .int .i64 m := by simpa using h5
  have h6' : tmps[6]?.getD undef = .pointer (some ⟨eb, 0, none⟩) := by simpa using h6
  simp [results, Tryd.results34, h4', h5', h6', asAddr, hl, hle]

/-- What a reading of bytes tells. -/
def GotQ (w : World) (got : Rq × Nat × Int) (e : Ending) (w' : World) : Prop :=
  ∃ u, e = .returned (.tuple #[u, .int .i64 (got.2.1 : Nat), .int .i64 got.2.2]) ∧ RetRq w got.1 u w' ∧ Grow w w'
theorem GotQ.of {w w' : World} {q : Rq} {n : Nat} {x : Int} {got : Rq × Nat × Int} {u : Value} (h : got = (q, n, x)) (hr : RetRq w q u w') (hg : Grow w w') : GotQ w got (.returned (.tuple #[u, .int .i64 n, .int .i64 x])) w' := by
  subst h; exact ⟨u, rfl, hr, hg⟩
section
variable {P : Program} {ops : Array Oper} {a : Act} {w : World} {K : Act → World → Prop} {Q : Exit → Act → World → Prop} {E : Prop}
end
theorem getQ_bad {b : List UInt8} {n : Nat} {e : Int} (h : head b = (n, e)) (he : e ≠ 0) : getReq b = (Rq.zero, n, e) := by
  unfold getReq getOf
  rw [h, if_pos he]
theorem getQ_none {b body : List UInt8} {n : Nat} (h : head b = (n, 0)) (hb : (b.drop 4).take (n - 8) = body) (hp : pReq body = none) : getReq b = (Rq.zero, n, 4) := by
  unfold getReq getOf
  rw [h, if_neg (by simp)]
  simp only
  rw [hb, hp]
theorem getQ_some {b body r : List UInt8} {q : Rq} {n : Nat} (h : head b = (n, 0)) (hb : (b.drop 4).take (n - 8) = body) (hp : pReq body = some (q, r)) : getReq b = if r = [] then (q, n, 0) else (Rq.zero, n, 4) := by
  unfold getReq getOf
  rw [h, if_neg (by simp)]
  simp only
  rw [hb, hp]

set_option maxRecDepth 100000 in
set_option maxHeartbeats 3200000 in
theorem readQ_any (b : List UInt8) (A : Option Addr) (cap : Nat) (w : World) (hT : Tabs w) (hb : InB w A b) (hl : b.length ≤ 140737488400000) (hcap : b.length ≤ cap) :
    Calls Tryd.prog 34 #[.slice A b.length cap, .func (.func 35) #[] #[]] w (GotQ w (getReq b)) := by
  have hmf : ∀ (fn : Fn) (first cap : Array Value) (w : World), (Instr.makeFunc fn first cap).run Tryd.prog w = .ok (.func fn first cap) w := fun _ _ _ _ => rfl
  have hG2 := ((Grow.refl w).alloc (.cells zeroQ 39)).alloc (.cells #[.int .i64 0] 26)
  have HV2 := hide ((Blk.new w 39 zeroQ).alloc (.cells #[.int .i64 0] 26))
  have HE2 := hide (show Blk ((w.alloc (.cells zeroQ 39)).alloc (.cells #[.int .i64 0] 26)) (w.heap.size + 1) 26 #[.int .i64 0] from Blk.new' (by simp) _ _)
  have HC := hide (frame_any b A cap _ (hb.grow hG2) hl hcap)
  have HG2 := hide hG2
  have HT := hide hT
  have hTl := hT.lt
  have HB0 := hide hb
  clear hT hb hG2
  go_enter_defers Tryd.func34, Tryd.ntmps34
  go_wp2_with fail
  refine HC.out.mono ?_
  rintro e w3 ⟨A3, m, rfl, hg3, hok⟩
  obtain ⟨nn, hn⟩ : ∃ n, head b = n := ⟨_, rfl⟩
  obtain ⟨n, e⟩ := nn
  rw [hn] at hok ⊢
  simp only at hok ⊢
  have HN := hide hn
  have HG3 := hide (HG2.out.trans hg3)
  have HV3 := hide (HV2.out.grow hg3)
  have hE3 := HE2.out.grow hg3
  have HE3 := hide hE3
  have hec := hE3.cell
  have hef := hE3.frozen
  clear hg3 hn HV2 HE2 HG2 HC hE3
  by_cases he : e = 0
  · subst he
    obtain ⟨hm, hbl, hin⟩ := hok rfl
    obtain ⟨body, hbody⟩ : ∃ body, (b.drop 4).take (n - 8) = body := ⟨_, rfl⟩
    have hin := hin w HB0.out
    rw [hbody] at hbl hin
    have HBODY := hide hbody
    have HIN := hide hin
    have HBL := hide hbl
    clear hok hm hbody hin
    have hg4 := (grown_set w3 (w.heap.size + 1) 0 (.int .i64 0))
    have hal := (Grow.refl (w3.setCell ⟨w.heap.size + 1, 0, none⟩ (.int .i64 0))).alloc (.cells #[.slice A3 m m] 98)
    have hw3 : w.heap.size + 1 < w3.heap.size := HE3.out.lt
    have hsz : (w3.setCell ⟨w.heap.size + 1, 0, none⟩ (.int .i64 0)).heap.size = w3.heap.size := by simp [World.setCell]
    obtain ⟨W4, hW4⟩ : ∃ W, W = (w3.setCell ⟨w.heap.size + 1, 0, none⟩ (.int .i64 0)).alloc (.cells #[.slice A3 m m] 98) := ⟨_, rfl⟩
    have HV4 := hide (show Blk W4 w.heap.size 39 zeroQ by rw [hW4]; exact (HV3.out.own hg4 (fun k e => by injection e with e; omega)).grow hal)
    have HE4 := hide (show Blk W4 (w.heap.size + 1) 26 #[.int .i64 0] by rw [hW4]; exact (HE3.out.set_ 0 (.int .i64 0)).grow hal)
    have hG4 : Grow w W4 := by rw [hW4]; exact (HG3.out.setCell (p := ⟨w.heap.size + 1, 0, none⟩) (by simp) (.int .i64 0)).trans hal
    have hz4 : W4.heap.size = w3.heap.size + 1 := by rw [hW4]; simp [World.setCell]
    have hCu : Cu W4 w3.heap.size body := by
      refine ⟨A3, m, ?_, by omega, by rw [hbl]; have := congrArg List.length HBODY.out; rw [List.length_take, List.length_drop] at this; omega, ?_⟩
      · rw [hbl, hW4]; exact Blk.new' hsz.symm _ _
      · exact Reads.mono (AtW.below hG4.below (Nat.le_refl _) (Nat.le_refl _) (by omega)) HIN.out
    have HC := hide (wrequest_any w3.heap.size body W4 (HT.out.grow hG4) (by omega) hCu)
    have HG4 := hide hG4
    have HW4 := hide hW4
    rw [HBL.out] at hbl
    clear hg4 hal hsz hG4 hCu hW4 HV3 HE3 HG3
    go_wp2_with fail
    rw [← HW4.out]
    clear hec hef
    refine HC.out.mono ?_
    intro e w5 h5
    cases hp : pReq body with
    | none =>
      rw [hp] at h5
      obtain ⟨rfl, hg⟩ := h5
      have HQ := hide (getQ_none HN.out HBODY.out hp)
      have HV5 := hide (HV4.out.own hg (fun k e => by injection e with e; omega))
      have HE5 := hide (HE4.out.own hg (fun k e => by injection e with e; omega))
      have HG5 := hide (HG4.out.grown hg (fun k e => by injection e with e; omega))
      clear hp hg
      go_wp2_with fail
      refine leaves_cons (f := 55) (args := #[.pointer (some ⟨w.heap.size, 0, none⟩), .pointer (some ⟨w.heap.size + 1, 0, none⟩)]) (by simp) (by simp [go_sem]) ?_
      refine (catchQ_panicking w.heap.size (w.heap.size + 1) 4 zeroQ _ [] _ HV5.out rfl HE5.out (by omega)).mono ?_
      rintro r u' w'' ⟨rfl, rfl, hcg⟩
      exact ⟨_, readQ_results rfl rfl rfl rfl hcg.vb hcg.eb, GotQ.of HQ.out (RetRq.zero _ _) (hcg.grow HG5.out (by omega) (by omega))⟩
    | some xr =>
      obtain ⟨q, r⟩ := xr
      rw [hp] at h5
      obtain ⟨u, rfl, hret, hcu, hg⟩ := h5
      have HQ := hide (getQ_some HN.out HBODY.out hp)
      have HV5 := hide (HV4.out.own hg (fun k e => by injection e with e; omega))
      have HE5 := hide (HE4.out.own hg (fun k e => by injection e with e; omega))
      have HG5 := hide (HG4.out.grown hg (fun k e => by injection e with e; omega))
      have HRET := hide hret
      obtain ⟨cs, rfl, hcs, hone⟩ := hret.cells
      have HCS := hide hcs
      have HONE := hide hone
      obtain ⟨A', c', hb', _, _, _⟩ := hcu
      have HCB := hide hb'
      have hs5 : w.heap.size + 1 < w3.heap.size := hw3
      have hz5 : w3.heap.size < w5.heap.size := hb'.lt
      clear hp hg hret hcs hone hb'
      cases r with
      | nil =>
        go_wp2_with (with_reducible refine at_store 39 ?_; refine store_blk (g := w.heap.size) (n := 26) (cells := cs) rfl rfl HV5.out info_rQ rfl HCS.out HONE.out ?_; intro W6 hB6 hg6 hz6; have hpb6 := HCB.out.own hg6 (fun k e => by injection e with e; omega); have hpc := hpb6.cell; have HB6 := hide hB6; have HG6 := hide hg6; clear hB6 hg6 hpb6)
        refine (wmust_yes _).mono ?_
        rintro e w7 ⟨rfl, rfl⟩
        go_wp2_with (first
          | (with_reducible refine at_load 39 ?_; refine load_blk (g := w.heap.size) (n := 26) (cells := cs) Tryd.underlying39 rfl rfl HB6.out info_rQ HCS.out ?_)
          | (with_reducible refine at_store 39 ?_; refine store_blk (g := w.heap.size) (n := 26) (cells := cs) rfl rfl HB6.out info_rQ HCS.out HCS.out HONE.out ?_; intro W8 hB8 hg8 hz8; have hE8 := (HE5.out.own HG6.out (fun k e => by injection e with e; omega)).own hg8 (fun k e => by injection e with e; omega); have hec := hE8.cell; have hef := hE8.frozen; have HB8 := hide hB8; have HG8 := hide hg8; have HE8 := hide hE8; clear hB8 hg8 hE8))
        refine leaves_cons (f := 55) (args := #[.pointer (some ⟨w.heap.size, 0, none⟩), .pointer (some ⟨w.heap.size + 1, 0, none⟩)]) (by simp) (by simp [go_sem]) ?_
        refine (catchQ_idle w.heap.size (w.heap.size + 1) _).mono ?_
        rintro r u' w'' ⟨rfl, rfl, rfl⟩
        have hg9 := grown_set W8 (w.heap.size + 1) 0 (.int .i64 0)
        refine ⟨_, readQ_results rfl rfl rfl HCS.out (HB8.out.own hg9 (fun k e => by injection e with e; omega)) (HE8.out.set_ 0 _), GotQ.of (HQ.out.trans (if_pos (by trivial))) (HRET.out.move HG4.out.size (by rw [← hz6, ← hz8]; exact hg9.size) (fun k h1 h2 => ?_)) (((HG5.out.grown HG6.out (fun k e => by injection e with e; omega)).grown HG8.out (fun k e => by injection e with e; omega)).grown hg9 (fun k e => by injection e with e; omega))⟩
        rw [hg9.block k (by omega) (fun e => by injection e with e; omega), HG8.out.block k (by omega) (fun e => by injection e with e; omega), HG6.out.block k (by omega) (fun e => by injection e with e; omega)]
      | cons x r' =>
        have hnz : ((r'.length : Int) + 1 == 0) = false := by simp; omega
        go_wp2_with (with_reducible refine at_store 39 ?_; refine store_blk (g := w.heap.size) (n := 26) (cells := cs) rfl rfl HV5.out info_rQ rfl HCS.out HONE.out ?_; intro W6 hB6 hg6 hz6; have hpb6 := HCB.out.own hg6 (fun k e => by injection e with e; omega); have hpc := hpb6.cell; have HB6 := hide hB6; have HG6 := hide hg6; clear hB6 hg6 hpb6)
        refine (wmust_no _).mono ?_
        rintro e w7 ⟨rfl, rfl⟩
        go_wp2_with fail
        refine leaves_cons (f := 55) (args := #[.pointer (some ⟨w.heap.size, 0, none⟩), .pointer (some ⟨w.heap.size + 1, 0, none⟩)]) (by simp) (by simp [go_sem]) ?_
        refine (catchQ_panicking w.heap.size (w.heap.size + 1) 4 cs _ [] _ HB6.out HCS.out (HE5.out.own HG6.out (fun k e => by injection e with e; omega)) (by omega)).mono ?_
        rintro r u' w'' ⟨rfl, rfl, hcg⟩
        exact ⟨_, readQ_results rfl rfl rfl rfl hcg.vb hcg.eb, GotQ.of (HQ.out.trans (if_neg (by simp))) (RetRq.zero _ _) (hcg.grow (HG5.out.grown HG6.out (fun k e => by injection e with e; omega)) (by omega) (by omega))⟩
  · have hne : (e == 0) = false := by simpa using he
    have HQ := hide (getQ_bad HN.out he)
    have hw3 : w.heap.size + 1 < w3.heap.size := HE3.out.lt
    have hg4 := grown_set w3 (w.heap.size + 1) 0 (.int .i64 e)
    clear hok he
    go_wp2_with fail
    have HV4 := hide (HV3.out.own hg4 (fun k e => by injection e with e; omega))
    have HE4 := hide (HE3.out.set_ 0 (.int .i64 e))
    have HG4 := hide (HG3.out.grown hg4 (fun k e => by injection e with e; omega))
    clear hg4 hec hef
    generalize w3.setCell ⟨w.heap.size + 1, 0, none⟩ (.int .i64 e) = W4 at HV4 HE4 HG4 ⊢
    have hec := HE4.out.cell
    have hef := HE4.out.frozen
    refine wp_region_noPanic ?_
    refine wp_region_held_drew (S := fun W => Blk W w.heap.size 39 zeroQ ∧ Blk W (w.heap.size + 1) 26 #[.int .i64 e]) (by kernel_rfl) ⟨HV4.out.drew, HE4.out.drew⟩ (fun hHeld => ?_)
    refine wpAnyH_take (i := 0) (v := .agg zeroQ) (by simp only [List.getElem?_toArray, List.getElem?_cons_succ, List.getElem?_cons_zero]; rfl) (by kernel_rfl) (by kernel_rfl) (by kernel_rfl) (fun _ _ _ h => h) (yields_load_blk (g := w.heap.size) (n := 26) Tryd.underlying39 rfl rfl (fun _ h => h.1) info_rQ rfl) (by assumption) ?_
    try simp only [Act.put, List.setIfInBounds_toArray, List.set_cons_zero, List.set_cons_succ]
    refine wpAnyH_take (i := 1) (v := ?_) (by simp only [List.getElem?_toArray, List.getElem?_cons_succ, List.getElem?_cons_zero]; rfl) (by kernel_rfl) (by kernel_rfl) (by kernel_rfl) (fun _ _ _ h => h) (Or.inl ⟨by rfl, ?_⟩) (by assumption) ?_
    rotate_left 1
    · (intro w hSw; go_simp; try with_reducible rfl)
    try simp only [Act.put, List.setIfInBounds_toArray, List.set_cons_zero, List.set_cons_succ]
    refine wpAnyH_take (i := 2) (v := ?_) (by simp only [List.getElem?_toArray, List.getElem?_cons_succ, List.getElem?_cons_zero]; rfl) (by kernel_rfl) (by kernel_rfl) (by kernel_rfl) (fun _ _ _ h => h) (Or.inl ⟨by rfl, ?_⟩) (by assumption) ?_
    rotate_left 1
    · (intro w hSw; have hc0 := hSw.2.cell; go_simp; try with_reducible rfl)
    try simp only [Act.put, List.setIfInBounds_toArray, List.set_cons_zero, List.set_cons_succ]
    refine wpAnyH_ready (rs := [3]) (by kernel_rfl) (by simp) ?_
    refine AllReadyH.cons (by simp only [List.getElem?_toArray, List.getElem?_cons_succ, List.getElem?_cons_zero]; rfl) (fun K hK => ?_) AllReadyH.nil
    replace hK := hide hK
    refine step_store_blk (g := w.heap.size) (n := 26) (cells := zeroQ) rfl rfl HV4.out.drew info_rQ rfl rfl zeroQ_one (fun W5 hB5 hg5 hz5 => ?_)
    have HE5 := hide (HE4.out.drew.own hg5 (fun k e => by injection e with e; omega))
    have HB5 := hide hB5
    have HG5 := hide (HG4.out.drew.grown hg5 (fun k e => by injection e with e; omega))
    refine hK.out _ _ ⟨hB5, HE5.out⟩ (fun hHeld => ?_)
    clear hK K hB5 hg5
    try simp only [Act.put, List.setIfInBounds_toArray, List.set_cons_zero, List.set_cons_succ]
    refine wpAnyH_take (i := 4) (v := ?_) (by simp only [List.getElem?_toArray, List.getElem?_cons_succ, List.getElem?_cons_zero]; rfl) (by kernel_rfl) (by kernel_rfl) (by kernel_rfl) (fun _ _ _ h => h) (Or.inl ⟨by rfl, ?_⟩) (by assumption) ?_
    rotate_left 1
    · (intro w hSw; go_simp; try with_reducible rfl)
    try simp only [Act.put, List.setIfInBounds_toArray, List.set_cons_zero, List.set_cons_succ]
    refine wpAnyH_ready (rs := [5]) (by kernel_rfl) (by simp) ?_
    refine AllReadyH.cons (by simp only [List.getElem?_toArray, List.getElem?_cons_succ, List.getElem?_cons_zero]; rfl) (fun K hK => ?_) AllReadyH.nil
    replace hK := hide hK
    have hec5 := HE5.out.cell
    have hef5 := HE5.out.frozen
    go_simp
    have hg6 := grown_set W5 (w.heap.size + 1) 0 (.int .i64 e)
    have HB6 := hide (HB5.out.own hg6 (fun k e => by injection e with e; omega))
    have HE6 := hide (HE5.out.set_ 0 (.int .i64 e))
    have HG6 := hide (HG5.out.grown hg6 (fun k e => by injection e with e; omega))
    refine hK.out _ _ ⟨HB6.out, HE6.out⟩ (fun hHeld => ?_)
    clear hK K hec5 hef5 hg6 hHeld
    try simp only [Act.put, List.setIfInBounds_toArray, List.set_cons_zero, List.set_cons_succ]
    refine wpAnyH_done (by kernel_rfl) ?_ _
    refine NoPanic.normal ?_
    go_wp2_with fail
    exact ⟨_, readQ_results rfl rfl rfl rfl HB6.out HE6.out, GotQ.of HQ.out (RetRq.zero _ _) HG6.out⟩
theorem getQ_results {W : World} {vb : Nat} {tmps : Array Value} {cs : Array Value} {m e : Int} (h2 : tmps.getD 2 undef = .pointer (some ⟨vb, 0, none⟩)) (h3 : tmps.getD 3 undef = .int .i64 m) (h4 : tmps.getD 4 undef = .int .i64 e) (hn : cs.size = 26) (hv : Blk W vb 39 cs) :
    (results Tryd.f11 tmps).run Tryd.prog W = .ok (.tuple #[.agg cs, .int .i64 m, .int .i64 e]) W := by
  have hl := run_loadVar_row (P := Tryd.prog) W vb 39 39 cs (0, 0) _ hv Tryd.underlying39 rfl (by rw [hn]; exact info_rQ)
  have h2' : tmps[2]?.getD undef = .pointer (some ⟨vb, 0, none⟩) := by simpa using h2
  have h3' : tmps[3]?.getD undef = .int .i64 m := by simpa using h3
  have h4' : tmps[4]?.getD undef = .int .i64 e := by simpa using h4
  simp [results, Tryd.results11, h2', h3', h4', asAddr, hl]
set_option maxRecDepth 100000 in
set_option maxHeartbeats 3200000 in
theorem getQ_any (b : List UInt8) (A : Option Addr) (cap : Nat) (w : World) (hT : Tabs w) (hb : InB w A b) (hl : b.length ≤ 140737488400000) (hcap : b.length ≤ cap) :
    Calls Tryd.prog 11 #[.slice A b.length cap] w (GotQ w (getReq b)) := by
  have hG2 := (Grow.refl w).alloc (.cells zeroQ 39)
  have HV2 := hide (Blk.new w 39 zeroQ)
  have HC := hide (readQ_any b A cap _ (hT.grow hG2) (hb.grow hG2) hl hcap)
  have HG2 := hide hG2
  clear hT hb hG2
  obtain ⟨got, hgot⟩ : ∃ g, getReq b = g := ⟨_, rfl⟩
  obtain ⟨q, n, x⟩ := got
  rw [hgot] at HC ⊢
  clear hgot
  go_enter Tryd.func11, Tryd.ntmps11
  go_wp2_with fail
  refine HC.out.mono ?_
  rintro e w3 ⟨u, rfl, hret, hg3⟩
  have HRET := hide hret
  obtain ⟨cs, rfl, hcs, hone⟩ := hret.cells
  have HCS := hide hcs
  have HONE := hide hone
  have HV3 := hide (HV2.out.grow hg3)
  have HG3 := hide (HG2.out.trans hg3)
  have hz2 : (w.alloc (.cells zeroQ 39)).heap.size = w.heap.size + 1 := by simp
  have hz3 := hg3.size
  clear hg3 hret hcs hone
  go_wp2_with (with_reducible refine at_store 39 ?_; refine store_blk (g := w.heap.size) (n := 26) (cells := cs) rfl rfl HV3.out info_rQ rfl HCS.out HONE.out ?_; intro W6 hB6 hg6 hz6; have HB6 := hide hB6; have HG6 := hide hg6; clear hB6 hg6)
  refine bodyPost_ret (getQ_results rfl rfl rfl HCS.out HB6.out) rfl (GotQ.of rfl (HRET.out.move (by rw [hz2]; omega) (by rw [hz6]; exact Nat.le_refl _) (fun k h1 h2 => HG6.out.block k h2 (fun e => by injection e with e; omega))) (HG3.out.grown HG6.out (fun k e => by injection e with e; omega)))
end Go.Proofs.YtcdbchifigonpaaDoor

set_option linter.unusedVariables false
set_option linter.unusedSimpArgs false
namespace Go.Proofs.YtcdbchifigonpaaDoor
open Go.RowKit Go.Deep Go.WideShapes

section
variable {P : Program} {ops : Array Oper} {rest : List Oper} {a : Act} {w : World} {Q : Exit → Act → World → Prop}
/-- A value out of a block's cells from an offset on, guarded. -/
theorem at_load_gv (ty : TypeId) {d : Option Tmp} {x : Operand} {t : TypeId} {p : String} {af : Array Edge} {i : Nat} {bb : Bool} (h : wpList P ops Q (⟨d, .load ty x, t, p, af, some (i, bb)⟩ :: rest) a w) : wpList P ops Q (⟨d, .load ty x, t, p, af, some (i, bb)⟩ :: rest) a w := h
theorem load_val_g {ty t tb : TypeId} {x : Operand} {d : Option Tmp} {p : String} {af : Array Edge} {g o i : Nat} {bb : Bool} {cs : Array Value} {c : Cv} {td : TypeDesc} (hw : Region.wanted ⟨d, .load ty x, t, p, af, some (i, bb)⟩ (yielded ops a.tmps) = true) (hu : P.underlying ty = some td) (hd : td.isRow = true) (hx : a.eval x = .pointer (some ⟨g, o, none⟩)) (hB : Blk w g tb cs) (hi : (P.info? ty).map (·.size) = some 5)
    (hget : ∀ j v, c.cells.toList[j]? = some v → cs[o + j]? = some v) (h : wpList P ops Q rest (a.put d c.agg) w) : wpList P ops Q (⟨d, .load ty x, t, p, af, some (i, bb)⟩ :: rest) a w := by
  show if _ then _ ∨ _ else _
  rw [if_pos hw]
  exact .inl (wp_load_mid ty x rfl g o hx c.cells.toList td (fun j v hv => by rw [hB.cell]; exact hget j v hv) hu hd hi h)
end
/-- A request lies in the world. -/
def RqIn (w : World) (q : Rq) (u : Value) : Prop := ∃ ck cl ch cx, u = .agg (rqCells q.do_ q.coll q.index q.path q.unique ck cl ch cx q.n) ∧ In w q.key ck ∧ In w q.low cl ∧ In w q.high ch ∧ In w q.doc cx
theorem RqIn.grow {w w' : World} {q : Rq} {u : Value} (h : RqIn w q u) (hg : Grow w w') : RqIn w' q u := by
  obtain ⟨ck, cl, ch, cx, rfl, h1, h2, h3, h4⟩ := h
  exact ⟨ck, cl, ch, cx, rfl, h1.grow hg, h2.grow hg, h3.grow hg, h4.grow hg⟩
theorem RqIn.zero (w : World) : RqIn w Rq.zero (.agg zeroQ) := ⟨Cv.zero, Cv.zero, Cv.zero, Cv.zero, rfl, In.zero_ w, In.zero_ w, In.zero_ w, In.zero_ w⟩

end Go.Proofs.YtcdbchifigonpaaDoor
