/- Walks: wire.read, GetReply: the frame's body, read to its end. Written by wip/tools/gen_getw.py. · Walks: two replies held against one another; the frames' awake: an empty reply there and back. -/
import Derived.Test.YtcdbchifigonpaaDoorRequest
import Derived.Test.YtcdbchifigonpaaDoorCurA
import Derived.Test.YtcdbchifigonpaaDoorFrames
import Derived.Deep.RegionLaw
import Derived.Test.YtcdbchifigonpaaDoorPutA
set_option linter.unusedVariables false
set_option linter.unusedSimpArgs false
namespace Go.Proofs.YtcdbchifigonpaaDoor
open Go.RowKit Go.Shelf

theorem readP_results {W : World} {vb eb : Nat} {tmps : Array Value} {cs : Array Value} {m e : Int} (h4 : tmps.getD 4 undef = .pointer (some ⟨vb, 0, none⟩)) (h5 : tmps.getD 5 undef = .int .i64 m) (h6 : tmps.getD 6 undef = .pointer (some ⟨eb, 0, none⟩)) (hn : cs.size = 4) (hv : Blk W vb 29 cs) (he : Blk W eb 26 #[.int .i64 e]) :
    (results Tryd.f47 tmps).run Tryd.prog W = .ok (.tuple #[.agg cs, .int .i64 m, .int .i64 e]) W := by
  have hec := he.cell
  have hl := run_loadVar_row (P := Tryd.prog) W vb 29 29 cs (0, 0) _ hv Tryd.underlying29 rfl (by rw [hn]; exact info_rP)
  have hle : (loadVar 26 ⟨eb, 0, none⟩).run Tryd.prog W = .ok (.int .i64 e) W := by simp [loadVar, go_sem, hec]
  have h4' : tmps[4]?.getD undef = .pointer (some ⟨vb, 0, none⟩) := by simpa using h4
  have h5' : tmps[5]?.getD undef = .int .i64 m := by simpa using h5
  have h6' : tmps[6]?.getD undef = .pointer (some ⟨eb, 0, none⟩) := by simpa using h6
  simp [results, Tryd.results47, h4', h5', h6', asAddr, hl, hle]

/-- What a reading of bytes tells. -/
def GotP (w : World) (got : Rp × Nat × Int) (e : Ending) (w' : World) : Prop :=
  ∃ u, e = .returned (.tuple #[u, .int .i64 (got.2.1 : Nat), .int .i64 got.2.2]) ∧ RetRp w got.1 u w' ∧ Grow w w'
theorem GotP.of {w w' : World} {q : Rp} {n : Nat} {x : Int} {got : Rp × Nat × Int} {u : Value} (h : got = (q, n, x)) (hr : RetRp w q u w') (hg : Grow w w') : GotP w got (.returned (.tuple #[u, .int .i64 n, .int .i64 x])) w' := by
  subst h; exact ⟨u, rfl, hr, hg⟩
section
variable {P : Program} {ops : Array Oper} {a : Act} {w : World} {K : Act → World → Prop} {Q : Exit → Act → World → Prop} {E : Prop}
end
theorem getP_bad {b : List UInt8} {n : Nat} {e : Int} (h : head b = (n, e)) (he : e ≠ 0) : getRep b = (Rp.zero, n, e) := by
  unfold getRep getOf
  rw [h, if_pos he]
theorem getP_none {b body : List UInt8} {n : Nat} (h : head b = (n, 0)) (hb : (b.drop 4).take (n - 8) = body) (hp : pRep body = none) : getRep b = (Rp.zero, n, 4) := by
  unfold getRep getOf
  rw [h, if_neg (by simp)]
  simp only
  rw [hb, hp]
theorem getP_some {b body r : List UInt8} {q : Rp} {n : Nat} (h : head b = (n, 0)) (hb : (b.drop 4).take (n - 8) = body) (hp : pRep body = some (q, r)) : getRep b = if r = [] then (q, n, 0) else (Rp.zero, n, 4) := by
  unfold getRep getOf
  rw [h, if_neg (by simp)]
  simp only
  rw [hb, hp]

set_option maxRecDepth 100000 in
set_option maxHeartbeats 3200000 in
theorem readP_any (b : List UInt8) (A : Option Addr) (cap : Nat) (w : World) (hT : Tabs w) (hb : InB w A b) (hl : b.length ≤ 140737488400000) (hcap : b.length ≤ cap) :
    Calls Tryd.prog 47 #[.slice A b.length cap, .func (.func 48) #[] #[]] w (GotP w (getRep b)) := by
  have hmf : ∀ (fn : Fn) (first cap : Array Value) (w : World), (Instr.makeFunc fn first cap).run Tryd.prog w = .ok (.func fn first cap) w := fun _ _ _ _ => rfl
  have hG2 := ((Grow.refl w).alloc (.cells zeroP 29)).alloc (.cells #[.int .i64 0] 26)
  have HV2 := hide ((Blk.new w 29 zeroP).alloc (.cells #[.int .i64 0] 26))
  have HE2 := hide (show Blk ((w.alloc (.cells zeroP 29)).alloc (.cells #[.int .i64 0] 26)) (w.heap.size + 1) 26 #[.int .i64 0] from Blk.new' (by simp) _ _)
  have HC := hide (frame_any b A cap _ (hb.grow hG2) hl hcap)
  have HG2 := hide hG2
  have HT := hide hT
  have hTl := hT.lt
  have HB0 := hide hb
  clear hT hb hG2
  go_enter_defers Tryd.func47, Tryd.ntmps47
  go_wp2_with fail
  refine HC.out.mono ?_
  rintro e w3 ⟨A3, m, rfl, hg3, hok⟩
  obtain ⟨nn, hn⟩ : ∃ n, head b = n := ⟨_, rfl⟩
  obtain ⟨n, e⟩ := nn
  rw [hn] at hok ⊢
  simp only at hok ⊢
  have HN := hide hn
  have HG3 := hide (HG2.out.trans hg3)
  have HV3 := hide (HV2.out.grow hg3)
  have hE3 := HE2.out.grow hg3
  have HE3 := hide hE3
  have hec := hE3.cell
  have hef := hE3.frozen
  clear hg3 hn HV2 HE2 HG2 HC hE3
  by_cases he : e = 0
  · subst he
    obtain ⟨hm, hbl, hin⟩ := hok rfl
    obtain ⟨body, hbody⟩ : ∃ body, (b.drop 4).take (n - 8) = body := ⟨_, rfl⟩
    have hin := hin w HB0.out
    rw [hbody] at hbl hin
    have HBODY := hide hbody
    have HIN := hide hin
    have HBL := hide hbl
    clear hok hm hbody hin
    have hg4 := (grown_set w3 (w.heap.size + 1) 0 (.int .i64 0))
    have hal := (Grow.refl (w3.setCell ⟨w.heap.size + 1, 0, none⟩ (.int .i64 0))).alloc (.cells #[.slice A3 m m] 98)
    have hw3 : w.heap.size + 1 < w3.heap.size := HE3.out.lt
    have hsz : (w3.setCell ⟨w.heap.size + 1, 0, none⟩ (.int .i64 0)).heap.size = w3.heap.size := by simp [World.setCell]
    obtain ⟨W4, hW4⟩ : ∃ W, W = (w3.setCell ⟨w.heap.size + 1, 0, none⟩ (.int .i64 0)).alloc (.cells #[.slice A3 m m] 98) := ⟨_, rfl⟩
    have HV4 := hide (show Blk W4 w.heap.size 29 zeroP by rw [hW4]; exact (HV3.out.own hg4 (fun k e => by injection e with e; omega)).grow hal)
    have HE4 := hide (show Blk W4 (w.heap.size + 1) 26 #[.int .i64 0] by rw [hW4]; exact (HE3.out.set_ 0 (.int .i64 0)).grow hal)
    have hG4 : Grow w W4 := by rw [hW4]; exact (HG3.out.setCell (p := ⟨w.heap.size + 1, 0, none⟩) (by simp) (.int .i64 0)).trans hal
    have hz4 : W4.heap.size = w3.heap.size + 1 := by rw [hW4]; simp [World.setCell]
    have hCu : Cu W4 w3.heap.size body := by
      refine ⟨A3, m, ?_, by omega, by rw [hbl]; have := congrArg List.length HBODY.out; rw [List.length_take, List.length_drop] at this; omega, ?_⟩
      · rw [hbl, hW4]; exact Blk.new' hsz.symm _ _
      · exact Reads.mono (AtW.below hG4.below (Nat.le_refl _) (Nat.le_refl _) (by omega)) HIN.out
    have HC := hide (wreply_any w3.heap.size body W4 (HT.out.grow hG4) (by omega) hCu)
    have HG4 := hide hG4
    have HW4 := hide hW4
    rw [HBL.out] at hbl
    clear hg4 hal hsz hG4 hCu hW4 HV3 HE3 HG3
    go_wp2_with fail
    rw [← HW4.out]
    clear hec hef
    refine HC.out.mono ?_
    intro e w5 h5
    cases hp : pRep body with
    | none =>
      rw [hp] at h5
      obtain ⟨rfl, hg⟩ := h5
      have HQ := hide (getP_none HN.out HBODY.out hp)
      have HV5 := hide (HV4.out.own hg (fun k e => by injection e with e; omega))
      have HE5 := hide (HE4.out.own hg (fun k e => by injection e with e; omega))
      have HG5 := hide (HG4.out.grown hg (fun k e => by injection e with e; omega))
      clear hp hg
      go_wp2_with fail
      refine leaves_cons (f := 69) (args := #[.pointer (some ⟨w.heap.size, 0, none⟩), .pointer (some ⟨w.heap.size + 1, 0, none⟩)]) (by simp) (by simp [go_sem]) ?_
      refine (catchP_panicking w.heap.size (w.heap.size + 1) 4 zeroP _ [] _ HV5.out rfl HE5.out (by omega)).mono ?_
      rintro r u' w'' ⟨rfl, rfl, hcg⟩
      exact ⟨_, readP_results rfl rfl rfl rfl hcg.vb hcg.eb, GotP.of HQ.out (RetRp.zero _ _) (hcg.grow HG5.out (by omega) (by omega))⟩
    | some xr =>
      obtain ⟨q, r⟩ := xr
      rw [hp] at h5
      obtain ⟨u, rfl, hret, hcu, hg⟩ := h5
      have HQ := hide (getP_some HN.out HBODY.out hp)
      have HV5 := hide (HV4.out.own hg (fun k e => by injection e with e; omega))
      have HE5 := hide (HE4.out.own hg (fun k e => by injection e with e; omega))
      have HG5 := hide (HG4.out.grown hg (fun k e => by injection e with e; omega))
      have HRET := hide hret
      obtain ⟨cs, rfl, hcs, hone⟩ := hret.cells
      have HCS := hide hcs
      have HONE := hide hone
      obtain ⟨A', c', hb', _, _, _⟩ := hcu
      have HCB := hide hb'
      have hs5 : w.heap.size + 1 < w3.heap.size := hw3
      have hz5 : w3.heap.size < w5.heap.size := hb'.lt
      clear hp hg hret hcs hone hb'
      cases r with
      | nil =>
        go_wp2_with (with_reducible refine at_store 29 ?_; refine store_blk (g := w.heap.size) (n := 4) (cells := cs) rfl rfl HV5.out info_rP rfl HCS.out HONE.out ?_; intro W6 hB6 hg6 hz6; have hpb6 := HCB.out.own hg6 (fun k e => by injection e with e; omega); have hpc := hpb6.cell; have HB6 := hide hB6; have HG6 := hide hg6; clear hB6 hg6 hpb6)
        refine (wmust_yes _).mono ?_
        rintro e w7 ⟨rfl, rfl⟩
        go_wp2_with (first
          | (with_reducible refine at_load 29 ?_; refine load_blk (g := w.heap.size) (n := 4) (cells := cs) Tryd.underlying29 rfl rfl HB6.out info_rP HCS.out ?_)
          | (with_reducible refine at_store 29 ?_; refine store_blk (g := w.heap.size) (n := 4) (cells := cs) rfl rfl HB6.out info_rP HCS.out HCS.out HONE.out ?_; intro W8 hB8 hg8 hz8; have hE8 := (HE5.out.own HG6.out (fun k e => by injection e with e; omega)).own hg8 (fun k e => by injection e with e; omega); have hec := hE8.cell; have hef := hE8.frozen; have HB8 := hide hB8; have HG8 := hide hg8; have HE8 := hide hE8; clear hB8 hg8 hE8))
        refine leaves_cons (f := 69) (args := #[.pointer (some ⟨w.heap.size, 0, none⟩), .pointer (some ⟨w.heap.size + 1, 0, none⟩)]) (by simp) (by simp [go_sem]) ?_
        refine (catchP_idle w.heap.size (w.heap.size + 1) _).mono ?_
        rintro r u' w'' ⟨rfl, rfl, rfl⟩
        have hg9 := grown_set W8 (w.heap.size + 1) 0 (.int .i64 0)
        refine ⟨_, readP_results rfl rfl rfl HCS.out (HB8.out.own hg9 (fun k e => by injection e with e; omega)) (HE8.out.set_ 0 _), GotP.of (HQ.out.trans (if_pos (by trivial))) (HRET.out.move HG4.out.size (by rw [← hz6, ← hz8]; exact hg9.size) (fun k h1 h2 => ?_)) (((HG5.out.grown HG6.out (fun k e => by injection e with e; omega)).grown HG8.out (fun k e => by injection e with e; omega)).grown hg9 (fun k e => by injection e with e; omega))⟩
        rw [hg9.block k (by omega) (fun e => by injection e with e; omega), HG8.out.block k (by omega) (fun e => by injection e with e; omega), HG6.out.block k (by omega) (fun e => by injection e with e; omega)]
      | cons x r' =>
        have hnz : ((r'.length : Int) + 1 == 0) = false := by simp; omega
        go_wp2_with (with_reducible refine at_store 29 ?_; refine store_blk (g := w.heap.size) (n := 4) (cells := cs) rfl rfl HV5.out info_rP rfl HCS.out HONE.out ?_; intro W6 hB6 hg6 hz6; have hpb6 := HCB.out.own hg6 (fun k e => by injection e with e; omega); have hpc := hpb6.cell; have HB6 := hide hB6; have HG6 := hide hg6; clear hB6 hg6 hpb6)
        refine (wmust_no _).mono ?_
        rintro e w7 ⟨rfl, rfl⟩
        go_wp2_with fail
        refine leaves_cons (f := 69) (args := #[.pointer (some ⟨w.heap.size, 0, none⟩), .pointer (some ⟨w.heap.size + 1, 0, none⟩)]) (by simp) (by simp [go_sem]) ?_
        refine (catchP_panicking w.heap.size (w.heap.size + 1) 4 cs _ [] _ HB6.out HCS.out (HE5.out.own HG6.out (fun k e => by injection e with e; omega)) (by omega)).mono ?_
        rintro r u' w'' ⟨rfl, rfl, hcg⟩
        exact ⟨_, readP_results rfl rfl rfl rfl hcg.vb hcg.eb, GotP.of (HQ.out.trans (if_neg (by simp))) (RetRp.zero _ _) (hcg.grow (HG5.out.grown HG6.out (fun k e => by injection e with e; omega)) (by omega) (by omega))⟩
  · have hne : (e == 0) = false := by simpa using he
    have HQ := hide (getP_bad HN.out he)
    have hw3 : w.heap.size + 1 < w3.heap.size := HE3.out.lt
    have hg4 := grown_set w3 (w.heap.size + 1) 0 (.int .i64 e)
    clear hok he
    go_wp2_with fail
    have HV4 := hide (HV3.out.own hg4 (fun k e => by injection e with e; omega))
    have HE4 := hide (HE3.out.set_ 0 (.int .i64 e))
    have HG4 := hide (HG3.out.grown hg4 (fun k e => by injection e with e; omega))
    clear hg4 hec hef
    generalize w3.setCell ⟨w.heap.size + 1, 0, none⟩ (.int .i64 e) = W4 at HV4 HE4 HG4 ⊢
    have hec := HE4.out.cell
    have hef := HE4.out.frozen
    refine wp_region_noPanic ?_
    refine wp_region_held_drew (S := fun W => Blk W w.heap.size 29 zeroP ∧ Blk W (w.heap.size + 1) 26 #[.int .i64 e]) (by kernel_rfl) ⟨HV4.out.drew, HE4.out.drew⟩ (fun hHeld => ?_)
    refine wpAnyH_take (i := 0) (v := .agg zeroP) (by simp only [List.getElem?_toArray, List.getElem?_cons_succ, List.getElem?_cons_zero]; rfl) (by kernel_rfl) (by kernel_rfl) (by kernel_rfl) (fun _ _ _ h => h) (yields_load_blk (g := w.heap.size) (n := 4) Tryd.underlying29 rfl rfl (fun _ h => h.1) info_rP rfl) (by assumption) ?_
    try simp only [Act.put, List.setIfInBounds_toArray, List.set_cons_zero, List.set_cons_succ]
    refine wpAnyH_take (i := 1) (v := ?_) (by simp only [List.getElem?_toArray, List.getElem?_cons_succ, List.getElem?_cons_zero]; rfl) (by kernel_rfl) (by kernel_rfl) (by kernel_rfl) (fun _ _ _ h => h) (Or.inl ⟨by rfl, ?_⟩) (by assumption) ?_
    rotate_left 1
    · (intro w hSw; go_simp; try with_reducible rfl)
    try simp only [Act.put, List.setIfInBounds_toArray, List.set_cons_zero, List.set_cons_succ]
    refine wpAnyH_take (i := 2) (v := ?_) (by simp only [List.getElem?_toArray, List.getElem?_cons_succ, List.getElem?_cons_zero]; rfl) (by kernel_rfl) (by kernel_rfl) (by kernel_rfl) (fun _ _ _ h => h) (Or.inl ⟨by rfl, ?_⟩) (by assumption) ?_
    rotate_left 1
    · (intro w hSw; have hc0 := hSw.2.cell; go_simp; try with_reducible rfl)
    try simp only [Act.put, List.setIfInBounds_toArray, List.set_cons_zero, List.set_cons_succ]
    refine wpAnyH_ready (rs := [3]) (by kernel_rfl) (by simp) ?_
    refine AllReadyH.cons (by simp only [List.getElem?_toArray, List.getElem?_cons_succ, List.getElem?_cons_zero]; rfl) (fun K hK => ?_) AllReadyH.nil
    replace hK := hide hK
    refine step_store_blk (g := w.heap.size) (n := 4) (cells := zeroP) rfl rfl HV4.out.drew info_rP rfl rfl zeroP_one (fun W5 hB5 hg5 hz5 => ?_)
    have HE5 := hide (HE4.out.drew.own hg5 (fun k e => by injection e with e; omega))
    have HB5 := hide hB5
    have HG5 := hide (HG4.out.drew.grown hg5 (fun k e => by injection e with e; omega))
    refine hK.out _ _ ⟨hB5, HE5.out⟩ (fun hHeld => ?_)
    clear hK K hB5 hg5
    try simp only [Act.put, List.setIfInBounds_toArray, List.set_cons_zero, List.set_cons_succ]
    refine wpAnyH_take (i := 4) (v := ?_) (by simp only [List.getElem?_toArray, List.getElem?_cons_succ, List.getElem?_cons_zero]; rfl) (by kernel_rfl) (by kernel_rfl) (by kernel_rfl) (fun _ _ _ h => h) (Or.inl ⟨by rfl, ?_⟩) (by assumption) ?_
    rotate_left 1
    · (intro w hSw; go_simp; try with_reducible rfl)
    try simp only [Act.put, List.setIfInBounds_toArray, List.set_cons_zero, List.set_cons_succ]
    refine wpAnyH_ready (rs := [5]) (by kernel_rfl) (by simp) ?_
    refine AllReadyH.cons (by simp only [List.getElem?_toArray, List.getElem?_cons_succ, List.getElem?_cons_zero]; rfl) (fun K hK => ?_) AllReadyH.nil
    replace hK := hide hK
    have hec5 := HE5.out.cell
    have hef5 := HE5.out.frozen
    go_simp
    have hg6 := grown_set W5 (w.heap.size + 1) 0 (.int .i64 e)
    have HB6 := hide (HB5.out.own hg6 (fun k e => by injection e with e; omega))
    have HE6 := hide (HE5.out.set_ 0 (.int .i64 e))
    have HG6 := hide (HG5.out.grown hg6 (fun k e => by injection e with e; omega))
    refine hK.out _ _ ⟨HB6.out, HE6.out⟩ (fun hHeld => ?_)
    clear hK K hec5 hef5 hg6 hHeld
    try simp only [Act.put, List.setIfInBounds_toArray, List.set_cons_zero, List.set_cons_succ]
    refine wpAnyH_done (by kernel_rfl) ?_ _
    refine NoPanic.normal ?_
    go_wp2_with fail
    exact ⟨_, readP_results rfl rfl rfl rfl HB6.out HE6.out, GotP.of HQ.out (RetRp.zero _ _) HG6.out⟩
theorem getP_results {W : World} {vb : Nat} {tmps : Array Value} {cs : Array Value} {m e : Int} (h2 : tmps.getD 2 undef = .pointer (some ⟨vb, 0, none⟩)) (h3 : tmps.getD 3 undef = .int .i64 m) (h4 : tmps.getD 4 undef = .int .i64 e) (hn : cs.size = 4) (hv : Blk W vb 29 cs) :
    (results Tryd.f26 tmps).run Tryd.prog W = .ok (.tuple #[.agg cs, .int .i64 m, .int .i64 e]) W := by
  have hl := run_loadVar_row (P := Tryd.prog) W vb 29 29 cs (0, 0) _ hv Tryd.underlying29 rfl (by rw [hn]; exact info_rP)
  have h2' : tmps[2]?.getD undef = .pointer (some ⟨vb, 0, none⟩) := by simpa using h2
  have h3' : tmps[3]?.getD undef = .int .i64 m := by simpa using h3
  have h4' : tmps[4]?.getD undef = .int .i64 e := by simpa using h4
  simp [results, Tryd.results26, h2', h3', h4', asAddr, hl]
set_option maxRecDepth 100000 in
set_option maxHeartbeats 3200000 in
theorem getP_any (b : List UInt8) (A : Option Addr) (cap : Nat) (w : World) (hT : Tabs w) (hb : InB w A b) (hl : b.length ≤ 140737488400000) (hcap : b.length ≤ cap) :
    Calls Tryd.prog 26 #[.slice A b.length cap] w (GotP w (getRep b)) := by
  have hG2 := (Grow.refl w).alloc (.cells zeroP 29)
  have HV2 := hide (Blk.new w 29 zeroP)
  have HC := hide (readP_any b A cap _ (hT.grow hG2) (hb.grow hG2) hl hcap)
  have HG2 := hide hG2
  clear hT hb hG2
  obtain ⟨got, hgot⟩ : ∃ g, getRep b = g := ⟨_, rfl⟩
  obtain ⟨q, n, x⟩ := got
  rw [hgot] at HC ⊢
  clear hgot
  go_enter Tryd.func26, Tryd.ntmps26
  go_wp2_with fail
  refine HC.out.mono ?_
  rintro e w3 ⟨u, rfl, hret, hg3⟩
  have HRET := hide hret
  obtain ⟨cs, rfl, hcs, hone⟩ := hret.cells
  have HCS := hide hcs
  have HONE := hide hone
  have HV3 := hide (HV2.out.grow hg3)
  have HG3 := hide (HG2.out.trans hg3)
  have hz2 : (w.alloc (.cells zeroP 29)).heap.size = w.heap.size + 1 := by simp
  have hz3 := hg3.size
  clear hg3 hret hcs hone
  go_wp2_with (with_reducible refine at_store 29 ?_; refine store_blk (g := w.heap.size) (n := 4) (cells := cs) rfl rfl HV3.out info_rP rfl HCS.out HONE.out ?_; intro W6 hB6 hg6 hz6; have HB6 := hide hB6; have HG6 := hide hg6; clear hB6 hg6)
  refine bodyPost_ret (getP_results rfl rfl rfl HCS.out HB6.out) rfl (GotP.of rfl (HRET.out.move (by rw [hz2]; omega) (by rw [hz6]; exact Nat.le_refl _) (fun k h1 h2 => HG6.out.block k h2 (fun e => by injection e with e; omega))) (HG3.out.grown HG6.out (fun k e => by injection e with e; omega)))
end Go.Proofs.YtcdbchifigonpaaDoor

set_option linter.unusedVariables false
set_option linter.unusedSimpArgs false
namespace Go.Proofs.YtcdbchifigonpaaDoor
open Go.RowKit Go.Shelf

theorem putRp_any (q : Rp) (A : Option Addr) (cap : Nat) (w : World) (hT : Tabs w) (hin : InL w A cap q.docs) (hcount : ∀ v ∈ q.docs, v.count ≤ 20000)
    (he : -9223372036854775808 ≤ q.e ∧ q.e ≤ 9223372036854775807) (hn : -9223372036854775808 ≤ q.n ∧ q.n ≤ 9223372036854775807) (hk : -9223372036854775808 ≤ q.cursor ∧ q.cursor ≤ 9223372036854775807) :
    Calls Tryd.prog 9 #[.agg #[.int .i64 q.e, .int .i64 q.n, .slice A q.docs.length cap, .int .i64 q.cursor]] w (PutW w q.put) := by
  by_cases h : q.args
  · exact putRp_bad_any q A cap w hT hin hcount h he hn hk
  · exact putRp_ok_any q A cap w hT hin hcount h he hn hk

/-- A list of values as the part of a value. -/
theorem InL.as (k : Int) (h1 : -9223372036854775808 ≤ k) (h2 : k ≤ 9223372036854775807) {w : World} {A : Option Addr} {cap : Nat} {vs : List V} (h : InL w A cap vs) : In w (.mk k 0 [] vs []) ⟨k, 0, none, 0, 0, A, vs.length, cap, none, 0, 0⟩ := by
  unfold InL In at *
  rw [IsV] at h ⊢
  obtain ⟨e1, e2, e3, e4, e5, h1', h2', h3, h4, h5, h6, h7, h8, h9, hb, hL, hF⟩ := h
  exact ⟨rfl, e2, e3, e4, e5, h1, h2, h3, h4, h5, h6, h7, h8, h9, hb, hL, hF⟩
theorem InL.of_as {k : Int} {w : World} {A : Option Addr} {cap : Nat} {vs : List V} (h : In w (.mk k 0 [] vs []) ⟨k, 0, none, 0, 0, A, vs.length, cap, none, 0, 0⟩) : InL w A cap vs := by
  unfold InL In at *
  rw [IsV] at h ⊢
  obtain ⟨e1, e2, e3, e4, e5, h1', h2', h3, h4, h5, h6, h7, h8, h9, hb, hL, hF⟩ := h
  exact ⟨rfl, e2, e3, e4, e5, by decide, by decide, h3, h4, h5, h6, h7, h8, h9, hb, hL, hF⟩
theorem InL.nil (w : World) : InL w none 0 [] := by
  unfold InL In
  rw [IsV]
  exact ⟨rfl, rfl, rfl, rfl, rfl, by decide, by decide, by decide, by simp, by simp, by simp, by simp, by simp, by simp, ⟨by simp [u8s], fun h => by simp at h⟩, fun i h => absurd h (by simp), fun i h => absurd h (by simp)⟩

set_option maxHeartbeats 800000 in
theorem list_same (vs : List V) (A B : Option Addr) (ca cb : Nat) (w : World) (ha : InL w A ca vs) (hb : InL w B cb vs) :
    Calls Tryd.prog 49 #[.slice A vs.length ca, .slice B vs.length cb] w fun e w' => e = .returned (.bool true) ∧ Grow w w' := by
  have HC := hide (same_any (.mk 0 0 [] vs []) (.mk 0 0 [] vs []) w _ _ (ha.as 0 (by decide) (by decide)) (hb.as 0 (by decide) (by decide)))
  rw [sameB_self] at HC
  clear ha hb
  go_enter Tryd.func49, Tryd.ntmps49
  go_wp2_with fail
  refine HC.out.mono ?_
  rintro e w2 ⟨rfl, hg⟩
  have HG := hide hg
  clear hg
  go_wp2_with fail
  go_ret
  exact ⟨rfl, HG.out⟩

/-- A reply lies in the world. -/
def RpIn (w : World) (q : Rp) (u : Value) : Prop := ∃ A c, u = .agg (rpCells q.e q.n A q.docs.length c q.cursor) ∧ InL w A c q.docs
theorem RpIn.grow {w w' : World} {q : Rp} {u : Value} (h : RpIn w q u) (hg : Grow w w') : RpIn w' q u := by
  obtain ⟨A, c, rfl, hin⟩ := h
  exact ⟨A, c, rfl, hin.grow hg⟩
theorem RetRp.in_ {w0 w : World} {q : Rp} {u : Value} (h : RetRp w0 q u w) : RpIn w q u := by
  obtain ⟨A, c, rfl, hin⟩ := h
  exact ⟨A, c, rfl, hin.in_⟩
theorem RpIn.zero (w : World) : RpIn w Rp.zero (.agg (rpCells 0 0 none 0 0 0)) := ⟨none, 0, rfl, InL.nil w⟩

set_option maxRecDepth 100000 in
set_option maxHeartbeats 800000 in
theorem reply_same (q : Rp) (u v : Value) (w : World) (hu : RpIn w q u) (hv : RpIn w q v) :
    Calls Tryd.prog 27 #[u, v] w fun e w' => e = .returned (.bool true) ∧ Grow w w' := by
  obtain ⟨A, ca, rfl, ha⟩ := hu
  obtain ⟨B, cb, rfl, hb⟩ := hv
  obtain ⟨E, hE⟩ : ∃ E, q.e = E := ⟨_, rfl⟩
  obtain ⟨N, hN⟩ : ∃ N, q.n = N := ⟨_, rfl⟩
  obtain ⟨K, hK⟩ : ∃ K, q.cursor = K := ⟨_, rfl⟩
  obtain ⟨vs, hvs⟩ : ∃ l, q.docs = l := ⟨_, rfl⟩
  rw [hE, hN, hK, hvs]
  rw [hvs] at ha hb
  have hg := ((Grow.refl w).alloc (.cells (rpCells E N A vs.length ca K) 29)).alloc (.cells (rpCells E N B vs.length cb K) 29)
  have hc1 := ((Blk.new w 29 (rpCells E N A vs.length ca K)).alloc (.cells (rpCells E N B vs.length cb K) 29)).cell
  have hc2 : ∀ i, ((w.alloc (.cells (rpCells E N A vs.length ca K) 29)).alloc (.cells (rpCells E N B vs.length cb K) 29)).cell? ⟨w.heap.size + 1, i, none⟩ = (rpCells E N B vs.length cb K)[i]? := (Blk.new' (by simp) _ _ : Blk ((w.alloc (.cells (rpCells E N A vs.length ca K) 29)).alloc (.cells (rpCells E N B vs.length cb K) 29)) (w.heap.size + 1) _ _).cell
  have HC := hide (list_same vs A B ca cb _ (ha.grow hg) (hb.grow hg))
  have HG := hide hg
  clear ha hb hE hN hK hvs hg
  go_enter Tryd.func27, Tryd.ntmps27
  go_wp2_with fail
  refine HC.out.mono ?_
  rintro e w2 ⟨rfl, hg⟩
  have HG2 := hide (HG.out.trans hg)
  clear hg
  go_wp2_with fail
  go_ret
  exact ⟨rfl, HG2.out⟩

/-- The empty reply's frame. -/
def frame0 : List UInt8 := frameOf Rp.zero.body
theorem body0 : Rp.zero.body = [0, 0, 0, 0, 0, 0, 0, 0, 0, 0] := by decide +kernel
theorem frame0_length : frame0.length = 18 := by rw [frame0, frameOf_length, body0]; rfl
theorem frame0_0 (h : 0 < frame0.length) : (frame0[0].toNat : Int) = 77 := by
  have e : frame0[0]? = some 77 := by decide +kernel
  rw [List.getElem?_eq_getElem h] at e
  injection e with e
  rw [e]; rfl
theorem frame0_2 (h : 2 < frame0.length) : (frame0[2].toNat : Int) = 10 := by
  have e : frame0[2]? = some 10 := by decide +kernel
  rw [List.getElem?_eq_getElem h] at e
  injection e with e
  rw [e]; rfl
theorem put0 : Rp.zero.put = (frame0, 0) := by
  have : ¬ Rp.zero.args := by decide
  rw [putRp_good this rfl, if_neg (by rw [body0]; decide)]; rfl
theorem zero_ok : Rp.zero.Ok := ⟨by decide, fun v hv => absurd hv (by simp [Rp.zero])⟩
theorem get0 : getRep frame0 = (Rp.zero, 18, 0) := by
  have h := pRep_app Rp.zero [] zero_ok
  rw [List.append_nil] at h
  have := getOf_frame (zero := Rp.zero) (p := pRep) (by rw [body0]; decide) h []
  rw [List.append_nil] at this
  rw [getRep, frame0, this, body0]; rfl

set_option maxRecDepth 100000 in
set_option maxHeartbeats 1600000 in
theorem wawake_any (w : World) (hT : Tabs w) : Calls Tryd.prog 7 #[] w fun e w' => e = .returned (.bool true) ∧ Grow w w' := by
  have HP := hide (putRp_any Rp.zero none 0 w hT (InL.nil w) (fun v hv => absurd hv (by simp [Rp.zero])) (by decide) (by decide) (by decide))
  have HT := hide hT
  rw [put0] at HP
  clear hT
  go_enter Tryd.func7, Tryd.ntmps7
  go_wp2_with fail
  refine HP.out.mono ?_
  rintro e w1 ⟨base, A, c, rfl, hb, hb2, hr, hg1⟩
  rw [frame0_length] at hr ⊢
  have hcap := hr.cap
  obtain ⟨bk, o, rfl, hbk, e0⟩ := hr.reads.1.at_ 0 (by rw [frame0_length]; omega)
  obtain ⟨bk', o', e', _, e2⟩ := hr.reads.1.at_ 2 (by rw [frame0_length]; omega)
  injection e' with e'
  injection e' with e1 e3
  subst e1 e3
  rw [frame0_0, Nat.add_zero] at e0
  rw [frame0_2] at e2
  have hG := getP_any frame0 (some ⟨bk, o, none⟩) c w1 (HT.out.grow hg1) hr.reads.1 (by rw [frame0_length]; omega) (by rw [frame0_length]; exact hcap)
  rw [get0, frame0_length] at hG
  have HGET := hide hG
  have HG1 := hide hg1
  have HE0 := hide (show w1.cell? ⟨bk, o, none⟩ = some (.int .u8 77) from e0)
  have HE2 := hide (show w1.cell? ⟨bk, o + 2, none⟩ = some (.int .u8 10) from e2)
  clear hg1 hG e0 e2 hr hb hb2
  go_wp2_with fail
  refine HGET.out.mono ?_
  rintro e w2 ⟨u, rfl, hret, hg2⟩
  have HR := hide hret.in_
  obtain ⟨A2, c2, hu, _⟩ := hret
  have hz : Rp.zero.docs.length = 0 := rfl
  have he0 : w2.cell? ⟨bk, o, none⟩ = some (.int .u8 77) := (hg2.below.cell hbk).trans HE0.out
  have he2 : w2.cell? ⟨bk, o + 2, none⟩ = some (.int .u8 10) := (hg2.below.cell hbk).trans HE2.out
  rw [show Rp.zero.e = 0 from rfl, show Rp.zero.n = 0 from rfl, show Rp.zero.cursor = 0 from rfl, hz] at hu
  subst hu
  have hbk2 : bk < w2.heap.size := Nat.lt_of_lt_of_le hbk hg2.size
  have HG2 := hide (HG1.out.trans hg2)
  have hal := (Grow.refl w2).alloc (.cells (rpCells 0 0 A2 0 c2 0) 29)
  have HS := hide (reply_same Rp.zero _ (.agg (rpCells 0 0 none 0 0 0)) _ (HR.out.grow hal) (RpIn.zero _))
  have HAL := hide hal
  clear hg2 hz hal
  go_wp2_with fail
  refine HS.out.mono ?_
  rintro e w3 ⟨rfl, hg3⟩
  have HG3 := hide ((HG2.out.trans HAL.out).trans hg3)
  clear hg3
  go_wp2_with fail
  go_ret
  exact ⟨rfl, HG3.out⟩
end Go.Proofs.YtcdbchifigonpaaDoor
