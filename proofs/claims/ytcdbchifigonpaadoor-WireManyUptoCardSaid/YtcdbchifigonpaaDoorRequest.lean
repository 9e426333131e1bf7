/- Walks: a reply of a frame's body. · Walks: a request of a frame's body. Written by wip/tools/gen_request.py. -/
import Derived.Test.YtcdbchifigonpaaDoorCurA
import Derived.Deep.RegionHeld3
import Derived.RegionDies
import Derived.Deep.RegionLaw
set_option linter.unusedVariables false
set_option linter.unusedSimpArgs false
namespace Go.Proofs.YtcdbchifigonpaaDoor
open Go.RowKit Go.Shelf

/-- The four cells of a reply. -/
abbrev rpCells (e n : Int) (A : Option Addr) (l c : Nat) (k : Int) : Array Value := #[.int .i64 e, .int .i64 n, .slice A l c, .int .i64 k]
/-- A reply, its values in new memory. -/
def RetRp (w0 : World) (q : Rp) (u : Value) (w' : World) : Prop :=
  ∃ A c, u = .agg (rpCells q.e q.n A q.docs.length c q.cursor) ∧ InS w' w0.heap.size w'.heap.size (.mk 7 0 [] q.docs []) ⟨7, 0, none, 0, 0, A, q.docs.length, c, none, 0, 0⟩
theorem RetRp.zero (w w' : World) : RetRp w Rp.zero (.agg (rpCells 0 0 none 0 0 0)) w' := by
  refine ⟨none, 0, rfl, Nat.le_refl _, ?_⟩
  show IsS _ (V.mk 7 0 [] [] []) _ _
  rw [IsS]
  exact ⟨rfl, rfl, rfl, rfl, rfl, by decide, by decide, by decide, by simp, by simp, by simp [Rp.zero], by simp, by simp, by simp, ⟨rfl, fun h => by simp at h⟩, ⟨fun _ _ => False, fun i hi => absurd hi (by simp), fun _ _ _ _ _ h => h.elim⟩, ⟨fun _ _ => False, fun i hi => absurd hi (by simp), fun _ _ _ _ _ h => h.elim⟩⟩
theorem RetRp.cells {w w' : World} {q : Rp} {u : Value} (h : RetRp w q u w') : ∃ cs, u = .agg cs ∧ cs.size = 4 ∧ cs.all (·.oneCell') = true := by
  obtain ⟨A, c, rfl, _⟩ := h
  exact ⟨_, rfl, rfl, by simp [Value.oneCell']⟩
theorem RetRp.move {w0 w w1 w' : World} {q : Rp} {u : Value} (h : RetRp w q u w1) (h0 : w0.heap.size ≤ w.heap.size) (hz : w1.heap.size ≤ w'.heap.size) (hb : ∀ k, w.heap.size ≤ k → k < w1.heap.size → w'.heap[k]? = w1.heap[k]?) : RetRp w0 q u w' := by
  obtain ⟨A, c, rfl, hin⟩ := h
  exact ⟨A, c, rfl, (hin.blocks hz hb).wider h0 hz (Nat.le_refl _)⟩
/-- So far j of n values have been read: the rest tells the whole. -/
def ValsTo (n j : Nat) (r rest : List UInt8) (es : List VE) : Prop :=
  pVals n r = pBind (pVals (n - j) rest) fun l r' => some (es.map VE.v ++ l, r')
theorem ValsTo.start (n : Nat) (r : List UInt8) : ValsTo n 0 r r [] := by
  unfold ValsTo
  rw [Nat.sub_zero]
  cases pVals n r <;> rfl
theorem ValsTo.fail {n j : Nat} {r rest : List UInt8} {es : List VE} (h : ValsTo n j r rest es) (hj : j < n) (hf : pVal rest = none) : pVals n r = none := by
  rw [h, show n - j = (n - (j + 1)) + 1 by omega, pVals, hf]; rfl
theorem ValsTo.step {n j : Nat} {r rest rest' : List UInt8} {es : List VE} {x : VE} (h : ValsTo n j r rest es) (hj : j < n) (hf : pVal rest = some (x.v, rest')) : ValsTo n (j + 1) r rest' (es ++ [x]) := by
  unfold ValsTo at h ⊢
  rw [h, show n - j = (n - (j + 1)) + 1 by omega, pVals, hf]
  simp only
  cases pVals (n - (j + 1)) rest' with
  | none => rfl
  | some y => simp [pBind]
theorem ValsTo.done {n : Nat} {r rest : List UInt8} {es : List VE} (h : ValsTo n n r rest es) : pVals n r = some (es.map VE.v, rest) := by
  unfold ValsTo at h
  rw [h, Nat.sub_self, pVals]
  simp [pBind]

def set4 (W : World) (b : Nat) (c0 c1 c2 c3 : Value) : World := (((W.setCell ⟨b, 0, none⟩ c0).setCell ⟨b, 1, none⟩ c1).setCell ⟨b, 2, none⟩ c2).setCell ⟨b, 3, none⟩ c3
theorem grown4 (W : World) (b : Nat) (c0 c1 c2 c3 : Value) : W.grownBy (set4 W b c0 c1 c2 c3) (some b) :=
  (GB.trans (GB.trans (GB.trans (grown_set W b 0 c0) (grown_set _ b 1 c1)) (grown_set _ b 2 c2)) (grown_set _ b 3 c3) : GB W _ b)
theorem rpres {F : Func} {W : World} {vb : Nat} {tmps : Array Value} {e n k : Int} {A : Option Addr} {l c : Nat} (hF : F.results = #[ResultVar.cell 2 29]) (h2 : tmps.getD 2 undef = .pointer (some ⟨vb, 0, none⟩)) (hv : Blk W vb 29 (rpCells e n A l c k)) :
    (results F tmps).run Tryd.prog W = .ok (.agg (rpCells e n A l c k)) W := by
  have hvc := hv.cell
  have h2' : tmps[2]?.getD undef = .pointer (some ⟨vb, 0, none⟩) := by simpa using h2
  simp [results, hF, go_sem, h2', hvc]

set_option maxRecDepth 100000 in
set_option maxHeartbeats 3200000 in
theorem wreply_cps (Q : Ending → World → Prop) (pb : Nat) (bs : List UInt8) (w : World) (hT : Tabs w) (hp : 1 < pb) (h : Cu w pb bs)
    (hbad : pRep bs = none → ∀ w', GB w w' pb → Q (.panicked (thrown 4)) w')
    (hgood : ∀ q r, pRep bs = some (q, r) → ∀ u w', RetRp w q u w' → Cu w' pb r → GB w w' pb → Q (.returned u) w') :
    Calls Tryd.prog 48 #[.pointer (some ⟨pb, 0, none⟩)] w Q := by
  obtain ⟨i0, hi0, hz0, hz1, hz2⟩ := info_parts info_val3
  have Hi0 := hide hi0
  have Hz0 := hide hz0
  have Hz1 := hide hz1
  have Hz2 := hide hz2
  clear hi0 hz0 hz1 hz2
  have hlt := h.lt
  have hG1 := (Grow.refl w).alloc (.cells (rpCells 0 0 none 0 0 0) 29)
  have HB1 := hide (Blk.new w 29 (rpCells 0 0 none 0 0 0))
  have HC1 := hide (wbyte_any pb bs _ (h.grow hG1))
  have HG1 := hide ((GB.refl w pb).grow hG1)
  have HT := hide hT
  have HBAD := hide hbad
  have HGOOD := hide hgood
  clear h hG1 hT hbad hgood
  go_enter Tryd.func48, Tryd.ntmps48
  go_wp2_with fail
  refine HC1.out.mono ?_
  intro e w2 h2
  cases hp1 : pNum 1 bs with
  | none =>
    rw [hp1] at h2
    obtain ⟨rfl, hg⟩ := h2
    have HE := hide (HBAD.out (by simp only [pRep, pBind, hp1]) _ (HG1.out.trans hg))
    clear hg hp1
    go_wp2_with fail
    exact And.intro rfl HE.out
  | some xr =>
  obtain ⟨ev, r1⟩ := xr
  rw [hp1] at h2
  obtain ⟨u, rfl, rfl, hcu, hg⟩ := h2
  have HP1 := hide hp1
  have hB2 := HB1.out.own hg (fun k e => by injection e with e; omega)
  have HG2 := hide (HG1.out.trans hg)
  have HB2 := hide hB2
  have hc := hB2.cell
  have hf := hB2.frozen
  have hs := grown_set w2 w.heap.size 0 (.int .i64 (ev : Int))
  have HC2 := hide (wcount_any pb r1 (w2.setCell ⟨w.heap.size, 0, none⟩ (.int .i64 (ev : Int))) (hcu.own hs (fun k e => by injection e with e; omega)))
  clear hp1 hcu hg hB2 hs HB1 HC1 HG1
  go_wp2_with fail
  refine HC2.out.mono ?_
  intro e w3 h3
  have hgs := GB.set HG2.out (Nat.le_refl _) 0 (.int .i64 (ev : Int))
  cases hp2 : pCount r1 with
  | none =>
    rw [hp2] at h3
    obtain ⟨rfl, hg⟩ := h3
    have HE := hide (HBAD.out (by simp only [pRep, pBind, HP1.out, hp2]) _ (hgs.trans hg))
    clear hg hp2
    go_wp2_with fail
    exact And.intro rfl HE.out
  | some xr =>
  obtain ⟨nv, r2⟩ := xr
  rw [hp2] at h3
  obtain ⟨u, rfl, rfl, hcu, hg⟩ := h3
  have HP2 := hide hp2
  have hB3 := (HB2.out.set_ 0 (.int .i64 (ev : Int))).own hg (fun k e => by injection e with e; omega)
  have HG3 := hide (hgs.trans hg)
  have HB3 := hide hB3
  have HC3 := hide (wcount_any pb r2 w3 hcu)
  clear hp2 hcu hg hB3 HB2 HG2 hgs hc hf HC2
  go_wp2_with fail
  refine HC3.out.mono ?_
  intro e w4 h4
  cases hp3 : pCount r2 with
  | none =>
    rw [hp3] at h4
    obtain ⟨rfl, hg⟩ := h4
    have HE := hide (HBAD.out (by simp only [pRep, pBind, HP1.out, HP2.out, hp3]) _ (HG3.out.trans hg))
    clear hg hp3
    go_wp2_with fail
    exact And.intro rfl HE.out
  | some xr =>
  obtain ⟨cv, r3⟩ := xr
  rw [hp3] at h4
  obtain ⟨u, rfl, rfl, hcu, hg⟩ := h4
  have HP3 := hide hp3
  have hB4 := HB3.out.own hg (fun k e => by injection e with e; omega)
  have hc := hB4.cell
  have hf := hB4.frozen
  have hG4 := HG3.out.trans hg
  obtain ⟨W5, hW5⟩ : ∃ W, W = (w4.setCell ⟨w.heap.size, 1, none⟩ (.int .i64 nv)).setCell ⟨w.heap.size, 3, none⟩ (.int .i64 cv) := ⟨_, rfl⟩
  have HW5 := hide hW5
  have HB5 := hide (show Blk W5 w.heap.size 29 (rpCells ev nv none 0 0 cv) by rw [hW5]; exact (hB4.set_ 1 (.int .i64 nv)).set_ 3 (.int .i64 cv))
  have HG5 := hide (show GB w W5 pb by rw [hW5]; exact (hG4.set (Nat.le_refl _) 1 _).set (Nat.le_refl _) 3 _)
  have hcu5 : Cu W5 pb r3 := by
    rw [hW5]
    exact (hcu.own (grown_set _ w.heap.size 1 (.int .i64 nv)) (fun k e => by injection e with e; omega)).own (grown_set _ w.heap.size 3 (.int .i64 cv)) (fun k e => by injection e with e; omega)
  have HC5 := hide (wbyte_any pb r3 W5 hcu5)
  clear hp3 hcu hg hB4 HB3 HG3 hG4 HC3 hW5 hcu5
  go_wp2_with fail
  rw [← HW5.out]
  have hc := HB5.out.cell
  have hf := HB5.out.frozen
  refine HC5.out.mono ?_
  intro e w6 h6
  cases hp4 : pNum 1 r3 with
  | none =>
    rw [hp4] at h6
    obtain ⟨rfl, hg⟩ := h6
    have HE := hide (HBAD.out (by simp only [pRep, pBind, HP1.out, HP2.out, HP3.out, hp4]) _ (HG5.out.trans hg))
    clear hg hp4
    go_wp2_with fail
    exact And.intro rfl HE.out
  | some xr =>
  obtain ⟨n, r4⟩ := xr
  rw [hp4] at h6
  obtain ⟨u, rfl, rfl, hcu, hg⟩ := h6
  have HP4 := hide hp4
  have HB6 := hide (HB5.out.own hg (fun k e => by injection e with e; omega))
  have HG6 := hide (HG5.out.trans hg)
  have HCU6 := hide hcu
  have hpl := hcu.lt
  clear hp4 hcu hg HB5 HG5 HC5 hc hf HW5
  by_cases h64 : 64 < n
  · have hd : decide ((n : Int) ≤ 64) = false := by simp; omega
    have HE := hide (HBAD.out (by simp only [pRep, pBind, HP1.out, HP2.out, HP3.out, HP4.out]; rw [if_pos h64]) _ HG6.out)
    go_wp2_with fail
    refine (wmust_no _).mono ?_
    rintro e w7 ⟨rfl, rfl⟩
    go_wp2_with fail
    exact And.intro rfl HE.out
  have hd : decide ((n : Int) ≤ 64) = true := by simp; omega
  go_wp2_with fail
  refine (wmust_yes _).mono ?_
  rintro e w7 ⟨rfl, rfl⟩
  have hc := HB6.out.cell
  have hfr := HB6.out.frozen
  have hvl := HB6.out.lt
  obtain ⟨cur, hcur, hmk⟩ := make_vals n (by omega)
  go_wp2_with fail
  have hsz3 : (w6.setCell ⟨w.heap.size, 2, none⟩ (.slice (some ⟨w6.heap.size, 0, none⟩) 0 n)).heap.size = w6.heap.size := by simp [World.setCell]
  have hrow := World.ownsRow_made (e := 37) (size := 5) (w6.setCell ⟨w.heap.size, 2, none⟩ (.slice (some ⟨w6.heap.size, 0, none⟩) 0 n)) cur n (Nat.le_refl _) (by simp only [maxLen]; omega) hcur
  rw [hsz3] at hrow
  have HB7 := hide (show Blk ((w6.setCell ⟨w.heap.size, 2, none⟩ (.slice (some ⟨w6.heap.size, 0, none⟩) 0 n)).alloc (.cells cur 37)) w.heap.size 29 (rpCells ev nv (some ⟨w6.heap.size, 0, none⟩) 0 n cv) from (HB6.out.set_ 2 _).alloc _)
  have HG7 := hide ((HG6.out.set (Nat.le_refl _) 2 (.slice (some ⟨w6.heap.size, 0, none⟩) 0 n)).grow ((Grow.refl _).alloc (.cells cur 37)))
  have HR7 := hide ((HCU6.out.own (grown_set _ w.heap.size 2 (.slice (some ⟨w6.heap.size, 0, none⟩) 0 n)) (fun k e => by injection e with e; omega)).grow ((Grow.refl _).alloc (.cells cur 37)))
  have HV7 := hide (show VRow ((w6.setCell ⟨w.heap.size, 2, none⟩ (.slice (some ⟨w6.heap.size, 0, none⟩) 0 n)).alloc (.cells cur 37)) 37 noHead 5 w.heap.size w.heap.size w6.heap.size (.slice (some ⟨w6.heap.size, 0, none⟩) 0 n) [] from
    ⟨hrow, fun x hx => by simp at hx, fun i j hi => by simp at hi⟩)
  clear hsz3 hrow hmk hc hfr HB6 HCU6 HG6
  go_loopg [22] (n + 1) (fun gk i wr => ∃ (j : Nat) (es : List VE) (A : Option Addr) (cap : Nat) (rest : List UInt8), j ≤ n ∧ gk + j = n + 1 ∧ i = .int .i64 j ∧ es.length = j ∧ ValsTo n j r4 rest es ∧
    VRow wr 37 noHead 5 w.heap.size w.heap.size w6.heap.size (.slice A j cap) es ∧ Cu wr pb rest ∧ GB w wr pb ∧ Blk wr w.heap.size 29 (rpCells ev nv A j cap cv) ∧ w6.heap.size ≤ wr.heap.size)
  case atStart => exact ⟨0, [], _, _, r4, by omega, by omega, rfl, rfl, ValsTo.start n r4, HV7.out, HR7.out, HG7.out, HB7.out, by simp [World.setCell]⟩
  case round =>
    obtain ⟨j, es, A', cap', rest, hj, hg, rfl, hel, hrd, hv, hr, hgb, hB, hbz⟩ := hrel
    have HV := hide hv
    have HR := hide hr
    have HG := hide hgb
    have HB := hide hB
    have HL := hide hrd
    have HEL := hide hel
    have hc := hB.cell
    have hfr := hB.frozen
    have hvl' := hB.lt
    have HTr := hide (HT.out.gb hgb hp)
    have hpr := hr.lt
    clear hv hr hgb hB hrd HV7 HR7 HG7 HB7 hel
    by_cases hlt2 : j < n
    · obtain ⟨gk', rfl⟩ : ∃ g, gk = g + 1 := ⟨gk - 1, by omega⟩
      have hcall := wvalue_any pb rest wr.drew (HTr.out.grow (Grow.refl wr).drew) hp (HR.out.grow (Grow.refl wr).drew)
      cases hfx : pVal rest with
      | none =>
        rw [hfx] at hcall
        have HC := hide hcall
        have hend : ∀ w2, GB wr.drew w2 pb → Q (.panicked (thrown 4)) w2 := fun w2 h =>
          HBAD.out (by simp only [pRep, pBind, HP1.out, HP2.out, HP3.out, HP4.out]; rw [if_neg h64, HL.out.fail hlt2 hfx]) _ ((HG.out.grow (Grow.refl wr).drew).trans h)
        have HE := hide hend
        clear hcall hfx hend
        go_wp2_with fail
        go_region_dies
        all_goals
          refine HC.out.mono ?_
          rintro e w2 ⟨rfl, hg2⟩
          exact And.intro rfl (HE.out _ hg2)
      | some xr =>
        obtain ⟨xv, rest'⟩ := xr
        rw [hfx] at hcall
        have HC := hide hcall
        have HX := hide hfx
        clear hcall hfx
        go_wp2_with fail
        go_region_law ((first | (refine step_append_src (by rfl) (.tmp 25) (.tmp 28) 27 27 (by rfl) w6.heap.size 37 i0 _ 5 88 under_vals Hi0.out Hz0.out Hz1.out Hz2.out (by rfl) (.slice A' j cap') j (cellsOf noHead es) (by rfl) (hown2.alloc _) _ 1 c.cells.toList (by rfl) (Src.oneV c _) (by omega) (by simp only [maxLen]; omega) (by simp; omega) ?_; intro A3 c3 w3 hown3 hgr3 hat3; have hB3 := Blk.own (hB2.alloc _) hgr3 (fun k hk => by have := (hv2.own_lt hk).1; omega); have hc3 := hB3.cell; have hf3 := hB3.frozen) | (go_simp; go_at_call 71; refine HC.out.mono ?_; rintro e w2 ⟨u, rfl, ⟨c, rfl, hx2⟩, hr2, hg2⟩; have hB2 := Blk.own HB.out.drew hg2 (fun k e => by injection e with e; omega); have hc2 := hB2.cell; have hc2a := (hB2.alloc (.cells c.cells 37)).cell; have hz2 : wr.heap.size ≤ w2.heap.size := hg2.size; have hv2 := VRow.gb (HV.out.grow (Grow.refl wr).drew) hg2 (by omega) hlt; have hown2 := hv2.own; rw [HEL.out] at hown2)))
        all_goals
          have HV4 := hide (VRow.set (VRow.add (s := ⟨#[]⟩) (m0 := wr.heap.size) hv2 (fun k hk => ((HV.out).own_lt hk).2) hvl' (by omega) (fun y hy => ((HV.out).part y hy).2.2.2.1) hx2 (by rw [HEL.out]; exact hown3) hgr3 hat3) hvl 2 (.slice A3 (j + 1) c3))
          have HB4 := hide (hB3.set_ 2 (.slice A3 (j + 1) c3))
          have HG4 := hide (GB.set (GB.own (((HG.out.grow (Grow.refl wr).drew).trans hg2).grow ((Grow.refl w2).alloc _)) hgr3 (fun k hk => by have := (hv2.own_lt hk).1; omega)) (Nat.le_refl _) 2 (.slice A3 (j + 1) c3))
          have HR4 := hide (Cu.own (Cu.own (hr2.grow ((Grow.refl w2).alloc _)) hgr3 (fun k hk => by have := (hv2.own_lt hk).1; omega)) (grown_set w3 w.heap.size 2 (.slice A3 (j + 1) c3)) (fun k e => by injection e with e; omega))
          have hz4 : w6.heap.size ≤ (w3.setCell ⟨w.heap.size, 2, none⟩ (.slice A3 (j + 1) c3)).heap.size := by
            have := hgr3.size
            simp [World.setCell] at this ⊢
            omega
          clear hB2 hB3 hc2 hc2a hc3 hf3 hx2 hr2 hg2 hv2 hown2 hown3 hgr3 hat3 hc hfr
          go_wp2_with fail
          go_roundg gk'
          case measure => omega
          case rel => exact ⟨j + 1, es ++ [⟨⟨#[]⟩, xv, c, wr.heap.size, w2.heap.size⟩], A3, c3, rest', by omega, by omega, by go_num, by simp [HEL.out], HL.out.step hlt2 HX.out, HV4.out, HR4.out, HG4.out, HB4.out, hz4⟩
    · obtain rfl : j = n := by omega
      have hrdn := (HL.out).done
      have hgot : pRep bs = some (⟨ev, nv, es.map VE.v, cv⟩, rest) := by simp only [pRep, pBind, HP1.out, HP2.out, HP3.out, HP4.out]; rw [if_neg h64, hrdn]
      have HGOT := hide hgot
      clear hrdn hgot
      go_wp2_with fail
      have hg4 := grown4 wr w.heap.size (.int .i64 ev) (.int .i64 nv) (.slice A' j cap') (.int .i64 cv)
      have hlen : (es.map VE.v).length = j := by rw [List.length_map]; exact HEL.out
      have hB4 : Blk (set4 wr w.heap.size (.int .i64 ev) (.int .i64 nv) (.slice A' j cap') (.int .i64 cv)) w.heap.size 29 (rpCells ev nv A' j cap' cv) := (((HB.out.set_ 0 _).set_ 1 _).set_ 2 _).set_ 3 _
      refine bodyPost_ret (rpres rfl rfl hB4) rfl (HGOOD.out ⟨ev, nv, es.map VE.v, cv⟩ rest HGOT.out _ _ ⟨A', cap', ?_, ⟨Nat.le_refl _, ?_⟩⟩ (HR.out.own hg4 (fun k e => by injection e with e; omega)) (GB.own HG.out hg4 (fun k e => by injection e with e; omega)))
      · show _ = Value.agg (rpCells ev nv A' (es.map VE.v).length cap' cv)
        rw [hlen]
      · show IsS _ _ ⟨7, 0, none, 0, 0, A', (es.map VE.v).length, cap', none, 0, 0⟩ _
        rw [hlen]
        exact IsS.mono _ _ _ _ (fun p u h s => h.1.block (hg4.block _ s.2 (fun e => h.2 (by injection e)))) (fun q h => ⟨h.1, Nat.lt_of_lt_of_le h.2 hg4.size⟩) (HV.out.isL HEL.out.symm (by omega) hvl (by omega))
theorem wreply_any (pb : Nat) (bs : List UInt8) (w : World) (hT : Tabs w) (hp : 1 < pb) (h : Cu w pb bs) :
    Calls Tryd.prog 48 #[.pointer (some ⟨pb, 0, none⟩)] w (PrC w pb (pRep bs) (RetRp w)) :=
  wreply_cps _ pb bs w hT hp h (fun hn w' hg => by rw [hn]; exact PrC.bad hg) (fun q r hq u w' h1 h2 h3 => by rw [hq]; exact PrC.good h1 h2 h3)
end Go.Proofs.YtcdbchifigonpaaDoor

set_option linter.unusedVariables false
set_option linter.unusedSimpArgs false
namespace Go.Proofs.YtcdbchifigonpaaDoor
open Go.RowKit Go.Shelf

/-- The 26 cells of a request. -/
abbrev rqCells (d : Int) (c i p : ByteArray) (u : Bool) (k l h x : Cv) (n : Int) : Array Value :=
  #[.int .i64 d, .string c, .string i, .string p, .bool u, .int .i64 k.k, .int .u64 k.n, .slice k.aB k.nB k.cB, .slice k.aL k.nL k.cL, .slice k.aF k.nF k.cF,
    .int .i64 l.k, .int .u64 l.n, .slice l.aB l.nB l.cB, .slice l.aL l.nL l.cL, .slice l.aF l.nF l.cF, .int .i64 h.k, .int .u64 h.n, .slice h.aB h.nB h.cB, .slice h.aL h.nL h.cL, .slice h.aF h.nF h.cF,
    .int .i64 x.k, .int .u64 x.n, .slice x.aB x.nB x.cB, .slice x.aL x.nL x.cL, .slice x.aF x.nF x.cF, .int .i64 n]
/-- A request, its values in new memory. -/
def RetRq (w0 : World) (q : Rq) (u : Value) (w' : World) : Prop :=
  ∃ ck cl ch cx, u = .agg (rqCells q.do_ q.coll q.index q.path q.unique ck cl ch cx q.n) ∧ InS w' w0.heap.size w'.heap.size q.key ck ∧ InS w' w0.heap.size w'.heap.size q.low cl ∧
    InS w' w0.heap.size w'.heap.size q.high ch ∧ InS w' w0.heap.size w'.heap.size q.doc cx
theorem RetRq.zero (w w' : World) : RetRq w Rq.zero (.agg zeroQ) w' := by
  have hz := (InS.zero w' (lo := w.heap.size))
  exact ⟨Cv.zero, Cv.zero, Cv.zero, Cv.zero, rfl, hz, hz, hz, hz⟩
theorem RetRq.cells {w w' : World} {q : Rq} {u : Value} (h : RetRq w q u w') : ∃ cs, u = .agg cs ∧ cs.size = 26 ∧ cs.all (·.oneCell') = true := by
  obtain ⟨ck, cl, ch, cx, rfl, _⟩ := h
  exact ⟨_, rfl, rfl, by simp [Value.oneCell']⟩
theorem RetRq.move {w0 w w1 w' : World} {q : Rq} {u : Value} (h : RetRq w q u w1) (h0 : w0.heap.size ≤ w.heap.size) (hz : w1.heap.size ≤ w'.heap.size) (hb : ∀ k, w.heap.size ≤ k → k < w1.heap.size → w'.heap[k]? = w1.heap[k]?) : RetRq w0 q u w' := by
  obtain ⟨ck, cl, ch, cx, rfl, h1, h2, h3, h4⟩ := h
  exact ⟨ck, cl, ch, cx, rfl, (h1.blocks hz hb).wider h0 hz (Nat.le_refl _), (h2.blocks hz hb).wider h0 hz (Nat.le_refl _), (h3.blocks hz hb).wider h0 hz (Nat.le_refl _), (h4.blocks hz hb).wider h0 hz (Nat.le_refl _)⟩
theorem pInt_of {bs r : List UInt8} {k : Nat} (h : pNum 4 bs = some (k, r)) : pInt bs = some (if k < 2147483648 then (k : Int) else (k : Int) - 4294967296, r) := by rw [pInt, h]
theorem pInt_none {bs : List UInt8} (h : pNum 4 bs = none) : pInt bs = none := by rw [pInt, h]
theorem i32_of (k : Nat) (h : k < 4294967296) : IntKind.i32.wrap (k : Int) = if k < 2147483648 then (k : Int) else (k : Int) - 4294967296 := by
  rw [IntKind.wrap_i32]
  split <;> omega

theorem grown_trans {a b c : World} {g : Nat} (h : a.grownBy b (some g)) (k : b.grownBy c (some g)) : a.grownBy c (some g) := GB.trans h k
theorem rqres {F : Func} {W : World} {vb : Nat} {tmps : Array Value} {cs : Array Value} (hF : F.results = #[ResultVar.cell 2 39]) (h2 : tmps.getD 2 undef = .pointer (some ⟨vb, 0, none⟩)) (hv : Blk W vb 39 cs) (hn : cs.size = 26 := by rfl) :
    (results F tmps).run Tryd.prog W = .ok (.agg cs) W :=
  results_cell_row hF _ _ vb 39 cs (0, 0) _ h2 hv Tryd.underlying39 rfl (by rw [hn]; exact info_rQ)

set_option maxRecDepth 100000 in
set_option maxHeartbeats 6400000 in
theorem wrequest_cps (Q : Ending → World → Prop) (pb : Nat) (bs : List UInt8) (w : World) (hT : Tabs w) (hp : 1 < pb) (h : Cu w pb bs)
    (hbad : pReq bs = none → ∀ w', GB w w' pb → Q (.panicked (thrown 4)) w')
    (hgood : ∀ q r, pReq bs = some (q, r) → ∀ u w', RetRq w q u w' → Cu w' pb r → GB w w' pb → Q (.returned u) w') :
    Calls Tryd.prog 35 #[.pointer (some ⟨pb, 0, none⟩)] w Q := by
  have hlt := h.lt
  have hG1 := (Grow.refl w).alloc (.cells zeroQ 39)
  have hW1 : ∃ W, W = w.alloc (.cells zeroQ 39) := ⟨_, rfl⟩
  have HB := hide (Blk.new w 39 zeroQ)
  have HCU := hide (h.grow hG1)
  have HG := hide ((GB.refl w pb).grow hG1)
  have HT := hide hT
  have HBAD := hide hbad
  have HGOOD := hide hgood
  clear h hG1 hT hbad hgood hW1
  go_enter Tryd.func35, Tryd.ntmps35
  have HC := hide (wbyte_any pb bs _ HCU.out)
  go_wp2_with fail
  refine HC.out.mono ?_
  intro e w2 h1
  cases hp1 : pNum 1 bs with
  | none =>
    rw [hp1] at h1
    obtain ⟨rfl, hg⟩ := h1
    have HE := hide (HBAD.out (by simp only [pReq, pBind, pInt, hp1]) _ (HG.out.trans hg))
    clear hg hp1
    go_wp2_with fail
    exact And.intro rfl HE.out
  | some xr =>
  obtain ⟨d, r1⟩ := xr
  rw [hp1] at h1
  obtain ⟨u, rfl, rfl, hcu, hg⟩ := h1
  have HP1 := hide hp1
  have hB2 := HB.out.own hg (fun k e => by injection e with e; omega)
  have hG2 := HG.out.trans hg
  clear HB HG HCU HC hp1
  have HB := hide hB2
  have HG := hide hG2
  have HCU := hide hcu
  have hc := hB2.cell
  have hf := hB2.frozen
  clear hB2 hG2 hcu
  have HC := hide (wflag_any pb r1 _ HCU.out)
  go_wp2_with fail
  refine HC.out.mono ?_
  intro e w3 h2
  cases hp2 : pFlag r1 with
  | none =>
    rw [hp2] at h2
    obtain ⟨rfl, hg⟩ := h2
    have HE := hide (HBAD.out (by simp only [pReq, pBind, pInt, HP1.out, hp2]) _ (HG.out.trans hg))
    clear hg hp2
    go_wp2_with fail
    exact And.intro rfl HE.out
  | some xr =>
  obtain ⟨ub, r2⟩ := xr
  rw [hp2] at h2
  obtain ⟨u, rfl, rfl, hcu, hg⟩ := h2
  have HP2 := hide hp2
  have hB2 := HB.out.own hg (fun k e => by injection e with e; omega)
  have hG2 := HG.out.trans hg
  clear HB HG HCU HC hc hf hp2
  have HB := hide hB2
  have HG := hide hG2
  have HCU := hide hcu
  have hc := hB2.cell
  have hf := hB2.frozen
  clear hB2 hG2 hcu
  obtain ⟨w4, hW⟩ : ∃ W, W = ((w3).setCell ⟨w.heap.size, 0, none⟩ (.int .i64 (d : Int))).setCell ⟨w.heap.size, 4, none⟩ (.bool ub) := ⟨_, rfl⟩
  have hB3 : Blk w4 w.heap.size 39 (rqCells (d : Int) ⟨#[]⟩ ⟨#[]⟩ ⟨#[]⟩ ub Cv.zero Cv.zero Cv.zero Cv.zero 0) := by rw [hW]; exact ((HB.out.set_ 0 (.int .i64 (d : Int))).set_ 4 (.bool ub))
  have hG3 : GB w w4 pb := by rw [hW]; exact ((HG.out.set (Nat.le_refl _) 0 (.int .i64 (d : Int))).set (Nat.le_refl _) 4 (.bool ub))
  have hC3 : Cu w4 pb r2 := by rw [hW]; exact (Cu.own (Cu.own HCU.out (grown_set _ w.heap.size 0 (.int .i64 (d : Int))) (fun k e => by injection e with e; omega)) (grown_set _ w.heap.size 4 (.bool ub)) (fun k e => by injection e with e; omega))
  have HW := hide hW
  clear HB HG HCU hW
  have HB := hide hB3
  have HG := hide hG3
  have HCU := hide hC3
  have HC := hide (wtext_any pb r2 w4 HCU.out)
  clear hB3 hG3 hC3
  go_wp2_with fail
  rw [← HW.out]
  refine HC.out.mono ?_
  intro e w5 h3
  cases hp3 : pText r2 with
  | none =>
    rw [hp3] at h3
    obtain ⟨rfl, hg⟩ := h3
    have HE := hide (HBAD.out (by simp only [pReq, pBind, pInt, HP1.out, HP2.out, hp3]) _ (HG.out.trans hg))
    clear hg hp3
    go_wp2_with fail
    exact And.intro rfl HE.out
  | some xr =>
  obtain ⟨tc, r3⟩ := xr
  rw [hp3] at h3
  obtain ⟨u, rfl, rfl, hcu, hg⟩ := h3
  have HP3 := hide hp3
  have hB2 := HB.out.own hg (fun k e => by injection e with e; omega)
  have hG2 := HG.out.trans hg
  clear HB HG HCU HC hc hf HW hp3
  have HB := hide hB2
  have HG := hide hG2
  have HCU := hide hcu
  have hc := hB2.cell
  have hf := hB2.frozen
  clear hB2 hG2 hcu
  have HC := hide (wtext_any pb r3 _ HCU.out)
  go_wp2_with fail
  refine HC.out.mono ?_
  intro e w6 h4
  cases hp4 : pText r3 with
  | none =>
    rw [hp4] at h4
    obtain ⟨rfl, hg⟩ := h4
    have HE := hide (HBAD.out (by simp only [pReq, pBind, pInt, HP1.out, HP2.out, HP3.out, hp4]) _ (HG.out.trans hg))
    clear hg hp4
    go_wp2_with fail
    exact And.intro rfl HE.out
  | some xr =>
  obtain ⟨ti, r4⟩ := xr
  rw [hp4] at h4
  obtain ⟨u, rfl, rfl, hcu, hg⟩ := h4
  have HP4 := hide hp4
  have hB2 := HB.out.own hg (fun k e => by injection e with e; omega)
  have hG2 := HG.out.trans hg
  clear HB HG HCU HC hc hf hp4
  have HB := hide hB2
  have HG := hide hG2
  have HCU := hide hcu
  have hc := hB2.cell
  have hf := hB2.frozen
  clear hB2 hG2 hcu
  have HC := hide (wtext_any pb r4 _ HCU.out)
  go_wp2_with fail
  refine HC.out.mono ?_
  intro e w7 h5
  cases hp5 : pText r4 with
  | none =>
    rw [hp5] at h5
    obtain ⟨rfl, hg⟩ := h5
    have HE := hide (HBAD.out (by simp only [pReq, pBind, pInt, HP1.out, HP2.out, HP3.out, HP4.out, hp5]) _ (HG.out.trans hg))
    clear hg hp5
    go_wp2_with fail
    exact And.intro rfl HE.out
  | some xr =>
  obtain ⟨tp, r5⟩ := xr
  rw [hp5] at h5
  obtain ⟨u, rfl, rfl, hcu, hg⟩ := h5
  have HP5 := hide hp5
  have hB2 := HB.out.own hg (fun k e => by injection e with e; omega)
  have hG2 := HG.out.trans hg
  clear HB HG HCU HC hc hf hp5
  have HB := hide hB2
  have HG := hide hG2
  have HCU := hide hcu
  have hc := hB2.cell
  have hf := hB2.frozen
  clear hB2 hG2 hcu
  obtain ⟨w8, hW⟩ : ∃ W, W = (((w7).setCell ⟨w.heap.size, 1, none⟩ (.string tc)).setCell ⟨w.heap.size, 2, none⟩ (.string ti)).setCell ⟨w.heap.size, 3, none⟩ (.string tp) := ⟨_, rfl⟩
  have hB3 : Blk w8 w.heap.size 39 (rqCells (d : Int) tc ti tp ub Cv.zero Cv.zero Cv.zero Cv.zero 0) := by rw [hW]; exact (((HB.out.set_ 1 (.string tc)).set_ 2 (.string ti)).set_ 3 (.string tp))
  have hG3 : GB w w8 pb := by rw [hW]; exact (((HG.out.set (Nat.le_refl _) 1 (.string tc)).set (Nat.le_refl _) 2 (.string ti)).set (Nat.le_refl _) 3 (.string tp))
  have hC3 : Cu w8 pb r5 := by rw [hW]; exact (Cu.own (Cu.own (Cu.own HCU.out (grown_set _ w.heap.size 1 (.string tc)) (fun k e => by injection e with e; omega)) (grown_set _ w.heap.size 2 (.string ti)) (fun k e => by injection e with e; omega)) (grown_set _ w.heap.size 3 (.string tp)) (fun k e => by injection e with e; omega))
  have HW := hide hW
  clear HB HG HCU hW
  have HB := hide hB3
  have HG := hide hG3
  have HCU := hide hC3
  have HC := hide (wword_any pb r5 w8 HCU.out)
  clear hB3 hG3 hC3
  go_wp2_with fail
  rw [← HW.out]
  refine HC.out.mono ?_
  intro e w9 h6
  cases hp6 : pNum 4 r5 with
  | none =>
    rw [hp6] at h6
    obtain ⟨rfl, hg⟩ := h6
    have HE := hide (HBAD.out (by simp only [pReq, pBind, pInt, HP1.out, HP2.out, HP3.out, HP4.out, HP5.out, hp6]) _ (HG.out.trans hg))
    clear hg hp6
    go_wp2_with fail
    exact And.intro rfl HE.out
  | some xr =>
  obtain ⟨nn, r6⟩ := xr
  rw [hp6] at h6
  obtain ⟨u, rfl, rfl, hcu, hg⟩ := h6
  have HP6 := hide hp6
  have hn32 : nn < 4294967296 := (pNum_some hp6).2
  have hi32 := i32_of nn hn32
  obtain ⟨N, hN⟩ : ∃ N : Int, (if nn < 2147483648 then (nn : Int) else (nn : Int) - 4294967296) = N := ⟨_, rfl⟩
  rw [hN] at hi32
  have HN := hide hN
  have hNr : -2147483648 ≤ N ∧ N ≤ 2147483647 := by rw [← hN]; split <;> omega
  clear hN
  have hB2 := HB.out.own hg (fun k e => by injection e with e; omega)
  have hG2 := HG.out.trans hg
  clear HB HG HCU HC hc hf HW hp6
  have HB := hide hB2
  have HG := hide hG2
  have HCU := hide hcu
  have hc := hB2.cell
  have hf := hB2.frozen
  clear hB2 hG2 hcu
  obtain ⟨w10, hW⟩ : ∃ W, W = (w9).setCell ⟨w.heap.size, 25, none⟩ (.int .i64 N) := ⟨_, rfl⟩
  have hB3 : Blk w10 w.heap.size 39 (rqCells (d : Int) tc ti tp ub Cv.zero Cv.zero Cv.zero Cv.zero N) := by rw [hW]; exact (HB.out.set_ 25 (.int .i64 N))
  have hG3 : GB w w10 pb := by rw [hW]; exact (HG.out.set (Nat.le_refl _) 25 (.int .i64 N))
  have hC3 : Cu w10 pb r6 := by rw [hW]; exact (Cu.own HCU.out (grown_set _ w.heap.size 25 (.int .i64 N)) (fun k e => by injection e with e; omega))
  have HW := hide hW
  clear HB HG HCU hW
  have HB := hide hB3
  have HG := hide hG3
  have HCU := hide hC3
  have HC := hide (wmay_any pb r6 w10 (HT.out.gb HG.out hp) hp HCU.out)
  clear hB3 hG3 hC3
  go_wp2_with fail
  rw [← HW.out]
  refine HC.out.mono ?_
  intro e w11 h7
  cases hp7 : pMay r6 with
  | none =>
    rw [hp7] at h7
    obtain ⟨rfl, hg⟩ := h7
    have HE := hide (HBAD.out (by simp only [pReq, pBind, pInt, HP1.out, HP2.out, HP3.out, HP4.out, HP5.out, HP6.out, HN.out, hp7]) _ (HG.out.trans hg))
    clear hg hp7
    go_wp2_with fail
    exact And.intro rfl HE.out
  | some xr =>
  obtain ⟨vk, r7⟩ := xr
  rw [hp7] at h7
  obtain ⟨u, rfl, ⟨ck, rfl, hin⟩, hcu, hg⟩ := h7
  have HP7 := hide hp7
  have HI7 := hide hin
  have hz7 := HB.out.lt
  clear hin
  have hB2 := HB.out.own hg (fun k e => by injection e with e; omega)
  have hG2 := HG.out.trans hg
  clear HB HG HCU HC hc hf HW hp7
  have HB := hide hB2
  have HG := hide hG2
  have HCU := hide hcu
  have hc := hB2.cell
  have hf := hB2.frozen
  clear hB2 hG2 hcu
  have HC := hide (wmay_any pb r7 _ (HT.out.gb HG.out hp) hp HCU.out)
  go_wp2_with fail
  refine HC.out.mono ?_
  intro e w12 h8
  cases hp8 : pMay r7 with
  | none =>
    rw [hp8] at h8
    obtain ⟨rfl, hg⟩ := h8
    have HE := hide (HBAD.out (by simp only [pReq, pBind, pInt, HP1.out, HP2.out, HP3.out, HP4.out, HP5.out, HP6.out, HN.out, HP7.out, hp8]) _ (HG.out.trans hg))
    clear hg hp8
    go_wp2_with fail
    exact And.intro rfl HE.out
  | some xr =>
  obtain ⟨vl, r8⟩ := xr
  rw [hp8] at h8
  obtain ⟨u, rfl, ⟨cl, rfl, hin⟩, hcu, hg⟩ := h8
  have HP8 := hide hp8
  have HI7 := hide ((HI7.out.blocks hg.size (fun k h1 h2 => hg.block k (Nat.lt_of_lt_of_le h2 HI7.out.1) (fun e => by injection e with e; have := HG.out.size; omega))))
  have HI8 := hide hin
  have hz8 := HB.out.lt
  clear hin
  have hB2 := HB.out.own hg (fun k e => by injection e with e; omega)
  have hG2 := HG.out.trans hg
  clear HB HG HCU HC hc hf hp8
  have HB := hide hB2
  have HG := hide hG2
  have HCU := hide hcu
  have hc := hB2.cell
  have hf := hB2.frozen
  clear hB2 hG2 hcu
  have HC := hide (wmay_any pb r8 _ (HT.out.gb HG.out hp) hp HCU.out)
  go_wp2_with fail
  refine HC.out.mono ?_
  intro e w13 h9
  cases hp9 : pMay r8 with
  | none =>
    rw [hp9] at h9
    obtain ⟨rfl, hg⟩ := h9
    have HE := hide (HBAD.out (by simp only [pReq, pBind, pInt, HP1.out, HP2.out, HP3.out, HP4.out, HP5.out, HP6.out, HN.out, HP7.out, HP8.out, hp9]) _ (HG.out.trans hg))
    clear hg hp9
    go_wp2_with fail
    exact And.intro rfl HE.out
  | some xr =>
  obtain ⟨vh, r9⟩ := xr
  rw [hp9] at h9
  obtain ⟨u, rfl, ⟨ch, rfl, hin⟩, hcu, hg⟩ := h9
  have HP9 := hide hp9
  have HI7 := hide ((HI7.out.blocks hg.size (fun k h1 h2 => hg.block k (Nat.lt_of_lt_of_le h2 HI7.out.1) (fun e => by injection e with e; have := HG.out.size; omega))))
  have HI8 := hide ((HI8.out.blocks hg.size (fun k h1 h2 => hg.block k (Nat.lt_of_lt_of_le h2 HI8.out.1) (fun e => by injection e with e; have := HG.out.size; omega))))
  have HI9 := hide hin
  have hz9 := HB.out.lt
  clear hin
  have hB2 := HB.out.own hg (fun k e => by injection e with e; omega)
  have hG2 := HG.out.trans hg
  clear HB HG HCU HC hc hf hp9
  have HB := hide hB2
  have HG := hide hG2
  have HCU := hide hcu
  have hc := hB2.cell
  have hf := hB2.frozen
  clear hB2 hG2 hcu
  have HC := hide (wmay_any pb r9 _ (HT.out.gb HG.out hp) hp HCU.out)
  go_wp2_with fail
  refine HC.out.mono ?_
  intro e w14 h10
  cases hp10 : pMay r9 with
  | none =>
    rw [hp10] at h10
    obtain ⟨rfl, hg⟩ := h10
    have HE := hide (HBAD.out (by simp only [pReq, pBind, pInt, HP1.out, HP2.out, HP3.out, HP4.out, HP5.out, HP6.out, HN.out, HP7.out, HP8.out, HP9.out, hp10]) _ (HG.out.trans hg))
    clear hg hp10
    go_wp2_with fail
    exact And.intro rfl HE.out
  | some xr =>
  obtain ⟨vx, r10⟩ := xr
  rw [hp10] at h10
  obtain ⟨u, rfl, ⟨cx, rfl, hin⟩, hcu, hg⟩ := h10
  have HP10 := hide hp10
  have HI7 := hide ((HI7.out.blocks hg.size (fun k h1 h2 => hg.block k (Nat.lt_of_lt_of_le h2 HI7.out.1) (fun e => by injection e with e; have := HG.out.size; omega))))
  have HI8 := hide ((HI8.out.blocks hg.size (fun k h1 h2 => hg.block k (Nat.lt_of_lt_of_le h2 HI8.out.1) (fun e => by injection e with e; have := HG.out.size; omega))))
  have HI9 := hide ((HI9.out.blocks hg.size (fun k h1 h2 => hg.block k (Nat.lt_of_lt_of_le h2 HI9.out.1) (fun e => by injection e with e; have := HG.out.size; omega))))
  have HI10 := hide hin
  have hz10 := HB.out.lt
  clear hin
  have hB2 := HB.out.own hg (fun k e => by injection e with e; omega)
  have hG2 := HG.out.trans hg
  clear HB HG HCU HC hc hf hp10
  have HB := hide hB2
  have HG := hide hG2
  have HCU := hide hcu
  have hc := hB2.cell
  have hf := hB2.frozen
  clear hB2 hG2 hcu
  clear hc hf
  go_wp2_with (first
    | (with_reducible refine at_store 37 ?_; refine store_val (g := w.heap.size) (o := 5) (c := ck) (new := (rqCells (d : Int) tc ti tp ub ck Cv.zero Cv.zero Cv.zero N)) rfl rfl HB.out info_val (by simp) rfl ?_; intro x5 hB5 hg5 hs5; have HB20 := hide hB5; have HG20 := hide hg5; clear hB5 hg5)
    | (with_reducible refine at_store 37 ?_; refine store_val (g := w.heap.size) (o := 10) (c := cl) (new := (rqCells (d : Int) tc ti tp ub ck cl Cv.zero Cv.zero N)) rfl rfl HB20.out info_val (by simp) rfl ?_; intro x10 hB10 hg10 hs10; have HB21 := hide hB10; have HG21 := hide hg10; clear hB10 hg10)
    | (with_reducible refine at_store 37 ?_; refine store_val (g := w.heap.size) (o := 15) (c := ch) (new := (rqCells (d : Int) tc ti tp ub ck cl ch Cv.zero N)) rfl rfl HB21.out info_val (by simp) rfl ?_; intro x15 hB15 hg15 hs15; have HB22 := hide hB15; have HG22 := hide hg15; clear hB15 hg15)
    | (with_reducible refine at_store 37 ?_; refine store_val (g := w.heap.size) (o := 20) (c := cx) (new := (rqCells (d : Int) tc ti tp ub ck cl ch cx N)) rfl rfl HB22.out info_val (by simp) rfl ?_; intro x20 hB20 hg20 hs20; have HB23 := hide hB20; have HG23 := hide hg20; clear hB20 hg20)
    | (with_reducible refine at_load 39 ?_; refine load_blk (g := w.heap.size) (n := 26) (cells := (rqCells (d : Int) tc ti tp ub ck cl ch cx N)) Tryd.underlying39 rfl rfl HB23.out info_rQ rfl ?_)
    | (with_reducible refine at_store 39 ?_; refine store_blk (g := w.heap.size) (n := 26) (cells := (rqCells (d : Int) tc ti tp ub ck cl ch cx N)) rfl rfl HB23.out info_rQ rfl rfl (by simp [Value.oneCell']) ?_; intro x26 hB26 hg26 hs26; have HB26 := hide hB26; have HG26 := hide hg26; clear hB26 hg26))
  have HGA := hide (grown_trans (grown_trans (grown_trans (grown_trans HG20.out HG21.out) HG22.out) HG23.out) HG26.out)
  have hzA : x26.heap.size = w14.heap.size := by omega
  have hgot : pReq bs = some (⟨(d : Int), tc, ti, tp, ub, vk, vl, vh, vx, N⟩, r10) := by simp only [pReq, pBind, pInt, HP1.out, HP2.out, HP3.out, HP4.out, HP5.out, HP6.out, HN.out, HP7.out, HP8.out, HP9.out, HP10.out]
  have hblk : ∀ k, w.heap.size < k → k < w14.heap.size → x26.heap[k]? = w14.heap[k]? := fun k h1 h2 => HGA.out.block k h2 (fun e => by injection e with e; omega)
  refine bodyPost_ret (rqres rfl rfl HB26.out) rfl (HGOOD.out _ r10 hgot _ _ ⟨ck, cl, ch, cx, rfl, ?_, ?_, ?_, ?_⟩ (HCU.out.own HGA.out (fun k e => by injection e with e; omega)) (GB.own HG.out HGA.out (fun k e => by injection e with e; omega)))
  · exact (HI7.out.blocks (by omega) (fun k h1 h2 => hblk k (by omega) (Nat.lt_of_lt_of_le h2 HI7.out.1))).wider (Nat.le_of_lt hz7) (by rw [hzA]; exact HI7.out.1) (Nat.le_refl _)
  · exact (HI8.out.blocks (by omega) (fun k h1 h2 => hblk k (by omega) (Nat.lt_of_lt_of_le h2 HI8.out.1))).wider (Nat.le_of_lt hz8) (by rw [hzA]; exact HI8.out.1) (Nat.le_refl _)
  · exact (HI9.out.blocks (by omega) (fun k h1 h2 => hblk k (by omega) (Nat.lt_of_lt_of_le h2 HI9.out.1))).wider (Nat.le_of_lt hz9) (by rw [hzA]; exact HI9.out.1) (Nat.le_refl _)
  · exact (HI10.out.blocks (by omega) (fun k h1 h2 => hblk k (by omega) (Nat.lt_of_lt_of_le h2 HI10.out.1))).wider (Nat.le_of_lt hz10) (by rw [hzA]; exact HI10.out.1) (Nat.le_refl _)
theorem wrequest_any (pb : Nat) (bs : List UInt8) (w : World) (hT : Tabs w) (hp : 1 < pb) (h : Cu w pb bs) :
    Calls Tryd.prog 35 #[.pointer (some ⟨pb, 0, none⟩)] w (PrC w pb (pReq bs) (RetRq w)) :=
  wrequest_cps _ pb bs w hT hp h (fun hn w' hg => by rw [hn]; exact PrC.bad hg) (fun q r hq u w' h1 h2 h3 => by rw [hq]; exact PrC.good h1 h2 h3)
end Go.Proofs.YtcdbchifigonpaaDoor
