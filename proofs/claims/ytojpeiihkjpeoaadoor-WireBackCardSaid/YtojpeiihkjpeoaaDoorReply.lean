/- Walks: a reply of a frame's body. -/
import Derived.Test.YtojpeiihkjpeoaaDoorCurA
import Derived.Deep.RegionHeld3
import Derived.RegionDies
import Derived.Deep.RegionLaw
set_option linter.unusedVariables false
set_option linter.unusedSimpArgs false
namespace Go.Proofs.YtojpeiihkjpeoaaDoor
open Go.RowKit Go.Shelf

/-- The four cells of a reply. -/
abbrev rpCells (e n : Int) (A : Option Addr) (l c : Nat) (k : Int) : Array Value := #[.int .i64 e, .int .i64 n, .slice A l c, .int .i64 k]
/-- A reply, its values in new memory. -/
def RetRp (w0 : World) (q : Rp) (u : Value) (w' : World) : Prop :=
  ∃ A c, u = .agg (rpCells q.e q.n A q.docs.length c q.cursor) ∧ InS w' w0.heap.size w'.heap.size (.mk 7 0 [] q.docs []) ⟨7, 0, none, 0, 0, A, q.docs.length, c, none, 0, 0⟩
theorem RetRp.zero (w w' : World) : RetRp w Rp.zero (.agg (rpCells 0 0 none 0 0 0)) w' := by
  refine ⟨none, 0, rfl, Nat.le_refl _, ?_⟩
  show IsS _ (V.mk 7 0 [] [] []) _ _
  rw [IsS]
  exact ⟨rfl, rfl, rfl, rfl, rfl, by decide, by decide, by decide, by simp, by simp, by simp [Rp.zero], by simp, by simp, by simp, ⟨rfl, fun h => by simp at h⟩, ⟨fun _ _ => False, fun i hi => absurd hi (by simp), fun _ _ _ _ _ h => h.elim⟩, ⟨fun _ _ => False, fun i hi => absurd hi (by simp), fun _ _ _ _ _ h => h.elim⟩⟩
theorem RetRp.cells {w w' : World} {q : Rp} {u : Value} (h : RetRp w q u w') : ∃ cs, u = .agg cs ∧ cs.size = 4 ∧ cs.all (·.oneCell') = true := by
  obtain ⟨A, c, rfl, _⟩ := h
  exact ⟨_, rfl, rfl, by simp [Value.oneCell']⟩
theorem RetRp.move {w0 w w1 w' : World} {q : Rp} {u : Value} (h : RetRp w q u w1) (h0 : w0.heap.size ≤ w.heap.size) (hz : w1.heap.size ≤ w'.heap.size) (hb : ∀ k, w.heap.size ≤ k → k < w1.heap.size → w'.heap[k]? = w1.heap[k]?) : RetRp w0 q u w' := by
  obtain ⟨A, c, rfl, hin⟩ := h
  exact ⟨A, c, rfl, (hin.blocks hz hb).wider h0 hz (Nat.le_refl _)⟩
/-- So far j of n values have been read: the rest tells the whole. -/
def ValsTo (n j : Nat) (r rest : List UInt8) (es : List VE) : Prop :=
  pVals n r = pBind (pVals (n - j) rest) fun l r' => some (es.map VE.v ++ l, r')
theorem ValsTo.start (n : Nat) (r : List UInt8) : ValsTo n 0 r r [] := by
  unfold ValsTo
  rw [Nat.sub_zero]
  cases pVals n r <;> rfl
theorem ValsTo.fail {n j : Nat} {r rest : List UInt8} {es : List VE} (h : ValsTo n j r rest es) (hj : j < n) (hf : pVal rest = none) : pVals n r = none := by
  rw [h, show n - j = (n - (j + 1)) + 1 by omega, pVals, hf]; rfl
theorem ValsTo.step {n j : Nat} {r rest rest' : List UInt8} {es : List VE} {x : VE} (h : ValsTo n j r rest es) (hj : j < n) (hf : pVal rest = some (x.v, rest')) : ValsTo n (j + 1) r rest' (es ++ [x]) := by
  unfold ValsTo at h ⊢
  rw [h, show n - j = (n - (j + 1)) + 1 by omega, pVals, hf]
  simp only
  cases pVals (n - (j + 1)) rest' with
  | none => rfl
  | some y => simp [pBind]
theorem ValsTo.done {n : Nat} {r rest : List UInt8} {es : List VE} (h : ValsTo n n r rest es) : pVals n r = some (es.map VE.v, rest) := by
  unfold ValsTo at h
  rw [h, Nat.sub_self, pVals]
  simp [pBind]

def set4 (W : World) (b : Nat) (c0 c1 c2 c3 : Value) : World := (((W.setCell ⟨b, 0, none⟩ c0).setCell ⟨b, 1, none⟩ c1).setCell ⟨b, 2, none⟩ c2).setCell ⟨b, 3, none⟩ c3
theorem grown4 (W : World) (b : Nat) (c0 c1 c2 c3 : Value) : W.grownBy (set4 W b c0 c1 c2 c3) (some b) :=
  (GB.trans (GB.trans (GB.trans (grown_set W b 0 c0) (grown_set _ b 1 c1)) (grown_set _ b 2 c2)) (grown_set _ b 3 c3) : GB W _ b)
theorem rpres {F : Func} {W : World} {vb : Nat} {tmps : Array Value} {e n k : Int} {A : Option Addr} {l c : Nat} (hF : F.results = #[ResultVar.cell 2 25]) (h2 : tmps.getD 2 undef = .pointer (some ⟨vb, 0, none⟩)) (hv : Blk W vb 25 (rpCells e n A l c k)) :
    (results F tmps).run Tryd.prog W = .ok (.agg (rpCells e n A l c k)) W := by
  have hvc := hv.cell
  have h2' : tmps[2]?.getD undef = .pointer (some ⟨vb, 0, none⟩) := by simpa using h2
  simp [results, hF, go_sem, h2', hvc]

set_option maxRecDepth 100000 in
set_option maxHeartbeats 3200000 in
theorem wreply_cps (Q : Ending → World → Prop) (pb : Nat) (bs : List UInt8) (w : World) (hT : Tabs w) (hp : 1 < pb) (h : Cu w pb bs)
    (hbad : pRep bs = none → ∀ w', GB w w' pb → Q (.panicked (thrown 4)) w')
    (hgood : ∀ q r, pRep bs = some (q, r) → ∀ u w', RetRp w q u w' → Cu w' pb r → GB w w' pb → Q (.returned u) w') :
    Calls Tryd.prog 53 #[.pointer (some ⟨pb, 0, none⟩)] w Q := by
  obtain ⟨i0, hi0, hz0, hz1, hz2⟩ := info_parts info_val3
  have Hi0 := hide hi0
  have Hz0 := hide hz0
  have Hz1 := hide hz1
  have Hz2 := hide hz2
  clear hi0 hz0 hz1 hz2
  have hlt := h.lt
  have hG1 := (Grow.refl w).alloc (.cells (rpCells 0 0 none 0 0 0) 25)
  have HB1 := hide (Blk.new w 25 (rpCells 0 0 none 0 0 0))
  have HC1 := hide (wbyte_any pb bs _ (h.grow hG1))
  have HG1 := hide ((GB.refl w pb).grow hG1)
  have HT := hide hT
  have HBAD := hide hbad
  have HGOOD := hide hgood
  clear h hG1 hT hbad hgood
  go_enter Tryd.func53, Tryd.ntmps53
  go_wp2_with fail
  refine HC1.out.mono ?_
  intro e w2 h2
  cases hp1 : pNum 1 bs with
  | none =>
    rw [hp1] at h2
    obtain ⟨rfl, hg⟩ := h2
    have HE := hide (HBAD.out (by simp only [pRep, pBind, hp1]) _ (HG1.out.trans hg))
    clear hg hp1
    go_wp2_with fail
    exact And.intro rfl HE.out
  | some xr =>
  obtain ⟨ev, r1⟩ := xr
  rw [hp1] at h2
  obtain ⟨u, rfl, rfl, hcu, hg⟩ := h2
  have HP1 := hide hp1
  have hB2 := HB1.out.own hg (fun k e => by injection e with e; omega)
  have HG2 := hide (HG1.out.trans hg)
  have HB2 := hide hB2
  have hc := hB2.cell
  have hf := hB2.frozen
  have hs := grown_set w2 w.heap.size 0 (.int .i64 (ev : Int))
  have HC2 := hide (wcount_any pb r1 (w2.setCell ⟨w.heap.size, 0, none⟩ (.int .i64 (ev : Int))) (hcu.own hs (fun k e => by injection e with e; omega)))
  clear hp1 hcu hg hB2 hs HB1 HC1 HG1
  go_wp2_with fail
  refine HC2.out.mono ?_
  intro e w3 h3
  have hgs := GB.set HG2.out (Nat.le_refl _) 0 (.int .i64 (ev : Int))
  cases hp2 : pCount r1 with
  | none =>
    rw [hp2] at h3
    obtain ⟨rfl, hg⟩ := h3
    have HE := hide (HBAD.out (by simp only [pRep, pBind, HP1.out, hp2]) _ (hgs.trans hg))
    clear hg hp2
    go_wp2_with fail
    exact And.intro rfl HE.out
  | some xr =>
  obtain ⟨nv, r2⟩ := xr
  rw [hp2] at h3
  obtain ⟨u, rfl, rfl, hcu, hg⟩ := h3
  have HP2 := hide hp2
  have hB3 := (HB2.out.set_ 0 (.int .i64 (ev : Int))).own hg (fun k e => by injection e with e; omega)
  have HG3 := hide (hgs.trans hg)
  have HB3 := hide hB3
  have HC3 := hide (wcount_any pb r2 w3 hcu)
  clear hp2 hcu hg hB3 HB2 HG2 hgs hc hf HC2
  go_wp2_with fail
  refine HC3.out.mono ?_
  intro e w4 h4
  cases hp3 : pCount r2 with
  | none =>
    rw [hp3] at h4
    obtain ⟨rfl, hg⟩ := h4
    have HE := hide (HBAD.out (by simp only [pRep, pBind, HP1.out, HP2.out, hp3]) _ (HG3.out.trans hg))
    clear hg hp3
    go_wp2_with fail
    exact And.intro rfl HE.out
  | some xr =>
  obtain ⟨cv, r3⟩ := xr
  rw [hp3] at h4
  obtain ⟨u, rfl, rfl, hcu, hg⟩ := h4
  have HP3 := hide hp3
  have hB4 := HB3.out.own hg (fun k e => by injection e with e; omega)
  have hc := hB4.cell
  have hf := hB4.frozen
  have hG4 := HG3.out.trans hg
  obtain ⟨W5, hW5⟩ : ∃ W, W = (w4.setCell ⟨w.heap.size, 1, none⟩ (.int .i64 nv)).setCell ⟨w.heap.size, 3, none⟩ (.int .i64 cv) := ⟨_, rfl⟩
  have HW5 := hide hW5
  have HB5 := hide (show Blk W5 w.heap.size 25 (rpCells ev nv none 0 0 cv) by rw [hW5]; exact (hB4.set_ 1 (.int .i64 nv)).set_ 3 (.int .i64 cv))
  have HG5 := hide (show GB w W5 pb by rw [hW5]; exact (hG4.set (Nat.le_refl _) 1 _).set (Nat.le_refl _) 3 _)
  have hcu5 : Cu W5 pb r3 := by
    rw [hW5]
    exact (hcu.own (grown_set _ w.heap.size 1 (.int .i64 nv)) (fun k e => by injection e with e; omega)).own (grown_set _ w.heap.size 3 (.int .i64 cv)) (fun k e => by injection e with e; omega)
  have HC5 := hide (wbyte_any pb r3 W5 hcu5)
  clear hp3 hcu hg hB4 HB3 HG3 hG4 HC3 hW5 hcu5
  go_wp2_with fail
  rw [← HW5.out]
  have hc := HB5.out.cell
  have hf := HB5.out.frozen
  refine HC5.out.mono ?_
  intro e w6 h6
  cases hp4 : pNum 1 r3 with
  | none =>
    rw [hp4] at h6
    obtain ⟨rfl, hg⟩ := h6
    have HE := hide (HBAD.out (by simp only [pRep, pBind, HP1.out, HP2.out, HP3.out, hp4]) _ (HG5.out.trans hg))
    clear hg hp4
    go_wp2_with fail
    exact And.intro rfl HE.out
  | some xr =>
  obtain ⟨n, r4⟩ := xr
  rw [hp4] at h6
  obtain ⟨u, rfl, rfl, hcu, hg⟩ := h6
  have HP4 := hide hp4
  have HB6 := hide (HB5.out.own hg (fun k e => by injection e with e; omega))
  have HG6 := hide (HG5.out.trans hg)
  have HCU6 := hide hcu
  have hpl := hcu.lt
  clear hp4 hcu hg HB5 HG5 HC5 hc hf HW5
  by_cases h64 : 64 < n
  · have hd : decide ((n : Int) ≤ 64) = false := by simp; omega
    have HE := hide (HBAD.out (by simp only [pRep, pBind, HP1.out, HP2.out, HP3.out, HP4.out]; rw [if_pos h64]) _ HG6.out)
    go_wp2_with fail
    refine (wmust_no _).mono ?_
    rintro e w7 ⟨rfl, rfl⟩
    go_wp2_with fail
    exact And.intro rfl HE.out
  have hd : decide ((n : Int) ≤ 64) = true := by simp; omega
  go_wp2_with fail
  refine (wmust_yes _).mono ?_
  rintro e w7 ⟨rfl, rfl⟩
  have hc := HB6.out.cell
  have hfr := HB6.out.frozen
  have hvl := HB6.out.lt
  obtain ⟨cur, hcur, hmk⟩ := make_vals n (by omega)
  go_wp2_with fail
  have hsz3 : (w6.setCell ⟨w.heap.size, 2, none⟩ (.slice (some ⟨w6.heap.size, 0, none⟩) 0 n)).heap.size = w6.heap.size := by simp [World.setCell]
  have hrow := World.ownsRow_made (e := 47) (size := 5) (w6.setCell ⟨w.heap.size, 2, none⟩ (.slice (some ⟨w6.heap.size, 0, none⟩) 0 n)) cur n (Nat.le_refl _) (by simp only [maxLen]; omega) hcur
  rw [hsz3] at hrow
  have HB7 := hide (show Blk ((w6.setCell ⟨w.heap.size, 2, none⟩ (.slice (some ⟨w6.heap.size, 0, none⟩) 0 n)).alloc (.cells cur 47)) w.heap.size 25 (rpCells ev nv (some ⟨w6.heap.size, 0, none⟩) 0 n cv) from (HB6.out.set_ 2 _).alloc _)
  have HG7 := hide ((HG6.out.set (Nat.le_refl _) 2 (.slice (some ⟨w6.heap.size, 0, none⟩) 0 n)).grow ((Grow.refl _).alloc (.cells cur 47)))
  have HR7 := hide ((HCU6.out.own (grown_set _ w.heap.size 2 (.slice (some ⟨w6.heap.size, 0, none⟩) 0 n)) (fun k e => by injection e with e; omega)).grow ((Grow.refl _).alloc (.cells cur 47)))
  have HV7 := hide (show VRow ((w6.setCell ⟨w.heap.size, 2, none⟩ (.slice (some ⟨w6.heap.size, 0, none⟩) 0 n)).alloc (.cells cur 47)) 47 noHead 5 w.heap.size w.heap.size w6.heap.size (.slice (some ⟨w6.heap.size, 0, none⟩) 0 n) [] from
    ⟨hrow, fun x hx => by simp at hx, fun i j hi => by simp at hi⟩)
  clear hsz3 hrow hmk hc hfr HB6 HCU6 HG6
  go_loopg [22] (n + 1) (fun gk i wr => ∃ (j : Nat) (es : List VE) (A : Option Addr) (cap : Nat) (rest : List UInt8), j ≤ n ∧ gk + j = n + 1 ∧ i = .int .i64 j ∧ es.length = j ∧ ValsTo n j r4 rest es ∧
    VRow wr 47 noHead 5 w.heap.size w.heap.size w6.heap.size (.slice A j cap) es ∧ Cu wr pb rest ∧ GB w wr pb ∧ Blk wr w.heap.size 25 (rpCells ev nv A j cap cv) ∧ w6.heap.size ≤ wr.heap.size)
  case atStart => exact ⟨0, [], _, _, r4, by omega, by omega, rfl, rfl, ValsTo.start n r4, HV7.out, HR7.out, HG7.out, HB7.out, by simp [World.setCell]⟩
  case round =>
    obtain ⟨j, es, A', cap', rest, hj, hg, rfl, hel, hrd, hv, hr, hgb, hB, hbz⟩ := hrel
    have HV := hide hv
    have HR := hide hr
    have HG := hide hgb
    have HB := hide hB
    have HL := hide hrd
    have HEL := hide hel
    have hc := hB.cell
    have hfr := hB.frozen
    have hvl' := hB.lt
    have HTr := hide (HT.out.gb hgb hp)
    have hpr := hr.lt
    clear hv hr hgb hB hrd HV7 HR7 HG7 HB7 hel
    by_cases hlt2 : j < n
    · obtain ⟨gk', rfl⟩ : ∃ g, gk = g + 1 := ⟨gk - 1, by omega⟩
      have hcall := wvalue_any pb rest wr.drew (HTr.out.grow (Grow.refl wr).drew) hp (HR.out.grow (Grow.refl wr).drew)
      cases hfx : pVal rest with
      | none =>
        rw [hfx] at hcall
        have HC := hide hcall
        have hend : ∀ w2, GB wr.drew w2 pb → Q (.panicked (thrown 4)) w2 := fun w2 h =>
          HBAD.out (by simp only [pRep, pBind, HP1.out, HP2.out, HP3.out, HP4.out]; rw [if_neg h64, HL.out.fail hlt2 hfx]) _ ((HG.out.grow (Grow.refl wr).drew).trans h)
        have HE := hide hend
        clear hcall hfx hend
        go_wp2_with fail
        go_region_dies
        all_goals
          refine HC.out.mono ?_
          rintro e w2 ⟨rfl, hg2⟩
          exact And.intro rfl (HE.out _ hg2)
      | some xr =>
        obtain ⟨xv, rest'⟩ := xr
        rw [hfx] at hcall
        have HC := hide hcall
        have HX := hide hfx
        clear hcall hfx
        go_wp2_with fail
        go_region_law ((first | (refine step_append_src (by rfl) (.tmp 25) (.tmp 28) 23 23 (by rfl) w6.heap.size 47 i0 _ 5 88 under_vals Hi0.out Hz0.out Hz1.out Hz2.out (by rfl) (.slice A' j cap') j (cellsOf noHead es) (by rfl) (hown2.alloc _) _ 1 c.cells.toList (by rfl) (Src.oneV c _) (by omega) (by simp only [maxLen]; omega) (by simp; omega) ?_; intro A3 c3 w3 hown3 hgr3 hat3; have hB3 := Blk.own (hB2.alloc _) hgr3 (fun k hk => by have := (hv2.own_lt hk).1; omega); have hc3 := hB3.cell; have hf3 := hB3.frozen) | (go_simp; go_at_call 88; refine HC.out.mono ?_; rintro e w2 ⟨u, rfl, ⟨c, rfl, hx2⟩, hr2, hg2⟩; have hB2 := Blk.own HB.out.drew hg2 (fun k e => by injection e with e; omega); have hc2 := hB2.cell; have hc2a := (hB2.alloc (.cells c.cells 47)).cell; have hz2 : wr.heap.size ≤ w2.heap.size := hg2.size; have hv2 := VRow.gb (HV.out.grow (Grow.refl wr).drew) hg2 (by omega) hlt; have hown2 := hv2.own; rw [HEL.out] at hown2)))
        all_goals
          have HV4 := hide (VRow.set (VRow.add (s := ⟨#[]⟩) (m0 := wr.heap.size) hv2 (fun k hk => ((HV.out).own_lt hk).2) hvl' (by omega) (fun y hy => ((HV.out).part y hy).2.2.2.1) hx2 (by rw [HEL.out]; exact hown3) hgr3 hat3) hvl 2 (.slice A3 (j + 1) c3))
          have HB4 := hide (hB3.set_ 2 (.slice A3 (j + 1) c3))
          have HG4 := hide (GB.set (GB.own (((HG.out.grow (Grow.refl wr).drew).trans hg2).grow ((Grow.refl w2).alloc _)) hgr3 (fun k hk => by have := (hv2.own_lt hk).1; omega)) (Nat.le_refl _) 2 (.slice A3 (j + 1) c3))
          have HR4 := hide (Cu.own (Cu.own (hr2.grow ((Grow.refl w2).alloc _)) hgr3 (fun k hk => by have := (hv2.own_lt hk).1; omega)) (grown_set w3 w.heap.size 2 (.slice A3 (j + 1) c3)) (fun k e => by injection e with e; omega))
          have hz4 : w6.heap.size ≤ (w3.setCell ⟨w.heap.size, 2, none⟩ (.slice A3 (j + 1) c3)).heap.size := by
            have := hgr3.size
            simp [World.setCell] at this ⊢
            omega
          clear hB2 hB3 hc2 hc2a hc3 hf3 hx2 hr2 hg2 hv2 hown2 hown3 hgr3 hat3 hc hfr
          go_wp2_with fail
          go_roundg gk'
          case measure => omega
          case rel => exact ⟨j + 1, es ++ [⟨⟨#[]⟩, xv, c, wr.heap.size, w2.heap.size⟩], A3, c3, rest', by omega, by omega, by go_num, by simp [HEL.out], HL.out.step hlt2 HX.out, HV4.out, HR4.out, HG4.out, HB4.out, hz4⟩
    · obtain rfl : j = n := by omega
      have hrdn := (HL.out).done
      have hgot : pRep bs = some (⟨ev, nv, es.map VE.v, cv⟩, rest) := by simp only [pRep, pBind, HP1.out, HP2.out, HP3.out, HP4.out]; rw [if_neg h64, hrdn]
      have HGOT := hide hgot
      clear hrdn hgot
      go_wp2_with fail
      have hg4 := grown4 wr w.heap.size (.int .i64 ev) (.int .i64 nv) (.slice A' j cap') (.int .i64 cv)
      have hlen : (es.map VE.v).length = j := by rw [List.length_map]; exact HEL.out
      have hB4 : Blk (set4 wr w.heap.size (.int .i64 ev) (.int .i64 nv) (.slice A' j cap') (.int .i64 cv)) w.heap.size 25 (rpCells ev nv A' j cap' cv) := (((HB.out.set_ 0 _).set_ 1 _).set_ 2 _).set_ 3 _
      refine bodyPost_ret (rpres rfl rfl hB4) rfl (HGOOD.out ⟨ev, nv, es.map VE.v, cv⟩ rest HGOT.out _ _ ⟨A', cap', ?_, ⟨Nat.le_refl _, ?_⟩⟩ (HR.out.own hg4 (fun k e => by injection e with e; omega)) (GB.own HG.out hg4 (fun k e => by injection e with e; omega)))
      · show _ = Value.agg (rpCells ev nv A' (es.map VE.v).length cap' cv)
        rw [hlen]
      · show IsS _ _ ⟨7, 0, none, 0, 0, A', (es.map VE.v).length, cap', none, 0, 0⟩ _
        rw [hlen]
        exact IsS.mono _ _ _ _ (fun p u h s => h.1.block (hg4.block _ s.2 (fun e => h.2 (by injection e)))) (fun q h => ⟨h.1, Nat.lt_of_lt_of_le h.2 hg4.size⟩) (HV.out.isL HEL.out.symm (by omega) hvl (by omega))
theorem wreply_any (pb : Nat) (bs : List UInt8) (w : World) (hT : Tabs w) (hp : 1 < pb) (h : Cu w pb bs) :
    Calls Tryd.prog 53 #[.pointer (some ⟨pb, 0, none⟩)] w (PrC w pb (pRep bs) (RetRp w)) :=
  wreply_cps _ pb bs w hT hp h (fun hn w' hg => by rw [hn]; exact PrC.bad hg) (fun q r hq u w' h1 h2 h3 => by rw [hq]; exact PrC.good h1 h2 h3)
end Go.Proofs.YtojpeiihkjpeoaaDoor
