/- The law ValFields holds: what With puts Path finds; other fields stay; a path goes step by step. -/
import Derived.Test.YtcdbchifigonpaaDoorFieldP
import Derived.Test.YtcdbchifigonpaaDoorWithW
import Derived.Test.YtcdbchifigonpaaDoorPathAt
import Derived.Test.YtcdbchifigonpaaDoorAwake
import Derived.Test.YtcdbchifigonpaaDoorRowsV
import Derived.Deep.RegionHeld3
import Derived.Deep.RegionLaw
set_option linter.unusedVariables false
set_option linter.unusedSimpArgs false
namespace Go.Proofs.YtcdbchifigonpaaDoor
open Go.RowKit Go.Shelf

set_option maxRecDepth 100000 in
set_option maxHeartbeats 1600000 in
theorem fields_any (v x : V) (s p : ByteArray) (c d : Cv) (w : World) (hT : Tabs w) (hM : Len1 w) (hs : s.size < 4294967281) (hp : p.size < 4294967281) (hv : In w v c) (hx : In w x d) :
    Calls Tryd.prog 5 #[c.agg, .string s, d.agg, .string p] w fun e w' => e = .returned (.bool true) ∧ Grow w w' := by
  have hg0 := ((Grow.refl w).alloc (.cells c.cells 37)).alloc (.cells d.cells 37)
  have HBc := hide ((Blk.new w 37 c.cells).alloc (.cells d.cells 37))
  have HBd := hide (Blk.new' (w := w.alloc (.cells c.cells 37)) (g := w.heap.size + 1) (by simp) 37 d.cells)
  have HG0 := hide hg0
  have HT := hide hT
  have HM := hide hM
  have HS := hide hs
  have HP := hide hp
  have HV := hide hv
  have HX := hide hx
  clear hT hM hs hp hv hx hg0
  go_enter Tryd.func5, Tryd.ntmps5
  go_wp2_with fail
  refine (awake_any _ (HT.out.grow HG0.out)).mono ?_
  rintro e w1 ⟨rfl, hg1⟩
  have HG1 := hide (HG0.out.trans hg1)
  have HB1c := hide (HBc.out.grow hg1)
  have HB1d := hide (HBd.out.grow hg1)
  have hc1 := HB1c.out.cell
  have hd1 := HB1d.out.cell
  have hlt1 := HB1c.out.lt
  have hltd1 := HB1d.out.lt
  have HROW := hide (InL.row2 (HV.out.grow HG1.out) (HX.out.grow HG1.out))
  clear hg1
  go_wp2_with fail
  refine (vast_any [v, x] _ 2 _ HROW.out).mono ?_
  rintro e w2 ⟨rfl, hg2⟩
  have hga2 := ((Grow.refl w1).alloc (.cells (cells2 c d) 37)).trans hg2
  have HG2 := hide (HG1.out.trans hga2)
  have HB2c := hide (HB1c.out.grow hga2)
  have HB2d := hide (HB1d.out.grow hga2)
  have hc2 := HB2c.out.cell
  have hd2 := HB2d.out.cell
  clear hg2 hga2 hc1 hd1 hlt1 hltd1
  by_cases hbig : 20000 ≤ (List.map V.count [v, x]).sum
  · rw [decide_eq_true hbig]
    go_wp2_with fail
    go_ret
    exact ⟨rfl, HG2.out⟩
  rw [decide_eq_false hbig]
  have hcount : v.count + x.count ≤ 20000 := by simp at hbig; omega
  have HC := hide hcount
  clear hbig hcount
  go_wp2_with fail
  refine (with_any v x s c d _ (HT.out.grow HG2.out) HC.out (by have := HS.out; omega) (HV.out.grow HG2.out) (HX.out.grow HG2.out)).mono ?_
  rintro e w3 ⟨hg3, cw, r, rfl, hw3⟩
  have HW3 := hide hw3
  have hga3 := hg3.alloc (.cells cw.cells 37)
  have HG3 := hide (HG2.out.trans hga3)
  have HB3c := hide (HB2c.out.grow hga3)
  have HB3d := hide (HB2d.out.grow hga3)
  have HBw := hide (Blk.new w3 37 cw.cells)
  have HGA := hide ((Grow.refl w3).alloc (.cells cw.cells 37))
  clear hg3 hga3 hw3 hc2 hd2
  obtain ⟨rz, hrz⟩ : ∃ rz, (r == 0) = rz := ⟨_, rfl⟩
  go_upto_if 35 with fail
  go_cut [] (fun wx => Grow w wx ∧ Blk wx w.heap.size 37 c.cells)
  case first =>
    rcases HW3.out with ⟨u, hok, rfl, hu⟩ | ⟨-, hr, rfl⟩
    rotate_left 1
    · obtain rfl : rz = false := by rw [← hrz]; simpa using hr
      clear hr
      go_wp2_with fail
      go_meet
      exact ⟨HG3.out, HB3c.out⟩
    obtain rfl : rz = true := by rw [← hrz]; rfl
    obtain ⟨hk, hgd, hgw, hue⟩ : v.k = 8 ∧ v.good = 0 ∧ (withV v s x).good = 0 ∧ u = withV v s x := by
      rw [withG] at hok
      split at hok
      · rename_i h
        split at hok
        · rename_i h2
          injection hok with hok
          exact ⟨h.1, h.2, h2, hok.symm⟩
        · cases hok
      · cases hok
    have hnd := (good_doc hk hgd).2.1
    have hf64 := (good_doc hk hgd).2.2
    have HUC := hide (show u.count ≤ 20000 by rw [hue]; exact Nat.le_trans (withV_count hnd) HC.out)
    have HUP := hide (show pathV u s = some x by rw [hue]; exact withV_path hgw)
    obtain ⟨f, hvf⟩ : ∃ f, v = .mk 8 0 [] [] f := ⟨v.f, (good_doc hk hgd).1⟩
    have hvi := HV.out
    rw [hvf] at hvi hf64
    replace hf64 : f.length ≤ 64 := hf64
    obtain ⟨aB, aL, aF, cB, cL, cF, hce, -⟩ := hvi.open
    replace hce : c = ⟨8, 0, aB, 0, cB, aL, 0, cL, aF, f.length, cF⟩ := hce
    subst hce
    have HVI := hide hvi
    have huf : u = .mk 8 0 [] [] (withF f s x) := by rw [hue, hvf]; rfl
    have hui := hu
    rw [huf] at hui
    obtain ⟨aB', aL', aF', cB', cL', cF', hce', -⟩ := hui.open
    replace hce' : cw = ⟨8, 0, aB', 0, cB', aL', 0, cL', aF', (withF f s x).length, cF'⟩ := hce'
    obtain ⟨M, hM⟩ : ∃ M, (withF f s x).length = M := ⟨_, rfl⟩
    rw [hM] at hce'
    subst hce'
    have hM1 : f.length ≤ M := by rw [← hM]; exact (withF_length f s x).2
    have hM2 : M ≤ f.length + 1 := by rw [← hM]; exact (withF_length f s x).1
    have HMM := hide hM
    have HUI := hide hui
    have HU := hide (hu.grow HGA.out)
    have HUI3 := hide (hui.grow HGA.out)
    have HF := hide hf64
    obtain ⟨b9, hb9⟩ : ∃ b9, w3.heap.size = b9 := ⟨_, rfl⟩
    rw [hb9] at HBw
    obtain ⟨W3, hW3⟩ : ∃ W3, w3.alloc (.cells (Cv.cells ⟨8, 0, aB', 0, cB', aL', 0, cL', aF', M, cF'⟩) 37) = W3 := ⟨_, rfl⟩
    rw [hW3] at HG3 HB3c HB3d HBw HU HUI3
    clear hok hk hgd hgw hue hnd hvi hu hui huf hvf hM HGA HW3
    have hc3 := HB3c.out.cell
    have hw3 := HBw.out.cell
    have hlt3 := HB3c.out.lt
    have hltw3 := HBw.out.lt
    go_wp2_with fail
    clear hrz
    refine (vpath_any u s _ _ (HT.out.grow HG3.out) (HM.out.grow HG3.out) HUC.out HS.out HU.out).mono ?_
    rintro e w4 ⟨hg4, cp, tp, up, rfl, hp0, hpp⟩
    obtain ⟨rfl, rfl⟩ : tp = true ∧ up = x := by
      rcases hpp with ⟨h, h1⟩ | ⟨h, -⟩
      · rw [HUP.out] at h; injection h with h; exact ⟨h1, h.symm⟩
      · rw [HUP.out] at h; cases h
    have hga4 := hg4.alloc (.cells cp.cells 37)
    have HG4 := hide (HG3.out.trans hga4)
    have HB4c := hide (HB3c.out.grow hga4)
    have HB4d := hide (HB3d.out.grow hga4)
    have HB4w := hide (HBw.out.grow hga4)
    have HUI4 := hide (HUI3.out.grow hga4)
    have HBp := hide (Blk.new w4 37 cp.cells)
    have HPI := hide ((isv_in hp0).grow ((Grow.refl w4).alloc (.cells cp.cells 37)))
    have hc4 := HB4c.out.cell
    have hd4 := HB4d.out.cell
    have hw4 := HB4w.out.cell
    have hlt4 := HB4c.out.lt
    have hltd4 := HB4d.out.lt
    have hltw4 := HB4w.out.lt
    have HB9 := hide hb9
    clear hg4 hga4 hp0 hpp hc3 hw3 hlt3 hltw3 hW3 hb9
    go_wp2_with fail
    refine (lawSame_any up up _ cp d HPI.out (HX.out.grow HG4.out)).mono ?_
    rintro e w5 ⟨rfl, hg5⟩
    rw [sameB_self]
    have hML1 : decide (M < f.length) = false := by simp; omega
    have hML2 : decide ((f.length : Int) + 1 < (M : Int)) = false := by simp; omega
    have HG5 := hide (HG4.out.trans hg5)
    have HB5c := hide (HB4c.out.grow hg5)
    have HB5w := hide (HB4w.out.grow hg5)
    have HUI5 := hide (HUI4.out.grow hg5)
    have hc5 := HB5c.out.cell
    have hw5 := HB5w.out.cell
    have hlt5 := HB5c.out.lt
    have hltw5 := HB5w.out.lt
    clear hg5 hc4 hd4 hw4 hlt4 hltd4 hltw4
    go_wp2_with fail
    go_loopg [13] (f.length + 1) (fun gk i wr => ∃ j : Nat, j ≤ f.length ∧ gk + j = f.length + 1 ∧ i = .int .i64 j ∧ Grow w5 wr)
    case atStart => exact ⟨0, by omega, by omega, rfl, Grow.refl _⟩
    case round =>
      obtain ⟨j, hj, hgk, rfl, hwr⟩ := hrel
      have HWR := hide hwr
      have HBR := hide (HB5c.out.grow hwr)
      have HBW := hide (HB5w.out.grow hwr)
      have hcr := HBR.out.cell
      have hlr := HBR.out.lt
      clear hwr hc5 hw5 hlt5 hltw5
      obtain ⟨gk', rfl⟩ : ∃ g, gk = g + 1 := ⟨gk - 1, by omega⟩
      by_cases hlt : j < f.length
      · obtain ⟨hmi, hq1, hq2⟩ := withF_get f s up j hlt
        obtain ⟨bk, o, z, hza, hbk, es0, -, g0, g1, g2, g3, g4, hz⟩ := HVI.out.elemF j hlt
        obtain ⟨bk', o', y, hya, hbk', fs0, -, k0, k1, k2, k3, k4, hy⟩ := HUI5.out.elemF j hmi
        dsimp only at hza hya
        subst hza hya
        rw [hq1] at fs0
        obtain ⟨q, hq⟩ : ∃ q, f[j].1 = q := ⟨_, rfl⟩
        rw [hq] at es0 fs0 hq2
        have hgv := HG5.out.trans HWR.out
        have HSX := hide (show ∀ w', Grow wr w' → (fun w' => (∀ i, w'.cell? ⟨w.heap.size, i, none⟩ = (Cv.cells ⟨8, 0, aB, 0, cB, aL, 0, cL, some ⟨bk, o, none⟩, f.length, cF⟩)[i]?) ∧ (∀ i, w'.cell? ⟨b9, i, none⟩ = (Cv.cells ⟨8, 0, aB', 0, cB', aL', 0, cL', some ⟨bk', o', none⟩, M, cF'⟩)[i]?) ∧
      (w'.cell? ⟨bk, o + j * 6, none⟩ = some (.string q) ∧ w'.cell? ⟨bk, o + j * 6 + 1, none⟩ = some (.int .i64 z.k) ∧ w'.cell? ⟨bk, o + j * 6 + 1 + 1, none⟩ = some (.int .u64 z.n) ∧ w'.cell? ⟨bk, o + j * 6 + 1 + 2, none⟩ = some (.slice z.aB z.nB z.cB) ∧ w'.cell? ⟨bk, o + j * 6 + 1 + 3, none⟩ = some (.slice z.aL z.nL z.cL) ∧ w'.cell? ⟨bk, o + j * 6 + 1 + 4, none⟩ = some (.slice z.aF z.nF z.cF)) ∧
      (w'.cell? ⟨bk', o' + j * 6, none⟩ = some (.string q) ∧ w'.cell? ⟨bk', o' + j * 6 + 1, none⟩ = some (.int .i64 y.k) ∧ w'.cell? ⟨bk', o' + j * 6 + 1 + 1, none⟩ = some (.int .u64 y.n) ∧ w'.cell? ⟨bk', o' + j * 6 + 1 + 2, none⟩ = some (.slice y.aB y.nB y.cB) ∧ w'.cell? ⟨bk', o' + j * 6 + 1 + 3, none⟩ = some (.slice y.aL y.nL y.cL) ∧ w'.cell? ⟨bk', o' + j * 6 + 1 + 4, none⟩ = some (.slice y.aF y.nF y.cF))) w' from fun w' h => ⟨(HBR.out.grow h).cell, (HBW.out.grow h).cell, ⟨((hgv.trans h).below.cell hbk).trans es0, ((hgv.trans h).below.cell hbk).trans g0, ((hgv.trans h).below.cell hbk).trans g1, ((hgv.trans h).below.cell hbk).trans g2, ((hgv.trans h).below.cell hbk).trans g3, ((hgv.trans h).below.cell hbk).trans g4⟩,
          ⟨((HWR.out.trans h).below.cell hbk').trans fs0, ((HWR.out.trans h).below.cell hbk').trans k0, ((HWR.out.trans h).below.cell hbk').trans k1, ((HWR.out.trans h).below.cell hbk').trans k2, ((HWR.out.trans h).below.cell hbk').trans k3, ((HWR.out.trans h).below.cell hbk').trans k4⟩⟩)
        have HZI := hide (hz.grow hgv)
        have HYI := hide (hy.grow HWR.out)
        have hqq : (q.toList == q.toList) = true := by simp
        have hjM : j < M := by omega
        by_cases he : q = s
        · have he2 : (q.toList == s.toList) = true := by rw [he]; simp
          clear es0 fs0 g0 g1 g2 g3 g4 k0 k1 k2 k3 k4 hz hy hq hq1 hq2 hbk hbk' hgv he
          go_upto_region 13 with fail
          refine wp_region_noPanic ?_
          refine wp_region_held_drew (S := fun w' => (∀ i, w'.cell? ⟨w.heap.size, i, none⟩ = (Cv.cells ⟨8, 0, aB, 0, cB, aL, 0, cL, some ⟨bk, o, none⟩, f.length, cF⟩)[i]?) ∧ (∀ i, w'.cell? ⟨b9, i, none⟩ = (Cv.cells ⟨8, 0, aB', 0, cB', aL', 0, cL', some ⟨bk', o', none⟩, M, cF'⟩)[i]?) ∧
            (w'.cell? ⟨bk, o + j * 6, none⟩ = some (.string q) ∧ w'.cell? ⟨bk, o + j * 6 + 1, none⟩ = some (.int .i64 z.k) ∧ w'.cell? ⟨bk, o + j * 6 + 1 + 1, none⟩ = some (.int .u64 z.n) ∧ w'.cell? ⟨bk, o + j * 6 + 1 + 2, none⟩ = some (.slice z.aB z.nB z.cB) ∧ w'.cell? ⟨bk, o + j * 6 + 1 + 3, none⟩ = some (.slice z.aL z.nL z.cL) ∧ w'.cell? ⟨bk, o + j * 6 + 1 + 4, none⟩ = some (.slice z.aF z.nF z.cF)) ∧
            (w'.cell? ⟨bk', o' + j * 6, none⟩ = some (.string q) ∧ w'.cell? ⟨bk', o' + j * 6 + 1, none⟩ = some (.int .i64 y.k) ∧ w'.cell? ⟨bk', o' + j * 6 + 1 + 1, none⟩ = some (.int .u64 y.n) ∧ w'.cell? ⟨bk', o' + j * 6 + 1 + 2, none⟩ = some (.slice y.aB y.nB y.cB) ∧ w'.cell? ⟨bk', o' + j * 6 + 1 + 3, none⟩ = some (.slice y.aL y.nL y.cL) ∧ w'.cell? ⟨bk', o' + j * 6 + 1 + 4, none⟩ = some (.slice y.aF y.nF y.cF))) (by kernel_rfl) (HSX.out _ (Grow.refl _).drew) (fun hHeld => ?_)
          refine wpAnyH_take (i := 0) (v := ?_) (by simp only [List.getElem?_toArray, List.getElem?_cons_succ, List.getElem?_cons_zero]; rfl) (by kernel_rfl) (by kernel_rfl) (by kernel_rfl) (fun _ _ _ h => h) (Or.inl ⟨by rfl, ?_⟩) (by assumption) ?_
          rotate_left 1
          · (intro w hSw; (try dsimp only at hSw); obtain ⟨hA, hB, ⟨d0, d1, d2, d3, d4, d5⟩, ⟨e0, e1, e2, e3, e4, e5⟩⟩ := hSw; go_simp; try with_reducible rfl)
          try simp only [Act.put, List.setIfInBounds_toArray, List.set_cons_zero, List.set_cons_succ]
          refine wpAnyH_take (i := 1) (v := ?_) (by simp only [List.getElem?_toArray, List.getElem?_cons_succ, List.getElem?_cons_zero]; rfl) (by kernel_rfl) (by kernel_rfl) (by kernel_rfl) (fun _ _ _ h => h) (Or.inl ⟨by rfl, ?_⟩) (by assumption) ?_
          rotate_left 1
          · (intro w hSw; (try dsimp only at hSw); obtain ⟨hA, hB, ⟨d0, d1, d2, d3, d4, d5⟩, ⟨e0, e1, e2, e3, e4, e5⟩⟩ := hSw; go_simp; try with_reducible rfl)
          try simp only [Act.put, List.setIfInBounds_toArray, List.set_cons_zero, List.set_cons_succ]
          refine wpAnyH_take (i := 2) (v := ?_) (by simp only [List.getElem?_toArray, List.getElem?_cons_succ, List.getElem?_cons_zero]; rfl) (by kernel_rfl) (by kernel_rfl) (by kernel_rfl) (fun _ _ _ h => h) (Or.inl ⟨by rfl, ?_⟩) (by assumption) ?_
          rotate_left 1
          · (intro w hSw; (try dsimp only at hSw); obtain ⟨hA, hB, ⟨d0, d1, d2, d3, d4, d5⟩, ⟨e0, e1, e2, e3, e4, e5⟩⟩ := hSw; go_simp; try with_reducible rfl)
          try simp only [Act.put, List.setIfInBounds_toArray, List.set_cons_zero, List.set_cons_succ]
          refine wpAnyH_take (i := 3) (v := ?_) (by simp only [List.getElem?_toArray, List.getElem?_cons_succ, List.getElem?_cons_zero]; rfl) (by kernel_rfl) (by kernel_rfl) (by kernel_rfl) (fun _ _ _ h => h) (Or.inl ⟨by rfl, ?_⟩) (by assumption) ?_
          rotate_left 1
          · (intro w hSw; (try dsimp only at hSw); obtain ⟨hA, hB, ⟨d0, d1, d2, d3, d4, d5⟩, ⟨e0, e1, e2, e3, e4, e5⟩⟩ := hSw; go_simp; try with_reducible rfl)
          try simp only [Act.put, List.setIfInBounds_toArray, List.set_cons_zero, List.set_cons_succ]
          refine wpAnyH_take (i := 4) (v := ?_) (by simp only [List.getElem?_toArray, List.getElem?_cons_succ, List.getElem?_cons_zero]; rfl) (by kernel_rfl) (by kernel_rfl) (by kernel_rfl) (fun _ _ _ h => h) (Or.inl ⟨by rfl, ?_⟩) (by assumption) ?_
          rotate_left 1
          · (intro w hSw; (try dsimp only at hSw); obtain ⟨hA, hB, ⟨d0, d1, d2, d3, d4, d5⟩, ⟨e0, e1, e2, e3, e4, e5⟩⟩ := hSw; go_simp; try with_reducible rfl)
          try simp only [Act.put, List.setIfInBounds_toArray, List.set_cons_zero, List.set_cons_succ]
          refine wpAnyH_take (i := 5) (v := ?_) (by simp only [List.getElem?_toArray, List.getElem?_cons_succ, List.getElem?_cons_zero]; rfl) (by kernel_rfl) (by kernel_rfl) (by kernel_rfl) (fun _ _ _ h => h) (Or.inl ⟨by rfl, ?_⟩) (by assumption) ?_
          rotate_left 1
          · (intro w hSw; (try dsimp only at hSw); obtain ⟨hA, hB, ⟨d0, d1, d2, d3, d4, d5⟩, ⟨e0, e1, e2, e3, e4, e5⟩⟩ := hSw; go_simp; try with_reducible rfl)
          try simp only [Act.put, List.setIfInBounds_toArray, List.set_cons_zero, List.set_cons_succ]
          refine wpAnyH_take (i := 6) (v := ?_) (by simp only [List.getElem?_toArray, List.getElem?_cons_succ, List.getElem?_cons_zero]; rfl) (by kernel_rfl) (by kernel_rfl) (by kernel_rfl) (fun _ _ _ h => h) (Or.inl ⟨by rfl, ?_⟩) (by assumption) ?_
          rotate_left 1
          · (intro w hSw; (try dsimp only at hSw); obtain ⟨hA, hB, ⟨d0, d1, d2, d3, d4, d5⟩, ⟨e0, e1, e2, e3, e4, e5⟩⟩ := hSw; go_simp; try with_reducible rfl)
          try simp only [Act.put, List.setIfInBounds_toArray, List.set_cons_zero, List.set_cons_succ]
          refine wpAnyH_take (i := 7) (v := ?_) (by simp only [List.getElem?_toArray, List.getElem?_cons_succ, List.getElem?_cons_zero]; rfl) (by kernel_rfl) (by kernel_rfl) (by kernel_rfl) (fun _ _ _ h => h) (Or.inl ⟨by rfl, ?_⟩) (by assumption) ?_
          rotate_left 1
          · (intro w hSw; (try dsimp only at hSw); obtain ⟨hA, hB, ⟨d0, d1, d2, d3, d4, d5⟩, ⟨e0, e1, e2, e3, e4, e5⟩⟩ := hSw; go_simp; try with_reducible rfl)
          try simp only [Act.put, List.setIfInBounds_toArray, List.set_cons_zero, List.set_cons_succ]
          refine wpAnyH_take (i := 8) (v := ?_) (by simp only [List.getElem?_toArray, List.getElem?_cons_succ, List.getElem?_cons_zero]; rfl) (by kernel_rfl) (by kernel_rfl) (by kernel_rfl) (fun _ _ _ h => h) (Or.inl ⟨by rfl, ?_⟩) (by assumption) ?_
          rotate_left 1
          · (intro w hSw; (try dsimp only at hSw); obtain ⟨hA, hB, ⟨d0, d1, d2, d3, d4, d5⟩, ⟨e0, e1, e2, e3, e4, e5⟩⟩ := hSw; go_simp; try with_reducible rfl)
          try simp only [Act.put, List.setIfInBounds_toArray, List.set_cons_zero, List.set_cons_succ]
          refine wpAnyH_take (i := 9) (v := ?_) (by simp only [List.getElem?_toArray, List.getElem?_cons_succ, List.getElem?_cons_zero]; rfl) (by kernel_rfl) (by kernel_rfl) (by kernel_rfl) (fun _ _ _ h => h) (Or.inl ⟨by rfl, ?_⟩) (by assumption) ?_
          rotate_left 1
          · (intro w hSw; (try dsimp only at hSw); obtain ⟨hA, hB, ⟨d0, d1, d2, d3, d4, d5⟩, ⟨e0, e1, e2, e3, e4, e5⟩⟩ := hSw; go_simp; try with_reducible rfl)
          try simp only [Act.put, List.setIfInBounds_toArray, List.set_cons_zero, List.set_cons_succ]
          refine wpAnyH_take (i := 10) (v := ?_) (by simp only [List.getElem?_toArray, List.getElem?_cons_succ, List.getElem?_cons_zero]; rfl) (by kernel_rfl) (by kernel_rfl) (by kernel_rfl) (fun _ _ _ h => h) (Or.inl ⟨by rfl, ?_⟩) (by assumption) ?_
          rotate_left 1
          · (intro w hSw; (try dsimp only at hSw); obtain ⟨hA, hB, ⟨d0, d1, d2, d3, d4, d5⟩, ⟨e0, e1, e2, e3, e4, e5⟩⟩ := hSw; go_simp; try with_reducible rfl)
          try simp only [Act.put, List.setIfInBounds_toArray, List.set_cons_zero, List.set_cons_succ]
          refine wpAnyH_take (i := 11) (v := ?_) (by simp only [List.getElem?_toArray, List.getElem?_cons_succ, List.getElem?_cons_zero]; rfl) (by kernel_rfl) (by kernel_rfl) (by kernel_rfl) (fun _ _ _ h => h) (Or.inl ⟨by rfl, ?_⟩) (by assumption) ?_
          rotate_left 1
          · (intro w hSw; (try dsimp only at hSw); obtain ⟨hA, hB, ⟨d0, d1, d2, d3, d4, d5⟩, ⟨e0, e1, e2, e3, e4, e5⟩⟩ := hSw; go_simp; try with_reducible rfl)
          try simp only [Act.put, List.setIfInBounds_toArray, List.set_cons_zero, List.set_cons_succ]
          refine wpAnyH_take (i := 12) (v := ?_) (by simp only [List.getElem?_toArray, List.getElem?_cons_succ, List.getElem?_cons_zero]; rfl) (by kernel_rfl) (by kernel_rfl) (by kernel_rfl) (fun _ _ _ h => h) (Or.inl ⟨by rfl, ?_⟩) (by assumption) ?_
          rotate_left 1
          · (intro w hSw; (try dsimp only at hSw); obtain ⟨hA, hB, ⟨d0, d1, d2, d3, d4, d5⟩, ⟨e0, e1, e2, e3, e4, e5⟩⟩ := hSw; go_simp; try with_reducible rfl)
          try simp only [Act.put, List.setIfInBounds_toArray, List.set_cons_zero, List.set_cons_succ]
          refine wpAnyH_take (i := 13) (v := ?_) (by simp only [List.getElem?_toArray, List.getElem?_cons_succ, List.getElem?_cons_zero]; rfl) (by kernel_rfl) (by kernel_rfl) (by kernel_rfl) (fun _ _ _ h => h) (Or.inl ⟨by rfl, ?_⟩) (by assumption) ?_
          rotate_left 1
          · (intro w hSw; (try dsimp only at hSw); obtain ⟨hA, hB, ⟨d0, d1, d2, d3, d4, d5⟩, ⟨e0, e1, e2, e3, e4, e5⟩⟩ := hSw; go_simp; try with_reducible rfl)
          try simp only [Act.put, List.setIfInBounds_toArray, List.set_cons_zero, List.set_cons_succ]
          refine wpAnyH_take (i := 14) (v := ?_) (by simp only [List.getElem?_toArray, List.getElem?_cons_succ, List.getElem?_cons_zero]; rfl) (by kernel_rfl) (by kernel_rfl) (by kernel_rfl) (fun _ _ _ h => h) (Or.inl ⟨by rfl, ?_⟩) (by assumption) ?_
          rotate_left 1
          · (intro w hSw; (try dsimp only at hSw); obtain ⟨hA, hB, ⟨d0, d1, d2, d3, d4, d5⟩, ⟨e0, e1, e2, e3, e4, e5⟩⟩ := hSw; go_simp; try with_reducible rfl)
          try simp only [Act.put, List.setIfInBounds_toArray, List.set_cons_zero, List.set_cons_succ]
          refine wpAnyH_take (i := 15) (v := ?_) (by simp only [List.getElem?_toArray, List.getElem?_cons_succ, List.getElem?_cons_zero]; rfl) (by kernel_rfl) (by kernel_rfl) (by kernel_rfl) (fun _ _ _ h => h) (Or.inl ⟨by rfl, ?_⟩) (by assumption) ?_
          rotate_left 1
          · (intro w hSw; (try dsimp only at hSw); obtain ⟨hA, hB, ⟨d0, d1, d2, d3, d4, d5⟩, ⟨e0, e1, e2, e3, e4, e5⟩⟩ := hSw; go_simp; try with_reducible rfl)
          try simp only [Act.put, List.setIfInBounds_toArray, List.set_cons_zero, List.set_cons_succ]
          refine wpAnyH_take (i := 16) (v := ?_) (by simp only [List.getElem?_toArray, List.getElem?_cons_succ, List.getElem?_cons_zero]; rfl) (by kernel_rfl) (by kernel_rfl) (by kernel_rfl) (fun _ _ _ h => h) (Or.inl ⟨by rfl, ?_⟩) (by assumption) ?_
          rotate_left 1
          · (intro w hSw; (try dsimp only at hSw); obtain ⟨hA, hB, ⟨d0, d1, d2, d3, d4, d5⟩, ⟨e0, e1, e2, e3, e4, e5⟩⟩ := hSw; go_simp; try with_reducible rfl)
          try simp only [Act.put, List.setIfInBounds_toArray, List.set_cons_zero, List.set_cons_succ]
          refine wpAnyH_take (i := 17) (v := ?_) (by simp only [List.getElem?_toArray, List.getElem?_cons_succ, List.getElem?_cons_zero]; rfl) (by kernel_rfl) (by kernel_rfl) (by kernel_rfl) (fun _ _ _ h => h) (Or.inl ⟨by rfl, ?_⟩) (by assumption) ?_
          rotate_left 1
          · (intro w hSw; (try dsimp only at hSw); obtain ⟨hA, hB, ⟨d0, d1, d2, d3, d4, d5⟩, ⟨e0, e1, e2, e3, e4, e5⟩⟩ := hSw; go_simp; try with_reducible rfl)
          try simp only [Act.put, List.setIfInBounds_toArray, List.set_cons_zero, List.set_cons_succ]
          refine wpAnyH_take (i := 18) (v := ?_) (by simp only [List.getElem?_toArray, List.getElem?_cons_succ, List.getElem?_cons_zero]; rfl) (by kernel_rfl) (by kernel_rfl) (by kernel_rfl) (fun _ _ _ h => h) (Or.inl ⟨by rfl, ?_⟩) (by assumption) ?_
          rotate_left 1
          · (intro w hSw; (try dsimp only at hSw); obtain ⟨hA, hB, ⟨d0, d1, d2, d3, d4, d5⟩, ⟨e0, e1, e2, e3, e4, e5⟩⟩ := hSw; go_simp; try with_reducible rfl)
          try simp only [Act.put, List.setIfInBounds_toArray, List.set_cons_zero, List.set_cons_succ]
          refine wpAnyH_take (i := 19) (v := ?_) (by simp only [List.getElem?_toArray, List.getElem?_cons_succ, List.getElem?_cons_zero]; rfl) (by kernel_rfl) (by kernel_rfl) (by kernel_rfl) (fun _ _ _ h => h) (Or.inl ⟨by rfl, ?_⟩) (by assumption) ?_
          rotate_left 1
          · (intro w hSw; (try dsimp only at hSw); obtain ⟨hA, hB, ⟨d0, d1, d2, d3, d4, d5⟩, ⟨e0, e1, e2, e3, e4, e5⟩⟩ := hSw; go_simp; try with_reducible rfl)
          try simp only [Act.put, List.setIfInBounds_toArray, List.set_cons_zero, List.set_cons_succ]
          refine wpAnyH_take (i := 20) (v := ?_) (by simp only [List.getElem?_toArray, List.getElem?_cons_succ, List.getElem?_cons_zero]; rfl) (by kernel_rfl) (by kernel_rfl) (by kernel_rfl) (fun _ _ _ h => h) (Or.inl ⟨by rfl, ?_⟩) (by assumption) ?_
          rotate_left 1
          · (intro w hSw; (try dsimp only at hSw); obtain ⟨hA, hB, ⟨d0, d1, d2, d3, d4, d5⟩, ⟨e0, e1, e2, e3, e4, e5⟩⟩ := hSw; go_simp; try with_reducible rfl)
          try simp only [Act.put, List.setIfInBounds_toArray, List.set_cons_zero, List.set_cons_succ]
          refine wpAnyH_take (i := 21) (v := ?_) (by simp only [List.getElem?_toArray, List.getElem?_cons_succ, List.getElem?_cons_zero]; rfl) (by kernel_rfl) (by kernel_rfl) (by kernel_rfl) (fun _ _ _ h => h) (Or.inl ⟨by rfl, ?_⟩) (by assumption) ?_
          rotate_left 1
          · (intro w hSw; (try dsimp only at hSw); obtain ⟨hA, hB, ⟨d0, d1, d2, d3, d4, d5⟩, ⟨e0, e1, e2, e3, e4, e5⟩⟩ := hSw; go_simp; try with_reducible rfl)
          try simp only [Act.put, List.setIfInBounds_toArray, List.set_cons_zero, List.set_cons_succ]
          refine wpAnyH_take (i := 22) (v := ?_) (by simp only [List.getElem?_toArray, List.getElem?_cons_succ, List.getElem?_cons_zero]; rfl) (by kernel_rfl) (by kernel_rfl) (by kernel_rfl) (fun _ _ _ h => h) (Or.inl ⟨by rfl, ?_⟩) (by assumption) ?_
          rotate_left 1
          · (intro w hSw; (try dsimp only at hSw); obtain ⟨hA, hB, ⟨d0, d1, d2, d3, d4, d5⟩, ⟨e0, e1, e2, e3, e4, e5⟩⟩ := hSw; go_simp; try with_reducible rfl)
          try simp only [Act.put, List.setIfInBounds_toArray, List.set_cons_zero, List.set_cons_succ]
          refine wpAnyH_take (i := 23) (v := undef) (by simp only [List.getElem?_toArray, List.getElem?_cons_succ, List.getElem?_cons_zero]; rfl) (by kernel_rfl) (by kernel_rfl) (by kernel_rfl) (fun _ _ _ h => h) (Or.inr ⟨by rfl, rfl⟩) (by assumption) ?_
          try simp only [Act.put, List.setIfInBounds_toArray, List.set_cons_zero, List.set_cons_succ]
          refine wpAnyH_take (i := 24) (v := undef) (by simp only [List.getElem?_toArray, List.getElem?_cons_succ, List.getElem?_cons_zero]; rfl) (by kernel_rfl) (by kernel_rfl) (by kernel_rfl) (fun _ _ _ h => h) (Or.inr ⟨by rfl, rfl⟩) (by assumption) ?_
          try simp only [Act.put, List.setIfInBounds_toArray, List.set_cons_zero, List.set_cons_succ]
          refine wpAnyH_take (i := 25) (v := undef) (by simp only [List.getElem?_toArray, List.getElem?_cons_succ, List.getElem?_cons_zero]; rfl) (by kernel_rfl) (by kernel_rfl) (by kernel_rfl) (fun _ _ _ h => h) (Or.inr ⟨by rfl, rfl⟩) (by assumption) ?_
          try simp only [Act.put, List.setIfInBounds_toArray, List.set_cons_zero, List.set_cons_succ]
          refine wpAnyH_take (i := 26) (v := undef) (by simp only [List.getElem?_toArray, List.getElem?_cons_succ, List.getElem?_cons_zero]; rfl) (by kernel_rfl) (by kernel_rfl) (by kernel_rfl) (fun _ _ _ h => h) (Or.inr ⟨by rfl, rfl⟩) (by assumption) ?_
          try simp only [Act.put, List.setIfInBounds_toArray, List.set_cons_zero, List.set_cons_succ]
          refine wpAnyH_take (i := 27) (v := undef) (by simp only [List.getElem?_toArray, List.getElem?_cons_succ, List.getElem?_cons_zero]; rfl) (by kernel_rfl) (by kernel_rfl) (by kernel_rfl) (fun _ _ _ h => h) (Or.inr ⟨by rfl, rfl⟩) (by assumption) ?_
          try simp only [Act.put, List.setIfInBounds_toArray, List.set_cons_zero, List.set_cons_succ]
          refine wpAnyH_take (i := 28) (v := undef) (by simp only [List.getElem?_toArray, List.getElem?_cons_succ, List.getElem?_cons_zero]; rfl) (by kernel_rfl) (by kernel_rfl) (by kernel_rfl) (fun _ _ _ h => h) (Or.inr ⟨by rfl, rfl⟩) (by assumption) ?_
          try simp only [Act.put, List.setIfInBounds_toArray, List.set_cons_zero, List.set_cons_succ]
          refine wpAnyH_take (i := 29) (v := undef) (by simp only [List.getElem?_toArray, List.getElem?_cons_succ, List.getElem?_cons_zero]; rfl) (by kernel_rfl) (by kernel_rfl) (by kernel_rfl) (fun _ _ _ h => h) (Or.inr ⟨by rfl, rfl⟩) (by assumption) ?_
          try simp only [Act.put, List.setIfInBounds_toArray, List.set_cons_zero, List.set_cons_succ]
          refine wpAnyH_take (i := 30) (v := undef) (by simp only [List.getElem?_toArray, List.getElem?_cons_succ, List.getElem?_cons_zero]; rfl) (by kernel_rfl) (by kernel_rfl) (by kernel_rfl) (fun _ _ _ h => h) (Or.inr ⟨by rfl, rfl⟩) (by assumption) ?_
          try simp only [Act.put, List.setIfInBounds_toArray, List.set_cons_zero, List.set_cons_succ]
          refine wpAnyH_take (i := 31) (v := undef) (by simp only [List.getElem?_toArray, List.getElem?_cons_succ, List.getElem?_cons_zero]; rfl) (by kernel_rfl) (by kernel_rfl) (by kernel_rfl) (fun _ _ _ h => h) (Or.inr ⟨by rfl, rfl⟩) (by assumption) ?_
          try simp only [Act.put, List.setIfInBounds_toArray, List.set_cons_zero, List.set_cons_succ]
          refine wpAnyH_take (i := 32) (v := undef) (by simp only [List.getElem?_toArray, List.getElem?_cons_succ, List.getElem?_cons_zero]; rfl) (by kernel_rfl) (by kernel_rfl) (by kernel_rfl) (fun _ _ _ h => h) (Or.inr ⟨by rfl, rfl⟩) (by assumption) ?_
          try simp only [Act.put, List.setIfInBounds_toArray, List.set_cons_zero, List.set_cons_succ]
          refine wpAnyH_take (i := 33) (v := undef) (by simp only [List.getElem?_toArray, List.getElem?_cons_succ, List.getElem?_cons_zero]; rfl) (by kernel_rfl) (by kernel_rfl) (by kernel_rfl) (fun _ _ _ h => h) (Or.inr ⟨by rfl, rfl⟩) (by assumption) ?_
          try simp only [Act.put, List.setIfInBounds_toArray, List.set_cons_zero, List.set_cons_succ]
          refine wpAnyH_take (i := 34) (v := undef) (by simp only [List.getElem?_toArray, List.getElem?_cons_succ, List.getElem?_cons_zero]; rfl) (by kernel_rfl) (by kernel_rfl) (by kernel_rfl) (fun _ _ _ h => h) (Or.inr ⟨by rfl, rfl⟩) (by assumption) ?_
          try simp only [Act.put, List.setIfInBounds_toArray, List.set_cons_zero, List.set_cons_succ]
          refine wpAnyH_take (i := 35) (v := undef) (by simp only [List.getElem?_toArray, List.getElem?_cons_succ, List.getElem?_cons_zero]; rfl) (by kernel_rfl) (by kernel_rfl) (by kernel_rfl) (fun _ _ _ h => h) (Or.inr ⟨by rfl, rfl⟩) (by assumption) ?_
          try simp only [Act.put, List.setIfInBounds_toArray, List.set_cons_zero, List.set_cons_succ]
          refine wpAnyH_take (i := 36) (v := undef) (by simp only [List.getElem?_toArray, List.getElem?_cons_succ, List.getElem?_cons_zero]; rfl) (by kernel_rfl) (by kernel_rfl) (by kernel_rfl) (fun _ _ _ h => h) (Or.inr ⟨by rfl, rfl⟩) (by assumption) ?_
          try simp only [Act.put, List.setIfInBounds_toArray, List.set_cons_zero, List.set_cons_succ]
          refine wpAnyH_take (i := 37) (v := ?_) (by simp only [List.getElem?_toArray, List.getElem?_cons_succ, List.getElem?_cons_zero]; rfl) (by kernel_rfl) (by kernel_rfl) (by kernel_rfl) (fun _ _ _ h => h) (Or.inl ⟨by rfl, ?_⟩) (by assumption) ?_
          rotate_left 1
          · (intro w hSw; (try dsimp only at hSw); obtain ⟨hA, hB, ⟨d0, d1, d2, d3, d4, d5⟩, ⟨e0, e1, e2, e3, e4, e5⟩⟩ := hSw; go_simp; try with_reducible rfl)
          try simp only [Act.put, List.setIfInBounds_toArray, List.set_cons_zero, List.set_cons_succ]
          refine wpAnyH_take (i := 38) (v := ?_) (by simp only [List.getElem?_toArray, List.getElem?_cons_succ, List.getElem?_cons_zero]; rfl) (by kernel_rfl) (by kernel_rfl) (by kernel_rfl) (fun _ _ _ h => h) (Or.inl ⟨by rfl, ?_⟩) (by assumption) ?_
          rotate_left 1
          · (intro w hSw; (try dsimp only at hSw); obtain ⟨hA, hB, ⟨d0, d1, d2, d3, d4, d5⟩, ⟨e0, e1, e2, e3, e4, e5⟩⟩ := hSw; go_simp; try with_reducible rfl)
          try simp only [Act.put, List.setIfInBounds_toArray, List.set_cons_zero, List.set_cons_succ]
          refine wpAnyH_done (by kernel_rfl) ?_ _
          refine NoPanic.normal ?_
          go_wp2_with fail
          go_roundg gk'
          case measure => omega
          case rel => exact ⟨j + 1, by omega, by omega, by go_num, HWR.out.drew⟩
        · have he2 : (q.toList == s.toList) = false := by
            simp only [beq_eq_false_iff_ne, ne_eq]
            intro h
            rw [toList_data, toList_data] at h
            exact he (ByteArray.ext (Array.ext' h))
          have hv2 := hq2 he
          have HCS := hide (show Calls Tryd.prog 17 #[y.agg, z.agg] wr.drew fun e w' => e = .returned (.bool true) ∧ Grow wr.drew w' by
            have h := lawSame_any (withF f s up)[j].2 f[j].2 wr.drew y z (HYI.out.grow (Grow.refl wr).drew) (HZI.out.grow (Grow.refl wr).drew)
            rw [hv2, sameB_self] at h
            exact h)
          clear es0 fs0 g0 g1 g2 g3 g4 k0 k1 k2 k3 k4 hz hy hq hq1 hq2 hbk hbk' hgv he hv2
          go_upto_region 13 with fail
          refine wp_region_noPanic ?_
          refine wp_region_held_drew (S := fun w' => (∀ i, w'.cell? ⟨w.heap.size, i, none⟩ = (Cv.cells ⟨8, 0, aB, 0, cB, aL, 0, cL, some ⟨bk, o, none⟩, f.length, cF⟩)[i]?) ∧ (∀ i, w'.cell? ⟨b9, i, none⟩ = (Cv.cells ⟨8, 0, aB', 0, cB', aL', 0, cL', some ⟨bk', o', none⟩, M, cF'⟩)[i]?) ∧
            (w'.cell? ⟨bk, o + j * 6, none⟩ = some (.string q) ∧ w'.cell? ⟨bk, o + j * 6 + 1, none⟩ = some (.int .i64 z.k) ∧ w'.cell? ⟨bk, o + j * 6 + 1 + 1, none⟩ = some (.int .u64 z.n) ∧ w'.cell? ⟨bk, o + j * 6 + 1 + 2, none⟩ = some (.slice z.aB z.nB z.cB) ∧ w'.cell? ⟨bk, o + j * 6 + 1 + 3, none⟩ = some (.slice z.aL z.nL z.cL) ∧ w'.cell? ⟨bk, o + j * 6 + 1 + 4, none⟩ = some (.slice z.aF z.nF z.cF)) ∧
            (w'.cell? ⟨bk', o' + j * 6, none⟩ = some (.string q) ∧ w'.cell? ⟨bk', o' + j * 6 + 1, none⟩ = some (.int .i64 y.k) ∧ w'.cell? ⟨bk', o' + j * 6 + 1 + 1, none⟩ = some (.int .u64 y.n) ∧ w'.cell? ⟨bk', o' + j * 6 + 1 + 2, none⟩ = some (.slice y.aB y.nB y.cB) ∧ w'.cell? ⟨bk', o' + j * 6 + 1 + 3, none⟩ = some (.slice y.aL y.nL y.cL) ∧ w'.cell? ⟨bk', o' + j * 6 + 1 + 4, none⟩ = some (.slice y.aF y.nF y.cF))) (by kernel_rfl) (HSX.out _ (Grow.refl _).drew) (fun hHeld => ?_)
          refine wpAnyH_take (i := 0) (v := ?_) (by simp only [List.getElem?_toArray, List.getElem?_cons_succ, List.getElem?_cons_zero]; rfl) (by kernel_rfl) (by kernel_rfl) (by kernel_rfl) (fun _ _ _ h => h) (Or.inl ⟨by rfl, ?_⟩) (by assumption) ?_
          rotate_left 1
          · (intro w hSw; (try dsimp only at hSw); obtain ⟨hA, hB, ⟨d0, d1, d2, d3, d4, d5⟩, ⟨e0, e1, e2, e3, e4, e5⟩⟩ := hSw; go_simp; try with_reducible rfl)
          try simp only [Act.put, List.setIfInBounds_toArray, List.set_cons_zero, List.set_cons_succ]
          refine wpAnyH_take (i := 1) (v := ?_) (by simp only [List.getElem?_toArray, List.getElem?_cons_succ, List.getElem?_cons_zero]; rfl) (by kernel_rfl) (by kernel_rfl) (by kernel_rfl) (fun _ _ _ h => h) (Or.inl ⟨by rfl, ?_⟩) (by assumption) ?_
          rotate_left 1
          · (intro w hSw; (try dsimp only at hSw); obtain ⟨hA, hB, ⟨d0, d1, d2, d3, d4, d5⟩, ⟨e0, e1, e2, e3, e4, e5⟩⟩ := hSw; go_simp; try with_reducible rfl)
          try simp only [Act.put, List.setIfInBounds_toArray, List.set_cons_zero, List.set_cons_succ]
          refine wpAnyH_take (i := 2) (v := ?_) (by simp only [List.getElem?_toArray, List.getElem?_cons_succ, List.getElem?_cons_zero]; rfl) (by kernel_rfl) (by kernel_rfl) (by kernel_rfl) (fun _ _ _ h => h) (Or.inl ⟨by rfl, ?_⟩) (by assumption) ?_
          rotate_left 1
          · (intro w hSw; (try dsimp only at hSw); obtain ⟨hA, hB, ⟨d0, d1, d2, d3, d4, d5⟩, ⟨e0, e1, e2, e3, e4, e5⟩⟩ := hSw; go_simp; try with_reducible rfl)
          try simp only [Act.put, List.setIfInBounds_toArray, List.set_cons_zero, List.set_cons_succ]
          refine wpAnyH_take (i := 3) (v := ?_) (by simp only [List.getElem?_toArray, List.getElem?_cons_succ, List.getElem?_cons_zero]; rfl) (by kernel_rfl) (by kernel_rfl) (by kernel_rfl) (fun _ _ _ h => h) (Or.inl ⟨by rfl, ?_⟩) (by assumption) ?_
          rotate_left 1
          · (intro w hSw; (try dsimp only at hSw); obtain ⟨hA, hB, ⟨d0, d1, d2, d3, d4, d5⟩, ⟨e0, e1, e2, e3, e4, e5⟩⟩ := hSw; go_simp; try with_reducible rfl)
          try simp only [Act.put, List.setIfInBounds_toArray, List.set_cons_zero, List.set_cons_succ]
          refine wpAnyH_take (i := 4) (v := ?_) (by simp only [List.getElem?_toArray, List.getElem?_cons_succ, List.getElem?_cons_zero]; rfl) (by kernel_rfl) (by kernel_rfl) (by kernel_rfl) (fun _ _ _ h => h) (Or.inl ⟨by rfl, ?_⟩) (by assumption) ?_
          rotate_left 1
          · (intro w hSw; (try dsimp only at hSw); obtain ⟨hA, hB, ⟨d0, d1, d2, d3, d4, d5⟩, ⟨e0, e1, e2, e3, e4, e5⟩⟩ := hSw; go_simp; try with_reducible rfl)
          try simp only [Act.put, List.setIfInBounds_toArray, List.set_cons_zero, List.set_cons_succ]
          refine wpAnyH_take (i := 5) (v := ?_) (by simp only [List.getElem?_toArray, List.getElem?_cons_succ, List.getElem?_cons_zero]; rfl) (by kernel_rfl) (by kernel_rfl) (by kernel_rfl) (fun _ _ _ h => h) (Or.inl ⟨by rfl, ?_⟩) (by assumption) ?_
          rotate_left 1
          · (intro w hSw; (try dsimp only at hSw); obtain ⟨hA, hB, ⟨d0, d1, d2, d3, d4, d5⟩, ⟨e0, e1, e2, e3, e4, e5⟩⟩ := hSw; go_simp; try with_reducible rfl)
          try simp only [Act.put, List.setIfInBounds_toArray, List.set_cons_zero, List.set_cons_succ]
          refine wpAnyH_take (i := 6) (v := ?_) (by simp only [List.getElem?_toArray, List.getElem?_cons_succ, List.getElem?_cons_zero]; rfl) (by kernel_rfl) (by kernel_rfl) (by kernel_rfl) (fun _ _ _ h => h) (Or.inl ⟨by rfl, ?_⟩) (by assumption) ?_
          rotate_left 1
          · (intro w hSw; (try dsimp only at hSw); obtain ⟨hA, hB, ⟨d0, d1, d2, d3, d4, d5⟩, ⟨e0, e1, e2, e3, e4, e5⟩⟩ := hSw; go_simp; try with_reducible rfl)
          try simp only [Act.put, List.setIfInBounds_toArray, List.set_cons_zero, List.set_cons_succ]
          refine wpAnyH_take (i := 7) (v := ?_) (by simp only [List.getElem?_toArray, List.getElem?_cons_succ, List.getElem?_cons_zero]; rfl) (by kernel_rfl) (by kernel_rfl) (by kernel_rfl) (fun _ _ _ h => h) (Or.inl ⟨by rfl, ?_⟩) (by assumption) ?_
          rotate_left 1
          · (intro w hSw; (try dsimp only at hSw); obtain ⟨hA, hB, ⟨d0, d1, d2, d3, d4, d5⟩, ⟨e0, e1, e2, e3, e4, e5⟩⟩ := hSw; go_simp; try with_reducible rfl)
          try simp only [Act.put, List.setIfInBounds_toArray, List.set_cons_zero, List.set_cons_succ]
          refine wpAnyH_take (i := 8) (v := ?_) (by simp only [List.getElem?_toArray, List.getElem?_cons_succ, List.getElem?_cons_zero]; rfl) (by kernel_rfl) (by kernel_rfl) (by kernel_rfl) (fun _ _ _ h => h) (Or.inl ⟨by rfl, ?_⟩) (by assumption) ?_
          rotate_left 1
          · (intro w hSw; (try dsimp only at hSw); obtain ⟨hA, hB, ⟨d0, d1, d2, d3, d4, d5⟩, ⟨e0, e1, e2, e3, e4, e5⟩⟩ := hSw; go_simp; try with_reducible rfl)
          try simp only [Act.put, List.setIfInBounds_toArray, List.set_cons_zero, List.set_cons_succ]
          refine wpAnyH_take (i := 9) (v := ?_) (by simp only [List.getElem?_toArray, List.getElem?_cons_succ, List.getElem?_cons_zero]; rfl) (by kernel_rfl) (by kernel_rfl) (by kernel_rfl) (fun _ _ _ h => h) (Or.inl ⟨by rfl, ?_⟩) (by assumption) ?_
          rotate_left 1
          · (intro w hSw; (try dsimp only at hSw); obtain ⟨hA, hB, ⟨d0, d1, d2, d3, d4, d5⟩, ⟨e0, e1, e2, e3, e4, e5⟩⟩ := hSw; go_simp; try with_reducible rfl)
          try simp only [Act.put, List.setIfInBounds_toArray, List.set_cons_zero, List.set_cons_succ]
          refine wpAnyH_take (i := 10) (v := ?_) (by simp only [List.getElem?_toArray, List.getElem?_cons_succ, List.getElem?_cons_zero]; rfl) (by kernel_rfl) (by kernel_rfl) (by kernel_rfl) (fun _ _ _ h => h) (Or.inl ⟨by rfl, ?_⟩) (by assumption) ?_
          rotate_left 1
          · (intro w hSw; (try dsimp only at hSw); obtain ⟨hA, hB, ⟨d0, d1, d2, d3, d4, d5⟩, ⟨e0, e1, e2, e3, e4, e5⟩⟩ := hSw; go_simp; try with_reducible rfl)
          try simp only [Act.put, List.setIfInBounds_toArray, List.set_cons_zero, List.set_cons_succ]
          refine wpAnyH_take (i := 11) (v := ?_) (by simp only [List.getElem?_toArray, List.getElem?_cons_succ, List.getElem?_cons_zero]; rfl) (by kernel_rfl) (by kernel_rfl) (by kernel_rfl) (fun _ _ _ h => h) (Or.inl ⟨by rfl, ?_⟩) (by assumption) ?_
          rotate_left 1
          · (intro w hSw; (try dsimp only at hSw); obtain ⟨hA, hB, ⟨d0, d1, d2, d3, d4, d5⟩, ⟨e0, e1, e2, e3, e4, e5⟩⟩ := hSw; go_simp; try with_reducible rfl)
          try simp only [Act.put, List.setIfInBounds_toArray, List.set_cons_zero, List.set_cons_succ]
          refine wpAnyH_take (i := 12) (v := ?_) (by simp only [List.getElem?_toArray, List.getElem?_cons_succ, List.getElem?_cons_zero]; rfl) (by kernel_rfl) (by kernel_rfl) (by kernel_rfl) (fun _ _ _ h => h) (Or.inl ⟨by rfl, ?_⟩) (by assumption) ?_
          rotate_left 1
          · (intro w hSw; (try dsimp only at hSw); obtain ⟨hA, hB, ⟨d0, d1, d2, d3, d4, d5⟩, ⟨e0, e1, e2, e3, e4, e5⟩⟩ := hSw; go_simp; try with_reducible rfl)
          try simp only [Act.put, List.setIfInBounds_toArray, List.set_cons_zero, List.set_cons_succ]
          refine wpAnyH_take (i := 13) (v := ?_) (by simp only [List.getElem?_toArray, List.getElem?_cons_succ, List.getElem?_cons_zero]; rfl) (by kernel_rfl) (by kernel_rfl) (by kernel_rfl) (fun _ _ _ h => h) (Or.inl ⟨by rfl, ?_⟩) (by assumption) ?_
          rotate_left 1
          · (intro w hSw; (try dsimp only at hSw); obtain ⟨hA, hB, ⟨d0, d1, d2, d3, d4, d5⟩, ⟨e0, e1, e2, e3, e4, e5⟩⟩ := hSw; go_simp; try with_reducible rfl)
          try simp only [Act.put, List.setIfInBounds_toArray, List.set_cons_zero, List.set_cons_succ]
          refine wpAnyH_take (i := 14) (v := ?_) (by simp only [List.getElem?_toArray, List.getElem?_cons_succ, List.getElem?_cons_zero]; rfl) (by kernel_rfl) (by kernel_rfl) (by kernel_rfl) (fun _ _ _ h => h) (Or.inl ⟨by rfl, ?_⟩) (by assumption) ?_
          rotate_left 1
          · (intro w hSw; (try dsimp only at hSw); obtain ⟨hA, hB, ⟨d0, d1, d2, d3, d4, d5⟩, ⟨e0, e1, e2, e3, e4, e5⟩⟩ := hSw; go_simp; try with_reducible rfl)
          try simp only [Act.put, List.setIfInBounds_toArray, List.set_cons_zero, List.set_cons_succ]
          refine wpAnyH_take (i := 15) (v := ?_) (by simp only [List.getElem?_toArray, List.getElem?_cons_succ, List.getElem?_cons_zero]; rfl) (by kernel_rfl) (by kernel_rfl) (by kernel_rfl) (fun _ _ _ h => h) (Or.inl ⟨by rfl, ?_⟩) (by assumption) ?_
          rotate_left 1
          · (intro w hSw; (try dsimp only at hSw); obtain ⟨hA, hB, ⟨d0, d1, d2, d3, d4, d5⟩, ⟨e0, e1, e2, e3, e4, e5⟩⟩ := hSw; go_simp; try with_reducible rfl)
          try simp only [Act.put, List.setIfInBounds_toArray, List.set_cons_zero, List.set_cons_succ]
          refine wpAnyH_take (i := 16) (v := ?_) (by simp only [List.getElem?_toArray, List.getElem?_cons_succ, List.getElem?_cons_zero]; rfl) (by kernel_rfl) (by kernel_rfl) (by kernel_rfl) (fun _ _ _ h => h) (Or.inl ⟨by rfl, ?_⟩) (by assumption) ?_
          rotate_left 1
          · (intro w hSw; (try dsimp only at hSw); obtain ⟨hA, hB, ⟨d0, d1, d2, d3, d4, d5⟩, ⟨e0, e1, e2, e3, e4, e5⟩⟩ := hSw; go_simp; try with_reducible rfl)
          try simp only [Act.put, List.setIfInBounds_toArray, List.set_cons_zero, List.set_cons_succ]
          refine wpAnyH_take (i := 17) (v := ?_) (by simp only [List.getElem?_toArray, List.getElem?_cons_succ, List.getElem?_cons_zero]; rfl) (by kernel_rfl) (by kernel_rfl) (by kernel_rfl) (fun _ _ _ h => h) (Or.inl ⟨by rfl, ?_⟩) (by assumption) ?_
          rotate_left 1
          · (intro w hSw; (try dsimp only at hSw); obtain ⟨hA, hB, ⟨d0, d1, d2, d3, d4, d5⟩, ⟨e0, e1, e2, e3, e4, e5⟩⟩ := hSw; go_simp; try with_reducible rfl)
          try simp only [Act.put, List.setIfInBounds_toArray, List.set_cons_zero, List.set_cons_succ]
          refine wpAnyH_take (i := 18) (v := ?_) (by simp only [List.getElem?_toArray, List.getElem?_cons_succ, List.getElem?_cons_zero]; rfl) (by kernel_rfl) (by kernel_rfl) (by kernel_rfl) (fun _ _ _ h => h) (Or.inl ⟨by rfl, ?_⟩) (by assumption) ?_
          rotate_left 1
          · (intro w hSw; (try dsimp only at hSw); obtain ⟨hA, hB, ⟨d0, d1, d2, d3, d4, d5⟩, ⟨e0, e1, e2, e3, e4, e5⟩⟩ := hSw; go_simp; try with_reducible rfl)
          try simp only [Act.put, List.setIfInBounds_toArray, List.set_cons_zero, List.set_cons_succ]
          refine wpAnyH_take (i := 19) (v := ?_) (by simp only [List.getElem?_toArray, List.getElem?_cons_succ, List.getElem?_cons_zero]; rfl) (by kernel_rfl) (by kernel_rfl) (by kernel_rfl) (fun _ _ _ h => h) (Or.inl ⟨by rfl, ?_⟩) (by assumption) ?_
          rotate_left 1
          · (intro w hSw; (try dsimp only at hSw); obtain ⟨hA, hB, ⟨d0, d1, d2, d3, d4, d5⟩, ⟨e0, e1, e2, e3, e4, e5⟩⟩ := hSw; go_simp; try with_reducible rfl)
          try simp only [Act.put, List.setIfInBounds_toArray, List.set_cons_zero, List.set_cons_succ]
          refine wpAnyH_take (i := 20) (v := ?_) (by simp only [List.getElem?_toArray, List.getElem?_cons_succ, List.getElem?_cons_zero]; rfl) (by kernel_rfl) (by kernel_rfl) (by kernel_rfl) (fun _ _ _ h => h) (Or.inl ⟨by rfl, ?_⟩) (by assumption) ?_
          rotate_left 1
          · (intro w hSw; (try dsimp only at hSw); obtain ⟨hA, hB, ⟨d0, d1, d2, d3, d4, d5⟩, ⟨e0, e1, e2, e3, e4, e5⟩⟩ := hSw; go_simp; try with_reducible rfl)
          try simp only [Act.put, List.setIfInBounds_toArray, List.set_cons_zero, List.set_cons_succ]
          refine wpAnyH_take (i := 21) (v := ?_) (by simp only [List.getElem?_toArray, List.getElem?_cons_succ, List.getElem?_cons_zero]; rfl) (by kernel_rfl) (by kernel_rfl) (by kernel_rfl) (fun _ _ _ h => h) (Or.inl ⟨by rfl, ?_⟩) (by assumption) ?_
          rotate_left 1
          · (intro w hSw; (try dsimp only at hSw); obtain ⟨hA, hB, ⟨d0, d1, d2, d3, d4, d5⟩, ⟨e0, e1, e2, e3, e4, e5⟩⟩ := hSw; go_simp; try with_reducible rfl)
          try simp only [Act.put, List.setIfInBounds_toArray, List.set_cons_zero, List.set_cons_succ]
          refine wpAnyH_take (i := 22) (v := ?_) (by simp only [List.getElem?_toArray, List.getElem?_cons_succ, List.getElem?_cons_zero]; rfl) (by kernel_rfl) (by kernel_rfl) (by kernel_rfl) (fun _ _ _ h => h) (Or.inl ⟨by rfl, ?_⟩) (by assumption) ?_
          rotate_left 1
          · (intro w hSw; (try dsimp only at hSw); obtain ⟨hA, hB, ⟨d0, d1, d2, d3, d4, d5⟩, ⟨e0, e1, e2, e3, e4, e5⟩⟩ := hSw; go_simp; try with_reducible rfl)
          try simp only [Act.put, List.setIfInBounds_toArray, List.set_cons_zero, List.set_cons_succ]
          refine wpAnyH_take (i := 23) (v := ?_) (by simp only [List.getElem?_toArray, List.getElem?_cons_succ, List.getElem?_cons_zero]; rfl) (by kernel_rfl) (by kernel_rfl) (by kernel_rfl) (fun _ _ _ h => h) (Or.inl ⟨by rfl, ?_⟩) (by assumption) ?_
          rotate_left 1
          · (intro w hSw; (try dsimp only at hSw); obtain ⟨hA, hB, ⟨d0, d1, d2, d3, d4, d5⟩, ⟨e0, e1, e2, e3, e4, e5⟩⟩ := hSw; go_simp; try with_reducible rfl)
          try simp only [Act.put, List.setIfInBounds_toArray, List.set_cons_zero, List.set_cons_succ]
          refine wpAnyH_take (i := 24) (v := ?_) (by simp only [List.getElem?_toArray, List.getElem?_cons_succ, List.getElem?_cons_zero]; rfl) (by kernel_rfl) (by kernel_rfl) (by kernel_rfl) (fun _ _ _ h => h) (Or.inl ⟨by rfl, ?_⟩) (by assumption) ?_
          rotate_left 1
          · (intro w hSw; (try dsimp only at hSw); obtain ⟨hA, hB, ⟨d0, d1, d2, d3, d4, d5⟩, ⟨e0, e1, e2, e3, e4, e5⟩⟩ := hSw; go_simp; try with_reducible rfl)
          try simp only [Act.put, List.setIfInBounds_toArray, List.set_cons_zero, List.set_cons_succ]
          refine wpAnyH_take (i := 25) (v := ?_) (by simp only [List.getElem?_toArray, List.getElem?_cons_succ, List.getElem?_cons_zero]; rfl) (by kernel_rfl) (by kernel_rfl) (by kernel_rfl) (fun _ _ _ h => h) (Or.inl ⟨by rfl, ?_⟩) (by assumption) ?_
          rotate_left 1
          · (intro w hSw; (try dsimp only at hSw); obtain ⟨hA, hB, ⟨d0, d1, d2, d3, d4, d5⟩, ⟨e0, e1, e2, e3, e4, e5⟩⟩ := hSw; go_simp; try with_reducible rfl)
          try simp only [Act.put, List.setIfInBounds_toArray, List.set_cons_zero, List.set_cons_succ]
          refine wpAnyH_take (i := 26) (v := ?_) (by simp only [List.getElem?_toArray, List.getElem?_cons_succ, List.getElem?_cons_zero]; rfl) (by kernel_rfl) (by kernel_rfl) (by kernel_rfl) (fun _ _ _ h => h) (Or.inl ⟨by rfl, ?_⟩) (by assumption) ?_
          rotate_left 1
          · (intro w hSw; (try dsimp only at hSw); obtain ⟨hA, hB, ⟨d0, d1, d2, d3, d4, d5⟩, ⟨e0, e1, e2, e3, e4, e5⟩⟩ := hSw; go_simp; try with_reducible rfl)
          try simp only [Act.put, List.setIfInBounds_toArray, List.set_cons_zero, List.set_cons_succ]
          refine wpAnyH_take (i := 27) (v := ?_) (by simp only [List.getElem?_toArray, List.getElem?_cons_succ, List.getElem?_cons_zero]; rfl) (by kernel_rfl) (by kernel_rfl) (by kernel_rfl) (fun _ _ _ h => h) (Or.inl ⟨by rfl, ?_⟩) (by assumption) ?_
          rotate_left 1
          · (intro w hSw; (try dsimp only at hSw); obtain ⟨hA, hB, ⟨d0, d1, d2, d3, d4, d5⟩, ⟨e0, e1, e2, e3, e4, e5⟩⟩ := hSw; go_simp; try with_reducible rfl)
          try simp only [Act.put, List.setIfInBounds_toArray, List.set_cons_zero, List.set_cons_succ]
          refine wpAnyH_take (i := 28) (v := ?_) (by simp only [List.getElem?_toArray, List.getElem?_cons_succ, List.getElem?_cons_zero]; rfl) (by kernel_rfl) (by kernel_rfl) (by kernel_rfl) (fun _ _ _ h => h) (Or.inl ⟨by rfl, ?_⟩) (by assumption) ?_
          rotate_left 1
          · (intro w hSw; (try dsimp only at hSw); obtain ⟨hA, hB, ⟨d0, d1, d2, d3, d4, d5⟩, ⟨e0, e1, e2, e3, e4, e5⟩⟩ := hSw; go_simp; try with_reducible rfl)
          try simp only [Act.put, List.setIfInBounds_toArray, List.set_cons_zero, List.set_cons_succ]
          refine wpAnyH_take (i := 29) (v := ?_) (by simp only [List.getElem?_toArray, List.getElem?_cons_succ, List.getElem?_cons_zero]; rfl) (by kernel_rfl) (by kernel_rfl) (by kernel_rfl) (fun _ _ _ h => h) (Or.inl ⟨by rfl, ?_⟩) (by assumption) ?_
          rotate_left 1
          · (intro w hSw; (try dsimp only at hSw); obtain ⟨hA, hB, ⟨d0, d1, d2, d3, d4, d5⟩, ⟨e0, e1, e2, e3, e4, e5⟩⟩ := hSw; go_simp; try with_reducible rfl)
          try simp only [Act.put, List.setIfInBounds_toArray, List.set_cons_zero, List.set_cons_succ]
          refine wpAnyH_take (i := 30) (v := ?_) (by simp only [List.getElem?_toArray, List.getElem?_cons_succ, List.getElem?_cons_zero]; rfl) (by kernel_rfl) (by kernel_rfl) (by kernel_rfl) (fun _ _ _ h => h) (Or.inl ⟨by rfl, ?_⟩) (by assumption) ?_
          rotate_left 1
          · (intro w hSw; (try dsimp only at hSw); obtain ⟨hA, hB, ⟨d0, d1, d2, d3, d4, d5⟩, ⟨e0, e1, e2, e3, e4, e5⟩⟩ := hSw; go_simp; try with_reducible rfl)
          try simp only [Act.put, List.setIfInBounds_toArray, List.set_cons_zero, List.set_cons_succ]
          refine wpAnyH_take (i := 31) (v := ?_) (by simp only [List.getElem?_toArray, List.getElem?_cons_succ, List.getElem?_cons_zero]; rfl) (by kernel_rfl) (by kernel_rfl) (by kernel_rfl) (fun _ _ _ h => h) (Or.inl ⟨by rfl, ?_⟩) (by assumption) ?_
          rotate_left 1
          · (intro w hSw; (try dsimp only at hSw); obtain ⟨hA, hB, ⟨d0, d1, d2, d3, d4, d5⟩, ⟨e0, e1, e2, e3, e4, e5⟩⟩ := hSw; go_simp; try with_reducible rfl)
          try simp only [Act.put, List.setIfInBounds_toArray, List.set_cons_zero, List.set_cons_succ]
          refine wpAnyH_take (i := 32) (v := ?_) (by simp only [List.getElem?_toArray, List.getElem?_cons_succ, List.getElem?_cons_zero]; rfl) (by kernel_rfl) (by kernel_rfl) (by kernel_rfl) (fun _ _ _ h => h) (Or.inl ⟨by rfl, ?_⟩) (by assumption) ?_
          rotate_left 1
          · (intro w hSw; (try dsimp only at hSw); obtain ⟨hA, hB, ⟨d0, d1, d2, d3, d4, d5⟩, ⟨e0, e1, e2, e3, e4, e5⟩⟩ := hSw; go_simp; try with_reducible rfl)
          try simp only [Act.put, List.setIfInBounds_toArray, List.set_cons_zero, List.set_cons_succ]
          refine wpAnyH_take (i := 33) (v := ?_) (by simp only [List.getElem?_toArray, List.getElem?_cons_succ, List.getElem?_cons_zero]; rfl) (by kernel_rfl) (by kernel_rfl) (by kernel_rfl) (fun _ _ _ h => h) (Or.inl ⟨by rfl, ?_⟩) (by assumption) ?_
          rotate_left 1
          · (intro w hSw; (try dsimp only at hSw); obtain ⟨hA, hB, ⟨d0, d1, d2, d3, d4, d5⟩, ⟨e0, e1, e2, e3, e4, e5⟩⟩ := hSw; go_simp; try with_reducible rfl)
          try simp only [Act.put, List.setIfInBounds_toArray, List.set_cons_zero, List.set_cons_succ]
          refine wpAnyH_take (i := 34) (v := ?_) (by simp only [List.getElem?_toArray, List.getElem?_cons_succ, List.getElem?_cons_zero]; rfl) (by kernel_rfl) (by kernel_rfl) (by kernel_rfl) (fun _ _ _ h => h) (Or.inl ⟨by rfl, ?_⟩) (by assumption) ?_
          rotate_left 1
          · (intro w hSw; (try dsimp only at hSw); obtain ⟨hA, hB, ⟨d0, d1, d2, d3, d4, d5⟩, ⟨e0, e1, e2, e3, e4, e5⟩⟩ := hSw; go_simp; try with_reducible rfl)
          try simp only [Act.put, List.setIfInBounds_toArray, List.set_cons_zero, List.set_cons_succ]
          refine wpAnyH_ready (rs := [35]) (by kernel_rfl) (by simp) ?_
          refine AllReadyH.cons (by simp only [List.getElem?_toArray, List.getElem?_cons_succ, List.getElem?_cons_zero]; rfl) (fun K hK => ?_) AllReadyH.nil
          go_simp
          refine HCS.out.mono ?_
          rintro e wz ⟨rfl, hgz⟩
          refine hK.out _ _ (HSX.out _ ((Grow.refl _).drew.trans hgz)) (fun hHeld => ?_)
          clear hK K
          try simp only [Act.put, List.setIfInBounds_toArray, List.set_cons_zero, List.set_cons_succ]
          refine wpAnyH_take (i := 36) (v := ?_) (by simp only [List.getElem?_toArray, List.getElem?_cons_succ, List.getElem?_cons_zero]; rfl) (by kernel_rfl) (by kernel_rfl) (by kernel_rfl) (fun _ _ _ h => h) (Or.inl ⟨by rfl, ?_⟩) (by assumption) ?_
          rotate_left 1
          · (intro w hSw; (try dsimp only at hSw); obtain ⟨hA, hB, ⟨d0, d1, d2, d3, d4, d5⟩, ⟨e0, e1, e2, e3, e4, e5⟩⟩ := hSw; go_simp; try with_reducible rfl)
          try simp only [Act.put, List.setIfInBounds_toArray, List.set_cons_zero, List.set_cons_succ]
          refine wpAnyH_take (i := 37) (v := ?_) (by simp only [List.getElem?_toArray, List.getElem?_cons_succ, List.getElem?_cons_zero]; rfl) (by kernel_rfl) (by kernel_rfl) (by kernel_rfl) (fun _ _ _ h => h) (Or.inl ⟨by rfl, ?_⟩) (by assumption) ?_
          rotate_left 1
          · (intro w hSw; (try dsimp only at hSw); obtain ⟨hA, hB, ⟨d0, d1, d2, d3, d4, d5⟩, ⟨e0, e1, e2, e3, e4, e5⟩⟩ := hSw; go_simp; try with_reducible rfl)
          try simp only [Act.put, List.setIfInBounds_toArray, List.set_cons_zero, List.set_cons_succ]
          refine wpAnyH_take (i := 38) (v := ?_) (by simp only [List.getElem?_toArray, List.getElem?_cons_succ, List.getElem?_cons_zero]; rfl) (by kernel_rfl) (by kernel_rfl) (by kernel_rfl) (fun _ _ _ h => h) (Or.inl ⟨by rfl, ?_⟩) (by assumption) ?_
          rotate_left 1
          · (intro w hSw; (try dsimp only at hSw); obtain ⟨hA, hB, ⟨d0, d1, d2, d3, d4, d5⟩, ⟨e0, e1, e2, e3, e4, e5⟩⟩ := hSw; go_simp; try with_reducible rfl)
          try simp only [Act.put, List.setIfInBounds_toArray, List.set_cons_zero, List.set_cons_succ]
          refine wpAnyH_done (by kernel_rfl) ?_ _
          refine NoPanic.normal ?_
          go_wp2_with fail
          go_roundg gk'
          case measure => omega
          case rel => exact ⟨j + 1, by omega, by omega, by go_num, HWR.out.drew.trans hgz⟩
      · obtain rfl : j = f.length := by omega
        go_wp2_with fail
        rw [← HB9.out]
        go_meet
        exact ⟨HG5.out.trans HWR.out, HBR.out⟩
  case rest =>
  obtain ⟨hwx, hbx⟩ := hcut
  rename World => wx
  have HWX := hide hwx
  have HBX := hide hbx
  clear hwx hbx hrz
  go_wp2_with fail
  have hlen : p.data.toList.length = p.size := by simp
  go_loopg [14] (p.size + 1) (fun gk i wr => ∃ j : Nat, j ≤ p.size ∧ gk + j = p.size + 1 ∧ i = .int .i64 j ∧ (∀ i (hi : i < p.data.toList.length), i < j → p.data.toList[i] ≠ 46) ∧ Grow w wr ∧ Blk wr w.heap.size 37 c.cells)
  case atStart => exact ⟨0, by omega, by omega, rfl, fun i _ h => absurd h (by omega), HWX.out, HBX.out⟩
  case round =>
    obtain ⟨j, hj, hgk, rfl, hne, hwr, hbr⟩ := hrel
    have HN := hide hne
    have HWR := hide hwr
    have HBR := hide hbr
    have hpb := HP.out
    clear hne hwr hbr
    obtain ⟨gk', rfl⟩ : ∃ g, gk = g + 1 := ⟨gk - 1, by omega⟩
    by_cases hlt : j < p.size
    · obtain ⟨y, hy⟩ : ∃ y, p[j]'hlt = y := ⟨_, rfl⟩
      have hyd : p.data.toList[j]'(by simpa using hlt) = y := by rw [← hy, bytes_get p j hlt]
      by_cases hd : y = 46
      · have HD := hide (hyd.trans hd)
        have hd2 : ((y.toNat : Int) == 46) = true := by rw [hd]; rfl
        have hcr := HBR.out.cell
        have hltr := HBR.out.lt
        have hjl : j ≤ p.size := by omega
        have hzj : (p.extract 0 j).size = j := by rw [ByteArray.size_extract]; omega
        have HC1 := hide (vpath_any v (p.extract 0 j) c wr.drew (HT.out.grow HWR.out.drew) (HM.out.grow HWR.out.drew) (by have := HC.out; omega) (by omega) (HV.out.grow HWR.out.drew))
        have HC2 := hide (vpath_any v (p.extract 0 j) c (wr.drew.alloc (.cells Cv.zero.cells 37)) (HT.out.grow (HWR.out.drew.alloc _)) (HM.out.grow (HWR.out.drew.alloc _)) (by have := HC.out; omega) (by omega) (HV.out.grow (HWR.out.drew.alloc _)))
        have HDR := hide ((Grow.refl wr).drew)
        have HZ := hide (show Blk (wr.drew.alloc (.cells Cv.zero.cells 37)) wr.heap.size 37 Cv.zero.cells from Blk.new wr.drew 37 Cv.zero.cells)
        clear hzj
        go_upto_region 19 with fail
        clear hy hd2
        go_cut [15, 16] (fun p15 t16 wx => PathAt wr (pathV v (p.extract 0 j)) p15 t16 wx)
        case first =>
          refine wp_region_noPanic ?_
          refine wp_region_held_drew (S := fun w' => ∀ i, w'.cell? ⟨w.heap.size, i, none⟩ = c.cells[i]?) (by kernel_rfl) ((HBR.out.drew).cell) (fun hHeld => ?_)
          refine wpAnyH_take (i := 0) (v := ?_) (by simp only [List.getElem?_toArray, List.getElem?_cons_succ, List.getElem?_cons_zero]; rfl) (by kernel_rfl) (by kernel_rfl) (by kernel_rfl) (fun _ _ _ h => h) (Or.inl ⟨by rfl, ?_⟩) (by assumption) ?_
          rotate_left 1
          · (intro w hSw; (try dsimp only at hSw); go_simp; try with_reducible rfl)
          try simp only [Act.put, List.setIfInBounds_toArray, List.set_cons_zero, List.set_cons_succ]
          refine wpAnyH_take (i := 1) (v := ?_) (by simp only [List.getElem?_toArray, List.getElem?_cons_succ, List.getElem?_cons_zero]; rfl) (by kernel_rfl) (by kernel_rfl) (by kernel_rfl) (fun _ _ _ h => h) (Or.inl ⟨by rfl, ?_⟩) (by assumption) ?_
          rotate_left 1
          · (intro w hSw; (try dsimp only at hSw); go_simp; try with_reducible rfl)
          try simp only [Act.put, List.setIfInBounds_toArray, List.set_cons_zero, List.set_cons_succ]
          refine wpAnyH_take (i := 2) (v := ?_) (by simp only [List.getElem?_toArray, List.getElem?_cons_succ, List.getElem?_cons_zero]; rfl) (by kernel_rfl) (by kernel_rfl) (by kernel_rfl) (fun _ _ _ h => h) (Or.inl ⟨by rfl, ?_⟩) (by assumption) ?_
          rotate_left 1
          · (intro w hSw; (try dsimp only at hSw); go_simp; try with_reducible rfl)
          try simp only [Act.put, List.setIfInBounds_toArray, List.set_cons_zero, List.set_cons_succ]
          refine wpAnyH_take (i := 3) (v := ?_) (by simp only [List.getElem?_toArray, List.getElem?_cons_succ, List.getElem?_cons_zero]; rfl) (by kernel_rfl) (by kernel_rfl) (by kernel_rfl) (fun _ _ _ h => h) (Or.inl ⟨by rfl, ?_⟩) (by assumption) ?_
          rotate_left 1
          · (intro w hSw; (try dsimp only at hSw); go_simp; try with_reducible rfl)
          try simp only [Act.put, List.setIfInBounds_toArray, List.set_cons_zero, List.set_cons_succ]
          refine wpAnyH_ready (rs := [4, 8]) (by kernel_rfl) (by simp) ?_
          refine AllReadyH.cons rfl (fun K hK => ?_) ?_
          · go_simp
            refine HC1.out.mono ?_
            rintro e w4 ⟨hg4, ch, th, uh, rfl, hh, hhp⟩
            try go_simp
            refine hK.out _ _ ((HBR.out.drew.grow hg4).cell) (fun hHeld => ?_)
            clear hK K
            try simp only [Act.put, List.setIfInBounds_toArray, List.set_cons_zero, List.set_cons_succ]
            refine wpAnyH_take (i := 5) (v := ?_) (by simp only [List.getElem?_toArray, List.getElem?_cons_succ, List.getElem?_cons_zero]; rfl) (by kernel_rfl) (by kernel_rfl) (by kernel_rfl) (fun _ _ _ h => h) (Or.inl ⟨by rfl, ?_⟩) (by assumption) ?_
            rotate_left 1
            · (intro w hSw; (try dsimp only at hSw); go_simp; try with_reducible rfl)
            try simp only [Act.put, List.setIfInBounds_toArray, List.set_cons_zero, List.set_cons_succ]
            refine wpAnyH_take (i := 6) (v := ?_) (by simp only [List.getElem?_toArray, List.getElem?_cons_succ, List.getElem?_cons_zero]; rfl) (by kernel_rfl) (by kernel_rfl) (by kernel_rfl) (fun _ _ _ h => h) (Or.inl ⟨by rfl, ?_⟩) (by assumption) ?_
            rotate_left 1
            · (intro w hSw; (try dsimp only at hSw); go_simp; try with_reducible rfl)
            try simp only [Act.put, List.setIfInBounds_toArray, List.set_cons_zero, List.set_cons_succ]
            refine wpAnyH_take (i := 7) (v := ?_) (by simp only [List.getElem?_toArray, List.getElem?_cons_succ, List.getElem?_cons_zero]; rfl) (by kernel_rfl) (by kernel_rfl) (by kernel_rfl) (fun _ _ _ h => h) (Or.inl ⟨by rfl, ?_⟩) (by assumption) ?_
            rotate_left 1
            · (intro w hSw; (try dsimp only at hSw); go_simp; try with_reducible rfl)
            try simp only [Act.put, List.setIfInBounds_toArray, List.set_cons_zero, List.set_cons_succ]
            refine wpAnyH_ready (rs := [8]) (by kernel_rfl) (by simp) ?_
            refine AllReadyH.cons rfl (fun K hK => ?_) AllReadyH.nil
            go_simp
            try go_simp
            refine hK.out _ _ (((HBR.out.drew.grow hg4).alloc _).cell) (fun hHeld => ?_)
            clear hK K
            try simp only [Act.put, List.setIfInBounds_toArray, List.set_cons_zero, List.set_cons_succ]
            refine wpAnyH_ready (rs := [9]) (by kernel_rfl) (by simp) ?_
            refine AllReadyH.cons rfl (fun K hK => ?_) AllReadyH.nil
            go_simp
            try go_simp
            refine hK.out _ _ (((HBR.out.drew.grow hg4).alloc _).cell) (fun hHeld => ?_)
            clear hK K
            try simp only [Act.put, List.setIfInBounds_toArray, List.set_cons_zero, List.set_cons_succ]
            refine wpAnyH_take (i := 10) (v := ?_) (by simp only [List.getElem?_toArray, List.getElem?_cons_succ, List.getElem?_cons_zero]; rfl) (by kernel_rfl) (by kernel_rfl) (by kernel_rfl) (fun _ _ _ h => h) (Or.inl ⟨by rfl, ?_⟩) (by assumption) ?_
            rotate_left 1
            · (intro w hSw; (try dsimp only at hSw); go_simp; try with_reducible rfl)
            try simp only [Act.put, List.setIfInBounds_toArray, List.set_cons_zero, List.set_cons_succ]
            refine wpAnyH_done (by kernel_rfl) ?_ _
            refine NoPanic.normal ?_
            go_wp2_with fail
            go_meet
            exact PathAt.late HDR.out hg4 hh hhp
          refine AllReadyH.cons rfl (fun K hK => ?_) AllReadyH.nil
          go_simp
          try go_simp
          refine hK.out _ _ ((HBR.out.drew.alloc _).cell) (fun hHeld => ?_)
          clear hK K
          try simp only [Act.put, List.setIfInBounds_toArray, List.set_cons_zero, List.set_cons_succ]
          refine wpAnyH_ready (rs := [4]) (by kernel_rfl) (by simp) ?_
          refine AllReadyH.cons rfl (fun K hK => ?_) AllReadyH.nil
          go_simp
          refine HC2.out.mono ?_
          rintro e w4 ⟨hg4, ch, th, uh, rfl, hh, hhp⟩
          have hB4 := HZ.out.grow hg4
          have hc4 := hB4.cell
          have hlt4 := hB4.lt
          have hz4 := hB4.frozen
          try go_simp
          refine hK.out _ _ (((HBR.out.drew.alloc _).grow hg4).cell) (fun hHeld => ?_)
          clear hK K
          try simp only [Act.put, List.setIfInBounds_toArray, List.set_cons_zero, List.set_cons_succ]
          refine wpAnyH_take (i := 5) (v := ?_) (by simp only [List.getElem?_toArray, List.getElem?_cons_succ, List.getElem?_cons_zero]; rfl) (by kernel_rfl) (by kernel_rfl) (by kernel_rfl) (fun _ _ _ h => h) (Or.inl ⟨by rfl, ?_⟩) (by assumption) ?_
          rotate_left 1
          · (intro w hSw; (try dsimp only at hSw); go_simp; try with_reducible rfl)
          try simp only [Act.put, List.setIfInBounds_toArray, List.set_cons_zero, List.set_cons_succ]
          refine wpAnyH_take (i := 6) (v := ?_) (by simp only [List.getElem?_toArray, List.getElem?_cons_succ, List.getElem?_cons_zero]; rfl) (by kernel_rfl) (by kernel_rfl) (by kernel_rfl) (fun _ _ _ h => h) (Or.inl ⟨by rfl, ?_⟩) (by assumption) ?_
          rotate_left 1
          · (intro w hSw; (try dsimp only at hSw); go_simp; try with_reducible rfl)
          try simp only [Act.put, List.setIfInBounds_toArray, List.set_cons_zero, List.set_cons_succ]
          refine wpAnyH_take (i := 7) (v := ?_) (by simp only [List.getElem?_toArray, List.getElem?_cons_succ, List.getElem?_cons_zero]; rfl) (by kernel_rfl) (by kernel_rfl) (by kernel_rfl) (fun _ _ _ h => h) (Or.inl ⟨by rfl, ?_⟩) (by assumption) ?_
          rotate_left 1
          · (intro w hSw; (try dsimp only at hSw); go_simp; try with_reducible rfl)
          try simp only [Act.put, List.setIfInBounds_toArray, List.set_cons_zero, List.set_cons_succ]
          refine wpAnyH_ready (rs := [9]) (by kernel_rfl) (by simp) ?_
          refine AllReadyH.cons rfl (fun K hK => ?_) AllReadyH.nil
          go_simp
          try go_simp
          refine hK.out _ _ ((((HBR.out.drew.alloc _).grow hg4).set5o (by have := HBR.out.lt; omega) ch).cell) (fun hHeld => ?_)
          clear hK K
          try simp only [Act.put, List.setIfInBounds_toArray, List.set_cons_zero, List.set_cons_succ]
          refine wpAnyH_take (i := 10) (v := ?_) (by simp only [List.getElem?_toArray, List.getElem?_cons_succ, List.getElem?_cons_zero]; rfl) (by kernel_rfl) (by kernel_rfl) (by kernel_rfl) (fun _ _ _ h => h) (Or.inl ⟨by rfl, ?_⟩) (by assumption) ?_
          rotate_left 1
          · (intro w hSw; (try dsimp only at hSw); go_simp; try with_reducible rfl)
          try simp only [Act.put, List.setIfInBounds_toArray, List.set_cons_zero, List.set_cons_succ]
          refine wpAnyH_done (by kernel_rfl) ?_ _
          refine NoPanic.normal ?_
          go_wp2_with fail
          go_meet
          exact PathAt.early (HDR.out.alloc _) hg4 (Nat.le_refl _) (by simp) hB4 hh hhp
        case rest =>
        clear hcr hltr
        obtain ⟨hg4, b5, ch, th, uh, rfl, rfl, hb5, hB5, hin5, hhp⟩ := hcut
        rename World => w4
        have HG4 := hide (HWR.out.trans hg4)
        have HB4 := hide (HBR.out.grow hg4)
        have HB5 := hide hB5
        have HIN5 := hide hin5
        have HHP := hide hhp
        have hc4 := HB4.out.cell
        have hlt4 := HB4.out.lt
        clear hg4 hb5 hB5 hin5 hhp
        go_wp2_with fail
        refine (vpath_any v p c w4 (HT.out.grow HG4.out) (HM.out.grow HG4.out) (by have := HC.out; omega) HP.out (HV.out.grow HG4.out)).mono ?_
        rintro e w5 ⟨hg5, ca, ta, ua, rfl, ha, hap⟩
        have HAP := hide hap
        have hga5 := hg5.alloc (.cells ca.cells 37)
        have HG5 := hide (HG4.out.trans hga5)
        have HB55 := hide (HB5.out.grow hga5)
        have HIN55 := hide (HIN5.out.grow hga5)
        have HBa := hide (Blk.new w5 37 ca.cells)
        have HA := hide ((isv_in ha).grow ((Grow.refl w5).alloc (.cells ca.cells 37)))
        obtain ⟨W5, hW5⟩ : ∃ W5, w5.alloc (.cells ca.cells 37) = W5 := ⟨_, rfl⟩
        obtain ⟨b7, hb7⟩ : ∃ b7, w5.heap.size = b7 := ⟨_, rfl⟩
        clear hg5 hap ha hga5 hc4 hlt4
        go_upto_region 21 with fail
        rw [hW5] at HG5 HB55 HIN55 HBa HA
        rw [hb7] at HBa
        clear hW5 hb7
        obtain ⟨j1, hj1⟩ : ∃ j1, j + 1 = j1 := ⟨_, rfl⟩
        have hj1i : (j : Int) + 1 = (j1 : Int) := by omega
        have hj1s : j1 ≤ p.size := by omega
        have hj1w : IntKind.i64.wrap (j1 : Int) = (j1 : Int) := by rw [IntKind.wrap_i64]; omega
        have hj10 : (0 : Int) ≤ (j1 : Int) := by omega
        have hj11 : (j1 : Int) ≤ (p.size : Int) := by omega
        have hcu : uh.count ≤ 20000 := by
          rcases HHP.out with ⟨h, -⟩ | ⟨-, -, h, -⟩
          · have := pathV_count h; have := HC.out; omega
          · rw [h]; unfold V.zero; rw [V.count_mk]; decide
        have hzr : (p.extract j1 p.size).size = p.size - j1 := by rw [ByteArray.size_extract]; omega
        have HD1 := hide (vpath_any uh (p.extract j1 p.size) ch W5.drew (HT.out.grow HG5.out.drew) (HM.out.grow HG5.out.drew) hcu (by omega) (HIN55.out.grow (Grow.refl W5).drew))
        have HD2 := hide (vpath_any uh (p.extract j1 p.size) ch (W5.drew.alloc (.cells Cv.zero.cells 37)) (HT.out.grow (HG5.out.drew.alloc _)) (HM.out.grow (HG5.out.drew.alloc _)) hcu (by omega) (HIN55.out.grow ((Grow.refl W5).drew.alloc _)))
        have HDS := hide ((Grow.refl W5).drew)
        have HZ5 := hide (show Blk (W5.drew.alloc (.cells Cv.zero.cells 37)) W5.heap.size 37 Cv.zero.cells from Blk.new W5.drew 37 Cv.zero.cells)
        clear hzr hcu
        go_cut [19, 20] (fun p19 t20 wx => PathAt W5 (pathV uh (p.extract j1 p.size)) p19 t20 wx)
        case first =>
          refine wp_region_noPanic ?_
          refine wp_region_held_drew (S := fun w' => ∀ i, w'.cell? ⟨b5, i, none⟩ = ch.cells[i]?) (by kernel_rfl) ((HB55.out.drew).cell) (fun hHeld => ?_)
          refine wpAnyH_take (i := 0) (v := ?_) (by simp only [List.getElem?_toArray, List.getElem?_cons_succ, List.getElem?_cons_zero]; rfl) (by kernel_rfl) (by kernel_rfl) (by kernel_rfl) (fun _ _ _ h => h) (Or.inl ⟨by rfl, ?_⟩) (by assumption) ?_
          rotate_left 1
          · (intro w hSw; (try dsimp only at hSw); go_simp; try with_reducible rfl)
          try simp only [Act.put, List.setIfInBounds_toArray, List.set_cons_zero, List.set_cons_succ]
          refine wpAnyH_take (i := 1) (v := ?_) (by simp only [List.getElem?_toArray, List.getElem?_cons_succ, List.getElem?_cons_zero]; rfl) (by kernel_rfl) (by kernel_rfl) (by kernel_rfl) (fun _ _ _ h => h) (Or.inl ⟨by rfl, ?_⟩) (by assumption) ?_
          rotate_left 1
          · (intro w hSw; (try dsimp only at hSw); go_simp; try with_reducible rfl)
          try simp only [Act.put, List.setIfInBounds_toArray, List.set_cons_zero, List.set_cons_succ]
          refine wpAnyH_take (i := 2) (v := ?_) (by simp only [List.getElem?_toArray, List.getElem?_cons_succ, List.getElem?_cons_zero]; rfl) (by kernel_rfl) (by kernel_rfl) (by kernel_rfl) (fun _ _ _ h => h) (Or.inl ⟨by rfl, ?_⟩) (by assumption) ?_
          rotate_left 1
          · (intro w hSw; (try dsimp only at hSw); go_simp; try with_reducible rfl)
          try simp only [Act.put, List.setIfInBounds_toArray, List.set_cons_zero, List.set_cons_succ]
          refine wpAnyH_take (i := 3) (v := ?_) (by simp only [List.getElem?_toArray, List.getElem?_cons_succ, List.getElem?_cons_zero]; rfl) (by kernel_rfl) (by kernel_rfl) (by kernel_rfl) (fun _ _ _ h => h) (Or.inl ⟨by rfl, ?_⟩) (by assumption) ?_
          rotate_left 1
          · (intro w hSw; (try dsimp only at hSw); go_simp; try with_reducible rfl)
          try simp only [Act.put, List.setIfInBounds_toArray, List.set_cons_zero, List.set_cons_succ]
          refine wpAnyH_take (i := 4) (v := ?_) (by simp only [List.getElem?_toArray, List.getElem?_cons_succ, List.getElem?_cons_zero]; rfl) (by kernel_rfl) (by kernel_rfl) (by kernel_rfl) (fun _ _ _ h => h) (Or.inl ⟨by rfl, ?_⟩) (by assumption) ?_
          rotate_left 1
          · (intro w hSw; (try dsimp only at hSw); go_simp; try with_reducible rfl)
          try simp only [Act.put, List.setIfInBounds_toArray, List.set_cons_zero, List.set_cons_succ]
          refine wpAnyH_ready (rs := [5, 9]) (by kernel_rfl) (by simp) ?_
          refine AllReadyH.cons rfl (fun K hK => ?_) ?_
          · go_simp
            refine HD1.out.mono ?_
            rintro e w6 ⟨hg6, cb, tb, ub, rfl, hb, hbp⟩
            try go_simp
            refine hK.out _ _ ((HB55.out.drew.grow hg6).cell) (fun hHeld => ?_)
            clear hK K
            try simp only [Act.put, List.setIfInBounds_toArray, List.set_cons_zero, List.set_cons_succ]
            refine wpAnyH_take (i := 6) (v := ?_) (by simp only [List.getElem?_toArray, List.getElem?_cons_succ, List.getElem?_cons_zero]; rfl) (by kernel_rfl) (by kernel_rfl) (by kernel_rfl) (fun _ _ _ h => h) (Or.inl ⟨by rfl, ?_⟩) (by assumption) ?_
            rotate_left 1
            · (intro w hSw; (try dsimp only at hSw); go_simp; try with_reducible rfl)
            try simp only [Act.put, List.setIfInBounds_toArray, List.set_cons_zero, List.set_cons_succ]
            refine wpAnyH_take (i := 7) (v := ?_) (by simp only [List.getElem?_toArray, List.getElem?_cons_succ, List.getElem?_cons_zero]; rfl) (by kernel_rfl) (by kernel_rfl) (by kernel_rfl) (fun _ _ _ h => h) (Or.inl ⟨by rfl, ?_⟩) (by assumption) ?_
            rotate_left 1
            · (intro w hSw; (try dsimp only at hSw); go_simp; try with_reducible rfl)
            try simp only [Act.put, List.setIfInBounds_toArray, List.set_cons_zero, List.set_cons_succ]
            refine wpAnyH_take (i := 8) (v := ?_) (by simp only [List.getElem?_toArray, List.getElem?_cons_succ, List.getElem?_cons_zero]; rfl) (by kernel_rfl) (by kernel_rfl) (by kernel_rfl) (fun _ _ _ h => h) (Or.inl ⟨by rfl, ?_⟩) (by assumption) ?_
            rotate_left 1
            · (intro w hSw; (try dsimp only at hSw); go_simp; try with_reducible rfl)
            try simp only [Act.put, List.setIfInBounds_toArray, List.set_cons_zero, List.set_cons_succ]
            refine wpAnyH_ready (rs := [9]) (by kernel_rfl) (by simp) ?_
            refine AllReadyH.cons rfl (fun K hK => ?_) AllReadyH.nil
            go_simp
            try go_simp
            refine hK.out _ _ (((HB55.out.drew.grow hg6).alloc _).cell) (fun hHeld => ?_)
            clear hK K
            try simp only [Act.put, List.setIfInBounds_toArray, List.set_cons_zero, List.set_cons_succ]
            refine wpAnyH_ready (rs := [10]) (by kernel_rfl) (by simp) ?_
            refine AllReadyH.cons rfl (fun K hK => ?_) AllReadyH.nil
            go_simp
            try go_simp
            refine hK.out _ _ (((HB55.out.drew.grow hg6).alloc _).cell) (fun hHeld => ?_)
            clear hK K
            try simp only [Act.put, List.setIfInBounds_toArray, List.set_cons_zero, List.set_cons_succ]
            refine wpAnyH_take (i := 11) (v := ?_) (by simp only [List.getElem?_toArray, List.getElem?_cons_succ, List.getElem?_cons_zero]; rfl) (by kernel_rfl) (by kernel_rfl) (by kernel_rfl) (fun _ _ _ h => h) (Or.inl ⟨by rfl, ?_⟩) (by assumption) ?_
            rotate_left 1
            · (intro w hSw; (try dsimp only at hSw); go_simp; try with_reducible rfl)
            try simp only [Act.put, List.setIfInBounds_toArray, List.set_cons_zero, List.set_cons_succ]
            refine wpAnyH_done (by kernel_rfl) ?_ _
            refine NoPanic.normal ?_
            go_wp2_with fail
            go_meet
            exact PathAt.late HDS.out hg6 hb hbp
          refine AllReadyH.cons rfl (fun K hK => ?_) AllReadyH.nil
          go_simp
          try go_simp
          refine hK.out _ _ ((HB55.out.drew.alloc _).cell) (fun hHeld => ?_)
          clear hK K
          try simp only [Act.put, List.setIfInBounds_toArray, List.set_cons_zero, List.set_cons_succ]
          refine wpAnyH_ready (rs := [5]) (by kernel_rfl) (by simp) ?_
          refine AllReadyH.cons rfl (fun K hK => ?_) AllReadyH.nil
          go_simp
          refine HD2.out.mono ?_
          rintro e w6 ⟨hg6, cb, tb, ub, rfl, hb, hbp⟩
          have hB6 := HZ5.out.grow hg6
          have hc6 := hB6.cell
          have hlt6 := hB6.lt
          have hz6 := hB6.frozen
          try go_simp
          refine hK.out _ _ (((HB55.out.drew.alloc _).grow hg6).cell) (fun hHeld => ?_)
          clear hK K
          try simp only [Act.put, List.setIfInBounds_toArray, List.set_cons_zero, List.set_cons_succ]
          refine wpAnyH_take (i := 6) (v := ?_) (by simp only [List.getElem?_toArray, List.getElem?_cons_succ, List.getElem?_cons_zero]; rfl) (by kernel_rfl) (by kernel_rfl) (by kernel_rfl) (fun _ _ _ h => h) (Or.inl ⟨by rfl, ?_⟩) (by assumption) ?_
          rotate_left 1
          · (intro w hSw; (try dsimp only at hSw); go_simp; try with_reducible rfl)
          try simp only [Act.put, List.setIfInBounds_toArray, List.set_cons_zero, List.set_cons_succ]
          refine wpAnyH_take (i := 7) (v := ?_) (by simp only [List.getElem?_toArray, List.getElem?_cons_succ, List.getElem?_cons_zero]; rfl) (by kernel_rfl) (by kernel_rfl) (by kernel_rfl) (fun _ _ _ h => h) (Or.inl ⟨by rfl, ?_⟩) (by assumption) ?_
          rotate_left 1
          · (intro w hSw; (try dsimp only at hSw); go_simp; try with_reducible rfl)
          try simp only [Act.put, List.setIfInBounds_toArray, List.set_cons_zero, List.set_cons_succ]
          refine wpAnyH_take (i := 8) (v := ?_) (by simp only [List.getElem?_toArray, List.getElem?_cons_succ, List.getElem?_cons_zero]; rfl) (by kernel_rfl) (by kernel_rfl) (by kernel_rfl) (fun _ _ _ h => h) (Or.inl ⟨by rfl, ?_⟩) (by assumption) ?_
          rotate_left 1
          · (intro w hSw; (try dsimp only at hSw); go_simp; try with_reducible rfl)
          try simp only [Act.put, List.setIfInBounds_toArray, List.set_cons_zero, List.set_cons_succ]
          refine wpAnyH_ready (rs := [10]) (by kernel_rfl) (by simp) ?_
          refine AllReadyH.cons rfl (fun K hK => ?_) AllReadyH.nil
          go_simp
          try go_simp
          refine hK.out _ _ ((((HB55.out.drew.alloc _).grow hg6).set5o (by have := HB55.out.lt; omega) cb).cell) (fun hHeld => ?_)
          clear hK K
          try simp only [Act.put, List.setIfInBounds_toArray, List.set_cons_zero, List.set_cons_succ]
          refine wpAnyH_take (i := 11) (v := ?_) (by simp only [List.getElem?_toArray, List.getElem?_cons_succ, List.getElem?_cons_zero]; rfl) (by kernel_rfl) (by kernel_rfl) (by kernel_rfl) (fun _ _ _ h => h) (Or.inl ⟨by rfl, ?_⟩) (by assumption) ?_
          rotate_left 1
          · (intro w hSw; (try dsimp only at hSw); go_simp; try with_reducible rfl)
          try simp only [Act.put, List.setIfInBounds_toArray, List.set_cons_zero, List.set_cons_succ]
          refine wpAnyH_done (by kernel_rfl) ?_ _
          refine NoPanic.normal ?_
          go_wp2_with fail
          go_meet
          exact PathAt.early (HDS.out.alloc _) hg6 (Nat.le_refl _) (by simp) hB6 hb hbp
        case rest =>
        obtain ⟨hg6, b8, cb, tb, ub, rfl, rfl, hb8, hB8, hinb, hbp⟩ := hcut
        rename World => w6
        have HPH := hide (fun h0 => pathV_head (v := v) (k := j) (by simpa using hlt) h0 HN.out HD.out)
        have HG6 := hide (HG5.out.trans hg6)
        have HBP := hide hbp
        have HBa6 := hide (HBa.out.grow hg6)
        have HA6 := hide (HA.out.grow hg6)
        have HB8 := hide hB8
        have HIB := hide hinb
        have hca := HBa6.out.cell
        have hcb := hB8.cell
        have hlta := HBa6.out.lt
        have hltb := hB8.lt
        clear hg6 hb8 hB8 hinb hbp hj1w hj10 hj11
        by_cases hj0 : j = 0
        · subst hj0
          have hq0 : (((0 : Nat) : Int) == 0) = true := rfl
          go_wp2_with fail
          go_ret
          exact ⟨rfl, HG6.out⟩
        have hq0 : ((j : Int) == 0) = false := by simp only [beq_eq_false_iff_ne, ne_eq]; omega
        have hq1 : (0 : Int) < (j : Int) := by omega
        have HPQ := hide (HPH.out (by omega))
        cases th
        · have hta : ta = false := by
            rcases HAP.out with ⟨h, -⟩ | ⟨-, h, -, -⟩
            · rcases HHP.out with ⟨-, k⟩ | ⟨k, -, -, -⟩
              · cases k
              · rw [HPQ.out.1 k] at h; cases h
            · exact h
          subst hta
          go_wp2_with fail
          all_goals (go_ret; exact ⟨rfl, HG6.out⟩)
        · have hhs : pathV v (p.extract 0 j) = some uh := by
            rcases HHP.out with ⟨h, -⟩ | ⟨-, h, -, -⟩
            · exact h
            · cases h
          by_cases hjz : j1 < p.size
          · have heq := HPQ.out.2 uh hhs (by omega)
            rw [hj1] at heq
            obtain ⟨rfl, hu⟩ : ta = tb ∧ ua = ub := by
              rcases HAP.out with ⟨h, h1⟩ | ⟨h, h1, h2, -⟩ <;> rcases HBP.out with ⟨k, k1⟩ | ⟨k, k1, k2, -⟩
              · rw [heq, k] at h; injection h with h; exact ⟨h1.trans k1.symm, h.symm⟩
              · rw [heq, k] at h; cases h
              · rw [heq, k] at h; cases h
              · exact ⟨h1.trans k1.symm, h2.trans k2.symm⟩
            subst hu
            have hself : (ta == ta) = true := by simp
            have hjzi : (j1 : Int) < (p.size : Int) := by omega
            clear heq hhs hj1
            go_wp2_with fail
            refine (lawSame_any ua ua _ ca cb HA6.out HIB.out).mono ?_
            rintro e w7 ⟨rfl, hg7⟩
            rw [sameB_self]
            have HG7 := hide (HG6.out.trans hg7)
            clear hg7
            go_wp2_with fail
            go_ret
            exact ⟨rfl, HG7.out⟩
          · have hjzi : ¬ (j1 : Int) < (p.size : Int) := by omega
            clear hhs hj1
            go_wp2_with fail
            go_ret
            exact ⟨rfl, HG6.out⟩
      · have hd2 : ((y.toNat : Int) == 46) = false := by
          simp only [beq_eq_false_iff_ne, ne_eq]
          intro h
          exact hd (UInt8.toNat_inj.1 (by have : y.toNat = 46 := by omega
                                          rw [this]; rfl))
        have HD := hide (fun h => hd (hyd.symm.trans h))
        go_wp2_with fail
        go_roundg gk'
        case measure => omega
        case rel =>
          refine ⟨j + 1, by omega, by omega, by go_num, fun i hi hij => ?_, HWR.out, HBR.out⟩
          by_cases hij2 : i = j
          · subst hij2
            exact HD.out
          · exact HN.out i hi (by omega)
    · obtain rfl : j = p.size := by omega
      go_wp2_with fail
      go_ret
      exact ⟨rfl, HWR.out⟩
end Go.Proofs.YtcdbchifigonpaaDoor
