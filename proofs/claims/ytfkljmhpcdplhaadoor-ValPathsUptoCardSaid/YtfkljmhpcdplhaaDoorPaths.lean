/- The law ValPaths holds: any path in any value, any field put into any value. -/
import Derived.Test.YtfkljmhpcdplhaaDoorWithR
import Derived.Test.YtfkljmhpcdplhaaDoorPathQ
import Derived.Test.YtfkljmhpcdplhaaDoorGoodR
import Derived.Test.YtfkljmhpcdplhaaDoorAwake
import Derived.Test.YtfkljmhpcdplhaaDoorRowsV
set_option linter.unusedVariables false
set_option linter.unusedSimpArgs false
namespace Go.Proofs.YtfkljmhpcdplhaaDoor
open Go.RowKit Go.Shelf

theorem pathV_good {v : V} (h : v.good = 0) (s : ByteArray) : pathV v s = pathF v s := by rw [pathV, if_pos h, pathF]
theorem pathV_bad {v : V} (h : v.good ≠ 0) (s : ByteArray) : pathV v s = none := by rw [pathV, if_neg h]
theorem withG_bad {v : V} (h : v.good ≠ 0) (s : ByteArray) (x : V) : withG v s x = .error 4 := by rw [withG, if_neg (fun k => h k.2)]
theorem withG_kind {v : V} (h : v.k ≠ 8) (s : ByteArray) (x : V) : withG v s x = .error 4 := by rw [withG, if_neg (fun k => h k.1)]
/-- What With tells, by the value's own. -/
theorem withG_doc {v : V} (hk : v.k = 8) (hg : v.good = 0) (s : ByteArray) (x : V) : withG v s x = if (withV v s x).good = 0 then .ok (withV v s x) else .error (withV v s x).good := by rw [withG, if_pos ⟨hk, hg⟩]
theorem zero_self : sameB V.zero V.zero = true := sameB_self _
set_option maxRecDepth 100000 in
set_option maxHeartbeats 1600000 in
theorem paths_any (v x : V) (s t : ByteArray) (c d : Cv) (w : World) (hT : Tabs w) (hM : Len1 w) (hs : s.size < 4294967281) (ht : t.size ≤ 1099511627776) (hbv : v.bytes.length ≤ 1099511627776) (hbx : x.bytes.length ≤ 1099511627776) (hv : In w v c) (hx : In w x d) :
    Calls Tryd.prog 5 #[c.agg, .string s, .string t, d.agg] w fun e w' => e = .returned (.bool true) ∧ Grow w w' := by
  have hck : c.k = v.k := by obtain ⟨k, n, b, l, f⟩ := v; obtain ⟨aB, aL, aF, cB, cL, cF, rfl, -⟩ := hv.open; rfl
  have hg0 := ((Grow.refl w).alloc (.cells c.cells 37)).alloc (.cells d.cells 37)
  have HBc := hide (((Blk.new w 37 c.cells).alloc (.cells d.cells 37)).alloc (.cells (cells2 c d) 37))
  have HBd := hide ((Blk.new' (w := w.alloc (.cells c.cells 37)) (g := w.heap.size + 1) (by simp) 37 d.cells).alloc (.cells (cells2 c d) 37))
  have hrow := InL.row2 (hv.grow hg0) (hx.grow hg0)
  rw [show ((w.alloc (.cells c.cells 37)).alloc (.cells d.cells 37)).heap.size = w.heap.size + 1 + 1 by simp] at hrow
  have HROW := hide hrow
  have HG0 := hide (hg0.alloc (.cells (cells2 c d) 37))
  have HT := hide hT
  have HM := hide hM
  have HS := hide hs
  have HTT := hide ht
  have HV := hide hv
  have HX := hide hx
  have HK := hide hck
  have HBV := hide hbv
  have HBX := hide hbx
  clear hT hM hs ht hv hx hck hrow hg0 hbv hbx
  go_enter Tryd.func5, Tryd.ntmps5
  go_wp2_with fail
  refine (vast_any [v, x] _ 2 _ HROW.out).mono ?_
  rintro e w1 ⟨rfl, hg1⟩
  have HG1 := hide (HG0.out.trans hg1)
  have HB1c := hide (HBc.out.grow hg1)
  have HB1d := hide (HBd.out.grow hg1)
  have hc1 := HB1c.out.cell
  have hlt1 := HB1c.out.lt
  clear hg1
  by_cases hbig : 20000 ≤ (List.map V.count [v, x]).sum
  · rw [decide_eq_true hbig]
    go_wp2_with fail
    go_ret
    exact ⟨rfl, HG1.out⟩
  rw [decide_eq_false hbig]
  have hcount : v.count + x.count ≤ 20000 := by simp at hbig; omega
  have HC := hide hcount
  clear hbig hcount
  go_wp2_with fail
  refine (vpath_any v s c _ (HT.out.grow HG1.out) (HM.out.grow HG1.out) (by have := HC.out; omega) HS.out (HV.out.grow HG1.out)).mono ?_
  rintro e w2 ⟨hg2, cp, tp, u, rfl, hp, hpp⟩
  have HP2 := hide hp
  have HPP := hide hpp
  have hga2 := hg2.alloc (.cells cp.cells 37)
  have HG2 := hide (HG1.out.trans hga2)
  have HB2c := hide (HB1c.out.grow hga2)
  have HB2d := hide (HB1d.out.grow hga2)
  have HBp := hide (Blk.new w2 37 cp.cells)
  have HP := hide (hp.grow ((Grow.refl w2).alloc (.cells cp.cells 37)))
  have hc2 := HB2c.out.cell
  have hd2 := HB2d.out.cell
  have hlt2 := HB2c.out.lt
  have hltd2 := HB2d.out.lt
  clear hg2 hga2 hp hpp hc1 hlt1
  go_wp2_with fail
  refine (with_any v x t c d _ (HT.out.grow HG2.out) HC.out (by have := HTT.out; omega) (HV.out.grow HG2.out) (HX.out.grow HG2.out)).mono ?_
  rintro e w3 ⟨hg3, cw, r, rfl, hw3⟩
  have HW3 := hide hw3
  have hga3 := hg3.alloc (.cells cw.cells 37)
  have HG3 := hide (HG2.out.trans hga3)
  have HB3c := hide (HB2c.out.grow hga3)
  have HB3d := hide (HB2d.out.grow hga3)
  have HB3p := hide (HBp.out.grow hga3)
  have HBw := hide (Blk.new w3 37 cw.cells)
  have HP3 := hide (HP.out.grow hga3)
  have HGA := hide ((Grow.refl w3).alloc (.cells cw.cells 37))
  clear hg3 hga3 hw3 hc2 hd2 hlt2 hltd2
  go_wp2_with fail
  refine (awake_any _ (HT.out.grow HG3.out)).mono ?_
  rintro e w4 ⟨rfl, hg4⟩
  have HG4 := hide (HG3.out.trans hg4)
  have HB4c := hide (HB3c.out.grow hg4)
  have HB4d := hide (HB3d.out.grow hg4)
  have HB4p := hide (HB3p.out.grow hg4)
  have HB4w := hide (HBw.out.grow hg4)
  have HP4 := hide (HP3.out.grow hg4)
  have HGB := hide (HGA.out.trans hg4)
  have hc4 := HB4c.out.cell
  have hlt4 := HB4c.out.lt
  clear hg4
  go_wp2_with fail
  refine (refGood_any v _ c (by have := HC.out; omega) (fun _ => by have := HBV.out; omega) (HV.out.grow HG4.out)).mono ?_
  rintro e w5 ⟨rfl, hg5⟩
  have HG5 := hide (HG4.out.trans hg5)
  have HB5c := hide (HB4c.out.grow hg5)
  have HB5d := hide (HB4d.out.grow hg5)
  have HB5p := hide (HB4p.out.grow hg5)
  have HB5w := hide (HB4w.out.grow hg5)
  have HP5 := hide (HP4.out.grow hg5)
  have HGC := hide (HGB.out.trans hg5)
  have hc5 := HB5c.out.cell
  have hp5 := HB5p.out.cell
  have hw5 := HB5w.out.cell
  have hd5 := HB5d.out.cell
  have hlt5 := HB5c.out.lt
  have hltp5 := HB5p.out.lt
  have hltw5 := HB5w.out.lt
  have hltd5 := HB5d.out.lt
  clear hg5 hc4 hlt4
  obtain ⟨g, hg⟩ : ∃ g, v.good = g := ⟨_, rfl⟩
  rw [hg]
  by_cases g0 : g = 0
  · subst g0
    have HGD := hide hg
    clear hg
    have HFM := hide (V.good_formed HGD.out).1
    go_wp2_with fail
    refine (rpath_any w _ v s c _ (Nat.le_refl _) HS.out HFM.out HG5.out HV.out).mono ?_
    rintro e w6 ⟨hg6, cy, ty, uy, rfl, hy, hyy⟩
    have HYY := hide hyy
    have hga6 := hg6.alloc (.cells cy.cells 37)
    have HG6 := hide (HG5.out.trans hga6)
    have HY6 := hide (hy.grow (HG5.out.trans hga6))
    have HB6c := hide (HB5c.out.grow hga6)
    have HB6d := hide (HB5d.out.grow hga6)
    have HB6p := hide (HB5p.out.grow hga6)
    have HB6w := hide (HB5w.out.grow hga6)
    have HP6 := hide (HP5.out.grow hga6)
    have HB6y := hide (Blk.new w6 37 cy.cells)
    have HGD6 := hide (HGC.out.trans hga6)
    have hc6 := HB6c.out.cell
    have hp6 := HB6p.out.cell
    have hw6 := HB6w.out.cell
    have hd6 := HB6d.out.cell
    have hy6 := HB6y.out.cell
    have hlt6 := HB6c.out.lt
    have hltp6 := HB6p.out.lt
    have hltw6 := HB6w.out.lt
    have hltd6 := HB6d.out.lt
    clear hg6 hga6 hy hyy hc5 hp5 hw5 hd5 hlt5 hltp5 hltw5 hltd5
    obtain ⟨rfl, hu⟩ : tp = ty ∧ u = uy := by
      have h0 := pathV_good HGD.out s
      rcases HPP.out with ⟨h, h1⟩ | ⟨h, h1, h2, -⟩ <;> rcases HYY.out with ⟨k, k1⟩ | ⟨k, k1, k2, -⟩
      · rw [h0, k] at h; injection h with h; exact ⟨h1.trans k1.symm, h.symm⟩
      · rw [h0, k] at h; cases h
      · rw [h0, k] at h; cases h
      · exact ⟨h1.trans k1.symm, h2.trans k2.symm⟩
    subst hu
    have hself : (tp == tp) = true := by simp
    go_wp2_with fail
    refine (lawSame_any u u _ cp cy HP6.out HY6.out).mono ?_
    rintro e w7 ⟨rfl, hg7⟩
    rw [sameB_self]
    have HG7 := hide (HG6.out.trans hg7)
    have HB7c := hide (HB6c.out.grow hg7)
    have HB7d := hide (HB6d.out.grow hg7)
    have HB7w := hide (HB6w.out.grow hg7)
    have HGD7 := hide (HGD6.out.trans hg7)
    have hc7 := HB7c.out.cell
    have hw7 := HB7w.out.cell
    have hd7 := HB7d.out.cell
    have hlt7 := HB7c.out.lt
    have hltw7 := HB7w.out.lt
    have hltd7 := HB7d.out.lt
    clear hg7 hc6 hp6 hw6 hd6 hy6 hlt6 hltp6 hltw6 hltd6
    by_cases hk8 : v.k = 8
    · have hkq : (c.k == 8) = true := by rw [HK.out, hk8]; rfl
      obtain ⟨-, hnd, hf64⟩ := good_doc hk8 HGD.out
      have HF64 := hide hf64
      have HWG := hide (withG_doc hk8 HGD.out t x)
      have HWC := hide (Nat.le_trans (withV_count (s := t) (x := x) hnd) HC.out)
      have HWB := hide (show (withV v t x).bytes.length ≤ 140737488355328 by
        have he := (good_doc hk8 HGD.out).1
        have h := withV_bytes (s := t) (x := x) hnd
        rw [← he] at h
        have h1 := HBV.out
        have h2 := HBX.out
        have h3 := HTT.out
        omega)
      clear hk8 hnd hf64
      go_wp2_with fail
      refine (rwith_any v x t c d _ HF64.out (by have := HTT.out; omega) (HV.out.grow HG7.out) (HX.out.grow HG7.out)).mono ?_
      rintro e w8 ⟨cn, rfl, hn, hg8⟩
      obtain ⟨VW, hVW⟩ : ∃ VW, withV v t x = VW := ⟨_, rfl⟩
      rw [hVW] at hn HWG HWC HWB
      clear hVW
      have hga8 := hg8.alloc (.cells cn.cells 37)
      have HN8 := hide (hn.grow ((Grow.refl w8).alloc (.cells cn.cells 37)))
      have HB8n := hide (Blk.new w8 37 cn.cells)
      have HG8 := hide (HG7.out.trans hga8)
      have HB8w := hide (HB7w.out.grow hga8)
      have HGD8 := hide (HGD7.out.trans hga8)
      have hn8 := HB8n.out.cell
      clear hg8 hga8 hn hc7 hw7 hd7 hlt7 hltw7 hltd7
      go_wp2_with fail
      refine (refGood_any VW _ cn HWC.out (fun _ => HWB.out) HN8.out).mono ?_
      rintro e w9 ⟨rfl, hg9⟩
      have HG9 := hide (HG8.out.trans hg9)
      have HB9w := hide (HB8w.out.grow hg9)
      have HB9n := hide (HB8n.out.grow hg9)
      have HN9 := hide (HN8.out.grow hg9)
      have HGD9 := hide (HGD8.out.trans hg9)
      have hw9 := HB9w.out.cell
      have hltw9 := HB9w.out.lt
      have hn9 := HB9n.out.cell
      have hltn9 := HB9n.out.lt
      clear hg9 hn8
      obtain ⟨gN, hgN⟩ : ∃ gN, VW.good = gN := ⟨_, rfl⟩
      rw [hgN] at HWG
      rw [hgN]
      clear hgN
      by_cases h0 : gN = 0
      · subst h0
        rw [if_pos rfl] at HWG
        obtain ⟨rfl, hWI⟩ : r = 0 ∧ In w3 VW cw := by
          rcases HW3.out with ⟨u, h, h1, h2⟩ | ⟨h, -, -⟩
          · rw [HWG.out] at h; injection h with h; exact ⟨h1, h ▸ h2⟩
          · rw [HWG.out] at h; cases h
        have HWI := hide (hWI.grow HGD9.out)
        clear hWI
        go_wp2_with fail
        refine (lawSame_any VW VW _ cw cn HWI.out HN9.out).mono ?_
        rintro e w10 ⟨rfl, hg10⟩
        rw [sameB_self]
        have HG10 := hide (HG9.out.trans hg10)
        clear hg10
        go_wp2_with fail
        go_ret
        exact ⟨rfl, HG10.out⟩
      · rw [if_neg h0] at HWG
        have hgz : (gN == 0) = false := by simpa using h0
        obtain ⟨rfl, rfl⟩ : r = gN ∧ cw = Cv.zero := by
          rcases HW3.out with ⟨u, h, -⟩ | ⟨h, -, h2⟩
          · rw [HWG.out] at h; cases h
          · rw [HWG.out] at h; injection h with h; exact ⟨h.symm, h2⟩
        clear h0
        have hself2 : (r == r) = true := by simp
        go_wp2_with fail
        refine (zero_any V.zero _ Cv.zero (In.zero_ _)).mono ?_
        rintro e w10 ⟨rfl, hg10⟩
        rw [zero_self]
        have HG10 := hide (HG9.out.trans hg10)
        clear hg10
        go_wp2_with fail
        go_ret
        exact ⟨rfl, HG10.out⟩
    · have hkq : (c.k == 8) = false := by rw [HK.out]; simpa using hk8
      obtain ⟨rfl, rfl⟩ : r = 4 ∧ cw = Cv.zero := by
        rcases HW3.out with ⟨u, h, -⟩ | ⟨h, -, h2⟩
        · rw [withG_kind hk8] at h; cases h
        · rw [withG_kind hk8] at h; injection h with h; exact ⟨h.symm, h2⟩
      clear hk8
      go_wp2_with fail
      refine (zero_any V.zero _ Cv.zero (In.zero_ _)).mono ?_
      rintro e w8 ⟨rfl, hg8⟩
      rw [zero_self]
      have HG8 := hide (HG7.out.trans hg8)
      clear hg8
      go_wp2_with fail
      go_ret
      exact ⟨rfl, HG8.out⟩
  · have hgz : (g == 0) = false := by simpa using g0
    have hgn : v.good ≠ 0 := by rw [hg]; exact g0
    obtain ⟨rfl, rfl⟩ : tp = false ∧ cp = Cv.zero := by
      rcases HPP.out with ⟨h, -⟩ | ⟨-, h1, -, h2⟩
      · rw [pathV_bad hgn] at h; cases h
      · exact ⟨h1, h2⟩
    obtain ⟨rfl, rfl⟩ : r = 4 ∧ cw = Cv.zero := by
      rcases HW3.out with ⟨u, h, -⟩ | ⟨h, -, h2⟩
      · rw [withG_bad hgn] at h; cases h
      · rw [withG_bad hgn] at h; injection h with h; exact ⟨h.symm, h2⟩
    clear hg g0 hgn
    go_wp2_with fail
    refine (zero_any V.zero _ Cv.zero (In.zero_ _)).mono ?_
    rintro e w6 ⟨rfl, hg6⟩
    rw [zero_self]
    have HB6w := hide (HB5w.out.grow hg6)
    have HG6 := hide (HG5.out.trans hg6)
    have hw6 := HB6w.out.cell
    have hltw6 := HB6w.out.lt
    clear hg6 hc5 hp5 hw5 hd5 hlt5 hltp5 hltw5 hltd5
    go_wp2_with fail
    refine (zero_any V.zero _ Cv.zero (In.zero_ _)).mono ?_
    rintro e w7 ⟨rfl, hg7⟩
    rw [zero_self]
    have HG7 := hide (HG6.out.trans hg7)
    clear hg7
    go_wp2_with fail
    go_ret
    exact ⟨rfl, HG7.out⟩
end Go.Proofs.YtfkljmhpcdplhaaDoor
