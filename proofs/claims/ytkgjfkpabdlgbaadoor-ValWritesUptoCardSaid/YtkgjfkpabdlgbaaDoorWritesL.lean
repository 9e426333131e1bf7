/- The law ValWrites holds of every value whose bytes, if it is of good shape, are no more than 2^47. -/
import Derived.Test.YtkgjfkpabdlgbaaDoorBack
import Derived.Test.YtkgjfkpabdlgbaaDoorGoodR
set_option linter.unusedVariables false
set_option linter.unusedSimpArgs false
namespace Go.Proofs.YtkgjfkpabdlgbaaDoor
open Go.RowKit Go.ChangeShapes Go.ChangeAt Go.Shelf Go.WideShapes

set_option maxRecDepth 100000 in
set_option maxHeartbeats 1600000 in
theorem writes_any (v : V) (c : Cv) (w : World) (hT : Tabs w) (hv : In w v c) (hsz : v.formed = true → v.bytes.length ≤ 140737488355328) :
    Calls Tryd.prog 7 #[c.agg] w fun e w' => e = .returned (.bool true) ∧ Grow w w' := by
  have HG0 := hide ((Grow.refl w).alloc (.cells c.cells 27))
  have HB0 := hide (Blk.new w 27 c.cells)
  have HT := hide hT
  have HV := hide hv
  have HSZ := hide hsz
  have hone := InL.one (HV.out.grow HG0.out)
  rw [show (w.alloc (.cells c.cells 27)).heap.size = w.heap.size + 1 by simp] at hone
  have HONE := hide hone
  clear hT hv hsz hone
  go_enter Tryd.func7, Tryd.ntmps7
  go_wp2_with fail
  refine (vast_any [v] _ 1 _ HONE.out).mono ?_
  rintro e w2 ⟨rfl, hg2⟩
  have hB2 := (HB0.out.alloc (.cells c.cells 27)).grow hg2
  have hc2 := hB2.cell
  have hlt2 := hB2.lt
  have HB2 := hide hB2
  have HG2 := hide ((HG0.out.alloc (.cells c.cells 27)).trans hg2)
  clear hg2 hB2
  by_cases hbig : 20000 ≤ (List.map V.count [v]).sum
  · rw [decide_eq_true hbig]
    go_wp2_with fail
    go_ret
    exact ⟨rfl, HG2.out⟩
  rw [decide_eq_false hbig]
  have hcount : v.count ≤ 20000 := by simp at hbig; omega
  clear hbig
  by_cases g0 : v.good = 0
  · go_wp2_with fail
    refine (put_good v _ c hcount (HT.out.grow HG2.out) (HV.out.grow HG2.out) g0).mono ?_
    rintro e w3 ⟨base, A3, c3, rfl, hbase, hr3, hg3⟩
    have hB3 := HB2.out.grow hg3
    have hc3 := hB3.cell
    have hlt3 := hB3.lt
    have HB3 := hide hB3
    have HG3 := hide (HG2.out.trans hg3)
    have HR3 := hide hr3
    clear hg3 hB3 hc2 hlt2 hr3
    go_wp2_with fail
    refine (size_top v _ c hcount (HT.out.grow HG3.out) (HV.out.grow HG3.out)).mono ?_
    rintro e w4 ⟨rfl, hg4⟩
    rw [if_pos g0, g0]
    have hB4 := HB3.out.grow hg4
    have hc4 := hB4.cell
    have hlt4 := hB4.lt
    have HB4 := hide hB4
    have HG4 := hide (HG3.out.trans hg4)
    have HR4 := hide (HR3.out.grow hg4)
    clear hg4 hB4 hc3 hlt3
    go_wp2_with fail
    refine (refGood_any v _ c hcount HSZ.out (HV.out.grow HG4.out)).mono ?_
    rintro e w5 ⟨rfl, hg5⟩
    rw [g0]
    have hB5 := HB4.out.grow hg5
    have HB5 := hide hB5
    have HG5 := hide (HG4.out.trans hg5)
    have HR5 := hide (HR4.out.grow hg5)
    clear hg5 hB5 hc4 hlt4
    go_wp2_with fail
    refine (awake_any _ (HT.out.grow HG5.out)).mono ?_
    rintro e w6 ⟨rfl, hg6⟩
    have hB6 := HB5.out.grow hg6
    have hc6 := hB6.cell
    have hlt6 := hB6.lt
    have HB6 := hide hB6
    have HG6 := hide (HG5.out.trans hg6)
    have HR6 := hide (HR5.out.grow hg6)
    clear hg6 hB6
    go_wp2_with fail
    refine (good_any v _ c hcount (HT.out.grow HG6.out) (HV.out.grow HG6.out)).mono ?_
    rintro e w7 ⟨rfl, hg7⟩
    rw [g0]
    have hB7 := HB6.out.grow hg7
    have hc7 := hB7.cell
    have hlt7 := hB7.lt
    have HG7 := hide (HG6.out.trans hg7)
    have HR7 := hide (HR6.out.grow hg7)
    clear hg7 hB7 hc6 hlt6
    go_wp2_with fail
    refine (refPutV_any v (bytes_any v (V.good_formed g0).1) _ c (HV.out.grow HG7.out) (by have := (V.good_formed g0).2; omega)).mono ?_
    rintro e w8 ⟨base8, A8, c8, rfl, _, hr8, hg8⟩
    have hcv1 := conv_row (HR7.out.grow hg8)
    have hcv2 := conv_row hr8
    have HG8 := hide (HG7.out.trans hg8)
    clear hg8 hr8 hc7 hlt7
    go_wp2_with fail
    go_ret
    exact ⟨rfl, HG8.out⟩
  · obtain ⟨G, hG⟩ : ∃ G, v.good = G := ⟨_, rfl⟩
    have g1 : G ≠ 0 := by rw [← hG]; exact g0
    have g0b : (G == 0) = false := by simpa using g1
    have g0c : (G != 0) = true := by simpa using g1
    have HGG := hide hG
    have G0 := hide g0
    clear hG g0 g1
    go_wp2_with fail
    refine (put_bad v _ c hcount (HT.out.grow HG2.out) (HV.out.grow HG2.out) G0.out).mono ?_
    rintro e w3 ⟨rfl, hg3⟩
    rw [HGG.out]
    have hB3 := HB2.out.grow hg3
    have hc3 := hB3.cell
    have hlt3 := hB3.lt
    have HB3 := hide hB3
    have HG3 := hide (HG2.out.trans hg3)
    clear hg3 hB3 hc2 hlt2
    go_wp2_with fail
    refine (size_top v _ c hcount (HT.out.grow HG3.out) (HV.out.grow HG3.out)).mono ?_
    rintro e w4 ⟨rfl, hg4⟩
    rw [if_neg G0.out, HGG.out]
    have hB4 := HB3.out.grow hg4
    have hc4 := hB4.cell
    have hlt4 := hB4.lt
    have HB4 := hide hB4
    have HG4 := hide (HG3.out.trans hg4)
    clear hg4 hB4 hc3 hlt3
    go_wp2_with fail
    refine (refGood_any v _ c hcount HSZ.out (HV.out.grow HG4.out)).mono ?_
    rintro e w5 ⟨rfl, hg5⟩
    rw [HGG.out]
    have hB5 := HB4.out.grow hg5
    have HB5 := hide hB5
    have HG5 := hide (HG4.out.trans hg5)
    clear hg5 hB5 hc4 hlt4
    go_wp2_with fail
    refine (awake_any _ (HT.out.grow HG5.out)).mono ?_
    rintro e w6 ⟨rfl, hg6⟩
    have hB6 := HB5.out.grow hg6
    have hc6 := hB6.cell
    have hlt6 := hB6.lt
    have HG6 := hide (HG5.out.trans hg6)
    clear hg6 hB6
    go_wp2_with fail
    refine (good_any v _ c hcount (HT.out.grow HG6.out) (HV.out.grow HG6.out)).mono ?_
    rintro e w7 ⟨rfl, hg7⟩
    rw [HGG.out]
    have HG7 := hide (HG6.out.trans hg7)
    clear hg7 hc6 hlt6
    go_wp2_with fail
    go_ret
    exact ⟨rfl, HG7.out⟩
end Go.Proofs.YtkgjfkpabdlgbaaDoor
