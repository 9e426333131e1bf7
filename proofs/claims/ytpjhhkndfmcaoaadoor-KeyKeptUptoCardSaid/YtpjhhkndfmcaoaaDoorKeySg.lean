/- Walk of the law KeySingle: any value's key; any bytes as a key. -/
import Derived.Test.YtpjhhkndfmcaoaaDoorKeyAM
import Derived.Deep.RegionHeld3
set_option linter.unusedVariables false
set_option linter.unusedSimpArgs false
namespace Go.Proofs.YtpjhhkndfmcaoaaDoor
open Go.RowKit Go.Shelf Go.WideShapes

/-- What key.Back tells, both ways in one. -/
theorem KBackC.both {w w' : World} {g : Option V} {e : Ending} (h : KBackC w g e w') (hz : In w' V.zero Cv.zero) : ∃ (c : Cv) (f : Int) (u : V), e = .returned (.tuple #[c.agg, .int .i64 f]) ∧ In w' u c ∧ Grow w w' ∧ ((g = none ∧ f = 14 ∧ u = V.zero) ∨ (g = some u ∧ f = 0)) := by
  obtain ⟨hg, h1, h2⟩ := h
  cases g with
  | none => exact ⟨_, _, _, h2 rfl, hz, hg, .inl ⟨rfl, rfl, rfl⟩⟩
  | some u => obtain ⟨c, e, hi⟩ := h1 u rfl; exact ⟨_, _, _, e, hi, hg, .inr ⟨rfl, rfl⟩⟩
theorem BackC.both {w w' : World} {g : Option V} {e : Ending} (h : BackC w g e w') (hz : In w' V.zero Cv.zero) : ∃ (c : Cv) (t : Bool) (u : V), e = .returned (.tuple #[c.agg, .bool t]) ∧ In w' u c ∧ Grow w w' ∧ ((g = none ∧ t = false) ∨ (g = some u ∧ t = true)) := by
  obtain ⟨hg, h1, h2⟩ := h
  cases g with
  | none => exact ⟨_, _, _, h2 rfl, hz, hg, .inl ⟨rfl, rfl⟩⟩
  | some u => obtain ⟨c, e, hi⟩ := h1 u rfl; exact ⟨_, _, _, e, hi, hg, .inr ⟨rfl, rfl⟩⟩
theorem zeroIn (w : World) : In w V.zero Cv.zero := by
  unfold In V.zero
  rw [IsV]
  exact ⟨rfl, rfl, rfl, rfl, rfl, by decide, by decide, by decide, by simp [Cv.zero], by simp, by simp [Cv.zero], by simp, by simp [Cv.zero], by simp, ⟨rfl, fun h => by simp at h⟩, fun i hi => by simp at hi, fun i hi => by simp at hi⟩

set_option maxRecDepth 100000 in
set_option maxHeartbeats 6400000 in
theorem ksingle_any (v : V) (c : Cv) (b : List UInt8) (B : Option Addr) (bc : Nat) (w : World) (hT : Tabs w) (hv : In w v c) (hsz : v.formed = true → v.bytes.length ≤ 140737488355328) (hb : InB w B b) (hl : b.length ≤ 1000000000) (hcap : b.length ≤ bc) :
    Calls Tryd.prog 3 #[c.agg, .slice B b.length bc] w fun e w' => e = .returned (.bool true) ∧ Grow w w' := by
  have HG0 := hide ((Grow.refl w).alloc (.cells c.cells 27))
  have HB0 := hide (Blk.new w 27 c.cells)
  have HT := hide hT
  have HV := hide hv
  have HSZ := hide hsz
  have HBB := hide hb
  have hone := InL.oneK (HV.out.grow HG0.out)
  rw [show (w.alloc (.cells c.cells 27)).heap.size = w.heap.size + 1 by simp] at hone
  have HONE := hide hone
  have HFIT := hide (IsV.fit v c hv)
  clear hT hv hsz hone hb
  go_enter Tryd.func3, Tryd.ntmps3
  go_wp2_with fail
  refine (vast_any [v] _ 1 _ HONE.out).mono ?_
  rintro e w2 ⟨rfl, hg2⟩
  have hB2 := (HB0.out.alloc (.cells c.cells 27)).grow hg2
  have hc2 := hB2.cell
  have hlt2 := hB2.lt
  have HB2 := hide hB2
  have HG2 := hide ((HG0.out.alloc (.cells c.cells 27)).trans hg2)
  clear hg2 hB2
  by_cases hbig : 20000 ≤ (List.map V.count [v]).sum
  · rw [decide_eq_true hbig]
    go_wp2_with fail
    go_ret
    exact ⟨rfl, HG2.out⟩
  rw [decide_eq_false hbig]
  have hcount : v.count ≤ 20000 := by simp at hbig; omega
  clear hbig
  have HMILD := hide (V.mild_of hcount HV.out)
  obtain ⟨KB, ke, hke⟩ : ∃ kb ke, ofK v = (kb, ke) := ⟨_, _, rfl⟩
  have HOF := hide (of_anyM v c w2 HFIT.out HMILD.out (HT.out.grow HG2.out) (HV.out.grow HG2.out))
  rw [hke] at HOF
  have HKE := hide hke
  clear hke hcount
  go_wp2_with fail
  refine HOF.out.mono ?_
  rintro e w3 ⟨b3, A3, c3, rfl, hb3, hr3, hg3⟩
  dsimp only at hr3 ⊢
  have hB3 := HB2.out.grow hg3
  have hc3 := hB3.cell
  have hlt3 := hB3.lt
  have HB3 := hide hB3
  have HG3 := hide (HG2.out.trans hg3)
  have HR3 := hide hr3
  clear hg3 hB3 hr3 hb3 hc2 hlt2
  have HKB := hide (kBack_closed b B bc w3 (HT.out.grow HG3.out) (HBB.out.grow HG3.out) hl hcap)
  go_wp2_with fail
  refine HKB.out.mono ?_
  rintro e w4 hk4
  obtain ⟨cx, f, u, rfl, hx4, hg4, hR⟩ := KBackC.both hk4 (zeroIn w4)
  have hB4 := HB3.out.grow (hg4.alloc (.cells cx.cells 27))
  have hX4 := Blk.new w4 27 cx.cells
  have hc4 := hB4.cell
  have hlt4 := hB4.lt
  have HB4 := hide hB4
  have HX4 := hide hX4
  have HG4 := hide (HG3.out.trans (hg4.alloc (.cells cx.cells 27)))
  have HR4 := hide (HR3.out.grow (hg4.alloc (.cells cx.cells 27)))
  have HI4 := hide (hx4.grow ((Grow.refl w4).alloc (.cells cx.cells 27)))
  have HRR := hide hR
  clear hk4 hx4 hg4 hR hB4 hX4 hc3 hlt3 HKB
  have HOF2 := rOf_closed v c (w4.alloc (.cells cx.cells 27)) HMILD.out.1 HSZ.out (HV.out.grow HG4.out)
  rw [HKE.out] at HOF2
  have HOF2 := hide HOF2
  have hcx : ∀ i, (w4.alloc (.cells cx.cells 27)).cell? ⟨w4.heap.size, i, none⟩ = cx.cells[i]? := HX4.out.cell
  go_wp2_with fail
  refine HOF2.out.mono ?_
  rintro e w5 ⟨b5, A5, c5, rfl, hb5, hr5, hg5⟩
  dsimp only at hr5 ⊢
  have HB5 := hide (HB4.out.grow hg5)
  have HX5 := hide (HX4.out.grow hg5)
  have HG5 := hide (HG4.out.trans hg5)
  have HR5 := hide (HR4.out.grow hg5)
  have HS5 := hide hr5
  have HI5 := hide (HI4.out.grow hg5)
  clear hg5 hr5 hb5 hc4 hlt4 hcx HOF2 HOF
  have HRB := hide (rBack_closed b B bc w5 (HBB.out.grow HG5.out) hl hcap)
  go_wp2_with fail
  refine HRB.out.mono ?_
  rintro e w6 hk6
  obtain ⟨cy, ok, y, rfl, hy6, hg6, hR6⟩ := BackC.both hk6 (zeroIn w6)
  have hg7 := hg6.alloc (.cells cy.cells 27)
  have HX6 := hide (HX5.out.grow hg7)
  have HY6 := hide (Blk.new w6 27 cy.cells)
  have HG6 := hide (HG5.out.trans hg7)
  have HR6 := hide (HR5.out.grow hg7)
  have HS6 := hide (HS5.out.grow hg7)
  have HI6 := hide (HI5.out.grow hg7)
  have HJ6 := hide (hy6.grow ((Grow.refl w6).alloc (.cells cy.cells 27)))
  have HRY := hide hR6
  clear hk6 hy6 hg6 hR6 hg7 HRB
  go_wp2_with fail
  refine (kawake_any _ (HT.out.grow HG6.out)).mono ?_
  rintro e w7 ⟨rfl, hg7⟩
  have hs1 := conv_row (HR6.out.grow hg7)
  have hs2 := conv_row (HS6.out.grow hg7)
  have hx7 := (HX6.out.grow hg7).cell
  have hy7 := (HY6.out.grow hg7).cell
  have HG7 := hide (HG6.out.trans hg7)
  have HI7 := hide (HI6.out.grow hg7)
  have HJ7 := hide (HJ6.out.grow hg7)
  clear hg7
  rcases HRR.out with ⟨r1, hf, hu⟩ | ⟨r1, hf⟩
  · rcases HRY.out with ⟨r2, ht⟩ | ⟨r2, ht⟩
    · subst hf ht hu
      clear r1 r2
      go_wp2_with fail
      refine (zero_any V.zero _ _ HI7.out).mono ?_
      rintro e w8 ⟨rfl, hg8⟩
      rw [sameB_self]
      have HG8 := hide (HG7.out.trans hg8)
      clear hg8
      go_wp2_with fail
      go_ret
      exact ⟨rfl, HG8.out⟩
    · rw [r1] at r2; cases r2
  · rcases HRY.out with ⟨r2, ht⟩ | ⟨r2, ht⟩
    · rw [r1] at r2; cases r2
    · have huy : u = y := by rw [r1] at r2; injection r2
      subst hf ht huy
      clear r1 r2
      go_wp2_with fail
      refine (same_any u u _ _ _ HI7.out HJ7.out).mono ?_
      rintro e w8 ⟨rfl, hg8⟩
      rw [sameB_self]
      have HG8 := hide (HG7.out.trans hg8)
      clear hg8
      go_wp2_with fail
      go_ret
      exact ⟨rfl, HG8.out⟩
end Go.Proofs.YtpjhhkndfmcaoaaDoor
