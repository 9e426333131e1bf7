/- Walks: awake: a number there and back. -/
import Derived.Test.YtcdbchifigonpaaDoorTxt
import Derived.Deep.RegionHeld3
set_option linter.unusedVariables false
set_option linter.unusedSimpArgs false
namespace Go.Proofs.YtcdbchifigonpaaDoor
open Go.RowKit Go.Shelf

set_option maxRecDepth 100000 in
set_option maxHeartbeats 1600000 in
theorem awake_any (w : World) (hT : Tabs w) : Calls Tryd.prog 13 #[] w fun e w' => e = .returned (.bool true) ∧ Grow w w' := by
  have HT := hide hT
  clear hT
  go_enter Tryd.func13, Tryd.ntmps13
  go_wp2_with fail
  refine (I_neg w).mono ?_
  rintro e w1 ⟨rfl, hg1⟩
  have HG1 := hide hg1
  clear hg1
  go_wp2_with fail
  refine (put_good vNeg w1 _ (by rw [vNeg_count]; omega) (HT.out.grow HG1.out) (In.num 3 18446744073709551615 (by omega) (by omega) (by omega)) vNeg_good).mono ?_
  rintro e w2 ⟨base, A, c, rfl, hb, hrow, hg2⟩
  rw [vNeg_bytes] at hrow ⊢
  have HG2 := hide (HG1.out.trans hg2)
  have HROW := hide hrow
  clear hg2 hrow hb
  go_wp2_with fail
  refine (get_any [5, 1, 0, 97] (some ⟨w2.heap.size, 0, none⟩) 4 _ (HT.out.grow (HG2.out.alloc _)) (InB.blk (xs := [5, 1, 0, 97]) (Blk.new w2 5 _)) (by decide) (by decide)).mono ?_
  rw [vA_read]
  rintro e w3 ⟨cv, rfl, hin3, hg3⟩
  have HI3 := hide hin3.in_
  have HG3 := hide ((HG2.out.alloc _).trans hg3)
  have HR3 := hide ((HROW.out.alloc _).grow hg3)
  clear hin3 hg3
  go_wp2_with fail
  have HB4 := hide (Blk.new w3 37 cv.cells)
  have hS : ∀ w', Grow (w3.alloc (.cells cv.cells 37)) w' → (∀ i, w'.cell? ⟨w3.heap.size, i, none⟩ = cv.cells[i]?) ∧ (convert 23 9 (.slice A 9 c)).run Tryd.prog w' = .ok (.string ⟨#[3, 255, 255, 255, 255, 255, 255, 255, 255]⟩) w' := fun w' h =>
    ⟨(HB4.out.grow h).cell, conv_row ((HR3.out.alloc _).grow h)⟩
  have HS := hide hS
  clear hS
  go_region_held3 (fun w' => (∀ i, w'.cell? ⟨w3.heap.size, i, none⟩ = cv.cells[i]?) ∧ (convert 23 9 (.slice A 9 c)).run Tryd.prog w' = .ok (.string ⟨#[3, 255, 255, 255, 255, 255, 255, 255, 255]⟩) w') (first | exact HS.out _ (Grow.refl _).drew | exact HS.out _ hgr | exact HS.out _ hgr6 | fail)
    (first | (go_at_call 38; refine (T_a _).mono ?_; rintro e w5 ⟨A5, c5, rfl, hin5, hg5⟩; have hgr := (Grow.refl (w3.alloc (.cells cv.cells 37))).drew.trans hg5) | (go_at_call 17; refine (lawSame_any vA vA _ cv ⟨5, 0, A5, 1, c5, none, 0, 0, none, 0, 0⟩ ((HI3.out.grow ((Grow.refl w3).alloc _)).grow hgr) hin5).mono ?_; rintro e w6 ⟨rfl, hg6⟩; rw [sameB_self]; have hgr6 := hgr.trans hg6))
  go_wp2_with fail
  go_ret
  exact ⟨rfl, (HG3.out.alloc _).trans hgr6⟩
end Go.Proofs.YtcdbchifigonpaaDoor
