/- Walk of the closed law KeyKnown: chapter 4's examples. -/
import Derived.Test.YticgdjnekbobgaaDoorKeyKw
set_option linter.unusedVariables false
set_option linter.unusedSimpArgs false
namespace Go.Proofs.YticgdjnekbobgaaDoor
open Go.RowKit Go.Shelf Go.WideShapes

set_option maxRecDepth 100000 in
set_option maxHeartbeats 12800000 in
theorem kknown_any (w : World) (hT : Tabs w) : Calls Tryd.prog 6 #[] w fun e w' => e = .returned (.bool true) ∧ Grow w w' := by
  have HT := hide hT
  have HG0 := hide ((Grow.refl w).alloc (.cells #[.int .u8 48, .int .u8 1, .int .u8 191, .int .u8 240, .int .u8 0, .int .u8 0, .int .u8 0, .int .u8 0, .int .u8 0, .int .u8 0, .int .u8 0, .int .u8 0, .int .u8 0] 5))
  have HI0 := hide (InB.blk (xs := keyOne) (Blk.new w 5 #[.int .u8 48, .int .u8 1, .int .u8 191, .int .u8 240, .int .u8 0, .int .u8 0, .int .u8 0, .int .u8 0, .int .u8 0, .int .u8 0, .int .u8 0, .int .u8 0, .int .u8 0]))
  clear hT
  go_enter Tryd.func6, Tryd.ntmps6
  go_wp2_with fail
  refine (I_pos 1 (by decide) _).mono ?_
  rintro e w1 ⟨rfl, hg1⟩
  have HG1 := hide (HG0.out.trans hg1)
  have HI1 := hide (HI0.out.grow hg1)
  clear hg1 HG0 HI0
  go_wp2_with fail
  refine (T_a _).mono ?_
  rintro e w2 ⟨A2, c2, rfl, hin2, hg2⟩
  have HG2 := hide (HG1.out.trans hg2)
  have HI2 := hide (HI1.out.grow hg2)
  have HV2 := hide hin2
  clear hg2 hin2 HG1 HI1
  go_wp2_with fail
  refine (all_two (c := c2) (A := A2) (t := 27) ((Blk.new w2 _ _).alloc _) rfl (Blk.new' (by simp) _ _) (HT.out.grow ((HG2.out.alloc _).alloc _)) (HV2.out.grow (((Grow.refl w2).alloc _).alloc _))).mono ?_
  rintro e w3 ⟨b3, A3, c3, rfl, hb3, hr3, hg3⟩
  have HG3 := hide ((((HG2.out.alloc _).alloc _)).trans hg3)
  have HI3 := hide (HI2.out.grow ((((Grow.refl w2).alloc _).alloc _).trans hg3))
  have HR3 := hide (show Row w3 b3 (.slice A3 17 c3) 17 (keyOne ++ [191, 158, 255, 255]) from hr3)
  clear hg3 hb3 hr3 HG2 HI2 HV2
  go_wp2_with fail
  refine (aft_1 (InB.blk (xs := [1, 255]) (Blk.new w3 5 _))).mono ?_
  rintro e w4 ⟨b4, A4, c4, rfl, hb4, hr4, hg4⟩
  have HG4 := hide ((HG3.out.alloc _).trans hg4)
  have HI4 := hide (HI3.out.grow (((Grow.refl w3).alloc _).trans hg4))
  have HR34 := hide ((HR3.out.alloc _).grow hg4)
  have HR4 := hide (show Row w4 b4 (.slice A4 1 c4) 1 [2] from hr4)
  clear hg4 hb4 hr4 HG3 HI3 HR3
  go_wp2_with fail
  refine (aft_2 (InB.blk (xs := [255]) (Blk.new w4 5 _))).mono ?_
  rintro e w5 ⟨b5, A5, c5, rfl, hb5, hr5, hg5⟩
  have HG5 := hide ((HG4.out.alloc _).trans hg5)
  have HI5 := hide (HI4.out.grow (((Grow.refl w4).alloc _).trans hg5))
  have HR35 := hide ((HR34.out.alloc _).grow hg5)
  have HR45 := hide ((HR4.out.alloc _).grow hg5)
  clear hg5 hb5 hr5 HG4 HI4 HR34 HR4
  go_upto_region 5 with fail
  have hS : ∀ w', Grow w5 w' → (convert 23 9 (.slice A3 17 c3)).run Tryd.prog w' = .ok (.string ⟨(keyOne ++ [191, 158, 255, 255]).toArray⟩) w' ∧ (convert 23 9 (.slice A4 1 c4)).run Tryd.prog w' = .ok (.string ⟨#[2]⟩) w' := fun w' h => ⟨conv_row (HR35.out.grow h), conv_row (HR45.out.grow h)⟩
  have HS := hide hS
  clear hS
  refine wp_region_noPanic ?_
  refine wp_region_held_drew (S := fun w' => (convert 23 9 (.slice A3 17 c3)).run Tryd.prog w' = .ok (.string ⟨(keyOne ++ [191, 158, 255, 255]).toArray⟩) w' ∧ (convert 23 9 (.slice A4 1 c4)).run Tryd.prog w' = .ok (.string ⟨#[2]⟩) w') (by kernel_rfl) ((HS.out _ (Grow.refl _).drew)) (fun hHeld => ?_)
  have hg := (Grow.refl w5).drew
  try clear hHeld
  have hHeld := HS.out _ hg
  generalize w5.drew = W6 at hg hHeld ⊢
  refine wpAnyH_ready (rs := [0]) (by kernel_rfl) (by simp) ?_
  refine AllReadyH.cons rfl (fun K hK => ?_) AllReadyH.nil
  go_simp
  refine (kawake_any _ (HT.out.grow (HG5.out.trans hg))).mono ?_
  rintro e W7 ⟨rfl, hgx⟩
  replace hg := hg.trans hgx
  try clear hHeld
  try go_simp
  refine hK.out _ _ (HS.out _ hg) (fun hHeld => ?_)
  clear hK K
  try simp only [Act.put, List.setIfInBounds_toArray, List.set_cons_zero, List.set_cons_succ]
  refine wpAnyH_take (i := 1) (v := ?_) (by simp only [List.getElem?_toArray, List.getElem?_cons_succ, List.getElem?_cons_zero]; rfl) (by kernel_rfl) (by kernel_rfl) (by kernel_rfl) (fun _ _ _ h => h) (Or.inl ⟨by rfl, ?_⟩) (by assumption) ?_
  rotate_left 1
  · (intro w hSw; (try dsimp only at hSw); go_simp; try with_reducible rfl)
  try simp only [Act.put, List.setIfInBounds_toArray, List.set_cons_zero, List.set_cons_succ]
  refine wpAnyH_take (i := 2) (v := ?_) (by simp only [List.getElem?_toArray, List.getElem?_cons_succ, List.getElem?_cons_zero]; rfl) (by kernel_rfl) (by kernel_rfl) (by kernel_rfl) (fun _ _ _ h => h) (Or.inl ⟨by rfl, ?_⟩) (by assumption) ?_
  rotate_left 1
  · (intro w hSw; (try dsimp only at hSw); go_simp; try with_reducible rfl)
  try simp only [Act.put, List.setIfInBounds_toArray, List.set_cons_zero, List.set_cons_succ]
  refine wpAnyH_ready (rs := [3]) (by kernel_rfl) (by simp) ?_
  refine AllReadyH.cons rfl (fun K hK => ?_) AllReadyH.nil
  go_simp
  try clear hHeld
  have hb := Blk.new W7 5 #[.int .u8 16]
  replace hg := hg.alloc (.cells #[.int .u8 16] 5)
  refine hK.out _ _ (HS.out _ hg) (fun hHeld => ?_)
  clear hK K
  try simp only [Act.put, List.setIfInBounds_toArray, List.set_cons_zero, List.set_cons_succ]
  generalize W7.alloc (.cells #[.int .u8 16] 5) = W8 at hb hg hHeld ⊢
  generalize W7.heap.size = g_hb at hb ⊢
  refine wpAnyH_ready (rs := [4]) (by kernel_rfl) (by simp) ?_
  refine AllReadyH.cons rfl (fun K hK => ?_) AllReadyH.nil
  go_simp
  refine (is_flat (k := 1) (n := 0) null_ofK (by omega) (by omega) (by omega) (HT.out.grow (HG5.out.trans hg)) (InB.blk (xs := [16]) hb)).mono ?_
  rintro e W9 ⟨rfl, hgx⟩
  clear hb
  replace hg := hg.trans hgx
  try clear hHeld
  try go_simp
  refine hK.out _ _ (HS.out _ hg) (fun hHeld => ?_)
  clear hK K
  try simp only [Act.put, List.setIfInBounds_toArray, List.set_cons_zero, List.set_cons_succ]
  refine wpAnyH_take (i := 5) (v := ?_) (by simp only [List.getElem?_toArray, List.getElem?_cons_succ, List.getElem?_cons_zero]; rfl) (by kernel_rfl) (by kernel_rfl) (by kernel_rfl) (fun _ _ _ h => h) (Or.inl ⟨by rfl, ?_⟩) (by assumption) ?_
  rotate_left 1
  · (intro w hSw; (try dsimp only at hSw); go_simp; try with_reducible rfl)
  try simp only [Act.put, List.setIfInBounds_toArray, List.set_cons_zero, List.set_cons_succ]
  refine wpAnyH_take (i := 6) (v := ?_) (by simp only [List.getElem?_toArray, List.getElem?_cons_succ, List.getElem?_cons_zero]; rfl) (by kernel_rfl) (by kernel_rfl) (by kernel_rfl) (fun _ _ _ h => h) (Or.inl ⟨by rfl, ?_⟩) (by assumption) ?_
  rotate_left 1
  · (intro w hSw; (try dsimp only at hSw); go_simp; try with_reducible rfl)
  try simp only [Act.put, List.setIfInBounds_toArray, List.set_cons_zero, List.set_cons_succ]
  refine wpAnyH_take (i := 7) (v := ?_) (by simp only [List.getElem?_toArray, List.getElem?_cons_succ, List.getElem?_cons_zero]; rfl) (by kernel_rfl) (by kernel_rfl) (by kernel_rfl) (fun _ _ _ h => h) (Or.inl ⟨by rfl, ?_⟩) (by assumption) ?_
  rotate_left 1
  · (intro w hSw; (try dsimp only at hSw); go_simp; try with_reducible rfl)
  try simp only [Act.put, List.setIfInBounds_toArray, List.set_cons_zero, List.set_cons_succ]
  refine wpAnyH_ready (rs := [8]) (by kernel_rfl) (by simp) ?_
  refine AllReadyH.cons rfl (fun K hK => ?_) AllReadyH.nil
  go_simp
  try clear hHeld
  have hb := Blk.new W9 5 #[.int .u8 32, .int .u8 1]
  replace hg := hg.alloc (.cells #[.int .u8 32, .int .u8 1] 5)
  refine hK.out _ _ (HS.out _ hg) (fun hHeld => ?_)
  clear hK K
  try simp only [Act.put, List.setIfInBounds_toArray, List.set_cons_zero, List.set_cons_succ]
  generalize W9.alloc (.cells #[.int .u8 32, .int .u8 1] 5) = W10 at hb hg hHeld ⊢
  generalize W9.heap.size = g_hb at hb ⊢
  refine wpAnyH_ready (rs := [9]) (by kernel_rfl) (by simp) ?_
  refine AllReadyH.cons rfl (fun K hK => ?_) AllReadyH.nil
  go_simp
  refine (is_flat (k := 2) (n := 1) bool_ofK (by omega) (by omega) (by omega) (HT.out.grow (HG5.out.trans hg)) (InB.blk (xs := [32, 1]) hb)).mono ?_
  rintro e W11 ⟨rfl, hgx⟩
  clear hb
  replace hg := hg.trans hgx
  try clear hHeld
  try go_simp
  refine hK.out _ _ (HS.out _ hg) (fun hHeld => ?_)
  clear hK K
  try simp only [Act.put, List.setIfInBounds_toArray, List.set_cons_zero, List.set_cons_succ]
  refine wpAnyH_take (i := 10) (v := ?_) (by simp only [List.getElem?_toArray, List.getElem?_cons_succ, List.getElem?_cons_zero]; rfl) (by kernel_rfl) (by kernel_rfl) (by kernel_rfl) (fun _ _ _ h => h) (Or.inl ⟨by rfl, ?_⟩) (by assumption) ?_
  rotate_left 1
  · (intro w hSw; (try dsimp only at hSw); go_simp; try with_reducible rfl)
  try simp only [Act.put, List.setIfInBounds_toArray, List.set_cons_zero, List.set_cons_succ]
  refine wpAnyH_take (i := 11) (v := ?_) (by simp only [List.getElem?_toArray, List.getElem?_cons_succ, List.getElem?_cons_zero]; rfl) (by kernel_rfl) (by kernel_rfl) (by kernel_rfl) (fun _ _ _ h => h) (Or.inl ⟨by rfl, ?_⟩) (by assumption) ?_
  rotate_left 1
  · (intro w hSw; (try dsimp only at hSw); go_simp; try with_reducible rfl)
  try simp only [Act.put, List.setIfInBounds_toArray, List.set_cons_zero, List.set_cons_succ]
  refine with_rest3 (some 39) (some 40) (some 41) 12 13 14 (fun x z y W' => ∃ g h, x = .slice (some ⟨g, 0, none⟩) 1 1 ∧ z = (rawc 6 (some ⟨g, 0, none⟩) 1 1).agg ∧ y = .slice (some ⟨h, 0, none⟩) 5 5 ∧ Grow w5 W' ∧ Blk W' g 5 #[.int .u8 0] ∧ Blk W' h 5 #[.int .u8 80, .int .u8 0, .int .u8 255, .int .u8 0, .int .u8 0]) ?_ ?_
  rotate_left 1
  · intro rest
    simp only [Act.put, List.setIfInBounds_toArray, List.set_cons_zero, List.set_cons_succ] at rest
    refine wpAnyH_ready (rs := [12, 14]) (by kernel_rfl) (by simp) ?_
    refine AllReadyH.cons rfl (fun K hK => ?_) ?_
    · go_simp
      try clear hHeld
      have ha := Blk.new W11 5 #[.int .u8 0]
      replace hg := hg.alloc (.cells #[.int .u8 0] 5)
      refine hK.out _ _ (HS.out _ hg) (fun hHeld => ?_)
      clear hK K
      try simp only [Act.put, List.setIfInBounds_toArray, List.set_cons_zero, List.set_cons_succ]
      generalize W11.alloc (.cells #[.int .u8 0] 5) = W12 at ha hg hHeld ⊢
      generalize W11.heap.size = g_ha at ha ⊢
      refine wpAnyH_take (i := 13) (v := ?_) (by simp only [List.getElem?_toArray, List.getElem?_cons_succ, List.getElem?_cons_zero]; rfl) (by kernel_rfl) (by kernel_rfl) (by kernel_rfl) (fun _ _ _ h => h) (Or.inl ⟨by rfl, ?_⟩) (by assumption) ?_
      rotate_left 1
      · (intro w hSw; (try dsimp only at hSw); go_simp; try with_reducible rfl)
      try simp only [Act.put, List.setIfInBounds_toArray, List.set_cons_zero, List.set_cons_succ]
      refine wpAnyH_ready (rs := [14]) (by kernel_rfl) (by simp) ?_
      refine AllReadyH.cons rfl (fun K hK => ?_) AllReadyH.nil
      go_simp
      try clear hHeld
      have hb := Blk.new W12 5 #[.int .u8 80, .int .u8 0, .int .u8 255, .int .u8 0, .int .u8 0]
      replace ha := ha.alloc (.cells #[.int .u8 80, .int .u8 0, .int .u8 255, .int .u8 0, .int .u8 0] 5)
      replace hg := hg.alloc (.cells #[.int .u8 80, .int .u8 0, .int .u8 255, .int .u8 0, .int .u8 0] 5)
      refine hK.out _ _ (HS.out _ hg) (fun hHeld => ?_)
      clear hK K
      try simp only [Act.put, List.setIfInBounds_toArray, List.set_cons_zero, List.set_cons_succ]
      generalize W12.alloc (.cells #[.int .u8 80, .int .u8 0, .int .u8 255, .int .u8 0, .int .u8 0] 5) = W13 at hb ha hg hHeld ⊢
      generalize W12.heap.size = g_hb at hb ⊢
      exact rest _ _ _ _ ⟨_, _, rfl, rfl, rfl, hg, ha, hb⟩
    refine AllReadyH.cons rfl (fun K hK => ?_) AllReadyH.nil
    go_simp
    try clear hHeld
    have hb := Blk.new W11 5 #[.int .u8 80, .int .u8 0, .int .u8 255, .int .u8 0, .int .u8 0]
    replace hg := hg.alloc (.cells #[.int .u8 80, .int .u8 0, .int .u8 255, .int .u8 0, .int .u8 0] 5)
    refine hK.out _ _ (HS.out _ hg) (fun hHeld => ?_)
    clear hK K
    try simp only [Act.put, List.setIfInBounds_toArray, List.set_cons_zero, List.set_cons_succ]
    generalize W11.alloc (.cells #[.int .u8 80, .int .u8 0, .int .u8 255, .int .u8 0, .int .u8 0] 5) = W12 at hb hg hHeld ⊢
    generalize W11.heap.size = g_hb at hb ⊢
    refine wpAnyH_ready (rs := [12]) (by kernel_rfl) (by simp) ?_
    refine AllReadyH.cons rfl (fun K hK => ?_) AllReadyH.nil
    go_simp
    try clear hHeld
    have ha := Blk.new W12 5 #[.int .u8 0]
    replace hb := hb.alloc (.cells #[.int .u8 0] 5)
    replace hg := hg.alloc (.cells #[.int .u8 0] 5)
    refine hK.out _ _ (HS.out _ hg) (fun hHeld => ?_)
    clear hK K
    try simp only [Act.put, List.setIfInBounds_toArray, List.set_cons_zero, List.set_cons_succ]
    generalize W12.alloc (.cells #[.int .u8 0] 5) = W13 at ha hb hg hHeld ⊢
    generalize W12.heap.size = g_ha at ha ⊢
    refine wpAnyH_take (i := 13) (v := ?_) (by simp only [List.getElem?_toArray, List.getElem?_cons_succ, List.getElem?_cons_zero]; rfl) (by kernel_rfl) (by kernel_rfl) (by kernel_rfl) (fun _ _ _ h => h) (Or.inl ⟨by rfl, ?_⟩) (by assumption) ?_
    rotate_left 1
    · (intro w hSw; (try dsimp only at hSw); go_simp; try with_reducible rfl)
    try simp only [Act.put, List.setIfInBounds_toArray, List.set_cons_zero, List.set_cons_succ]
    rw [Array.setIfInBounds_comm (i := 14) (j := 12) _ _ (by decide), Array.setIfInBounds_comm (i := 14) (j := 13) _ _ (by decide)]
    exact rest _ _ _ _ ⟨_, _, rfl, rfl, rfl, hg, ha, hb⟩
  rintro x z y W14 ⟨g, h, rfl, rfl, rfl, hg2, ha, hb⟩
  clear hg hHeld
  have hg := hg2
  have hHeld := HS.out _ hg
  clear hg2
  try simp only [Act.put, List.setIfInBounds_toArray, List.set_cons_zero, List.set_cons_succ]
  refine wpAnyH_ready (rs := [15]) (by kernel_rfl) (by simp) ?_
  refine AllReadyH.cons rfl (fun K hK => ?_) AllReadyH.nil
  go_simp
  refine (is_raw (HT.out.grow (HG5.out.trans hg)) (InB.blk (xs := [0]) ha) (Nat.le_refl _) (InB.blk (xs := [80, 0, 255, 0, 0]) hb)).mono ?_
  rintro e W15 ⟨rfl, hgx⟩
  clear ha hb
  replace hg := hg.trans hgx
  try clear hHeld
  try go_simp
  refine hK.out _ _ (HS.out _ hg) (fun hHeld => ?_)
  clear hK K
  try simp only [Act.put, List.setIfInBounds_toArray, List.set_cons_zero, List.set_cons_succ]
  refine wpAnyH_take (i := 16) (v := ?_) (by simp only [List.getElem?_toArray, List.getElem?_cons_succ, List.getElem?_cons_zero]; rfl) (by kernel_rfl) (by kernel_rfl) (by kernel_rfl) (fun _ _ _ h => h) (Or.inl ⟨by rfl, ?_⟩) (by assumption) ?_
  rotate_left 1
  · (intro w hSw; (try dsimp only at hSw); go_simp; try with_reducible rfl)
  try simp only [Act.put, List.setIfInBounds_toArray, List.set_cons_zero, List.set_cons_succ]
  refine wpAnyH_take (i := 17) (v := ?_) (by simp only [List.getElem?_toArray, List.getElem?_cons_succ, List.getElem?_cons_zero]; rfl) (by kernel_rfl) (by kernel_rfl) (by kernel_rfl) (fun _ _ _ h => h) (Or.inl ⟨by rfl, ?_⟩) (by assumption) ?_
  rotate_left 1
  · (intro w hSw; (try dsimp only at hSw); go_simp; try with_reducible rfl)
  try simp only [Act.put, List.setIfInBounds_toArray, List.set_cons_zero, List.set_cons_succ]
  refine wpAnyH_take (i := 19) (v := ?_) (by simp only [List.getElem?_toArray, List.getElem?_cons_succ, List.getElem?_cons_zero]; rfl) (by kernel_rfl) (by kernel_rfl) (by kernel_rfl) (fun _ _ _ h => h) (Or.inl ⟨by rfl, ?_⟩) (by assumption) ?_
  rotate_left 1
  · (intro w hSw; (try dsimp only at hSw); go_simp; try with_reducible rfl)
  try simp only [Act.put, List.setIfInBounds_toArray, List.set_cons_zero, List.set_cons_succ]
  refine wpAnyH_ready (rs := [18]) (by kernel_rfl) (by simp) ?_
  refine AllReadyH.cons rfl (fun K hK => ?_) AllReadyH.nil
  go_simp
  refine (I_pos 1 (by decide) _).mono ?_
  rintro e W16 ⟨rfl, hgx⟩
  replace hg := hg.trans hgx
  try clear hHeld
  try go_simp
  refine hK.out _ _ (HS.out _ hg) (fun hHeld => ?_)
  clear hK K
  try simp only [Act.put, List.setIfInBounds_toArray, List.set_cons_zero, List.set_cons_succ]
  refine wpAnyH_ready (rs := [20]) (by kernel_rfl) (by simp) ?_
  refine AllReadyH.cons rfl (fun K hK => ?_) AllReadyH.nil
  go_simp
  refine (is_flat (k := 3) (n := 1) one_ofK (by omega) (by omega) (by omega) (HT.out.grow (HG5.out.trans hg)) (HI5.out.grow hg)).mono ?_
  rintro e W17 ⟨rfl, hgx⟩
  replace hg := hg.trans hgx
  try clear hHeld
  try go_simp
  refine hK.out _ _ (HS.out _ hg) (fun hHeld => ?_)
  clear hK K
  try simp only [Act.put, List.setIfInBounds_toArray, List.set_cons_zero, List.set_cons_succ]
  refine wpAnyH_take (i := 21) (v := ?_) (by simp only [List.getElem?_toArray, List.getElem?_cons_succ, List.getElem?_cons_zero]; rfl) (by kernel_rfl) (by kernel_rfl) (by kernel_rfl) (fun _ _ _ h => h) (Or.inl ⟨by rfl, ?_⟩) (by assumption) ?_
  rotate_left 1
  · (intro w hSw; (try dsimp only at hSw); go_simp; try with_reducible rfl)
  try simp only [Act.put, List.setIfInBounds_toArray, List.set_cons_zero, List.set_cons_succ]
  refine wpAnyH_take (i := 22) (v := ?_) (by simp only [List.getElem?_toArray, List.getElem?_cons_succ, List.getElem?_cons_zero]; rfl) (by kernel_rfl) (by kernel_rfl) (by kernel_rfl) (fun _ _ _ h => h) (Or.inl ⟨by rfl, ?_⟩) (by assumption) ?_
  rotate_left 1
  · (intro w hSw; (try dsimp only at hSw); go_simp; try with_reducible rfl)
  try simp only [Act.put, List.setIfInBounds_toArray, List.set_cons_zero, List.set_cons_succ]
  refine with_rest (some 50) (some 51) 23 24 (fun x y W' => ∃ h, x = (flatc 4 ((4607182418800017408 : Nat) : Int)).agg ∧ y = .slice (some ⟨h, 0, none⟩) 13 13 ∧ Grow w5 W' ∧ Blk W' h 5 #[.int .u8 48, .int .u8 1, .int .u8 191, .int .u8 240, .int .u8 0, .int .u8 0, .int .u8 0, .int .u8 0, .int .u8 0, .int .u8 0, .int .u8 0, .int .u8 0, .int .u8 1]) ?_ ?_
  rotate_left 1
  · intro rest
    simp only [Act.put, List.setIfInBounds_toArray, List.set_cons_zero, List.set_cons_succ] at rest
    refine wpAnyH_ready (rs := [23, 24]) (by kernel_rfl) (by simp) ?_
    refine AllReadyH.cons rfl (fun K hK => ?_) ?_
    · go_simp
      refine (F_any 4607182418800017408 _).mono ?_
      rintro e W18 ⟨rfl, hgx⟩
      replace hg := hg.trans hgx
      try clear hHeld
      try go_simp
      refine hK.out _ _ (HS.out _ hg) (fun hHeld => ?_)
      clear hK K
      try simp only [Act.put, List.setIfInBounds_toArray, List.set_cons_zero, List.set_cons_succ]
      refine wpAnyH_ready (rs := [24]) (by kernel_rfl) (by simp) ?_
      refine AllReadyH.cons rfl (fun K hK => ?_) AllReadyH.nil
      go_simp
      try clear hHeld
      have hb := Blk.new W18 5 #[.int .u8 48, .int .u8 1, .int .u8 191, .int .u8 240, .int .u8 0, .int .u8 0, .int .u8 0, .int .u8 0, .int .u8 0, .int .u8 0, .int .u8 0, .int .u8 0, .int .u8 1]
      replace hg := hg.alloc (.cells #[.int .u8 48, .int .u8 1, .int .u8 191, .int .u8 240, .int .u8 0, .int .u8 0, .int .u8 0, .int .u8 0, .int .u8 0, .int .u8 0, .int .u8 0, .int .u8 0, .int .u8 1] 5)
      refine hK.out _ _ (HS.out _ hg) (fun hHeld => ?_)
      clear hK K
      try simp only [Act.put, List.setIfInBounds_toArray, List.set_cons_zero, List.set_cons_succ]
      generalize W18.alloc (.cells #[.int .u8 48, .int .u8 1, .int .u8 191, .int .u8 240, .int .u8 0, .int .u8 0, .int .u8 0, .int .u8 0, .int .u8 0, .int .u8 0, .int .u8 0, .int .u8 0, .int .u8 1] 5) = W19 at hb hg hHeld ⊢
      generalize W18.heap.size = g_hb at hb ⊢
      exact rest _ _ _ ⟨_, rfl, rfl, hg, hb⟩
    refine AllReadyH.cons rfl (fun K hK => ?_) AllReadyH.nil
    go_simp
    try clear hHeld
    have hb := Blk.new W17 5 #[.int .u8 48, .int .u8 1, .int .u8 191, .int .u8 240, .int .u8 0, .int .u8 0, .int .u8 0, .int .u8 0, .int .u8 0, .int .u8 0, .int .u8 0, .int .u8 0, .int .u8 1]
    replace hg := hg.alloc (.cells #[.int .u8 48, .int .u8 1, .int .u8 191, .int .u8 240, .int .u8 0, .int .u8 0, .int .u8 0, .int .u8 0, .int .u8 0, .int .u8 0, .int .u8 0, .int .u8 0, .int .u8 1] 5)
    refine hK.out _ _ (HS.out _ hg) (fun hHeld => ?_)
    clear hK K
    try simp only [Act.put, List.setIfInBounds_toArray, List.set_cons_zero, List.set_cons_succ]
    generalize W17.alloc (.cells #[.int .u8 48, .int .u8 1, .int .u8 191, .int .u8 240, .int .u8 0, .int .u8 0, .int .u8 0, .int .u8 0, .int .u8 0, .int .u8 0, .int .u8 0, .int .u8 0, .int .u8 1] 5) = W18 at hb hg hHeld ⊢
    generalize W17.heap.size = g_hb at hb ⊢
    refine wpAnyH_ready (rs := [23]) (by kernel_rfl) (by simp) ?_
    refine AllReadyH.cons rfl (fun K hK => ?_) AllReadyH.nil
    go_simp
    refine (F_any 4607182418800017408 _).mono ?_
    rintro e W19 ⟨rfl, hgx⟩
    replace hb := hb.grow hgx
    replace hg := hg.trans hgx
    try clear hHeld
    try go_simp
    refine hK.out _ _ (HS.out _ hg) (fun hHeld => ?_)
    clear hK K
    try simp only [Act.put, List.setIfInBounds_toArray, List.set_cons_zero, List.set_cons_succ]
    rw [Array.setIfInBounds_comm _ _ (by decide)]
    exact rest _ _ _ ⟨_, rfl, rfl, hg, hb⟩
  rintro x y W20 ⟨h, rfl, rfl, hg2, hb⟩
  clear hg hHeld
  have hg := hg2
  have hHeld := HS.out _ hg
  clear hg2
  try simp only [Act.put, List.setIfInBounds_toArray, List.set_cons_zero, List.set_cons_succ]
  refine wpAnyH_ready (rs := [25]) (by kernel_rfl) (by simp) ?_
  refine AllReadyH.cons rfl (fun K hK => ?_) AllReadyH.nil
  go_simp
  refine (is_flat (k := 4) (n := 4607182418800017408) flt_ofK (by omega) (by omega) (by omega) (HT.out.grow (HG5.out.trans hg)) (InB.blk (xs := [48, 1, 191, 240, 0, 0, 0, 0, 0, 0, 0, 0, 1]) hb)).mono ?_
  rintro e W21 ⟨rfl, hgx⟩
  clear hb
  replace hg := hg.trans hgx
  try clear hHeld
  try go_simp
  refine hK.out _ _ (HS.out _ hg) (fun hHeld => ?_)
  clear hK K
  try simp only [Act.put, List.setIfInBounds_toArray, List.set_cons_zero, List.set_cons_succ]
  refine wpAnyH_take (i := 26) (v := ?_) (by simp only [List.getElem?_toArray, List.getElem?_cons_succ, List.getElem?_cons_zero]; rfl) (by kernel_rfl) (by kernel_rfl) (by kernel_rfl) (fun _ _ _ h => h) (Or.inl ⟨by rfl, ?_⟩) (by assumption) ?_
  rotate_left 1
  · (intro w hSw; (try dsimp only at hSw); go_simp; try with_reducible rfl)
  try simp only [Act.put, List.setIfInBounds_toArray, List.set_cons_zero, List.set_cons_succ]
  refine wpAnyH_take (i := 27) (v := ?_) (by simp only [List.getElem?_toArray, List.getElem?_cons_succ, List.getElem?_cons_zero]; rfl) (by kernel_rfl) (by kernel_rfl) (by kernel_rfl) (fun _ _ _ h => h) (Or.inl ⟨by rfl, ?_⟩) (by assumption) ?_
  rotate_left 1
  · (intro w hSw; (try dsimp only at hSw); go_simp; try with_reducible rfl)
  try simp only [Act.put, List.setIfInBounds_toArray, List.set_cons_zero, List.set_cons_succ]
  refine with_rest (some 55) (some 56) 28 29 (fun x y W' => ∃ h, x = (flatc 3 ((9007199254740993 : Nat) : Int)).agg ∧ y = .slice (some ⟨h, 0, none⟩) 13 13 ∧ Grow w5 W' ∧ Blk W' h 5 #[.int .u8 48, .int .u8 1, .int .u8 195, .int .u8 64, .int .u8 0, .int .u8 0, .int .u8 0, .int .u8 0, .int .u8 0, .int .u8 0, .int .u8 0, .int .u8 1, .int .u8 0]) ?_ ?_
  rotate_left 1
  · intro rest
    simp only [Act.put, List.setIfInBounds_toArray, List.set_cons_zero, List.set_cons_succ] at rest
    refine wpAnyH_ready (rs := [28, 29]) (by kernel_rfl) (by simp) ?_
    refine AllReadyH.cons rfl (fun K hK => ?_) ?_
    · go_simp
      refine (I_pos 9007199254740993 (by decide) _).mono ?_
      rintro e W22 ⟨rfl, hgx⟩
      replace hg := hg.trans hgx
      try clear hHeld
      try go_simp
      refine hK.out _ _ (HS.out _ hg) (fun hHeld => ?_)
      clear hK K
      try simp only [Act.put, List.setIfInBounds_toArray, List.set_cons_zero, List.set_cons_succ]
      refine wpAnyH_ready (rs := [29]) (by kernel_rfl) (by simp) ?_
      refine AllReadyH.cons rfl (fun K hK => ?_) AllReadyH.nil
      go_simp
      try clear hHeld
      have hb := Blk.new W22 5 #[.int .u8 48, .int .u8 1, .int .u8 195, .int .u8 64, .int .u8 0, .int .u8 0, .int .u8 0, .int .u8 0, .int .u8 0, .int .u8 0, .int .u8 0, .int .u8 1, .int .u8 0]
      replace hg := hg.alloc (.cells #[.int .u8 48, .int .u8 1, .int .u8 195, .int .u8 64, .int .u8 0, .int .u8 0, .int .u8 0, .int .u8 0, .int .u8 0, .int .u8 0, .int .u8 0, .int .u8 1, .int .u8 0] 5)
      refine hK.out _ _ (HS.out _ hg) (fun hHeld => ?_)
      clear hK K
      try simp only [Act.put, List.setIfInBounds_toArray, List.set_cons_zero, List.set_cons_succ]
      generalize W22.alloc (.cells #[.int .u8 48, .int .u8 1, .int .u8 195, .int .u8 64, .int .u8 0, .int .u8 0, .int .u8 0, .int .u8 0, .int .u8 0, .int .u8 0, .int .u8 0, .int .u8 1, .int .u8 0] 5) = W23 at hb hg hHeld ⊢
      generalize W22.heap.size = g_hb at hb ⊢
      exact rest _ _ _ ⟨_, rfl, rfl, hg, hb⟩
    refine AllReadyH.cons rfl (fun K hK => ?_) AllReadyH.nil
    go_simp
    try clear hHeld
    have hb := Blk.new W21 5 #[.int .u8 48, .int .u8 1, .int .u8 195, .int .u8 64, .int .u8 0, .int .u8 0, .int .u8 0, .int .u8 0, .int .u8 0, .int .u8 0, .int .u8 0, .int .u8 1, .int .u8 0]
    replace hg := hg.alloc (.cells #[.int .u8 48, .int .u8 1, .int .u8 195, .int .u8 64, .int .u8 0, .int .u8 0, .int .u8 0, .int .u8 0, .int .u8 0, .int .u8 0, .int .u8 0, .int .u8 1, .int .u8 0] 5)
    refine hK.out _ _ (HS.out _ hg) (fun hHeld => ?_)
    clear hK K
    try simp only [Act.put, List.setIfInBounds_toArray, List.set_cons_zero, List.set_cons_succ]
    generalize W21.alloc (.cells #[.int .u8 48, .int .u8 1, .int .u8 195, .int .u8 64, .int .u8 0, .int .u8 0, .int .u8 0, .int .u8 0, .int .u8 0, .int .u8 0, .int .u8 0, .int .u8 1, .int .u8 0] 5) = W22 at hb hg hHeld ⊢
    generalize W21.heap.size = g_hb at hb ⊢
    refine wpAnyH_ready (rs := [28]) (by kernel_rfl) (by simp) ?_
    refine AllReadyH.cons rfl (fun K hK => ?_) AllReadyH.nil
    go_simp
    refine (I_pos 9007199254740993 (by decide) _).mono ?_
    rintro e W23 ⟨rfl, hgx⟩
    replace hb := hb.grow hgx
    replace hg := hg.trans hgx
    try clear hHeld
    try go_simp
    refine hK.out _ _ (HS.out _ hg) (fun hHeld => ?_)
    clear hK K
    try simp only [Act.put, List.setIfInBounds_toArray, List.set_cons_zero, List.set_cons_succ]
    rw [Array.setIfInBounds_comm _ _ (by decide)]
    exact rest _ _ _ ⟨_, rfl, rfl, hg, hb⟩
  rintro x y W24 ⟨h, rfl, rfl, hg2, hb⟩
  clear hg hHeld
  have hg := hg2
  have hHeld := HS.out _ hg
  clear hg2
  try simp only [Act.put, List.setIfInBounds_toArray, List.set_cons_zero, List.set_cons_succ]
  refine wpAnyH_ready (rs := [30]) (by kernel_rfl) (by simp) ?_
  refine AllReadyH.cons rfl (fun K hK => ?_) AllReadyH.nil
  go_simp
  refine (is_flat (k := 3) (n := 9007199254740993) big_ofK (by omega) (by omega) (by omega) (HT.out.grow (HG5.out.trans hg)) (InB.blk (xs := [48, 1, 195, 64, 0, 0, 0, 0, 0, 0, 0, 1, 0]) hb)).mono ?_
  rintro e W25 ⟨rfl, hgx⟩
  clear hb
  replace hg := hg.trans hgx
  try clear hHeld
  try go_simp
  refine hK.out _ _ (HS.out _ hg) (fun hHeld => ?_)
  clear hK K
  try simp only [Act.put, List.setIfInBounds_toArray, List.set_cons_zero, List.set_cons_succ]
  refine wpAnyH_take (i := 31) (v := ?_) (by simp only [List.getElem?_toArray, List.getElem?_cons_succ, List.getElem?_cons_zero]; rfl) (by kernel_rfl) (by kernel_rfl) (by kernel_rfl) (fun _ _ _ h => h) (Or.inl ⟨by rfl, ?_⟩) (by assumption) ?_
  rotate_left 1
  · (intro w hSw; (try dsimp only at hSw); go_simp; try with_reducible rfl)
  try simp only [Act.put, List.setIfInBounds_toArray, List.set_cons_zero, List.set_cons_succ]
  refine wpAnyH_take (i := 32) (v := ?_) (by simp only [List.getElem?_toArray, List.getElem?_cons_succ, List.getElem?_cons_zero]; rfl) (by kernel_rfl) (by kernel_rfl) (by kernel_rfl) (fun _ _ _ h => h) (Or.inl ⟨by rfl, ?_⟩) (by assumption) ?_
  rotate_left 1
  · (intro w hSw; (try dsimp only at hSw); go_simp; try with_reducible rfl)
  try simp only [Act.put, List.setIfInBounds_toArray, List.set_cons_zero, List.set_cons_succ]
  refine wpAnyH_take (i := 33) (v := ?_) (by simp only [List.getElem?_toArray, List.getElem?_cons_succ, List.getElem?_cons_zero]; rfl) (by kernel_rfl) (by kernel_rfl) (by kernel_rfl) (fun _ _ _ h => h) (Or.inl ⟨by rfl, ?_⟩) (by assumption) ?_
  rotate_left 1
  · (intro w hSw; (try dsimp only at hSw); go_simp; try with_reducible rfl)
  try simp only [Act.put, List.setIfInBounds_toArray, List.set_cons_zero, List.set_cons_succ]
  refine wpAnyH_take (i := 34) (v := ?_) (by simp only [List.getElem?_toArray, List.getElem?_cons_succ, List.getElem?_cons_zero]; rfl) (by kernel_rfl) (by kernel_rfl) (by kernel_rfl) (fun _ _ _ h => h) (Or.inl ⟨by rfl, ?_⟩) (by assumption) ?_
  rotate_left 1
  · (intro w hSw; (try dsimp only at hSw); go_simp; try with_reducible rfl)
  try simp only [Act.put, List.setIfInBounds_toArray, List.set_cons_zero, List.set_cons_succ]
  refine wpAnyH_take (i := 35) (v := ?_) (by simp only [List.getElem?_toArray, List.getElem?_cons_succ, List.getElem?_cons_zero]; rfl) (by kernel_rfl) (by kernel_rfl) (by kernel_rfl) (fun _ _ _ h => h) (Or.inl ⟨by rfl, ?_⟩) (by assumption) ?_
  rotate_left 1
  · (intro w hSw; (try dsimp only at hSw); go_simp; try with_reducible rfl)
  try simp only [Act.put, List.setIfInBounds_toArray, List.set_cons_zero, List.set_cons_succ]
  refine wpAnyH_take (i := 36) (v := ?_) (by simp only [List.getElem?_toArray, List.getElem?_cons_succ, List.getElem?_cons_zero]; rfl) (by kernel_rfl) (by kernel_rfl) (by kernel_rfl) (fun _ _ _ h => h) (Or.inl ⟨by rfl, ?_⟩) (by assumption) ?_
  rotate_left 1
  · (intro w hSw; (try dsimp only at hSw); go_simp; try with_reducible rfl)
  try simp only [Act.put, List.setIfInBounds_toArray, List.set_cons_zero, List.set_cons_succ]
  refine wpAnyH_take (i := 37) (v := ?_) (by simp only [List.getElem?_toArray, List.getElem?_cons_succ, List.getElem?_cons_zero]; rfl) (by kernel_rfl) (by kernel_rfl) (by kernel_rfl) (fun _ _ _ h => h) (Or.inl ⟨by rfl, ?_⟩) (by assumption) ?_
  rotate_left 1
  · (intro w hSw; (try dsimp only at hSw); go_simp; try with_reducible rfl)
  try simp only [Act.put, List.setIfInBounds_toArray, List.set_cons_zero, List.set_cons_succ]
  refine wpAnyH_take (i := 38) (v := ?_) (by simp only [List.getElem?_toArray, List.getElem?_cons_succ, List.getElem?_cons_zero]; rfl) (by kernel_rfl) (by kernel_rfl) (by kernel_rfl) (fun _ _ _ h => h) (Or.inl ⟨by rfl, ?_⟩) (by assumption) ?_
  rotate_left 1
  · (intro w hSw; (try dsimp only at hSw); obtain ⟨hSa, hSb⟩ := hSw; go_simp; try with_reducible rfl)
  try simp only [Act.put, List.setIfInBounds_toArray, List.set_cons_zero, List.set_cons_succ]
  refine wpAnyH_take (i := 40) (v := ?_) (by simp only [List.getElem?_toArray, List.getElem?_cons_succ, List.getElem?_cons_zero]; rfl) (by kernel_rfl) (by kernel_rfl) (by kernel_rfl) (fun _ _ _ h => h) (Or.inl ⟨by rfl, ?_⟩) (by assumption) ?_
  rotate_left 1
  · (intro w hSw; (try dsimp only at hSw); go_simp; try with_reducible rfl)
  try simp only [Act.put, List.setIfInBounds_toArray, List.set_cons_zero, List.set_cons_succ]
  obtain ⟨i0, hi0, hz0', hz1, hz2⟩ := info_parts info_u8
  have Hi0 := hide hi0
  have Hz0 := hide hz0'
  have Hz1 := hide hz1
  have Hz2 := hide hz2
  clear hi0 hz0' hz1 hz2
  refine with_rest3 (some 66) (some 68) (some 69) 39 41 42 (fun x y z W' => ∃ A c h, y = .slice A 13 c ∧ z = .slice (some ⟨h, 0, none⟩) 4 4 ∧ Grow w5 W' ∧ Row W' w5.heap.size (.slice A 13 c) 13 keyOne ∧ Blk W' h 5 #[.int .u8 191, .int .u8 158, .int .u8 255, .int .u8 255]) ?_ ?_
  rotate_left 1
  · intro rest
    simp only [Act.put, List.setIfInBounds_toArray, List.set_cons_zero, List.set_cons_succ] at rest
    refine wpAnyH_ready (rs := [39, 42]) (by kernel_rfl) (by simp) ?_
    refine AllReadyH.cons rfl (fun K hK => ?_) ?_
    · go_simp
      try clear hHeld
      have he : Row (W25.alloc (.cells #[] 5)) w5.heap.size (.slice (some ⟨W25.heap.size, 0, none⟩) 0 0) 0 [] := World.ownsRow_made W25 #[] 0 hg.size (by decide) (by simp)
      replace hg := hg.alloc (.cells #[] 5)
      refine hK.out _ _ (HS.out _ hg) (fun hHeld => ?_)
      clear hK K
      try simp only [Act.put, List.setIfInBounds_toArray, List.set_cons_zero, List.set_cons_succ]
      generalize W25.alloc (.cells #[] 5) = W26 at he hg hHeld ⊢
      generalize W25.heap.size = g_he at he ⊢
      refine wpAnyH_ready (rs := [41, 42]) (by kernel_rfl) (by simp) ?_
      refine AllReadyH.cons rfl (fun K hK => ?_) ?_
      · rw [if_pos (by rfl)]
        refine wp_append_fit (.tmp 66) (.tmp 67) 23 23 (by rfl) w5.heap.size 5 i0 _ 1 1 under_u8s Hi0.out Hz0.out Hz1.out Hz2.out (by rfl) (.slice (some ⟨g_he, 0, none⟩) 0 0) 0 (u8s []) (by rfl) he _ 13 (u8s keyOne) (by rfl) (Src.ofReads under_u8s (HI5.out.grow hg) (u8s_one keyOne)) (fun _ ho => growslice_fits ho (by omega)) (by decide) hg.size ?_
        intro A c W27 hown hgr hob
        try clear hHeld
        simp only [Nat.zero_add] at hown hob ⊢
        have hr : Row W27 w5.heap.size (.slice A 13 c) 13 keyOne := hown
        replace hg := hg.grown hgr (fun k e => (World.ownsRow.lt he k e).1)
        refine hK.out _ _ (HS.out _ hg) (fun hHeld => ?_)
        clear hK K he hown hob hgr
        try simp only [Act.put, List.setIfInBounds_toArray, List.set_cons_zero, List.set_cons_succ]
        refine wpAnyH_ready (rs := [42]) (by kernel_rfl) (by simp) ?_
        refine AllReadyH.cons rfl (fun K hK => ?_) AllReadyH.nil
        go_simp
        try clear hHeld
        have hb := Blk.new W27 5 #[.int .u8 191, .int .u8 158, .int .u8 255, .int .u8 255]
        replace hr := hr.alloc (.cells #[.int .u8 191, .int .u8 158, .int .u8 255, .int .u8 255] 5)
        replace hg := hg.alloc (.cells #[.int .u8 191, .int .u8 158, .int .u8 255, .int .u8 255] 5)
        refine hK.out _ _ (HS.out _ hg) (fun hHeld => ?_)
        clear hK K
        try simp only [Act.put, List.setIfInBounds_toArray, List.set_cons_zero, List.set_cons_succ]
        generalize W27.alloc (.cells #[.int .u8 191, .int .u8 158, .int .u8 255, .int .u8 255] 5) = W28 at hb hr hg hHeld ⊢
        generalize W27.heap.size = g_hb at hb ⊢
        exact rest _ _ _ _ ⟨_, _, _, rfl, rfl, hg, hr, hb⟩
      refine AllReadyH.cons rfl (fun K hK => ?_) AllReadyH.nil
      have hne0 := (World.ownsRow.lt he g_he rfl).2
      go_simp
      try clear hHeld
      have hb := Blk.new W26 5 #[.int .u8 191, .int .u8 158, .int .u8 255, .int .u8 255]
      replace he := he.alloc (.cells #[.int .u8 191, .int .u8 158, .int .u8 255, .int .u8 255] 5)
      replace hg := hg.alloc (.cells #[.int .u8 191, .int .u8 158, .int .u8 255, .int .u8 255] 5)
      refine hK.out _ _ (HS.out _ hg) (fun hHeld => ?_)
      clear hK K
      try simp only [Act.put, List.setIfInBounds_toArray, List.set_cons_zero, List.set_cons_succ]
      generalize W26.alloc (.cells #[.int .u8 191, .int .u8 158, .int .u8 255, .int .u8 255] 5) = W27 at hb he hg hHeld ⊢
      generalize W26.heap.size = g_hb at hb hne0 ⊢
      have hne : g_he ≠ g_hb := by omega
      refine wpAnyH_ready (rs := [41]) (by kernel_rfl) (by simp) ?_
      refine AllReadyH.cons rfl (fun K hK => ?_) AllReadyH.nil
      rw [if_pos (by rfl)]
      refine wp_append_fit (.tmp 66) (.tmp 67) 23 23 (by rfl) w5.heap.size 5 i0 _ 1 1 under_u8s Hi0.out Hz0.out Hz1.out Hz2.out (by rfl) (.slice (some ⟨g_he, 0, none⟩) 0 0) 0 (u8s []) (by rfl) he _ 13 (u8s keyOne) (by rfl) (Src.ofReads under_u8s (HI5.out.grow hg) (u8s_one keyOne)) (fun _ ho => growslice_fits ho (by omega)) (by decide) hg.size ?_
      intro A c W28 hown hgr hob
      try clear hHeld
      simp only [Nat.zero_add] at hown hob ⊢
      have hr : Row W28 w5.heap.size (.slice A 13 c) 13 keyOne := hown
      replace hb := Blk.own hb hgr (fun k e => by have e2 : g_he = k := Option.some.inj e; omega)
      replace hg := hg.grown hgr (fun k e => (World.ownsRow.lt he k e).1)
      refine hK.out _ _ (HS.out _ hg) (fun hHeld => ?_)
      clear hK K he hown hob hgr
      try simp only [Act.put, List.setIfInBounds_toArray, List.set_cons_zero, List.set_cons_succ]
      rw [Array.setIfInBounds_comm (i := 42) (j := 41) _ _ (by decide)]
      exact rest _ _ _ _ ⟨_, _, _, rfl, rfl, hg, hr, hb⟩
    refine AllReadyH.cons rfl (fun K hK => ?_) AllReadyH.nil
    go_simp
    try clear hHeld
    have hb := Blk.new W25 5 #[.int .u8 191, .int .u8 158, .int .u8 255, .int .u8 255]
    replace hg := hg.alloc (.cells #[.int .u8 191, .int .u8 158, .int .u8 255, .int .u8 255] 5)
    refine hK.out _ _ (HS.out _ hg) (fun hHeld => ?_)
    clear hK K
    try simp only [Act.put, List.setIfInBounds_toArray, List.set_cons_zero, List.set_cons_succ]
    generalize W25.alloc (.cells #[.int .u8 191, .int .u8 158, .int .u8 255, .int .u8 255] 5) = W26 at hb hg hHeld ⊢
    generalize W25.heap.size = g_hb at hb ⊢
    have hlt := hb.lt
    refine wpAnyH_ready (rs := [39]) (by kernel_rfl) (by simp) ?_
    refine AllReadyH.cons rfl (fun K hK => ?_) AllReadyH.nil
    go_simp
    try clear hHeld
    have he : Row (W26.alloc (.cells #[] 5)) w5.heap.size (.slice (some ⟨W26.heap.size, 0, none⟩) 0 0) 0 [] := World.ownsRow_made W26 #[] 0 hg.size (by decide) (by simp)
    replace hb := hb.alloc (.cells #[] 5)
    replace hg := hg.alloc (.cells #[] 5)
    refine hK.out _ _ (HS.out _ hg) (fun hHeld => ?_)
    clear hK K
    try simp only [Act.put, List.setIfInBounds_toArray, List.set_cons_zero, List.set_cons_succ]
    have hne : W26.heap.size ≠ g_hb := by have := hlt; omega
    generalize W26.alloc (.cells #[] 5) = W27 at he hb hg hHeld ⊢
    generalize W26.heap.size = g_he at he hne ⊢
    refine wpAnyH_ready (rs := [41]) (by kernel_rfl) (by simp) ?_
    refine AllReadyH.cons rfl (fun K hK => ?_) AllReadyH.nil
    rw [if_pos (by rfl)]
    refine wp_append_fit (.tmp 66) (.tmp 67) 23 23 (by rfl) w5.heap.size 5 i0 _ 1 1 under_u8s Hi0.out Hz0.out Hz1.out Hz2.out (by rfl) (.slice (some ⟨g_he, 0, none⟩) 0 0) 0 (u8s []) (by rfl) he _ 13 (u8s keyOne) (by rfl) (Src.ofReads under_u8s (HI5.out.grow hg) (u8s_one keyOne)) (fun _ ho => growslice_fits ho (by omega)) (by decide) hg.size ?_
    intro A c W28 hown hgr hob
    try clear hHeld
    simp only [Nat.zero_add] at hown hob ⊢
    have hr : Row W28 w5.heap.size (.slice A 13 c) 13 keyOne := hown
    replace hb := Blk.own hb hgr (fun k e => by have e2 : g_he = k := Option.some.inj e; omega)
    replace hg := hg.grown hgr (fun k e => (World.ownsRow.lt he k e).1)
    refine hK.out _ _ (HS.out _ hg) (fun hHeld => ?_)
    clear hK K he hown hob hgr
    try simp only [Act.put, List.setIfInBounds_toArray, List.set_cons_zero, List.set_cons_succ]
    rw [Array.setIfInBounds_comm (i := 42) (j := 39) _ _ (by decide), Array.setIfInBounds_comm (i := 42) (j := 41) _ _ (by decide)]
    exact rest _ _ _ _ ⟨_, _, _, rfl, rfl, hg, hr, hb⟩
  rintro x y z W30 ⟨A, c, h, rfl, rfl, hg2, hr, hb⟩
  clear hg hHeld
  have hg := hg2
  have hHeld := HS.out _ hg
  clear hg2
  try simp only [Act.put, List.setIfInBounds_toArray, List.set_cons_zero, List.set_cons_succ]
  refine wpAnyH_ready (rs := [43]) (by kernel_rfl) (by simp) ?_
  refine AllReadyH.cons rfl (fun K hK => ?_) AllReadyH.nil
  rw [if_pos (by rfl)]
  refine wp_append_fit (.tmp 68) (.tmp 69) 23 23 (by rfl) w5.heap.size 5 i0 _ 1 1 under_u8s Hi0.out Hz0.out Hz1.out Hz2.out (by rfl) (.slice A 13 c) 13 (u8s keyOne) (by rfl) hr _ 4 (u8s [191, 158, 255, 255]) (by rfl) (Src.ofReads under_u8s (InB.blk (xs := [191, 158, 255, 255]) hb) (u8s_one [191, 158, 255, 255])) (fun _ ho => growslice_fits ho (by omega)) (by decide) hg.size ?_
  intro A9 c9 W31 hown hgr hob
  clear hHeld
  have hr9 : Row W31 w5.heap.size (.slice A9 17 c9) 17 (keyOne ++ [191, 158, 255, 255]) := by unfold Row; rw [u8s_append]; exact hown
  replace hg := hg.grown hgr (fun k e => (World.ownsRow.lt hr k e).1)
  have hcv := conv_row hr9
  refine hK.out _ _ (HS.out _ hg) (fun hHeld => ?_)
  clear hK K hown hob hgr hr hb hr9
  try simp only [Act.put, List.setIfInBounds_toArray, List.set_cons_zero, List.set_cons_succ]
  refine wpAnyH_ready (rs := [44]) (by kernel_rfl) (by simp) ?_
  refine AllReadyH.cons rfl (fun K hK => ?_) AllReadyH.nil
  go_simp
  refine hK.out _ _ (HS.out _ hg) (fun hHeld => ?_)
  clear hK K hcv
  try simp only [Act.put, List.setIfInBounds_toArray, List.set_cons_zero, List.set_cons_succ]
  refine wpAnyH_take (i := 45) (v := ?_) (by simp only [List.getElem?_toArray, List.getElem?_cons_succ, List.getElem?_cons_zero]; rfl) (by kernel_rfl) (by kernel_rfl) (by kernel_rfl) (fun _ _ _ h => h) (Or.inl ⟨by rfl, ?_⟩) (by assumption) ?_
  rotate_left 1
  · (intro w hSw; (try dsimp only at hSw); go_simp; try with_reducible rfl)
  try simp only [Act.put, List.setIfInBounds_toArray, List.set_cons_zero, List.set_cons_succ]
  refine wpAnyH_take (i := 46) (v := ?_) (by simp only [List.getElem?_toArray, List.getElem?_cons_succ, List.getElem?_cons_zero]; rfl) (by kernel_rfl) (by kernel_rfl) (by kernel_rfl) (fun _ _ _ h => h) (Or.inl ⟨by rfl, ?_⟩) (by assumption) ?_
  rotate_left 1
  · (intro w hSw; (try dsimp only at hSw); go_simp; try with_reducible rfl)
  try simp only [Act.put, List.setIfInBounds_toArray, List.set_cons_zero, List.set_cons_succ]
  refine wpAnyH_take (i := 47) (v := ?_) (by simp only [List.getElem?_toArray, List.getElem?_cons_succ, List.getElem?_cons_zero]; rfl) (by kernel_rfl) (by kernel_rfl) (by kernel_rfl) (fun _ _ _ h => h) (Or.inl ⟨by rfl, ?_⟩) (by assumption) ?_
  rotate_left 1
  · (intro w hSw; (try dsimp only at hSw); go_simp; try with_reducible rfl)
  try simp only [Act.put, List.setIfInBounds_toArray, List.set_cons_zero, List.set_cons_succ]
  refine wpAnyH_take (i := 48) (v := ?_) (by simp only [List.getElem?_toArray, List.getElem?_cons_succ, List.getElem?_cons_zero]; rfl) (by kernel_rfl) (by kernel_rfl) (by kernel_rfl) (fun _ _ _ h => h) (Or.inl ⟨by rfl, ?_⟩) (by assumption) ?_
  rotate_left 1
  · (intro w hSw; (try dsimp only at hSw); go_simp; try with_reducible rfl)
  try simp only [Act.put, List.setIfInBounds_toArray, List.set_cons_zero, List.set_cons_succ]
  refine wpAnyH_take (i := 49) (v := ?_) (by simp only [List.getElem?_toArray, List.getElem?_cons_succ, List.getElem?_cons_zero]; rfl) (by kernel_rfl) (by kernel_rfl) (by kernel_rfl) (fun _ _ _ h => h) (Or.inl ⟨by rfl, ?_⟩) (by assumption) ?_
  rotate_left 1
  · (intro w hSw; (try dsimp only at hSw); go_simp; try with_reducible rfl)
  try simp only [Act.put, List.setIfInBounds_toArray, List.set_cons_zero, List.set_cons_succ]
  refine wpAnyH_take (i := 50) (v := ?_) (by simp only [List.getElem?_toArray, List.getElem?_cons_succ, List.getElem?_cons_zero]; rfl) (by kernel_rfl) (by kernel_rfl) (by kernel_rfl) (fun _ _ _ h => h) (Or.inl ⟨by rfl, ?_⟩) (by assumption) ?_
  rotate_left 1
  · (intro w hSw; (try dsimp only at hSw); go_simp; try with_reducible rfl)
  try simp only [Act.put, List.setIfInBounds_toArray, List.set_cons_zero, List.set_cons_succ]
  refine wpAnyH_take (i := 51) (v := ?_) (by simp only [List.getElem?_toArray, List.getElem?_cons_succ, List.getElem?_cons_zero]; rfl) (by kernel_rfl) (by kernel_rfl) (by kernel_rfl) (fun _ _ _ h => h) (Or.inl ⟨by rfl, ?_⟩) (by assumption) ?_
  rotate_left 1
  · (intro w hSw; (try dsimp only at hSw); go_simp; try with_reducible rfl)
  try simp only [Act.put, List.setIfInBounds_toArray, List.set_cons_zero, List.set_cons_succ]
  refine wpAnyH_take (i := 52) (v := ?_) (by simp only [List.getElem?_toArray, List.getElem?_cons_succ, List.getElem?_cons_zero]; rfl) (by kernel_rfl) (by kernel_rfl) (by kernel_rfl) (fun _ _ _ h => h) (Or.inl ⟨by rfl, ?_⟩) (by assumption) ?_
  rotate_left 1
  · (intro w hSw; (try dsimp only at hSw); obtain ⟨hSa, hSb⟩ := hSw; go_simp; try with_reducible rfl)
  try simp only [Act.put, List.setIfInBounds_toArray, List.set_cons_zero, List.set_cons_succ]
  refine wpAnyH_take (i := 53) (v := ?_) (by simp only [List.getElem?_toArray, List.getElem?_cons_succ, List.getElem?_cons_zero]; rfl) (by kernel_rfl) (by kernel_rfl) (by kernel_rfl) (fun _ _ _ h => h) (Or.inl ⟨by rfl, ?_⟩) (by assumption) ?_
  rotate_left 1
  · (intro w hSw; (try dsimp only at hSw); go_simp; try with_reducible rfl)
  try simp only [Act.put, List.setIfInBounds_toArray, List.set_cons_zero, List.set_cons_succ]
  refine wpAnyH_take (i := 54) (v := ?_) (by simp only [List.getElem?_toArray, List.getElem?_cons_succ, List.getElem?_cons_zero]; rfl) (by kernel_rfl) (by kernel_rfl) (by kernel_rfl) (fun _ _ _ h => h) (Or.inl ⟨by rfl, ?_⟩) (by assumption) ?_
  rotate_left 1
  · (intro w hSw; (try dsimp only at hSw); go_simp; try with_reducible rfl)
  try simp only [Act.put, List.setIfInBounds_toArray, List.set_cons_zero, List.set_cons_succ]
  refine wpAnyH_take (i := 55) (v := ?_) (by simp only [List.getElem?_toArray, List.getElem?_cons_succ, List.getElem?_cons_zero]; rfl) (by kernel_rfl) (by kernel_rfl) (by kernel_rfl) (fun _ _ _ h => h) (Or.inl ⟨by rfl, ?_⟩) (by assumption) ?_
  rotate_left 1
  · (intro w hSw; (try dsimp only at hSw); go_simp; try with_reducible rfl)
  try simp only [Act.put, List.setIfInBounds_toArray, List.set_cons_zero, List.set_cons_succ]
  refine wpAnyH_take (i := 56) (v := ?_) (by simp only [List.getElem?_toArray, List.getElem?_cons_succ, List.getElem?_cons_zero]; rfl) (by kernel_rfl) (by kernel_rfl) (by kernel_rfl) (fun _ _ _ h => h) (Or.inl ⟨by rfl, ?_⟩) (by assumption) ?_
  rotate_left 1
  · (intro w hSw; (try dsimp only at hSw); go_simp; try with_reducible rfl)
  try simp only [Act.put, List.setIfInBounds_toArray, List.set_cons_zero, List.set_cons_succ]
  refine wpAnyH_take (i := 57) (v := ?_) (by simp only [List.getElem?_toArray, List.getElem?_cons_succ, List.getElem?_cons_zero]; rfl) (by kernel_rfl) (by kernel_rfl) (by kernel_rfl) (fun _ _ _ h => h) (Or.inl ⟨by rfl, ?_⟩) (by assumption) ?_
  rotate_left 1
  · (intro w hSw; (try dsimp only at hSw); go_simp; try with_reducible rfl)
  try simp only [Act.put, List.setIfInBounds_toArray, List.set_cons_zero, List.set_cons_succ]
  refine wpAnyH_take (i := 58) (v := ?_) (by simp only [List.getElem?_toArray, List.getElem?_cons_succ, List.getElem?_cons_zero]; rfl) (by kernel_rfl) (by kernel_rfl) (by kernel_rfl) (fun _ _ _ h => h) (Or.inl ⟨by rfl, ?_⟩) (by assumption) ?_
  rotate_left 1
  · (intro w hSw; (try dsimp only at hSw); go_simp; try with_reducible rfl)
  try simp only [Act.put, List.setIfInBounds_toArray, List.set_cons_zero, List.set_cons_succ]
  refine wpAnyH_take (i := 59) (v := ?_) (by simp only [List.getElem?_toArray, List.getElem?_cons_succ, List.getElem?_cons_zero]; rfl) (by kernel_rfl) (by kernel_rfl) (by kernel_rfl) (fun _ _ _ h => h) (Or.inl ⟨by rfl, ?_⟩) (by assumption) ?_
  rotate_left 1
  · (intro w hSw; (try dsimp only at hSw); go_simp; try with_reducible rfl)
  try simp only [Act.put, List.setIfInBounds_toArray, List.set_cons_zero, List.set_cons_succ]
  refine wpAnyH_done (by kernel_rfl) ?_ _
  refine NoPanic.normal ?_
  go_wp2_with fail
  go_ret
  exact ⟨rfl, HG5.out.trans hg⟩
end Go.Proofs.YticgdjnekbobgaaDoor
