/- Walk of awake of munimentlaw4: a text, there and back. -/
import Derived.Test.YtpjhhkndfmcaoaaDoorKeyPa
import Derived.Test.YtpjhhkndfmcaoaaDoorKeyAP
set_option linter.unusedVariables false
set_option linter.unusedSimpArgs false
namespace Go.Proofs.YtpjhhkndfmcaoaaDoor
open Go.RowKit Go.Shelf Go.WideShapes

theorem awake_back (W : World) (B : Option Addr) (bc : Nat) (hT : Tabs W) (hb : InB W B [64, 97, 0, 0]) (hc : 4 ≤ bc) : Calls Tryd.prog 17 #[.slice B 4 bc] W (KBackC W (some vA)) := by
  have h := kback_any [64, 97, 0, 0] B bc W hb (fun W' F fc hg hb' hf => kparts_any [64, 97, 0, 0] [false] B F bc fc W' (hT.grow hg) hb' hf (by decide) hc (by decide))
  rw [vA_back] at h
  exact h
theorem vA_isK : isK vA [64, 97, 0, 0] = true := by unfold isK; rw [vA_ofK]; rfl

set_option maxRecDepth 100000 in
set_option maxHeartbeats 3200000 in
theorem kawake_any (w : World) (hT : Tabs w) : Calls Tryd.prog 20 #[] w fun e w' => e = .returned (.bool true) ∧ Grow w w' := by
  have HT := hide hT
  have HBK := hide (awake_back (w.alloc (.cells #[.int .u8 64, .int .u8 97, .int .u8 0, .int .u8 0] 5)) (some ⟨w.heap.size, 0, none⟩) 4 (hT.grow ((Grow.refl w).alloc _)) (InB.blk (xs := [64, 97, 0, 0]) (Blk.new w 5 _)) (Nat.le_refl _))
  clear hT
  go_enter Tryd.func20, Tryd.ntmps20
  go_wp2_with fail
  refine HBK.out.mono ?_
  rintro e w1 ⟨hg1, hy1, -⟩
  obtain ⟨c1, rfl, hin1⟩ := hy1 _ rfl
  have HG1 := hide (((Grow.refl w).alloc (.cells #[.int .u8 64, .int .u8 97, .int .u8 0, .int .u8 0] 5)).trans hg1)
  have HI1 := hide hin1
  clear hy1 hg1 hin1 HBK
  go_upto_region 2 with fail
  have hB2 := Blk.new w1 27 c1.cells
  have hS : ∀ w', Grow (w1.alloc (.cells c1.cells 27)) w' → ∀ i, w'.cell? ⟨w1.heap.size, i, none⟩ = c1.cells[i]? := fun w' h => (hB2.grow h).cell
  have HS := hide hS
  have HI2 := hide (HI1.out.grow ((Grow.refl w1).alloc (.cells c1.cells 27)))
  have HG2 := hide (HG1.out.alloc (.cells c1.cells 27))
  have hcv := hB2.cell
  change Code.wp _ _ _ _ (w1.alloc (.cells c1.cells 27))
  generalize hW2 : w1.alloc (.cells c1.cells 27) = W2 at HS HI2 HG2 hcv ⊢
  clear hB2 hS hW2
  refine wp_region_noPanic ?_
  refine wp_region_held_drew (S := fun w' => ∀ i, w'.cell? ⟨w1.heap.size, i, none⟩ = c1.cells[i]?) (by kernel_rfl) ((HS.out _ (Grow.refl _).drew)) (fun hHeld => ?_)
  refine wpAnyH_ready (rs := [0, 1]) (by kernel_rfl) (by simp) ?_
  refine AllReadyH.cons rfl (fun K hK => ?_) ?_
  · go_simp
    refine (T_a _).mono ?_
    rintro e w3 ⟨A, cc, rfl, hin3, hg3⟩
    have hg3' := (Grow.refl W2).drew.trans hg3
    try go_simp
    refine hK.out _ _ (HS.out _ hg3') (fun hHeld => ?_)
    clear hK K
    try simp only [Act.put, List.setIfInBounds_toArray, List.set_cons_zero, List.set_cons_succ]
    refine wpAnyH_ready (rs := [1]) (by kernel_rfl) (by simp) ?_
    refine AllReadyH.cons rfl (fun K hK => ?_) AllReadyH.nil
    go_simp
    have hg4 := hg3'.alloc (.cells #[.int .u8 64, .int .u8 97, .int .u8 0, .int .u8 0] 5)
    refine hK.out _ _ (HS.out _ hg4) (fun hHeld => ?_)
    clear hK K
    try simp only [Act.put, List.setIfInBounds_toArray, List.set_cons_zero, List.set_cons_succ]
    refine wpAnyH_ready (rs := [2]) (by kernel_rfl) (by simp) ?_
    refine AllReadyH.cons rfl (fun K hK => ?_) AllReadyH.nil
    go_simp
    refine (is_any vA ⟨5, 0, A, 1, cc, none, 0, 0, none, 0, 0⟩ [64, 97, 0, 0] (some ⟨w3.heap.size, 0, none⟩) 4 _ vA_fit (by rw [vA_count]; decide) (HT.out.grow (HG2.out.trans hg4)) (hin3.grow ((Grow.refl w3).alloc _)) (InB.blk (xs := [64, 97, 0, 0]) (Blk.new w3 5 _))).mono ?_
    rintro e w5 ⟨rfl, hg5'⟩
    rw [vA_isK]
    have hg5 := hg4.trans hg5'
    try go_simp
    refine hK.out _ _ (HS.out _ hg5) (fun hHeld => ?_)
    clear hK K
    try simp only [Act.put, List.setIfInBounds_toArray, List.set_cons_zero, List.set_cons_succ]
    refine wpAnyH_take (i := 3) (v := ?_) (by simp only [List.getElem?_toArray, List.getElem?_cons_succ, List.getElem?_cons_zero]; rfl) (by kernel_rfl) (by kernel_rfl) (by kernel_rfl) (fun _ _ _ h => h) (Or.inl ⟨by rfl, ?_⟩) (by assumption) ?_
    rotate_left 1
    · (intro w hSw; (try dsimp only at hSw); go_simp; try with_reducible rfl)
    try simp only [Act.put, List.setIfInBounds_toArray, List.set_cons_zero, List.set_cons_succ]
    refine wpAnyH_take (i := 4) (v := ?_) (by simp only [List.getElem?_toArray, List.getElem?_cons_succ, List.getElem?_cons_zero]; rfl) (by kernel_rfl) (by kernel_rfl) (by kernel_rfl) (fun _ _ _ h => h) (Or.inl ⟨by rfl, ?_⟩) (by assumption) ?_
    rotate_left 1
    · (intro w hSw; (try dsimp only at hSw); go_simp; try with_reducible rfl)
    try simp only [Act.put, List.setIfInBounds_toArray, List.set_cons_zero, List.set_cons_succ]
    refine wpAnyH_take (i := 5) (v := ?_) (by simp only [List.getElem?_toArray, List.getElem?_cons_succ, List.getElem?_cons_zero]; rfl) (by kernel_rfl) (by kernel_rfl) (by kernel_rfl) (fun _ _ _ h => h) (Or.inl ⟨by rfl, ?_⟩) (by assumption) ?_
    rotate_left 1
    · (intro w hSw; (try dsimp only at hSw); go_simp; try with_reducible rfl)
    try simp only [Act.put, List.setIfInBounds_toArray, List.set_cons_zero, List.set_cons_succ]
    refine wpAnyH_take (i := 6) (v := ?_) (by simp only [List.getElem?_toArray, List.getElem?_cons_succ, List.getElem?_cons_zero]; rfl) (by kernel_rfl) (by kernel_rfl) (by kernel_rfl) (fun _ _ _ h => h) (Or.inl ⟨by rfl, ?_⟩) (by assumption) ?_
    rotate_left 1
    · (intro w hSw; (try dsimp only at hSw); go_simp; try with_reducible rfl)
    try simp only [Act.put, List.setIfInBounds_toArray, List.set_cons_zero, List.set_cons_succ]
    refine wpAnyH_take (i := 7) (v := ?_) (by simp only [List.getElem?_toArray, List.getElem?_cons_succ, List.getElem?_cons_zero]; rfl) (by kernel_rfl) (by kernel_rfl) (by kernel_rfl) (fun _ _ _ h => h) (Or.inl ⟨by rfl, ?_⟩) (by assumption) ?_
    rotate_left 1
    · (intro w hSw; (try dsimp only at hSw); go_simp; try with_reducible rfl)
    try simp only [Act.put, List.setIfInBounds_toArray, List.set_cons_zero, List.set_cons_succ]
    refine wpAnyH_take (i := 8) (v := ?_) (by simp only [List.getElem?_toArray, List.getElem?_cons_succ, List.getElem?_cons_zero]; rfl) (by kernel_rfl) (by kernel_rfl) (by kernel_rfl) (fun _ _ _ h => h) (Or.inl ⟨by rfl, ?_⟩) (by assumption) ?_
    rotate_left 1
    · (intro w hSw; (try dsimp only at hSw); go_simp; try with_reducible rfl)
    try simp only [Act.put, List.setIfInBounds_toArray, List.set_cons_zero, List.set_cons_succ]
    have hcv5 := HS.out _ hg5
    refine wpAnyH_ready (rs := [9]) (by kernel_rfl) (by simp) ?_
    refine AllReadyH.cons rfl (fun K hK => ?_) AllReadyH.nil
    go_simp
    refine (T_a _).mono ?_
    rintro e w6 ⟨A6, c6, rfl, hin6, hg6⟩
    have hg6' := hg5.trans hg6
    try go_simp
    refine hK.out _ _ (HS.out _ hg6') (fun hHeld => ?_)
    clear hK K
    try simp only [Act.put, List.setIfInBounds_toArray, List.set_cons_zero, List.set_cons_succ]
    refine wpAnyH_ready (rs := [10]) (by kernel_rfl) (by simp) ?_
    refine AllReadyH.cons rfl (fun K hK => ?_) AllReadyH.nil
    go_simp
    refine (same_any vA vA _ c1 ⟨5, 0, A6, 1, c6, none, 0, 0, none, 0, 0⟩ (HI2.out.grow hg6') hin6).mono ?_
    rintro e w7 ⟨rfl, hg7⟩
    rw [sameB_self]
    have hg7' := hg6'.trans hg7
    try go_simp
    refine hK.out _ _ (HS.out _ hg7') (fun hHeld => ?_)
    clear hK K
    try simp only [Act.put, List.setIfInBounds_toArray, List.set_cons_zero, List.set_cons_succ]
    refine wpAnyH_take (i := 11) (v := ?_) (by simp only [List.getElem?_toArray, List.getElem?_cons_succ, List.getElem?_cons_zero]; rfl) (by kernel_rfl) (by kernel_rfl) (by kernel_rfl) (fun _ _ _ h => h) (Or.inl ⟨by rfl, ?_⟩) (by assumption) ?_
    rotate_left 1
    · (intro w hSw; (try dsimp only at hSw); go_simp; try with_reducible rfl)
    try simp only [Act.put, List.setIfInBounds_toArray, List.set_cons_zero, List.set_cons_succ]
    refine wpAnyH_take (i := 12) (v := ?_) (by simp only [List.getElem?_toArray, List.getElem?_cons_succ, List.getElem?_cons_zero]; rfl) (by kernel_rfl) (by kernel_rfl) (by kernel_rfl) (fun _ _ _ h => h) (Or.inl ⟨by rfl, ?_⟩) (by assumption) ?_
    rotate_left 1
    · (intro w hSw; (try dsimp only at hSw); go_simp; try with_reducible rfl)
    try simp only [Act.put, List.setIfInBounds_toArray, List.set_cons_zero, List.set_cons_succ]
    refine wpAnyH_done (by kernel_rfl) ?_ _
    refine NoPanic.normal ?_
    go_wp2_with fail
    go_ret
    exact ⟨rfl, HG2.out.trans hg7'⟩
  refine AllReadyH.cons rfl (fun K hK => ?_) AllReadyH.nil
  go_simp
  have hg3 := (Grow.refl W2).drew.alloc (.cells #[.int .u8 64, .int .u8 97, .int .u8 0, .int .u8 0] 5)
  refine hK.out _ _ (HS.out _ hg3) (fun hHeld => ?_)
  clear hK K
  try simp only [Act.put, List.setIfInBounds_toArray, List.set_cons_zero, List.set_cons_succ]
  refine wpAnyH_ready (rs := [0]) (by kernel_rfl) (by simp) ?_
  refine AllReadyH.cons rfl (fun K hK => ?_) AllReadyH.nil
  go_simp
  refine (T_a _).mono ?_
  rintro e w3 ⟨A, cc, rfl, hin3, hg3b⟩
  have hg3' := hg3.trans hg3b
  try go_simp
  refine hK.out _ _ (HS.out _ hg3') (fun hHeld => ?_)
  clear hK K
  try simp only [Act.put, List.setIfInBounds_toArray, List.set_cons_zero, List.set_cons_succ]
  refine wpAnyH_ready (rs := [2]) (by kernel_rfl) (by simp) ?_
  refine AllReadyH.cons rfl (fun K hK => ?_) AllReadyH.nil
  go_simp
  refine (is_any vA ⟨5, 0, A, 1, cc, none, 0, 0, none, 0, 0⟩ [64, 97, 0, 0] (some ⟨W2.heap.size, 0, none⟩) 4 _ vA_fit (by rw [vA_count]; decide) (HT.out.grow (HG2.out.trans hg3')) hin3 (InB.grow (InB.blk (xs := [64, 97, 0, 0]) (Blk.new W2.drew 5 _)) hg3b)).mono ?_
  rintro e w5 ⟨rfl, hg5'⟩
  rw [vA_isK]
  have hg5 := hg3'.trans hg5'
  try go_simp
  refine hK.out _ _ (HS.out _ hg5) (fun hHeld => ?_)
  clear hK K
  try simp only [Act.put, List.setIfInBounds_toArray, List.set_cons_zero, List.set_cons_succ]
  refine wpAnyH_take (i := 3) (v := ?_) (by simp only [List.getElem?_toArray, List.getElem?_cons_succ, List.getElem?_cons_zero]; rfl) (by kernel_rfl) (by kernel_rfl) (by kernel_rfl) (fun _ _ _ h => h) (Or.inl ⟨by rfl, ?_⟩) (by assumption) ?_
  rotate_left 1
  · (intro w hSw; (try dsimp only at hSw); go_simp; try with_reducible rfl)
  try simp only [Act.put, List.setIfInBounds_toArray, List.set_cons_zero, List.set_cons_succ]
  refine wpAnyH_take (i := 4) (v := ?_) (by simp only [List.getElem?_toArray, List.getElem?_cons_succ, List.getElem?_cons_zero]; rfl) (by kernel_rfl) (by kernel_rfl) (by kernel_rfl) (fun _ _ _ h => h) (Or.inl ⟨by rfl, ?_⟩) (by assumption) ?_
  rotate_left 1
  · (intro w hSw; (try dsimp only at hSw); go_simp; try with_reducible rfl)
  try simp only [Act.put, List.setIfInBounds_toArray, List.set_cons_zero, List.set_cons_succ]
  refine wpAnyH_take (i := 5) (v := ?_) (by simp only [List.getElem?_toArray, List.getElem?_cons_succ, List.getElem?_cons_zero]; rfl) (by kernel_rfl) (by kernel_rfl) (by kernel_rfl) (fun _ _ _ h => h) (Or.inl ⟨by rfl, ?_⟩) (by assumption) ?_
  rotate_left 1
  · (intro w hSw; (try dsimp only at hSw); go_simp; try with_reducible rfl)
  try simp only [Act.put, List.setIfInBounds_toArray, List.set_cons_zero, List.set_cons_succ]
  refine wpAnyH_take (i := 6) (v := ?_) (by simp only [List.getElem?_toArray, List.getElem?_cons_succ, List.getElem?_cons_zero]; rfl) (by kernel_rfl) (by kernel_rfl) (by kernel_rfl) (fun _ _ _ h => h) (Or.inl ⟨by rfl, ?_⟩) (by assumption) ?_
  rotate_left 1
  · (intro w hSw; (try dsimp only at hSw); go_simp; try with_reducible rfl)
  try simp only [Act.put, List.setIfInBounds_toArray, List.set_cons_zero, List.set_cons_succ]
  refine wpAnyH_take (i := 7) (v := ?_) (by simp only [List.getElem?_toArray, List.getElem?_cons_succ, List.getElem?_cons_zero]; rfl) (by kernel_rfl) (by kernel_rfl) (by kernel_rfl) (fun _ _ _ h => h) (Or.inl ⟨by rfl, ?_⟩) (by assumption) ?_
  rotate_left 1
  · (intro w hSw; (try dsimp only at hSw); go_simp; try with_reducible rfl)
  try simp only [Act.put, List.setIfInBounds_toArray, List.set_cons_zero, List.set_cons_succ]
  refine wpAnyH_take (i := 8) (v := ?_) (by simp only [List.getElem?_toArray, List.getElem?_cons_succ, List.getElem?_cons_zero]; rfl) (by kernel_rfl) (by kernel_rfl) (by kernel_rfl) (fun _ _ _ h => h) (Or.inl ⟨by rfl, ?_⟩) (by assumption) ?_
  rotate_left 1
  · (intro w hSw; (try dsimp only at hSw); go_simp; try with_reducible rfl)
  try simp only [Act.put, List.setIfInBounds_toArray, List.set_cons_zero, List.set_cons_succ]
  have hcv5 := HS.out _ hg5
  refine wpAnyH_ready (rs := [9]) (by kernel_rfl) (by simp) ?_
  refine AllReadyH.cons rfl (fun K hK => ?_) AllReadyH.nil
  go_simp
  refine (T_a _).mono ?_
  rintro e w6 ⟨A6, c6, rfl, hin6, hg6⟩
  have hg6' := hg5.trans hg6
  try go_simp
  refine hK.out _ _ (HS.out _ hg6') (fun hHeld => ?_)
  clear hK K
  try simp only [Act.put, List.setIfInBounds_toArray, List.set_cons_zero, List.set_cons_succ]
  refine wpAnyH_ready (rs := [10]) (by kernel_rfl) (by simp) ?_
  refine AllReadyH.cons rfl (fun K hK => ?_) AllReadyH.nil
  go_simp
  refine (same_any vA vA _ c1 ⟨5, 0, A6, 1, c6, none, 0, 0, none, 0, 0⟩ (HI2.out.grow hg6') hin6).mono ?_
  rintro e w7 ⟨rfl, hg7⟩
  rw [sameB_self]
  have hg7' := hg6'.trans hg7
  try go_simp
  refine hK.out _ _ (HS.out _ hg7') (fun hHeld => ?_)
  clear hK K
  try simp only [Act.put, List.setIfInBounds_toArray, List.set_cons_zero, List.set_cons_succ]
  refine wpAnyH_take (i := 11) (v := ?_) (by simp only [List.getElem?_toArray, List.getElem?_cons_succ, List.getElem?_cons_zero]; rfl) (by kernel_rfl) (by kernel_rfl) (by kernel_rfl) (fun _ _ _ h => h) (Or.inl ⟨by rfl, ?_⟩) (by assumption) ?_
  rotate_left 1
  · (intro w hSw; (try dsimp only at hSw); go_simp; try with_reducible rfl)
  try simp only [Act.put, List.setIfInBounds_toArray, List.set_cons_zero, List.set_cons_succ]
  refine wpAnyH_take (i := 12) (v := ?_) (by simp only [List.getElem?_toArray, List.getElem?_cons_succ, List.getElem?_cons_zero]; rfl) (by kernel_rfl) (by kernel_rfl) (by kernel_rfl) (fun _ _ _ h => h) (Or.inl ⟨by rfl, ?_⟩) (by assumption) ?_
  rotate_left 1
  · (intro w hSw; (try dsimp only at hSw); go_simp; try with_reducible rfl)
  try simp only [Act.put, List.setIfInBounds_toArray, List.set_cons_zero, List.set_cons_succ]
  refine wpAnyH_done (by kernel_rfl) ?_ _
  refine NoPanic.normal ?_
  go_wp2_with fail
  go_ret
  exact ⟨rfl, HG2.out.trans hg7'⟩
end Go.Proofs.YtpjhhkndfmcaoaaDoor
