/- The law ValSizes holds: a list's size is 2 and its values' sizes; a document's 2 and its names' and values' and one each; a path of digits finds a list's values one by one. -/
import Derived.Test.YtcdbchifigonpaaDoorSizeP
import Derived.Test.YtcdbchifigonpaaDoorWithW
import Derived.Test.YtcdbchifigonpaaDoorAwake
import Derived.Test.YtcdbchifigonpaaDoorPathAt
import Derived.Deep.RegionHeld3
import Derived.Deep.RegionLaw
import Derived.Deep.DeepCutAuto
set_option linter.unusedVariables false
set_option linter.unusedSimpArgs false
namespace Go.Proofs.YtcdbchifigonpaaDoor
open Go.RowKit Go.Shelf

/-- Texts lie in the world. -/
def InSs (w : World) (B : Option Addr) (ns : List ByteArray) : Prop :=
  ∀ i (h : i < ns.length), ∃ bk o, B = some ⟨bk, o, none⟩ ∧ AtW w 0 w.heap.size ⟨bk, o + i, none⟩ (.string ns[i]) ∧ ns[i].size ≤ 140737488355328
theorem InSs.grow {w w' : World} {B : Option Addr} {ns : List ByteArray} (h : InSs w B ns) (hg : Grow w w') : InSs w' B ns := fun i hi => by
  obtain ⟨bk, o, hb, h0, hz⟩ := h i hi
  exact ⟨bk, o, hb, AtW.below hg.below (Nat.le_refl _) (Nat.le_refl _) hg.size _ _ h0, hz⟩
theorem dg1_size (n : Nat) : (dg1 n).size ≤ 10 := by
  rw [dg1, ByteArray.size_extract]
  have : tenD.size = 10 := rfl
  omega
theorem digits1 (n : Nat) (k : Int) (w : World) (h : n < 10) (hk : k = n) : Calls Tryd.prog 16 #[.int .i64 k] w fun e w' => e = .returned (.string (dg1 n)) ∧ w = w' := by
  subst hk
  go_enter Tryd.func16, Tryd.ntmps16
  go_wp2_with fail
  go_ret
  exact ⟨rfl, rfl⟩
theorem digits_any (n : Nat) (k : Int) (w : World) (h : n < 100) (hk : k = n) : Calls Tryd.prog 16 #[.int .i64 k] w fun e w' => e = .returned (.string (dg n)) ∧ w = w' := by
  by_cases h10 : n < 10
  · rw [dg, if_pos h10]
    exact digits1 n k w h10 hk
  · rw [dg, if_neg h10]
    subst hk
    have hz1 := dg1_size (n / 10)
    have hz2 := dg1_size (n % 10)
    have HC1 := hide (fun k hk => digits1 (n / 10) k w (by omega) hk)
    have HC2 := hide (fun k hk => digits1 (n % 10) k w (by omega) hk)
    go_enter Tryd.func16, Tryd.ntmps16
    go_wp2_with fail
    refine (HC1.out _ (by omega)).mono ?_
    rintro e w1 ⟨rfl, rfl⟩
    go_wp2_with fail
    refine (HC2.out _ (by omega)).mono ?_
    rintro e w1 ⟨rfl, rfl⟩
    go_wp2_with fail
    go_ret
    exact ⟨rfl, rfl⟩
set_option maxRecDepth 100000 in
set_option maxHeartbeats 1600000 in
theorem sizes_any (l : List V) (ns : List ByteArray) (A B : Option Addr) (cap bc : Nat) (w : World) (hT : Tabs w) (hM : Len1 w) (hin : InL w A cap l) (hns : InSs w B ns) (hnl : ns.length ≤ 140737488355328) :
    Calls Tryd.prog 4 #[.slice A l.length cap, .slice B ns.length bc] w fun e w' => e = .returned (.bool true) ∧ Grow w w' := by
  have HT := hide hT
  have HM := hide hM
  have HIN := hide hin
  have HNS := hide hns
  clear hT hM hin hns
  go_enter Tryd.func4, Tryd.ntmps4
  go_wp2_with fail
  refine (awake_any _ HT.out).mono ?_
  rintro e w1 ⟨rfl, hg1⟩
  have HG1 := hide hg1
  clear hg1
  go_wp2_with fail
  refine (vast_any l A cap w1 (HIN.out.grow HG1.out)).mono ?_
  rintro e w2 ⟨rfl, hg2⟩
  have HG2 := hide (HG1.out.trans hg2)
  clear hg2
  by_cases hbig : 20000 ≤ (l.map V.count).sum
  · rw [decide_eq_true hbig]
    go_wp2_with fail
    go_ret
    exact ⟨rfl, HG2.out⟩
  rw [decide_eq_false hbig]
  have HC := hide (show (V.mk 7 0 [] l []).count ≤ 20000 by rw [V.count_mk]; simp; omega)
  have HSUM := hide (show (l.map V.count).sum < 20000 by omega)
  have HLC := hide (show ∀ i (hi : i < l.length), l[i].count ≤ 20000 from fun i hi => by have := sum_mem V.count l _ (List.getElem_mem hi); omega)
  have HLB := hide (Blk.new w2 37 (lcv A l.length cap).cells)
  have HG3 := hide (HG2.out.alloc (.cells (lcv A l.length cap).cells 37))
  have HL3 := hide (HIN.out.grow HG3.out)
  clear hbig
  go_wp2_with fail
  refine (size_top (.mk 7 0 [] l []) _ (lcv A l.length cap) HC.out (HT.out.grow HG3.out) HL3.out).mono ?_
  rintro e w3 ⟨rfl, hg3⟩
  have HG4 := hide (HG3.out.trans hg3)
  have HLB4 := hide (HLB.out.grow hg3)
  have HL4 := hide (HL3.out.grow hg3)
  obtain ⟨G, hG⟩ : ∃ G, (V.mk 7 0 [] l []).good = G := ⟨_, rfl⟩
  rw [hG, sizeL_all]
  obtain ⟨N, hN⟩ : ∃ N : Int, (if G = 0 then (sizeL l : Int) else 0) = N := ⟨_, rfl⟩
  rw [hN]
  have HNN := hide hN
  have HGD := hide hG
  clear hN
  clear hg3 hG HLB HL3 HG3
  go_upto_if 38 with fail
  go_cut [] (fun wx => Grow w wx)
  case first =>
    by_cases g0 : G = 0
    · subst g0
      have hz0 : sizeL l ≤ 4096 := by rw [← sizeL_all]; exact (V.good_formed HGD.out).2
      have hl64 : l.length ≤ 64 := list_len HGD.out
      obtain ⟨Z, hZ⟩ : ∃ Z, sizeL l = Z := ⟨_, rfl⟩
      rw [hZ] at hz0
      have HZ := hide hZ
      obtain rfl : N = (Z : Int) := by rw [← HNN.out, if_pos rfl, hZ]
      clear hZ HNN
      go_wp2_with fail
      go_loopg [8, 9] (l.length + 1) (fun gk s i wr => ∃ j z : Nat, j ≤ l.length ∧ gk + j = l.length + 1 ∧ i = .int .i64 j ∧ s = .int .i64 z ∧ z = sizeL (l.take j) ∧ z ≤ 4096 ∧ Grow w3 wr)
      case atStart => exact ⟨0, 2, by omega, by omega, rfl, rfl, rfl, by omega, Grow.refl _⟩
      case round =>
        obtain ⟨j, z, hj, hgk, rfl, rfl, hzj, hz4, hwr⟩ := hrel
        have HZJ := hide hzj
        have HWR := hide hwr
        have HGR := hide (HG4.out.trans hwr)
        have HBR := hide (HLB4.out.grow hwr)
        clear hzj hwr
        obtain ⟨gk', rfl⟩ : ∃ g, gk = g + 1 := ⟨gk - 1, by omega⟩
        by_cases hlt : j < l.length
        · obtain ⟨bk, o, x, ha, hbk, e0, e1, e2, e3, e4, hx⟩ := (HL4.out.grow HWR.out).elemL j hlt
          dsimp only at ha
          subst ha
          have HX := hide hx
          have HSX0 := hide (show ∀ w', Grow wr w' → w'.cell? ⟨bk, o + j * 5, none⟩ = some (.int .i64 x.k) ∧ w'.cell? ⟨bk, o + j * 5 + 1, none⟩ = some (.int .u64 x.n) ∧ w'.cell? ⟨bk, o + j * 5 + 2, none⟩ = some (.slice x.aB x.nB x.cB) ∧ w'.cell? ⟨bk, o + j * 5 + 3, none⟩ = some (.slice x.aL x.nL x.cL) ∧ w'.cell? ⟨bk, o + j * 5 + 4, none⟩ = some (.slice x.aF x.nF x.cF) from fun w' h => ⟨(h.below.cell hbk).trans e0, (h.below.cell hbk).trans e1, (h.below.cell hbk).trans e2, (h.below.cell hbk).trans e3, (h.below.cell hbk).trans e4⟩)
          obtain ⟨u, hu⟩ : ∃ u, l[j] = u := ⟨_, rfl⟩
          have hst : sizeL (l.take (j + 1)) = z + u.bytes.length := by rw [sizeL_snoc hlt, ← HZJ.out, hu]
          have hle : z + u.bytes.length ≤ 4096 := by have := sizeL_le l (j + 1); have := HZ.out; omega
          have HU := hide hu
          have HUG := hide (show u.good = 0 by rw [← hu]; exact list_good HGD.out hlt)
          have HUC := hide (show u.count ≤ 20000 by rw [← hu]; exact HLC.out j hlt)
          obtain ⟨k, hk⟩ : ∃ k, u.bytes.length = k := ⟨_, rfl⟩
          rw [hk] at hst hle
          have HK := hide hk
          have HST := hide hst
          rw [hu] at HX
          clear hx hu hk hst
          go_wp2_with fail
          refine (size_top u wr x HUC.out (HT.out.grow HGR.out) HX.out).mono ?_
          rintro e w5 ⟨rfl, hg5⟩
          rw [if_pos HUG.out, HUG.out, HK.out]
          have HG5 := hide (HWR.out.trans hg5)
          have HW5 := hide hg5
          have HBR5 := hide (HBR.out.grow hg5)
          have HX5 := hide (HX.out.grow hg5)
          clear hg5 e0 e1 e2 e3 e4 hbk HBR
          have HBR := HBR5
          have hpw : (dg j).size < 4294967281 := by have := (dg_ix (n := j) (by omega)).2.2.1; omega
          have HP1 := hide (vpath_any (.mk 7 0 [] l []) (dg j) (lcv (some ⟨bk, o, none⟩) l.length cap) w5.drew (HT.out.grow (HG4.out.trans HG5.out.drew)) (HM.out.grow (HG4.out.trans HG5.out.drew)) HC.out hpw (HL4.out.grow HG5.out.drew))
          have HP2 := hide (vpath_any (.mk 7 0 [] l []) (dg j) (lcv (some ⟨bk, o, none⟩) l.length cap) (w5.drew.alloc (.cells Cv.zero.cells 37)) (HT.out.grow (HG4.out.trans (HG5.out.drew.alloc _))) (HM.out.grow (HG4.out.trans (HG5.out.drew.alloc _))) HC.out hpw (HL4.out.grow (HG5.out.drew.alloc _)))
          have HDR := hide ((Grow.refl w5).drew)
          have HZ2 := hide (show Blk (w5.drew.alloc (.cells Cv.zero.cells 37)) w5.heap.size 37 Cv.zero.cells from Blk.new w5.drew 37 Cv.zero.cells)
          have HZO := HZ
          clear HZ hpw
          have HZ := HZ2
          go_upto_region 13 with fail
          go_cut [12, 13] (fun p t wx => PathAt w5 (pathV (.mk 7 0 [] l []) (dg j)) p t wx)
          case first =>
            refine wp_region_noPanic ?_
            refine wp_region_held_drew (S := fun w' => ∀ i, w'.cell? ⟨w2.heap.size, i, none⟩ = (lcv (some ⟨bk, o, none⟩) l.length cap).cells[i]?) (by kernel_rfl) ((HBR.out.drew).cell) (fun hHeld => ?_)
            refine wpAnyH_take (i := 0) (v := ?_) (by simp only [List.getElem?_toArray, List.getElem?_cons_succ, List.getElem?_cons_zero]; rfl) (by kernel_rfl) (by kernel_rfl) (by kernel_rfl) (fun _ _ _ h => h) (Or.inl ⟨by rfl, ?_⟩) (by assumption) ?_
            rotate_left 1
            · (intro w hSw; (try dsimp only at hSw); go_simp; try with_reducible rfl)
            try simp only [Act.put, List.setIfInBounds_toArray, List.set_cons_zero, List.set_cons_succ]
            refine wpAnyH_take (i := 1) (v := ?_) (by simp only [List.getElem?_toArray, List.getElem?_cons_succ, List.getElem?_cons_zero]; rfl) (by kernel_rfl) (by kernel_rfl) (by kernel_rfl) (fun _ _ _ h => h) (Or.inl ⟨by rfl, ?_⟩) (by assumption) ?_
            rotate_left 1
            · (intro w hSw; (try dsimp only at hSw); go_simp; try with_reducible rfl)
            try simp only [Act.put, List.setIfInBounds_toArray, List.set_cons_zero, List.set_cons_succ]
            refine wpAnyH_ready (rs := [2, 7]) (by kernel_rfl) (by simp) ?_
            refine AllReadyH.cons rfl (fun K hK => ?_) ?_
            · go_simp
              refine (digits_any j _ _ (by omega) rfl).mono ?_
              rintro e w' ⟨rfl, rfl⟩
              try go_simp
              refine hK.out _ _ ((HBR.out.drew).cell) (fun hHeld => ?_)
              clear hK K
              try simp only [Act.put, List.setIfInBounds_toArray, List.set_cons_zero, List.set_cons_succ]
              refine wpAnyH_ready (rs := [3, 7]) (by kernel_rfl) (by simp) ?_
              refine AllReadyH.cons rfl (fun K hK => ?_) ?_
              · go_simp
                refine HP1.out.mono ?_
                rintro e w4 ⟨hg4, ch, th, uh, rfl, hh, hhp⟩
                try go_simp
                refine hK.out _ _ ((HBR.out.drew.grow hg4).cell) (fun hHeld => ?_)
                clear hK K
                try simp only [Act.put, List.setIfInBounds_toArray, List.set_cons_zero, List.set_cons_succ]
                refine wpAnyH_take (i := 4) (v := ?_) (by simp only [List.getElem?_toArray, List.getElem?_cons_succ, List.getElem?_cons_zero]; rfl) (by kernel_rfl) (by kernel_rfl) (by kernel_rfl) (fun _ _ _ h => h) (Or.inl ⟨by rfl, ?_⟩) (by assumption) ?_
                rotate_left 1
                · (intro w hSw; (try dsimp only at hSw); go_simp; try with_reducible rfl)
                try simp only [Act.put, List.setIfInBounds_toArray, List.set_cons_zero, List.set_cons_succ]
                refine wpAnyH_take (i := 5) (v := ?_) (by simp only [List.getElem?_toArray, List.getElem?_cons_succ, List.getElem?_cons_zero]; rfl) (by kernel_rfl) (by kernel_rfl) (by kernel_rfl) (fun _ _ _ h => h) (Or.inl ⟨by rfl, ?_⟩) (by assumption) ?_
                rotate_left 1
                · (intro w hSw; (try dsimp only at hSw); go_simp; try with_reducible rfl)
                try simp only [Act.put, List.setIfInBounds_toArray, List.set_cons_zero, List.set_cons_succ]
                refine wpAnyH_take (i := 6) (v := ?_) (by simp only [List.getElem?_toArray, List.getElem?_cons_succ, List.getElem?_cons_zero]; rfl) (by kernel_rfl) (by kernel_rfl) (by kernel_rfl) (fun _ _ _ h => h) (Or.inl ⟨by rfl, ?_⟩) (by assumption) ?_
                rotate_left 1
                · (intro w hSw; (try dsimp only at hSw); go_simp; try with_reducible rfl)
                try simp only [Act.put, List.setIfInBounds_toArray, List.set_cons_zero, List.set_cons_succ]
                refine wpAnyH_ready (rs := [7]) (by kernel_rfl) (by simp) ?_
                refine AllReadyH.cons rfl (fun K hK => ?_) AllReadyH.nil
                go_simp
                try go_simp
                refine hK.out _ _ (((HBR.out.drew.grow hg4).alloc _).cell) (fun hHeld => ?_)
                clear hK K
                try simp only [Act.put, List.setIfInBounds_toArray, List.set_cons_zero, List.set_cons_succ]
                refine wpAnyH_ready (rs := [8]) (by kernel_rfl) (by simp) ?_
                refine AllReadyH.cons rfl (fun K hK => ?_) AllReadyH.nil
                go_simp
                try go_simp
                refine hK.out _ _ (((HBR.out.drew.grow hg4).alloc _).cell) (fun hHeld => ?_)
                clear hK K
                try simp only [Act.put, List.setIfInBounds_toArray, List.set_cons_zero, List.set_cons_succ]
                refine wpAnyH_take (i := 9) (v := ?_) (by simp only [List.getElem?_toArray, List.getElem?_cons_succ, List.getElem?_cons_zero]; rfl) (by kernel_rfl) (by kernel_rfl) (by kernel_rfl) (fun _ _ _ h => h) (Or.inl ⟨by rfl, ?_⟩) (by assumption) ?_
                rotate_left 1
                · (intro w hSw; (try dsimp only at hSw); go_simp; try with_reducible rfl)
                try simp only [Act.put, List.setIfInBounds_toArray, List.set_cons_zero, List.set_cons_succ]
                refine wpAnyH_done (by kernel_rfl) ?_ _
                refine NoPanic.normal ?_
                go_wp2_with fail
                go_meet
                exact PathAt.late HDR.out hg4 hh hhp
              refine AllReadyH.cons rfl (fun K hK => ?_) AllReadyH.nil
              go_simp
              try go_simp
              refine hK.out _ _ ((HBR.out.drew.alloc _).cell) (fun hHeld => ?_)
              clear hK K
              try simp only [Act.put, List.setIfInBounds_toArray, List.set_cons_zero, List.set_cons_succ]
              refine wpAnyH_ready (rs := [3]) (by kernel_rfl) (by simp) ?_
              refine AllReadyH.cons rfl (fun K hK => ?_) AllReadyH.nil
              go_simp
              refine HP2.out.mono ?_
              rintro e w4 ⟨hg4, ch, th, uh, rfl, hh, hhp⟩
              have hB4 := HZ.out.grow hg4
              have hc4 := hB4.cell
              have hlt4 := hB4.lt
              have hz4 := hB4.frozen
              try go_simp
              refine hK.out _ _ (((HBR.out.drew.alloc _).grow hg4).cell) (fun hHeld => ?_)
              clear hK K
              try simp only [Act.put, List.setIfInBounds_toArray, List.set_cons_zero, List.set_cons_succ]
              refine wpAnyH_take (i := 4) (v := ?_) (by simp only [List.getElem?_toArray, List.getElem?_cons_succ, List.getElem?_cons_zero]; rfl) (by kernel_rfl) (by kernel_rfl) (by kernel_rfl) (fun _ _ _ h => h) (Or.inl ⟨by rfl, ?_⟩) (by assumption) ?_
              rotate_left 1
              · (intro w hSw; (try dsimp only at hSw); go_simp; try with_reducible rfl)
              try simp only [Act.put, List.setIfInBounds_toArray, List.set_cons_zero, List.set_cons_succ]
              refine wpAnyH_take (i := 5) (v := ?_) (by simp only [List.getElem?_toArray, List.getElem?_cons_succ, List.getElem?_cons_zero]; rfl) (by kernel_rfl) (by kernel_rfl) (by kernel_rfl) (fun _ _ _ h => h) (Or.inl ⟨by rfl, ?_⟩) (by assumption) ?_
              rotate_left 1
              · (intro w hSw; (try dsimp only at hSw); go_simp; try with_reducible rfl)
              try simp only [Act.put, List.setIfInBounds_toArray, List.set_cons_zero, List.set_cons_succ]
              refine wpAnyH_take (i := 6) (v := ?_) (by simp only [List.getElem?_toArray, List.getElem?_cons_succ, List.getElem?_cons_zero]; rfl) (by kernel_rfl) (by kernel_rfl) (by kernel_rfl) (fun _ _ _ h => h) (Or.inl ⟨by rfl, ?_⟩) (by assumption) ?_
              rotate_left 1
              · (intro w hSw; (try dsimp only at hSw); go_simp; try with_reducible rfl)
              try simp only [Act.put, List.setIfInBounds_toArray, List.set_cons_zero, List.set_cons_succ]
              refine wpAnyH_ready (rs := [8]) (by kernel_rfl) (by simp) ?_
              refine AllReadyH.cons rfl (fun K hK => ?_) AllReadyH.nil
              go_simp
              try go_simp
              refine hK.out _ _ ((((HBR.out.drew.alloc _).grow hg4).set5o (by have := HBR.out.lt; omega) ch).cell) (fun hHeld => ?_)
              clear hK K
              try simp only [Act.put, List.setIfInBounds_toArray, List.set_cons_zero, List.set_cons_succ]
              refine wpAnyH_take (i := 9) (v := ?_) (by simp only [List.getElem?_toArray, List.getElem?_cons_succ, List.getElem?_cons_zero]; rfl) (by kernel_rfl) (by kernel_rfl) (by kernel_rfl) (fun _ _ _ h => h) (Or.inl ⟨by rfl, ?_⟩) (by assumption) ?_
              rotate_left 1
              · (intro w hSw; (try dsimp only at hSw); go_simp; try with_reducible rfl)
              try simp only [Act.put, List.setIfInBounds_toArray, List.set_cons_zero, List.set_cons_succ]
              refine wpAnyH_done (by kernel_rfl) ?_ _
              refine NoPanic.normal ?_
              go_wp2_with fail
              go_meet
              exact PathAt.early (HDR.out.alloc _) hg4 (Nat.le_refl _) (by simp) hB4 hh hhp
            refine AllReadyH.cons rfl (fun K hK => ?_) AllReadyH.nil
            go_simp
            try go_simp
            refine hK.out _ _ ((HBR.out.drew.alloc _).cell) (fun hHeld => ?_)
            clear hK K
            try simp only [Act.put, List.setIfInBounds_toArray, List.set_cons_zero, List.set_cons_succ]
            refine wpAnyH_ready (rs := [2]) (by kernel_rfl) (by simp) ?_
            refine AllReadyH.cons rfl (fun K hK => ?_) AllReadyH.nil
            go_simp
            refine (digits_any j _ _ (by omega) rfl).mono ?_
            rintro e w' ⟨rfl, rfl⟩
            try go_simp
            refine hK.out _ _ ((HBR.out.drew.alloc _).cell) (fun hHeld => ?_)
            clear hK K
            try simp only [Act.put, List.setIfInBounds_toArray, List.set_cons_zero, List.set_cons_succ]
            refine wpAnyH_ready (rs := [3]) (by kernel_rfl) (by simp) ?_
            refine AllReadyH.cons rfl (fun K hK => ?_) AllReadyH.nil
            go_simp
            refine HP2.out.mono ?_
            rintro e w4 ⟨hg4, ch, th, uh, rfl, hh, hhp⟩
            have hB4 := HZ.out.grow hg4
            have hc4 := hB4.cell
            have hlt4 := hB4.lt
            have hz4 := hB4.frozen
            try go_simp
            refine hK.out _ _ (((HBR.out.drew.alloc _).grow hg4).cell) (fun hHeld => ?_)
            clear hK K
            try simp only [Act.put, List.setIfInBounds_toArray, List.set_cons_zero, List.set_cons_succ]
            refine wpAnyH_take (i := 4) (v := ?_) (by simp only [List.getElem?_toArray, List.getElem?_cons_succ, List.getElem?_cons_zero]; rfl) (by kernel_rfl) (by kernel_rfl) (by kernel_rfl) (fun _ _ _ h => h) (Or.inl ⟨by rfl, ?_⟩) (by assumption) ?_
            rotate_left 1
            · (intro w hSw; (try dsimp only at hSw); go_simp; try with_reducible rfl)
            try simp only [Act.put, List.setIfInBounds_toArray, List.set_cons_zero, List.set_cons_succ]
            refine wpAnyH_take (i := 5) (v := ?_) (by simp only [List.getElem?_toArray, List.getElem?_cons_succ, List.getElem?_cons_zero]; rfl) (by kernel_rfl) (by kernel_rfl) (by kernel_rfl) (fun _ _ _ h => h) (Or.inl ⟨by rfl, ?_⟩) (by assumption) ?_
            rotate_left 1
            · (intro w hSw; (try dsimp only at hSw); go_simp; try with_reducible rfl)
            try simp only [Act.put, List.setIfInBounds_toArray, List.set_cons_zero, List.set_cons_succ]
            refine wpAnyH_take (i := 6) (v := ?_) (by simp only [List.getElem?_toArray, List.getElem?_cons_succ, List.getElem?_cons_zero]; rfl) (by kernel_rfl) (by kernel_rfl) (by kernel_rfl) (fun _ _ _ h => h) (Or.inl ⟨by rfl, ?_⟩) (by assumption) ?_
            rotate_left 1
            · (intro w hSw; (try dsimp only at hSw); go_simp; try with_reducible rfl)
            try simp only [Act.put, List.setIfInBounds_toArray, List.set_cons_zero, List.set_cons_succ]
            refine wpAnyH_ready (rs := [8]) (by kernel_rfl) (by simp) ?_
            refine AllReadyH.cons rfl (fun K hK => ?_) AllReadyH.nil
            go_simp
            try go_simp
            refine hK.out _ _ ((((HBR.out.drew.alloc _).grow hg4).set5o (by have := HBR.out.lt; omega) ch).cell) (fun hHeld => ?_)
            clear hK K
            try simp only [Act.put, List.setIfInBounds_toArray, List.set_cons_zero, List.set_cons_succ]
            refine wpAnyH_take (i := 9) (v := ?_) (by simp only [List.getElem?_toArray, List.getElem?_cons_succ, List.getElem?_cons_zero]; rfl) (by kernel_rfl) (by kernel_rfl) (by kernel_rfl) (fun _ _ _ h => h) (Or.inl ⟨by rfl, ?_⟩) (by assumption) ?_
            rotate_left 1
            · (intro w hSw; (try dsimp only at hSw); go_simp; try with_reducible rfl)
            try simp only [Act.put, List.setIfInBounds_toArray, List.set_cons_zero, List.set_cons_succ]
            refine wpAnyH_done (by kernel_rfl) ?_ _
            refine NoPanic.normal ?_
            go_wp2_with fail
            go_meet
            exact PathAt.early (HDR.out.alloc _) hg4 (Nat.le_refl _) (by simp) hB4 hh hhp
          case rest =>
          obtain ⟨hg6, b5, ch, th, uh, rfl, rfl, hb5, hB5, hin5, hhp⟩ := hcut
          rename World => w6
          obtain ⟨rfl, rfl⟩ : th = true ∧ uh = u := by
            have hp := list_path HGD.out hlt
            rw [HU.out] at hp
            rcases hhp with ⟨h, h1⟩ | ⟨h, -⟩
            · rw [hp] at h; injection h with h; exact ⟨h1, h.symm⟩
            · rw [hp] at h; cases h
          have HG6 := hide (HG5.out.trans hg6)
          have HSX := hide (show ∀ w', Grow w6 w' → (fun w' => (∀ i, w'.cell? ⟨b5, i, none⟩ = ch.cells[i]?) ∧ w'.cell? ⟨bk, o + j * 5, none⟩ = some (.int .i64 x.k) ∧ w'.cell? ⟨bk, o + j * 5 + 1, none⟩ = some (.int .u64 x.n) ∧ w'.cell? ⟨bk, o + j * 5 + 2, none⟩ = some (.slice x.aB x.nB x.cB) ∧ w'.cell? ⟨bk, o + j * 5 + 3, none⟩ = some (.slice x.aL x.nL x.cL) ∧ w'.cell? ⟨bk, o + j * 5 + 4, none⟩ = some (.slice x.aF x.nF x.cF)) w' from fun w' h => ⟨(hB5.grow h).cell, HSX0.out _ ((HW5.out.trans hg6).trans h)⟩)
          have HIN6 := hide hin5
          have HX6 := hide (HX5.out.grow hg6)
          have HCS := hide (show Calls Tryd.prog 17 #[ch.agg, x.agg] w6.drew fun e w' => e = .returned (.bool true) ∧ Grow w6.drew w' by
            have h := lawSame_any uh uh w6.drew ch x (HIN6.out.grow (Grow.refl _).drew) (HX6.out.grow (Grow.refl _).drew)
            rw [sameB_self] at h
            exact h)
          clear hg6 hb5 hB5 hin5 hhp HP1 HP2 HZ
          go_upto_region 14 with fail
          refine wp_region_noPanic ?_
          refine wp_region_held_drew (S := fun w' => (∀ i, w'.cell? ⟨b5, i, none⟩ = ch.cells[i]?) ∧ w'.cell? ⟨bk, o + j * 5, none⟩ = some (.int .i64 x.k) ∧ w'.cell? ⟨bk, o + j * 5 + 1, none⟩ = some (.int .u64 x.n) ∧ w'.cell? ⟨bk, o + j * 5 + 2, none⟩ = some (.slice x.aB x.nB x.cB) ∧ w'.cell? ⟨bk, o + j * 5 + 3, none⟩ = some (.slice x.aL x.nL x.cL) ∧ w'.cell? ⟨bk, o + j * 5 + 4, none⟩ = some (.slice x.aF x.nF x.cF)) (by kernel_rfl) (HSX.out _ (Grow.refl _).drew) (fun hHeld => ?_)
          refine wpAnyH_take (i := 0) (v := ?_) (by simp only [List.getElem?_toArray, List.getElem?_cons_succ, List.getElem?_cons_zero]; rfl) (by kernel_rfl) (by kernel_rfl) (by kernel_rfl) (fun _ _ _ h => h) (Or.inl ⟨by rfl, ?_⟩) (by assumption) ?_
          rotate_left 1
          · (intro w hSw; (try dsimp only at hSw); obtain ⟨hA, d0, d1, d2, d3, d4⟩ := hSw; go_simp; try with_reducible rfl)
          try simp only [Act.put, List.setIfInBounds_toArray, List.set_cons_zero, List.set_cons_succ]
          refine wpAnyH_take (i := 1) (v := ?_) (by simp only [List.getElem?_toArray, List.getElem?_cons_succ, List.getElem?_cons_zero]; rfl) (by kernel_rfl) (by kernel_rfl) (by kernel_rfl) (fun _ _ _ h => h) (Or.inl ⟨by rfl, ?_⟩) (by assumption) ?_
          rotate_left 1
          · (intro w hSw; (try dsimp only at hSw); obtain ⟨hA, d0, d1, d2, d3, d4⟩ := hSw; go_simp; try with_reducible rfl)
          try simp only [Act.put, List.setIfInBounds_toArray, List.set_cons_zero, List.set_cons_succ]
          refine wpAnyH_take (i := 2) (v := ?_) (by simp only [List.getElem?_toArray, List.getElem?_cons_succ, List.getElem?_cons_zero]; rfl) (by kernel_rfl) (by kernel_rfl) (by kernel_rfl) (fun _ _ _ h => h) (Or.inl ⟨by rfl, ?_⟩) (by assumption) ?_
          rotate_left 1
          · (intro w hSw; (try dsimp only at hSw); obtain ⟨hA, d0, d1, d2, d3, d4⟩ := hSw; go_simp; try with_reducible rfl)
          try simp only [Act.put, List.setIfInBounds_toArray, List.set_cons_zero, List.set_cons_succ]
          refine wpAnyH_take (i := 3) (v := ?_) (by simp only [List.getElem?_toArray, List.getElem?_cons_succ, List.getElem?_cons_zero]; rfl) (by kernel_rfl) (by kernel_rfl) (by kernel_rfl) (fun _ _ _ h => h) (Or.inl ⟨by rfl, ?_⟩) (by assumption) ?_
          rotate_left 1
          · (intro w hSw; (try dsimp only at hSw); obtain ⟨hA, d0, d1, d2, d3, d4⟩ := hSw; go_simp; try with_reducible rfl)
          try simp only [Act.put, List.setIfInBounds_toArray, List.set_cons_zero, List.set_cons_succ]
          refine wpAnyH_take (i := 4) (v := ?_) (by simp only [List.getElem?_toArray, List.getElem?_cons_succ, List.getElem?_cons_zero]; rfl) (by kernel_rfl) (by kernel_rfl) (by kernel_rfl) (fun _ _ _ h => h) (Or.inl ⟨by rfl, ?_⟩) (by assumption) ?_
          rotate_left 1
          · (intro w hSw; (try dsimp only at hSw); obtain ⟨hA, d0, d1, d2, d3, d4⟩ := hSw; go_simp; try with_reducible rfl)
          try simp only [Act.put, List.setIfInBounds_toArray, List.set_cons_zero, List.set_cons_succ]
          refine wpAnyH_take (i := 5) (v := ?_) (by simp only [List.getElem?_toArray, List.getElem?_cons_succ, List.getElem?_cons_zero]; rfl) (by kernel_rfl) (by kernel_rfl) (by kernel_rfl) (fun _ _ _ h => h) (Or.inl ⟨by rfl, ?_⟩) (by assumption) ?_
          rotate_left 1
          · (intro w hSw; (try dsimp only at hSw); obtain ⟨hA, d0, d1, d2, d3, d4⟩ := hSw; go_simp; try with_reducible rfl)
          try simp only [Act.put, List.setIfInBounds_toArray, List.set_cons_zero, List.set_cons_succ]
          refine wpAnyH_take (i := 6) (v := ?_) (by simp only [List.getElem?_toArray, List.getElem?_cons_succ, List.getElem?_cons_zero]; rfl) (by kernel_rfl) (by kernel_rfl) (by kernel_rfl) (fun _ _ _ h => h) (Or.inl ⟨by rfl, ?_⟩) (by assumption) ?_
          rotate_left 1
          · (intro w hSw; (try dsimp only at hSw); obtain ⟨hA, d0, d1, d2, d3, d4⟩ := hSw; go_simp; try with_reducible rfl)
          try simp only [Act.put, List.setIfInBounds_toArray, List.set_cons_zero, List.set_cons_succ]
          refine wpAnyH_take (i := 7) (v := ?_) (by simp only [List.getElem?_toArray, List.getElem?_cons_succ, List.getElem?_cons_zero]; rfl) (by kernel_rfl) (by kernel_rfl) (by kernel_rfl) (fun _ _ _ h => h) (Or.inl ⟨by rfl, ?_⟩) (by assumption) ?_
          rotate_left 1
          · (intro w hSw; (try dsimp only at hSw); obtain ⟨hA, d0, d1, d2, d3, d4⟩ := hSw; go_simp; try with_reducible rfl)
          try simp only [Act.put, List.setIfInBounds_toArray, List.set_cons_zero, List.set_cons_succ]
          refine wpAnyH_take (i := 8) (v := ?_) (by simp only [List.getElem?_toArray, List.getElem?_cons_succ, List.getElem?_cons_zero]; rfl) (by kernel_rfl) (by kernel_rfl) (by kernel_rfl) (fun _ _ _ h => h) (Or.inl ⟨by rfl, ?_⟩) (by assumption) ?_
          rotate_left 1
          · (intro w hSw; (try dsimp only at hSw); obtain ⟨hA, d0, d1, d2, d3, d4⟩ := hSw; go_simp; try with_reducible rfl)
          try simp only [Act.put, List.setIfInBounds_toArray, List.set_cons_zero, List.set_cons_succ]
          refine wpAnyH_take (i := 9) (v := ?_) (by simp only [List.getElem?_toArray, List.getElem?_cons_succ, List.getElem?_cons_zero]; rfl) (by kernel_rfl) (by kernel_rfl) (by kernel_rfl) (fun _ _ _ h => h) (Or.inl ⟨by rfl, ?_⟩) (by assumption) ?_
          rotate_left 1
          · (intro w hSw; (try dsimp only at hSw); obtain ⟨hA, d0, d1, d2, d3, d4⟩ := hSw; go_simp; try with_reducible rfl)
          try simp only [Act.put, List.setIfInBounds_toArray, List.set_cons_zero, List.set_cons_succ]
          refine wpAnyH_take (i := 10) (v := ?_) (by simp only [List.getElem?_toArray, List.getElem?_cons_succ, List.getElem?_cons_zero]; rfl) (by kernel_rfl) (by kernel_rfl) (by kernel_rfl) (fun _ _ _ h => h) (Or.inl ⟨by rfl, ?_⟩) (by assumption) ?_
          rotate_left 1
          · (intro w hSw; (try dsimp only at hSw); obtain ⟨hA, d0, d1, d2, d3, d4⟩ := hSw; go_simp; try with_reducible rfl)
          try simp only [Act.put, List.setIfInBounds_toArray, List.set_cons_zero, List.set_cons_succ]
          refine wpAnyH_take (i := 11) (v := ?_) (by simp only [List.getElem?_toArray, List.getElem?_cons_succ, List.getElem?_cons_zero]; rfl) (by kernel_rfl) (by kernel_rfl) (by kernel_rfl) (fun _ _ _ h => h) (Or.inl ⟨by rfl, ?_⟩) (by assumption) ?_
          rotate_left 1
          · (intro w hSw; (try dsimp only at hSw); obtain ⟨hA, d0, d1, d2, d3, d4⟩ := hSw; go_simp; try with_reducible rfl)
          try simp only [Act.put, List.setIfInBounds_toArray, List.set_cons_zero, List.set_cons_succ]
          refine wpAnyH_ready (rs := [12]) (by kernel_rfl) (by simp) ?_
          refine AllReadyH.cons (by simp only [List.getElem?_toArray, List.getElem?_cons_succ, List.getElem?_cons_zero]; rfl) (fun K hK => ?_) AllReadyH.nil
          go_simp
          refine HCS.out.mono ?_
          rintro e wz ⟨rfl, hgz⟩
          refine hK.out _ _ (HSX.out _ ((Grow.refl _).drew.trans hgz)) (fun hHeld => ?_)
          clear hK K
          try simp only [Act.put, List.setIfInBounds_toArray, List.set_cons_zero, List.set_cons_succ]
          refine wpAnyH_take (i := 13) (v := ?_) (by simp only [List.getElem?_toArray, List.getElem?_cons_succ, List.getElem?_cons_zero]; rfl) (by kernel_rfl) (by kernel_rfl) (by kernel_rfl) (fun _ _ _ h => h) (Or.inl ⟨by rfl, ?_⟩) (by assumption) ?_
          rotate_left 1
          · (intro w hSw; (try dsimp only at hSw); obtain ⟨hA, d0, d1, d2, d3, d4⟩ := hSw; go_simp; try with_reducible rfl)
          try simp only [Act.put, List.setIfInBounds_toArray, List.set_cons_zero, List.set_cons_succ]
          refine wpAnyH_take (i := 14) (v := ?_) (by simp only [List.getElem?_toArray, List.getElem?_cons_succ, List.getElem?_cons_zero]; rfl) (by kernel_rfl) (by kernel_rfl) (by kernel_rfl) (fun _ _ _ h => h) (Or.inl ⟨by rfl, ?_⟩) (by assumption) ?_
          rotate_left 1
          · (intro w hSw; (try dsimp only at hSw); obtain ⟨hA, d0, d1, d2, d3, d4⟩ := hSw; go_simp; try with_reducible rfl)
          try simp only [Act.put, List.setIfInBounds_toArray, List.set_cons_zero, List.set_cons_succ]
          refine wpAnyH_done (by kernel_rfl) ?_ _
          refine NoPanic.normal ?_
          go_wp2_with fail
          go_roundg gk'
          case measure => omega
          case rel => exact ⟨j + 1, z + k, by omega, by omega, by go_num, by go_num, HST.out.symm, by omega, HG6.out.trans ((Grow.refl _).drew.trans hgz)⟩
        · obtain rfl : j = l.length := by omega
          have hzz : z = Z := by rw [HZJ.out, List.take_length]; exact HZ.out
          subst hzz
          have hpw : (dg l.length).size < 4294967281 := by have := (dg_ix (n := l.length) (by omega)).2.2.1; omega
          have HP1 := hide (vpath_any (.mk 7 0 [] l []) (dg l.length) (lcv A l.length cap) wr.drew (HT.out.grow HGR.out.drew) (HM.out.grow HGR.out.drew) HC.out hpw (HL4.out.grow HWR.out.drew))
          have HP2 := hide (vpath_any (.mk 7 0 [] l []) (dg l.length) (lcv A l.length cap) (wr.drew.alloc (.cells Cv.zero.cells 37)) (HT.out.grow (HGR.out.drew.alloc _)) (HM.out.grow (HGR.out.drew.alloc _)) HC.out hpw (HL4.out.grow (HWR.out.drew.alloc _)))
          have HDR := hide ((Grow.refl wr).drew)
          have HZO := HZ
          clear HZ hpw
          have HZ := hide (show Blk (wr.drew.alloc (.cells Cv.zero.cells 37)) wr.heap.size 37 Cv.zero.cells from Blk.new wr.drew 37 Cv.zero.cells)
          go_upto_region 17 with fail
          go_cut [14, 15] (fun p t wx => PathAt wr (pathV (.mk 7 0 [] l []) (dg l.length)) p t wx)
          case first =>
            refine wp_region_noPanic ?_
            refine wp_region_held_drew (S := fun w' => ∀ i, w'.cell? ⟨w2.heap.size, i, none⟩ = (lcv A l.length cap).cells[i]?) (by kernel_rfl) ((HBR.out.drew).cell) (fun hHeld => ?_)
            refine wpAnyH_take (i := 0) (v := ?_) (by simp only [List.getElem?_toArray, List.getElem?_cons_succ, List.getElem?_cons_zero]; rfl) (by kernel_rfl) (by kernel_rfl) (by kernel_rfl) (fun _ _ _ h => h) (Or.inl ⟨by rfl, ?_⟩) (by assumption) ?_
            rotate_left 1
            · (intro w hSw; (try dsimp only at hSw); go_simp; try with_reducible rfl)
            try simp only [Act.put, List.setIfInBounds_toArray, List.set_cons_zero, List.set_cons_succ]
            refine wpAnyH_take (i := 1) (v := ?_) (by simp only [List.getElem?_toArray, List.getElem?_cons_succ, List.getElem?_cons_zero]; rfl) (by kernel_rfl) (by kernel_rfl) (by kernel_rfl) (fun _ _ _ h => h) (Or.inl ⟨by rfl, ?_⟩) (by assumption) ?_
            rotate_left 1
            · (intro w hSw; (try dsimp only at hSw); go_simp; try with_reducible rfl)
            try simp only [Act.put, List.setIfInBounds_toArray, List.set_cons_zero, List.set_cons_succ]
            refine wpAnyH_take (i := 2) (v := ?_) (by simp only [List.getElem?_toArray, List.getElem?_cons_succ, List.getElem?_cons_zero]; rfl) (by kernel_rfl) (by kernel_rfl) (by kernel_rfl) (fun _ _ _ h => h) (Or.inl ⟨by rfl, ?_⟩) (by assumption) ?_
            rotate_left 1
            · (intro w hSw; (try dsimp only at hSw); go_simp; try with_reducible rfl)
            try simp only [Act.put, List.setIfInBounds_toArray, List.set_cons_zero, List.set_cons_succ]
            refine wpAnyH_ready (rs := [3, 8]) (by kernel_rfl) (by simp) ?_
            refine AllReadyH.cons rfl (fun K hK => ?_) ?_
            · go_simp
              refine (digits_any l.length _ _ (by omega) rfl).mono ?_
              rintro e w' ⟨rfl, rfl⟩
              try go_simp
              refine hK.out _ _ ((HBR.out.drew).cell) (fun hHeld => ?_)
              clear hK K
              try simp only [Act.put, List.setIfInBounds_toArray, List.set_cons_zero, List.set_cons_succ]
              refine wpAnyH_ready (rs := [4, 8]) (by kernel_rfl) (by simp) ?_
              refine AllReadyH.cons rfl (fun K hK => ?_) ?_
              · go_simp
                refine HP1.out.mono ?_
                rintro e w4 ⟨hg4, ch, th, uh, rfl, hh, hhp⟩
                try go_simp
                refine hK.out _ _ ((HBR.out.drew.grow hg4).cell) (fun hHeld => ?_)
                clear hK K
                try simp only [Act.put, List.setIfInBounds_toArray, List.set_cons_zero, List.set_cons_succ]
                refine wpAnyH_take (i := 5) (v := ?_) (by simp only [List.getElem?_toArray, List.getElem?_cons_succ, List.getElem?_cons_zero]; rfl) (by kernel_rfl) (by kernel_rfl) (by kernel_rfl) (fun _ _ _ h => h) (Or.inl ⟨by rfl, ?_⟩) (by assumption) ?_
                rotate_left 1
                · (intro w hSw; (try dsimp only at hSw); go_simp; try with_reducible rfl)
                try simp only [Act.put, List.setIfInBounds_toArray, List.set_cons_zero, List.set_cons_succ]
                refine wpAnyH_take (i := 6) (v := ?_) (by simp only [List.getElem?_toArray, List.getElem?_cons_succ, List.getElem?_cons_zero]; rfl) (by kernel_rfl) (by kernel_rfl) (by kernel_rfl) (fun _ _ _ h => h) (Or.inl ⟨by rfl, ?_⟩) (by assumption) ?_
                rotate_left 1
                · (intro w hSw; (try dsimp only at hSw); go_simp; try with_reducible rfl)
                try simp only [Act.put, List.setIfInBounds_toArray, List.set_cons_zero, List.set_cons_succ]
                refine wpAnyH_take (i := 7) (v := ?_) (by simp only [List.getElem?_toArray, List.getElem?_cons_succ, List.getElem?_cons_zero]; rfl) (by kernel_rfl) (by kernel_rfl) (by kernel_rfl) (fun _ _ _ h => h) (Or.inl ⟨by rfl, ?_⟩) (by assumption) ?_
                rotate_left 1
                · (intro w hSw; (try dsimp only at hSw); go_simp; try with_reducible rfl)
                try simp only [Act.put, List.setIfInBounds_toArray, List.set_cons_zero, List.set_cons_succ]
                refine wpAnyH_ready (rs := [8]) (by kernel_rfl) (by simp) ?_
                refine AllReadyH.cons rfl (fun K hK => ?_) AllReadyH.nil
                go_simp
                try go_simp
                refine hK.out _ _ (((HBR.out.drew.grow hg4).alloc _).cell) (fun hHeld => ?_)
                clear hK K
                try simp only [Act.put, List.setIfInBounds_toArray, List.set_cons_zero, List.set_cons_succ]
                refine wpAnyH_ready (rs := [9]) (by kernel_rfl) (by simp) ?_
                refine AllReadyH.cons rfl (fun K hK => ?_) AllReadyH.nil
                go_simp
                try go_simp
                refine hK.out _ _ (((HBR.out.drew.grow hg4).alloc _).cell) (fun hHeld => ?_)
                clear hK K
                try simp only [Act.put, List.setIfInBounds_toArray, List.set_cons_zero, List.set_cons_succ]
                refine wpAnyH_take (i := 10) (v := ?_) (by simp only [List.getElem?_toArray, List.getElem?_cons_succ, List.getElem?_cons_zero]; rfl) (by kernel_rfl) (by kernel_rfl) (by kernel_rfl) (fun _ _ _ h => h) (Or.inl ⟨by rfl, ?_⟩) (by assumption) ?_
                rotate_left 1
                · (intro w hSw; (try dsimp only at hSw); go_simp; try with_reducible rfl)
                try simp only [Act.put, List.setIfInBounds_toArray, List.set_cons_zero, List.set_cons_succ]
                refine wpAnyH_done (by kernel_rfl) ?_ _
                refine NoPanic.normal ?_
                go_wp2_with fail
                go_meet
                exact PathAt.late HDR.out hg4 hh hhp
              refine AllReadyH.cons rfl (fun K hK => ?_) AllReadyH.nil
              go_simp
              try go_simp
              refine hK.out _ _ ((HBR.out.drew.alloc _).cell) (fun hHeld => ?_)
              clear hK K
              try simp only [Act.put, List.setIfInBounds_toArray, List.set_cons_zero, List.set_cons_succ]
              refine wpAnyH_ready (rs := [4]) (by kernel_rfl) (by simp) ?_
              refine AllReadyH.cons rfl (fun K hK => ?_) AllReadyH.nil
              go_simp
              refine HP2.out.mono ?_
              rintro e w4 ⟨hg4, ch, th, uh, rfl, hh, hhp⟩
              have hB4 := HZ.out.grow hg4
              have hc4 := hB4.cell
              have hlt4 := hB4.lt
              have hz4 := hB4.frozen
              try go_simp
              refine hK.out _ _ (((HBR.out.drew.alloc _).grow hg4).cell) (fun hHeld => ?_)
              clear hK K
              try simp only [Act.put, List.setIfInBounds_toArray, List.set_cons_zero, List.set_cons_succ]
              refine wpAnyH_take (i := 5) (v := ?_) (by simp only [List.getElem?_toArray, List.getElem?_cons_succ, List.getElem?_cons_zero]; rfl) (by kernel_rfl) (by kernel_rfl) (by kernel_rfl) (fun _ _ _ h => h) (Or.inl ⟨by rfl, ?_⟩) (by assumption) ?_
              rotate_left 1
              · (intro w hSw; (try dsimp only at hSw); go_simp; try with_reducible rfl)
              try simp only [Act.put, List.setIfInBounds_toArray, List.set_cons_zero, List.set_cons_succ]
              refine wpAnyH_take (i := 6) (v := ?_) (by simp only [List.getElem?_toArray, List.getElem?_cons_succ, List.getElem?_cons_zero]; rfl) (by kernel_rfl) (by kernel_rfl) (by kernel_rfl) (fun _ _ _ h => h) (Or.inl ⟨by rfl, ?_⟩) (by assumption) ?_
              rotate_left 1
              · (intro w hSw; (try dsimp only at hSw); go_simp; try with_reducible rfl)
              try simp only [Act.put, List.setIfInBounds_toArray, List.set_cons_zero, List.set_cons_succ]
              refine wpAnyH_take (i := 7) (v := ?_) (by simp only [List.getElem?_toArray, List.getElem?_cons_succ, List.getElem?_cons_zero]; rfl) (by kernel_rfl) (by kernel_rfl) (by kernel_rfl) (fun _ _ _ h => h) (Or.inl ⟨by rfl, ?_⟩) (by assumption) ?_
              rotate_left 1
              · (intro w hSw; (try dsimp only at hSw); go_simp; try with_reducible rfl)
              try simp only [Act.put, List.setIfInBounds_toArray, List.set_cons_zero, List.set_cons_succ]
              refine wpAnyH_ready (rs := [9]) (by kernel_rfl) (by simp) ?_
              refine AllReadyH.cons rfl (fun K hK => ?_) AllReadyH.nil
              go_simp
              try go_simp
              refine hK.out _ _ ((((HBR.out.drew.alloc _).grow hg4).set5o (by have := HBR.out.lt; omega) ch).cell) (fun hHeld => ?_)
              clear hK K
              try simp only [Act.put, List.setIfInBounds_toArray, List.set_cons_zero, List.set_cons_succ]
              refine wpAnyH_take (i := 10) (v := ?_) (by simp only [List.getElem?_toArray, List.getElem?_cons_succ, List.getElem?_cons_zero]; rfl) (by kernel_rfl) (by kernel_rfl) (by kernel_rfl) (fun _ _ _ h => h) (Or.inl ⟨by rfl, ?_⟩) (by assumption) ?_
              rotate_left 1
              · (intro w hSw; (try dsimp only at hSw); go_simp; try with_reducible rfl)
              try simp only [Act.put, List.setIfInBounds_toArray, List.set_cons_zero, List.set_cons_succ]
              refine wpAnyH_done (by kernel_rfl) ?_ _
              refine NoPanic.normal ?_
              go_wp2_with fail
              go_meet
              exact PathAt.early (HDR.out.alloc _) hg4 (Nat.le_refl _) (by simp) hB4 hh hhp
            refine AllReadyH.cons rfl (fun K hK => ?_) AllReadyH.nil
            go_simp
            try go_simp
            refine hK.out _ _ ((HBR.out.drew.alloc _).cell) (fun hHeld => ?_)
            clear hK K
            try simp only [Act.put, List.setIfInBounds_toArray, List.set_cons_zero, List.set_cons_succ]
            refine wpAnyH_ready (rs := [3]) (by kernel_rfl) (by simp) ?_
            refine AllReadyH.cons rfl (fun K hK => ?_) AllReadyH.nil
            go_simp
            refine (digits_any l.length _ _ (by omega) rfl).mono ?_
            rintro e w' ⟨rfl, rfl⟩
            try go_simp
            refine hK.out _ _ ((HBR.out.drew.alloc _).cell) (fun hHeld => ?_)
            clear hK K
            try simp only [Act.put, List.setIfInBounds_toArray, List.set_cons_zero, List.set_cons_succ]
            refine wpAnyH_ready (rs := [4]) (by kernel_rfl) (by simp) ?_
            refine AllReadyH.cons rfl (fun K hK => ?_) AllReadyH.nil
            go_simp
            refine HP2.out.mono ?_
            rintro e w4 ⟨hg4, ch, th, uh, rfl, hh, hhp⟩
            have hB4 := HZ.out.grow hg4
            have hc4 := hB4.cell
            have hlt4 := hB4.lt
            have hz4 := hB4.frozen
            try go_simp
            refine hK.out _ _ (((HBR.out.drew.alloc _).grow hg4).cell) (fun hHeld => ?_)
            clear hK K
            try simp only [Act.put, List.setIfInBounds_toArray, List.set_cons_zero, List.set_cons_succ]
            refine wpAnyH_take (i := 5) (v := ?_) (by simp only [List.getElem?_toArray, List.getElem?_cons_succ, List.getElem?_cons_zero]; rfl) (by kernel_rfl) (by kernel_rfl) (by kernel_rfl) (fun _ _ _ h => h) (Or.inl ⟨by rfl, ?_⟩) (by assumption) ?_
            rotate_left 1
            · (intro w hSw; (try dsimp only at hSw); go_simp; try with_reducible rfl)
            try simp only [Act.put, List.setIfInBounds_toArray, List.set_cons_zero, List.set_cons_succ]
            refine wpAnyH_take (i := 6) (v := ?_) (by simp only [List.getElem?_toArray, List.getElem?_cons_succ, List.getElem?_cons_zero]; rfl) (by kernel_rfl) (by kernel_rfl) (by kernel_rfl) (fun _ _ _ h => h) (Or.inl ⟨by rfl, ?_⟩) (by assumption) ?_
            rotate_left 1
            · (intro w hSw; (try dsimp only at hSw); go_simp; try with_reducible rfl)
            try simp only [Act.put, List.setIfInBounds_toArray, List.set_cons_zero, List.set_cons_succ]
            refine wpAnyH_take (i := 7) (v := ?_) (by simp only [List.getElem?_toArray, List.getElem?_cons_succ, List.getElem?_cons_zero]; rfl) (by kernel_rfl) (by kernel_rfl) (by kernel_rfl) (fun _ _ _ h => h) (Or.inl ⟨by rfl, ?_⟩) (by assumption) ?_
            rotate_left 1
            · (intro w hSw; (try dsimp only at hSw); go_simp; try with_reducible rfl)
            try simp only [Act.put, List.setIfInBounds_toArray, List.set_cons_zero, List.set_cons_succ]
            refine wpAnyH_ready (rs := [9]) (by kernel_rfl) (by simp) ?_
            refine AllReadyH.cons rfl (fun K hK => ?_) AllReadyH.nil
            go_simp
            try go_simp
            refine hK.out _ _ ((((HBR.out.drew.alloc _).grow hg4).set5o (by have := HBR.out.lt; omega) ch).cell) (fun hHeld => ?_)
            clear hK K
            try simp only [Act.put, List.setIfInBounds_toArray, List.set_cons_zero, List.set_cons_succ]
            refine wpAnyH_take (i := 10) (v := ?_) (by simp only [List.getElem?_toArray, List.getElem?_cons_succ, List.getElem?_cons_zero]; rfl) (by kernel_rfl) (by kernel_rfl) (by kernel_rfl) (fun _ _ _ h => h) (Or.inl ⟨by rfl, ?_⟩) (by assumption) ?_
            rotate_left 1
            · (intro w hSw; (try dsimp only at hSw); go_simp; try with_reducible rfl)
            try simp only [Act.put, List.setIfInBounds_toArray, List.set_cons_zero, List.set_cons_succ]
            refine wpAnyH_done (by kernel_rfl) ?_ _
            refine NoPanic.normal ?_
            go_wp2_with fail
            go_meet
            exact PathAt.early (HDR.out.alloc _) hg4 (Nat.le_refl _) (by simp) hB4 hh hhp
          case rest =>
          obtain ⟨hg6, b5, ch, th, uh, rfl, rfl, hb5, hB5, hin5, hhp⟩ := hcut
          rename World => w6
          obtain rfl : th = false := by
            have hp := list_none HGD.out
            rcases hhp with ⟨h, -⟩ | ⟨-, h, -⟩
            · rw [hp] at h; cases h
            · exact h
          have HG6 := hide (HGR.out.trans hg6)
          clear hg6 hb5 hB5 hin5 hhp HP1 HP2 HZ
          go_wp2_with fail
          go_meet
          exact HG6.out
    · have g1 : (G == 0) = false := by simpa using g0
      go_wp2_with fail
      go_meet
      exact HG4.out
  case rest =>
  rename World => w4
  have HG5 := hide hcut
  clear hcut
  have HB16 := hide (Blk.new w4 37 (Cv.cells ⟨8, 0, none, 0, 0, none, 0, 0, none, 0, 0⟩))
  have HIN4 := hide (HIN.out.grow HG5.out)
  have HNS4 := hide (HNS.out.grow HG5.out)
  obtain ⟨g16, hg16⟩ : ∃ g, w4.heap.size = g := ⟨_, rfl⟩
  rw [hg16] at HB16
  have HG16 := hide hg16
  obtain ⟨i0, hi0, hz0, hz1, hz2⟩ := info_parts info_fld3
  have Hi0 := hide hi0; have Hz0 := hide hz0; have Hz1 := hide hz1; have Hz2 := hide hz2
  clear hi0 hz0 hz1 hz2
  have hll : l.length ≤ 20000 := by
    have h := HC.out
    rw [V.count_mk] at h
    have h2 := HSUM.out
    have : l.length ≤ (l.map V.count).sum := len_le_sum V.count V.count_pos l
    omega
  go_wp2_with fail
  clear hg16
  go_loopg [17] (l.length + 1) (fun gk i wr => ∃ (j : Nat) (es : List VE) (A3 : Option Addr) (c3 : Nat), j ≤ l.length ∧ gk + j = l.length + 1 ∧ i = .int .i64 j ∧ j = es.length ∧ (es.map fun y => y.v.count).sum = ((l.take j).map V.count).sum ∧ Grow w4 wr ∧
    Blk wr g16 37 (Cv.cells ⟨8, 0, none, 0, 0, none, 0, 0, A3, j, c3⟩) ∧ FRow w4 wr (g16 + 1) (.slice A3 j c3) es)
  case atStart => exact ⟨0, [], none, 0, by omega, by omega, rfl, rfl, rfl, (Grow.refl _).alloc _, HB16.out, ⟨World.ownsRow_nil _ _ _ _, fun y hy => by simp at hy⟩⟩
  case round =>
    obtain ⟨n, es, A3, c3, hj, hgk, rfl, hje, hsum, hwr, hB, hR⟩ := hrel
    have HWR := hide hwr
    have HB := hide hB
    have HR := hide hR
    have HSM := hide hsum
    have HJE := hide hje
    have HLT := hide hB.lt
    clear hwr hB hR hsum hje
    obtain ⟨gk', rfl⟩ : ∃ g, gk = g + 1 := ⟨gk - 1, by omega⟩
    by_cases hlt : n < l.length ∧ n < ns.length
    · obtain ⟨hl1, hl2⟩ := hlt
      obtain ⟨bk, o, x, ha, hbk, e0, e1, e2, e3, e4, hx⟩ := HIN4.out.elemL n hl1
      dsimp only at ha
      subst ha
      obtain ⟨bn, on, hb, hn0, hnz⟩ := HNS4.out n hl2
      subst hb
      obtain ⟨q, hq⟩ : ∃ q, ns[n] = q := ⟨_, rfl⟩
      rw [hq] at hn0 hnz
      have HNZ := hide hnz
      have HX := hide hx
      have hcB := HB.out.cell
      have hfB := HB.out.frozen
      have hltB := HB.out.lt
      have hcB2 := (HB.out.drew.alloc (.cells (x.fcells q) 52)).cell
      have HSN := hide (show ∀ w', Grow w4 w' → (fun w' => w'.cell? ⟨bn, on + n, none⟩ = some (.string q) ∧ w'.cell? ⟨bk, o + n * 5, none⟩ = some (.int .i64 x.k) ∧ w'.cell? ⟨bk, o + n * 5 + 1, none⟩ = some (.int .u64 x.n) ∧ w'.cell? ⟨bk, o + n * 5 + 2, none⟩ = some (.slice x.aB x.nB x.cB) ∧ w'.cell? ⟨bk, o + n * 5 + 3, none⟩ = some (.slice x.aL x.nL x.cL) ∧ w'.cell? ⟨bk, o + n * 5 + 4, none⟩ = some (.slice x.aF x.nF x.cF)) w' from fun w' h => ⟨(h.below.cell hn0.2.2).trans hn0.1, (h.below.cell hbk).trans e0, (h.below.cell hbk).trans e1, (h.below.cell hbk).trans e2, (h.below.cell hbk).trans e3, (h.below.cell hbk).trans e4⟩)
      have hown := HR.out.own
      rw [← HJE.out] at hown
      have HSRC := hide (show Src Tryd.prog 6 35 (.slice (some ⟨wr.heap.size, 0, none⟩) 1 1) 1 (nameHead q ++ x.cells.toList) (wr.alloc (.cells (x.fcells q) 52)).drew from Src.oneF (w := wr.drew) q x _)
      have HOWN := hide (show wr.drew.ownsRow (g16 + 1) 52 6 (.slice A3 n c3) n (cellsOf nameHead es) from hown)
      have HOWD := hide (show (wr.alloc (.cells (x.fcells q) 52)).drew.ownsRow (g16 + 1) 52 6 (.slice A3 n c3) n (cellsOf nameHead es) from World.ownsRow.alloc HOWN.out _)
      clear hn0 hnz hx hbk hq hown e0 e1 e2 e3 e4
      go_upto_region 24 with fail
      refine wp_region_noPanic ?_
      refine wp_region_held_drew (S := fun w' => w'.cell? ⟨bn, on + n, none⟩ = some (.string q) ∧ w'.cell? ⟨bk, o + n * 5, none⟩ = some (.int .i64 x.k) ∧ w'.cell? ⟨bk, o + n * 5 + 1, none⟩ = some (.int .u64 x.n) ∧ w'.cell? ⟨bk, o + n * 5 + 2, none⟩ = some (.slice x.aB x.nB x.cB) ∧ w'.cell? ⟨bk, o + n * 5 + 3, none⟩ = some (.slice x.aL x.nL x.cL) ∧ w'.cell? ⟨bk, o + n * 5 + 4, none⟩ = some (.slice x.aF x.nF x.cF)) (by kernel_rfl) (HSN.out _ HWR.out.drew) (fun hHeld => ?_)
      refine wpAnyH_take (i := 0) (v := ?_) (by simp only [List.getElem?_toArray, List.getElem?_cons_succ, List.getElem?_cons_zero]; rfl) (by kernel_rfl) (by kernel_rfl) (by kernel_rfl) (fun _ _ _ h => h) (Or.inl ⟨by rfl, ?_⟩) (by assumption) ?_
      rotate_left 1
      · (intro w hSw; (try dsimp only at hSw); obtain ⟨s0, d0, d1, d2, d3, d4⟩ := hSw; go_simp; try with_reducible rfl)
      try simp only [Act.put, List.setIfInBounds_toArray, List.set_cons_zero, List.set_cons_succ]
      refine wpAnyH_take (i := 2) (v := ?_) (by simp only [List.getElem?_toArray, List.getElem?_cons_succ, List.getElem?_cons_zero]; rfl) (by kernel_rfl) (by kernel_rfl) (by kernel_rfl) (fun _ _ _ h => h) (Or.inl ⟨by rfl, ?_⟩) (by assumption) ?_
      rotate_left 1
      · (intro w hSw; (try dsimp only at hSw); obtain ⟨s0, d0, d1, d2, d3, d4⟩ := hSw; go_simp; try with_reducible rfl)
      try simp only [Act.put, List.setIfInBounds_toArray, List.set_cons_zero, List.set_cons_succ]
      refine wpAnyH_take (i := 3) (v := ?_) (by simp only [List.getElem?_toArray, List.getElem?_cons_succ, List.getElem?_cons_zero]; rfl) (by kernel_rfl) (by kernel_rfl) (by kernel_rfl) (fun _ _ _ h => h) (Or.inl ⟨by rfl, ?_⟩) (by assumption) ?_
      rotate_left 1
      · (intro w hSw; (try dsimp only at hSw); obtain ⟨s0, d0, d1, d2, d3, d4⟩ := hSw; go_simp; try with_reducible rfl)
      try simp only [Act.put, List.setIfInBounds_toArray, List.set_cons_zero, List.set_cons_succ]
      refine wpAnyH_take (i := 4) (v := ?_) (by simp only [List.getElem?_toArray, List.getElem?_cons_succ, List.getElem?_cons_zero]; rfl) (by kernel_rfl) (by kernel_rfl) (by kernel_rfl) (fun _ _ _ h => h) (Or.inl ⟨by rfl, ?_⟩) (by assumption) ?_
      rotate_left 1
      · (intro w hSw; (try dsimp only at hSw); obtain ⟨s0, d0, d1, d2, d3, d4⟩ := hSw; go_simp; try with_reducible rfl)
      try simp only [Act.put, List.setIfInBounds_toArray, List.set_cons_zero, List.set_cons_succ]
      refine wpAnyH_take (i := 5) (v := ?_) (by simp only [List.getElem?_toArray, List.getElem?_cons_succ, List.getElem?_cons_zero]; rfl) (by kernel_rfl) (by kernel_rfl) (by kernel_rfl) (fun _ _ _ h => h) (Or.inl ⟨by rfl, ?_⟩) (by assumption) ?_
      rotate_left 1
      · (intro w hSw; (try dsimp only at hSw); obtain ⟨s0, d0, d1, d2, d3, d4⟩ := hSw; go_simp; try with_reducible rfl)
      try simp only [Act.put, List.setIfInBounds_toArray, List.set_cons_zero, List.set_cons_succ]
      refine wpAnyH_take (i := 6) (v := ?_) (by simp only [List.getElem?_toArray, List.getElem?_cons_succ, List.getElem?_cons_zero]; rfl) (by kernel_rfl) (by kernel_rfl) (by kernel_rfl) (fun _ _ _ h => h) (Or.inl ⟨by rfl, ?_⟩) (by assumption) ?_
      rotate_left 1
      · (intro w hSw; (try dsimp only at hSw); obtain ⟨s0, d0, d1, d2, d3, d4⟩ := hSw; go_simp; try with_reducible rfl)
      try simp only [Act.put, List.setIfInBounds_toArray, List.set_cons_zero, List.set_cons_succ]
      refine wpAnyH_take (i := 7) (v := ?_) (by simp only [List.getElem?_toArray, List.getElem?_cons_succ, List.getElem?_cons_zero]; rfl) (by kernel_rfl) (by kernel_rfl) (by kernel_rfl) (fun _ _ _ h => h) (Or.inl ⟨by rfl, ?_⟩) (by assumption) ?_
      rotate_left 1
      · (intro w hSw; (try dsimp only at hSw); obtain ⟨s0, d0, d1, d2, d3, d4⟩ := hSw; go_simp; try with_reducible rfl)
      try simp only [Act.put, List.setIfInBounds_toArray, List.set_cons_zero, List.set_cons_succ]
      refine wpAnyH_take (i := 8) (v := ?_) (by simp only [List.getElem?_toArray, List.getElem?_cons_succ, List.getElem?_cons_zero]; rfl) (by kernel_rfl) (by kernel_rfl) (by kernel_rfl) (fun _ _ _ h => h) (Or.inl ⟨by rfl, ?_⟩) (by assumption) ?_
      rotate_left 1
      · (intro w hSw; (try dsimp only at hSw); obtain ⟨s0, d0, d1, d2, d3, d4⟩ := hSw; go_simp; try with_reducible rfl)
      try simp only [Act.put, List.setIfInBounds_toArray, List.set_cons_zero, List.set_cons_succ]
      refine wpAnyH_take (i := 9) (v := ?_) (by simp only [List.getElem?_toArray, List.getElem?_cons_succ, List.getElem?_cons_zero]; rfl) (by kernel_rfl) (by kernel_rfl) (by kernel_rfl) (fun _ _ _ h => h) (Or.inl ⟨by rfl, ?_⟩) (by assumption) ?_
      rotate_left 1
      · (intro w hSw; (try dsimp only at hSw); obtain ⟨s0, d0, d1, d2, d3, d4⟩ := hSw; go_simp; try with_reducible rfl)
      try simp only [Act.put, List.setIfInBounds_toArray, List.set_cons_zero, List.set_cons_succ]
      refine wpAnyH_take (i := 10) (v := ?_) (by simp only [List.getElem?_toArray, List.getElem?_cons_succ, List.getElem?_cons_zero]; rfl) (by kernel_rfl) (by kernel_rfl) (by kernel_rfl) (fun _ _ _ h => h) (Or.inl ⟨by rfl, ?_⟩) (by assumption) ?_
      rotate_left 1
      · (intro w hSw; (try dsimp only at hSw); obtain ⟨s0, d0, d1, d2, d3, d4⟩ := hSw; go_simp; try with_reducible rfl)
      try simp only [Act.put, List.setIfInBounds_toArray, List.set_cons_zero, List.set_cons_succ]
      refine wpAnyH_ready (rs := [1, 11]) (by kernel_rfl) (by simp) ?_
      refine AllReadyH.cons rfl (fun K hK => ?_) ?_
      · go_simp
        try go_simp
        refine hK.out _ _ (HSN.out _ HWR.out.drew) (fun hHeld => ?_)
        clear hK K
        try simp only [Act.put, List.setIfInBounds_toArray, List.set_cons_zero, List.set_cons_succ]
        refine wpAnyH_ready (rs := [11]) (by kernel_rfl) (by simp) ?_
        refine AllReadyH.cons rfl (fun K hK => ?_) AllReadyH.nil
        go_simp
        try go_simp
        refine hK.out _ _ (HSN.out _ (HWR.out.drew.alloc _)) (fun hHeld => ?_)
        clear hK K
        try simp only [Act.put, List.setIfInBounds_toArray, List.set_cons_zero, List.set_cons_succ]
        refine wpAnyH_ready (rs := [12]) (by kernel_rfl) (by simp) ?_
        refine AllReadyH.cons rfl (fun K hK => ?_) AllReadyH.nil
        refine step_append_src (by rfl) (.tmp 106) (.tmp 116) 35 35 (by rfl) (g16 + 1) 52 i0 _ 6 104 under_flds Hi0.out Hz0.out Hz1.out Hz2.out (by rfl) (.slice A3 n c3) n (cellsOf nameHead es) (by rfl) HOWD.out _ 1 (nameHead q ++ x.cells.toList) (by rfl) HSRC.out (by omega) (by simp only [maxLen]; omega) (by simp; omega) ?_
        intro A4 c4 w5 hown4 hgr4 hat4
        have hB4 := Blk.own (HB.out.alloc (.cells (x.fcells q) 52)).drew hgr4 (fun k hk => by have := (HR.out.own_lt hk).1; omega); have hc4 := hB4.cell; have hf4 := hB4.frozen
        have HGW := hide ((HWR.out.alloc (.cells (x.fcells q) 52)).drew.grown hgr4 (fun k hk => by have := (HR.out.own_lt hk).1; have := HG16.out; omega))
        refine hK.out _ _ (HSN.out _ HGW.out) (fun hHeld => ?_)
        clear hK K
        try simp only [Act.put, List.setIfInBounds_toArray, List.set_cons_zero, List.set_cons_succ]
        refine wpAnyH_take (i := 13) (v := ?_) (by simp only [List.getElem?_toArray, List.getElem?_cons_succ, List.getElem?_cons_zero]; rfl) (by kernel_rfl) (by kernel_rfl) (by kernel_rfl) (fun _ _ _ h => h) (Or.inl ⟨by rfl, ?_⟩) (by assumption) ?_
        rotate_left 1
        · (intro w hSw; (try dsimp only at hSw); obtain ⟨s0, d0, d1, d2, d3, d4⟩ := hSw; go_simp; try with_reducible rfl)
        try simp only [Act.put, List.setIfInBounds_toArray, List.set_cons_zero, List.set_cons_succ]
        refine wpAnyH_ready (rs := [14]) (by kernel_rfl) (by simp) ?_
        refine AllReadyH.cons rfl (fun K hK => ?_) AllReadyH.nil
        go_simp
        try go_simp
        refine hK.out _ _ (HSN.out _ (HGW.out.setCell (p := ⟨g16, 4, none⟩) (by have := HG16.out; show w4.heap.size ≤ g16; omega) (.slice A4 (n + 1) c4))) (fun hHeld => ?_)
        clear hK K
        try simp only [Act.put, List.setIfInBounds_toArray, List.set_cons_zero, List.set_cons_succ]
        refine wpAnyH_done (by kernel_rfl) ?_ _
        refine NoPanic.normal ?_
        have HB5 := hide (hB4.set_ 4 (.slice A4 (n + 1) c4))
        have HG5 := hide (HGW.out.setCell (p := ⟨g16, 4, none⟩) (by have := HG16.out; show w4.heap.size ≤ g16; omega) (.slice A4 (n + 1) c4))
        have HR4 := hide (FRow.add (s := q) (lo := 0) (hi := 0) HR.out.part HNZ.out HX.out (by rw [← HJE.out]; exact hown4))
        have HR5 := hide (HR4.out.kept (grown_set w5 g16 4 (.slice A4 (n + 1) c4)) (fun k hk e => by injection e with e; have := (HR4.out.own_lt hk).1; omega))
        clear hown4 hgr4 hat4 hB4 hc4 hf4 hcB hfB hltB hHeld hcB2
        go_wp2_with fail
        go_roundg gk'
        case measure => omega
        case rel =>
          refine ⟨n + 1, es ++ [⟨q, l[n], x, 0, 0⟩], A4, c4, by omega, by omega, by go_num, by simp [← HJE.out], ?_, HG5.out, HB5.out, HR5.out⟩
          rw [List.map_append, List.sum_append, HSM.out, sum_take _ l n hl1]
          simp
      refine AllReadyH.cons rfl (fun K hK => ?_) AllReadyH.nil
      go_simp
      try go_simp
      refine hK.out _ _ (HSN.out _ (HWR.out.drew.alloc _)) (fun hHeld => ?_)
      clear hK K
      try simp only [Act.put, List.setIfInBounds_toArray, List.set_cons_zero, List.set_cons_succ]
      refine wpAnyH_ready (rs := [1]) (by kernel_rfl) (by simp) ?_
      refine AllReadyH.cons rfl (fun K hK => ?_) AllReadyH.nil
      go_simp
      try go_simp
      refine hK.out _ _ (HSN.out _ (HWR.out.drew.alloc _)) (fun hHeld => ?_)
      clear hK K
      try simp only [Act.put, List.setIfInBounds_toArray, List.set_cons_zero, List.set_cons_succ]
      refine wpAnyH_ready (rs := [12]) (by kernel_rfl) (by simp) ?_
      refine AllReadyH.cons rfl (fun K hK => ?_) AllReadyH.nil
      refine step_append_src (by rfl) (.tmp 106) (.tmp 116) 35 35 (by rfl) (g16 + 1) 52 i0 _ 6 104 under_flds Hi0.out Hz0.out Hz1.out Hz2.out (by rfl) (.slice A3 n c3) n (cellsOf nameHead es) (by rfl) HOWD.out _ 1 (nameHead q ++ x.cells.toList) (by rfl) HSRC.out (by omega) (by simp only [maxLen]; omega) (by simp; omega) ?_
      intro A4 c4 w5 hown4 hgr4 hat4
      have hB4 := Blk.own (HB.out.alloc (.cells (x.fcells q) 52)).drew hgr4 (fun k hk => by have := (HR.out.own_lt hk).1; omega); have hc4 := hB4.cell; have hf4 := hB4.frozen
      have HGW := hide ((HWR.out.alloc (.cells (x.fcells q) 52)).drew.grown hgr4 (fun k hk => by have := (HR.out.own_lt hk).1; have := HG16.out; omega))
      refine hK.out _ _ (HSN.out _ HGW.out) (fun hHeld => ?_)
      clear hK K
      try simp only [Act.put, List.setIfInBounds_toArray, List.set_cons_zero, List.set_cons_succ]
      refine wpAnyH_take (i := 13) (v := ?_) (by simp only [List.getElem?_toArray, List.getElem?_cons_succ, List.getElem?_cons_zero]; rfl) (by kernel_rfl) (by kernel_rfl) (by kernel_rfl) (fun _ _ _ h => h) (Or.inl ⟨by rfl, ?_⟩) (by assumption) ?_
      rotate_left 1
      · (intro w hSw; (try dsimp only at hSw); obtain ⟨s0, d0, d1, d2, d3, d4⟩ := hSw; go_simp; try with_reducible rfl)
      try simp only [Act.put, List.setIfInBounds_toArray, List.set_cons_zero, List.set_cons_succ]
      refine wpAnyH_ready (rs := [14]) (by kernel_rfl) (by simp) ?_
      refine AllReadyH.cons rfl (fun K hK => ?_) AllReadyH.nil
      go_simp
      try go_simp
      refine hK.out _ _ (HSN.out _ (HGW.out.setCell (p := ⟨g16, 4, none⟩) (by have := HG16.out; show w4.heap.size ≤ g16; omega) (.slice A4 (n + 1) c4))) (fun hHeld => ?_)
      clear hK K
      try simp only [Act.put, List.setIfInBounds_toArray, List.set_cons_zero, List.set_cons_succ]
      refine wpAnyH_done (by kernel_rfl) ?_ _
      refine NoPanic.normal ?_
      have HB5 := hide (hB4.set_ 4 (.slice A4 (n + 1) c4))
      have HG5 := hide (HGW.out.setCell (p := ⟨g16, 4, none⟩) (by have := HG16.out; show w4.heap.size ≤ g16; omega) (.slice A4 (n + 1) c4))
      have HR4 := hide (FRow.add (s := q) (lo := 0) (hi := 0) HR.out.part HNZ.out HX.out (by rw [← HJE.out]; exact hown4))
      have HR5 := hide (HR4.out.kept (grown_set w5 g16 4 (.slice A4 (n + 1) c4)) (fun k hk e => by injection e with e; have := (HR4.out.own_lt hk).1; omega))
      clear hown4 hgr4 hat4 hB4 hc4 hf4 hcB hfB hltB hHeld hcB2
      go_wp2_with fail
      go_roundg gk'
      case measure => omega
      case rel =>
        refine ⟨n + 1, es ++ [⟨q, l[n], x, 0, 0⟩], A4, c4, by omega, by omega, by go_num, by simp [← HJE.out], ?_, HG5.out, HB5.out, HR5.out⟩
        rw [List.map_append, List.sum_append, HSM.out, sum_take _ l n hl1]
        simp
    · have HI := hide (HR.out.in_ HWR.out HJE.out (by have := HJE.out; omega))
      obtain ⟨f, hf⟩ : ∃ f, es.map (fun x => (x.s, x.v)) = f := ⟨_, rfl⟩
      rw [hf] at HI
      have hfn : f.length = n := by rw [← hf, List.length_map]; exact HJE.out.symm
      have HFC := hide (show (V.mk 8 0 [] [] f).count ≤ 20000 by
        rw [V.count_mk]
        have h1 := HSM.out
        have h2 := sum_take_le V.count l n
        have h3 := HSUM.out
        have h4 : (f.map fun x => x.2.count) = es.map fun y => y.v.count := by rw [← hf, List.map_map]; rfl
        rw [h4]
        simp
        omega)
      have hx2 : ¬ n < l.length ∨ (n < l.length ∧ ¬ n < ns.length) := by omega
      have HFN := hide hfn
      have hcB := HB.out.cell
      have hltB := HB.out.lt
      have HGR := hide (HG5.out.trans HWR.out)
      clear hf hfn hlt HSM HJE
      rcases hx2 with hx2 | ⟨hx2, hx3⟩
      all_goals
        go_wp2_with fail
        refine (size_top (.mk 8 0 [] [] f) wr ⟨8, 0, none, 0, 0, none, 0, 0, A3, n, c3⟩ HFC.out (HT.out.grow HGR.out) HI.out).mono ?_
        rintro e w5 ⟨rfl, hg5⟩
        have HG6 := hide (HGR.out.trans hg5)
        have HB6 := hide (HB.out.grow hg5)
        have HI6 := hide (HI.out.grow hg5)
        obtain ⟨G2, hG2⟩ : ∃ G, (V.mk 8 0 [] [] f).good = G := ⟨_, rfl⟩
        rw [hG2, sizeF_all]
        have HGF := hide hG2
        clear hg5 hG2 hcB hltB
        by_cases g0 : G2 = 0
        · subst g0
          have hz0 : sizeF f ≤ 4096 := by rw [← sizeF_all]; exact (V.good_formed HGF.out).2
          obtain ⟨Z, hZ⟩ : ∃ Z, sizeF f = Z := ⟨_, rfl⟩
          rw [hZ] at hz0 ⊢
          have HZ := hide hZ
          have HB := HB6
          have hcB := HB.out.cell
          have hltB := HB.out.lt
          clear hZ HB6
          go_wp2_with fail
          go_loopg [20, 21] (n + 1) (fun gk s i wr => ∃ j z : Nat, j ≤ n ∧ gk + j = n + 1 ∧ i = .int .i64 j ∧ s = .int .i64 z ∧ z = sizeF (f.take j) ∧ z ≤ 4096 ∧ Grow w5 wr)
          case atStart => exact ⟨0, 2, by omega, by omega, rfl, rfl, rfl, by omega, Grow.refl _⟩
          case round =>
            obtain ⟨j, z, hj, hgk, rfl, rfl, hzj, hz4, hwr⟩ := hrel
            have HZJ := hide hzj
            have HWR := hide hwr
            have HGR := hide (HG6.out.trans hwr)
            have HBR := hide (HB.out.grow hwr)
            have hcr := HBR.out.cell
            have hltr := HBR.out.lt
            clear hzj hwr hcB hltB
            obtain ⟨gk', rfl⟩ : ∃ g, gk = g + 1 := ⟨gk - 1, by omega⟩
            by_cases hlt : j < n
            · have hlf : j < f.length := by rw [HFN.out]; exact hlt
              obtain ⟨bk, o, x, ha, hbk, es0, esz, e0, e1, e2, e3, e4, hx⟩ := (HI6.out.grow HWR.out).elemF j hlf
              dsimp only at ha
              subst ha
              have HX := hide hx
              obtain ⟨u, hu⟩ : ∃ u, f[j].2 = u := ⟨_, rfl⟩
              obtain ⟨q, hq⟩ : ∃ q, f[j].1 = q := ⟨_, rfl⟩
              rw [hq] at es0
              have HSX0 := hide (show ∀ w', Grow wr w' → w'.cell? ⟨bk, o + j * 6, none⟩ = some (.string q) ∧ w'.cell? ⟨bk, o + j * 6 + 1, none⟩ = some (.int .i64 x.k) ∧ w'.cell? ⟨bk, o + j * 6 + 1 + 1, none⟩ = some (.int .u64 x.n) ∧ w'.cell? ⟨bk, o + j * 6 + 1 + 2, none⟩ = some (.slice x.aB x.nB x.cB) ∧ w'.cell? ⟨bk, o + j * 6 + 1 + 3, none⟩ = some (.slice x.aL x.nL x.cL) ∧ w'.cell? ⟨bk, o + j * 6 + 1 + 4, none⟩ = some (.slice x.aF x.nF x.cF) from fun w' h => ⟨(h.below.cell hbk).trans es0, (h.below.cell hbk).trans e0, (h.below.cell hbk).trans e1, (h.below.cell hbk).trans e2, (h.below.cell hbk).trans e3, (h.below.cell hbk).trans e4⟩)
              have hst : sizeF (f.take (j + 1)) = z + 1 + q.size + u.bytes.length := by rw [sizeF_snoc hlf, ← HZJ.out, hu, hq]
              have hle : z + 1 + q.size + u.bytes.length ≤ 4096 := by have := sizeF_le f (j + 1); have := HZ.out; omega
              have HUG := hide (show u.good = 0 by rw [← hu]; exact doc_good HGF.out hlf)
              have HUC := hide (show u.count ≤ 20000 by have := good_small HUG.out; omega)
              have HPT := hide (show pathV (.mk 8 0 [] [] f) q = some u by rw [← hu, ← hq]; exact doc_path HGF.out hlf)
              obtain ⟨k, hk⟩ : ∃ k, u.bytes.length = k := ⟨_, rfl⟩
              rw [hk] at hst hle
              have HK := hide hk
              have HST := hide hst
              rw [hu] at HX
              have hqz : q.size < 4294967281 := by omega
              clear hx hu hk hst hq esz
              go_wp2_with fail
              refine (size_top u wr x HUC.out (HT.out.grow HGR.out) HX.out).mono ?_
              rintro e w6 ⟨rfl, hg6⟩
              rw [if_pos HUG.out, HUG.out, HK.out]
              have HW6 := hide hg6
              have HG7 := hide (HWR.out.trans hg6)
              have HBR6 := hide (HBR.out.grow hg6)
              have HX6 := hide (HX.out.grow hg6)
              clear hg6 e0 e1 e2 e3 e4 es0 hbk hcr hltr
              have HSX := hide (show ∀ w', Grow w6 w' → (fun w' => (∀ i, w'.cell? ⟨g16, i, none⟩ = (Cv.cells ⟨8, 0, none, 0, 0, none, 0, 0, some ⟨bk, o, none⟩, n, c3⟩)[i]?) ∧ w'.cell? ⟨bk, o + j * 6, none⟩ = some (.string q)) w' from fun w' h => ⟨(HBR6.out.grow h).cell, (HSX0.out _ (HW6.out.trans h)).1⟩)
              have HP1 := hide (vpath_any (.mk 8 0 [] [] f) q ⟨8, 0, none, 0, 0, none, 0, 0, some ⟨bk, o, none⟩, n, c3⟩ w6.drew (HT.out.grow (HG6.out.trans HG7.out.drew)) (HM.out.grow (HG6.out.trans HG7.out.drew)) HFC.out hqz (HI6.out.grow HG7.out.drew))
              have HP2 := hide (vpath_any (.mk 8 0 [] [] f) q ⟨8, 0, none, 0, 0, none, 0, 0, some ⟨bk, o, none⟩, n, c3⟩ (w6.drew.alloc (.cells Cv.zero.cells 37)) (HT.out.grow (HG6.out.trans (HG7.out.drew.alloc _))) (HM.out.grow (HG6.out.trans (HG7.out.drew.alloc _))) HFC.out hqz (HI6.out.grow (HG7.out.drew.alloc _)))
              have HDR := hide ((Grow.refl w6).drew)
              have HZO := HZ
              clear HZ
              have HZ := hide (show Blk (w6.drew.alloc (.cells Cv.zero.cells 37)) w6.heap.size 37 Cv.zero.cells from Blk.new w6.drew 37 Cv.zero.cells)
              go_upto_region 33 with fail
              go_cut [24, 25] (fun p t wx => PathAt w6 (pathV (.mk 8 0 [] [] f) q) p t wx)
              case first =>
                refine wp_region_noPanic ?_
                refine wp_region_held_drew (S := fun w' => (∀ i, w'.cell? ⟨g16, i, none⟩ = (Cv.cells ⟨8, 0, none, 0, 0, none, 0, 0, some ⟨bk, o, none⟩, n, c3⟩)[i]?) ∧ w'.cell? ⟨bk, o + j * 6, none⟩ = some (.string q)) (by kernel_rfl) (HSX.out _ (Grow.refl _).drew) (fun hHeld => ?_)
                refine wpAnyH_take (i := 0) (v := ?_) (by simp only [List.getElem?_toArray, List.getElem?_cons_succ, List.getElem?_cons_zero]; rfl) (by kernel_rfl) (by kernel_rfl) (by kernel_rfl) (fun _ _ _ h => h) (Or.inl ⟨by rfl, ?_⟩) (by assumption) ?_
                rotate_left 1
                · (intro w hSw; (try dsimp only at hSw); obtain ⟨hA, d0⟩ := hSw; go_simp; try with_reducible rfl)
                try simp only [Act.put, List.setIfInBounds_toArray, List.set_cons_zero, List.set_cons_succ]
                refine wpAnyH_take (i := 1) (v := ?_) (by simp only [List.getElem?_toArray, List.getElem?_cons_succ, List.getElem?_cons_zero]; rfl) (by kernel_rfl) (by kernel_rfl) (by kernel_rfl) (fun _ _ _ h => h) (Or.inl ⟨by rfl, ?_⟩) (by assumption) ?_
                rotate_left 1
                · (intro w hSw; (try dsimp only at hSw); obtain ⟨hA, d0⟩ := hSw; go_simp; try with_reducible rfl)
                try simp only [Act.put, List.setIfInBounds_toArray, List.set_cons_zero, List.set_cons_succ]
                refine wpAnyH_take (i := 2) (v := ?_) (by simp only [List.getElem?_toArray, List.getElem?_cons_succ, List.getElem?_cons_zero]; rfl) (by kernel_rfl) (by kernel_rfl) (by kernel_rfl) (fun _ _ _ h => h) (Or.inl ⟨by rfl, ?_⟩) (by assumption) ?_
                rotate_left 1
                · (intro w hSw; (try dsimp only at hSw); obtain ⟨hA, d0⟩ := hSw; go_simp; try with_reducible rfl)
                try simp only [Act.put, List.setIfInBounds_toArray, List.set_cons_zero, List.set_cons_succ]
                refine wpAnyH_take (i := 3) (v := ?_) (by simp only [List.getElem?_toArray, List.getElem?_cons_succ, List.getElem?_cons_zero]; rfl) (by kernel_rfl) (by kernel_rfl) (by kernel_rfl) (fun _ _ _ h => h) (Or.inl ⟨by rfl, ?_⟩) (by assumption) ?_
                rotate_left 1
                · (intro w hSw; (try dsimp only at hSw); obtain ⟨hA, d0⟩ := hSw; go_simp; try with_reducible rfl)
                try simp only [Act.put, List.setIfInBounds_toArray, List.set_cons_zero, List.set_cons_succ]
                refine wpAnyH_take (i := 4) (v := ?_) (by simp only [List.getElem?_toArray, List.getElem?_cons_succ, List.getElem?_cons_zero]; rfl) (by kernel_rfl) (by kernel_rfl) (by kernel_rfl) (fun _ _ _ h => h) (Or.inl ⟨by rfl, ?_⟩) (by assumption) ?_
                rotate_left 1
                · (intro w hSw; (try dsimp only at hSw); obtain ⟨hA, d0⟩ := hSw; go_simp; try with_reducible rfl)
                try simp only [Act.put, List.setIfInBounds_toArray, List.set_cons_zero, List.set_cons_succ]
                refine wpAnyH_take (i := 5) (v := ?_) (by simp only [List.getElem?_toArray, List.getElem?_cons_succ, List.getElem?_cons_zero]; rfl) (by kernel_rfl) (by kernel_rfl) (by kernel_rfl) (fun _ _ _ h => h) (Or.inl ⟨by rfl, ?_⟩) (by assumption) ?_
                rotate_left 1
                · (intro w hSw; (try dsimp only at hSw); obtain ⟨hA, d0⟩ := hSw; go_simp; try with_reducible rfl)
                try simp only [Act.put, List.setIfInBounds_toArray, List.set_cons_zero, List.set_cons_succ]
                refine wpAnyH_take (i := 6) (v := ?_) (by simp only [List.getElem?_toArray, List.getElem?_cons_succ, List.getElem?_cons_zero]; rfl) (by kernel_rfl) (by kernel_rfl) (by kernel_rfl) (fun _ _ _ h => h) (Or.inl ⟨by rfl, ?_⟩) (by assumption) ?_
                rotate_left 1
                · (intro w hSw; (try dsimp only at hSw); obtain ⟨hA, d0⟩ := hSw; go_simp; try with_reducible rfl)
                try simp only [Act.put, List.setIfInBounds_toArray, List.set_cons_zero, List.set_cons_succ]
                refine wpAnyH_ready (rs := [7, 11]) (by kernel_rfl) (by simp) ?_
                refine AllReadyH.cons rfl (fun K hK => ?_) ?_
                · go_simp
                  refine HP1.out.mono ?_
                  rintro e w4 ⟨hg4, ch, th, uh, rfl, hh, hhp⟩
                  try go_simp
                  refine hK.out _ _ (HSX.out _ ((Grow.refl _).drew.trans hg4)) (fun hHeld => ?_)
                  clear hK K
                  try simp only [Act.put, List.setIfInBounds_toArray, List.set_cons_zero, List.set_cons_succ]
                  refine wpAnyH_take (i := 8) (v := ?_) (by simp only [List.getElem?_toArray, List.getElem?_cons_succ, List.getElem?_cons_zero]; rfl) (by kernel_rfl) (by kernel_rfl) (by kernel_rfl) (fun _ _ _ h => h) (Or.inl ⟨by rfl, ?_⟩) (by assumption) ?_
                  rotate_left 1
                  · (intro w hSw; (try dsimp only at hSw); obtain ⟨hA, d0⟩ := hSw; go_simp; try with_reducible rfl)
                  try simp only [Act.put, List.setIfInBounds_toArray, List.set_cons_zero, List.set_cons_succ]
                  refine wpAnyH_take (i := 9) (v := ?_) (by simp only [List.getElem?_toArray, List.getElem?_cons_succ, List.getElem?_cons_zero]; rfl) (by kernel_rfl) (by kernel_rfl) (by kernel_rfl) (fun _ _ _ h => h) (Or.inl ⟨by rfl, ?_⟩) (by assumption) ?_
                  rotate_left 1
                  · (intro w hSw; (try dsimp only at hSw); obtain ⟨hA, d0⟩ := hSw; go_simp; try with_reducible rfl)
                  try simp only [Act.put, List.setIfInBounds_toArray, List.set_cons_zero, List.set_cons_succ]
                  refine wpAnyH_take (i := 10) (v := ?_) (by simp only [List.getElem?_toArray, List.getElem?_cons_succ, List.getElem?_cons_zero]; rfl) (by kernel_rfl) (by kernel_rfl) (by kernel_rfl) (fun _ _ _ h => h) (Or.inl ⟨by rfl, ?_⟩) (by assumption) ?_
                  rotate_left 1
                  · (intro w hSw; (try dsimp only at hSw); obtain ⟨hA, d0⟩ := hSw; go_simp; try with_reducible rfl)
                  try simp only [Act.put, List.setIfInBounds_toArray, List.set_cons_zero, List.set_cons_succ]
                  refine wpAnyH_ready (rs := [11]) (by kernel_rfl) (by simp) ?_
                  refine AllReadyH.cons rfl (fun K hK => ?_) AllReadyH.nil
                  go_simp
                  try go_simp
                  refine hK.out _ _ (HSX.out _ (((Grow.refl _).drew.trans hg4).alloc _)) (fun hHeld => ?_)
                  clear hK K
                  try simp only [Act.put, List.setIfInBounds_toArray, List.set_cons_zero, List.set_cons_succ]
                  refine wpAnyH_ready (rs := [12]) (by kernel_rfl) (by simp) ?_
                  refine AllReadyH.cons rfl (fun K hK => ?_) AllReadyH.nil
                  go_simp
                  try go_simp
                  refine hK.out _ _ (HSX.out _ (((Grow.refl _).drew.trans hg4).alloc _)) (fun hHeld => ?_)
                  clear hK K
                  try simp only [Act.put, List.setIfInBounds_toArray, List.set_cons_zero, List.set_cons_succ]
                  refine wpAnyH_take (i := 13) (v := ?_) (by simp only [List.getElem?_toArray, List.getElem?_cons_succ, List.getElem?_cons_zero]; rfl) (by kernel_rfl) (by kernel_rfl) (by kernel_rfl) (fun _ _ _ h => h) (Or.inl ⟨by rfl, ?_⟩) (by assumption) ?_
                  rotate_left 1
                  · (intro w hSw; (try dsimp only at hSw); obtain ⟨hA, d0⟩ := hSw; go_simp; try with_reducible rfl)
                  try simp only [Act.put, List.setIfInBounds_toArray, List.set_cons_zero, List.set_cons_succ]
                  refine wpAnyH_done (by kernel_rfl) ?_ _
                  refine NoPanic.normal ?_
                  go_wp2_with fail
                  go_meet
                  exact PathAt.late HDR.out hg4 hh hhp
                refine AllReadyH.cons rfl (fun K hK => ?_) AllReadyH.nil
                go_simp
                try go_simp
                refine hK.out _ _ (HSX.out _ ((Grow.refl _).drew.alloc _)) (fun hHeld => ?_)
                clear hK K
                try simp only [Act.put, List.setIfInBounds_toArray, List.set_cons_zero, List.set_cons_succ]
                refine wpAnyH_ready (rs := [7]) (by kernel_rfl) (by simp) ?_
                refine AllReadyH.cons rfl (fun K hK => ?_) AllReadyH.nil
                go_simp
                refine HP2.out.mono ?_
                rintro e w4 ⟨hg4, ch, th, uh, rfl, hh, hhp⟩
                have hB4 := HZ.out.grow hg4
                have hc4 := hB4.cell
                have hlt4 := hB4.lt
                have hz4 := hB4.frozen
                try go_simp
                refine hK.out _ _ (HSX.out _ (((Grow.refl _).drew.alloc _).trans hg4)) (fun hHeld => ?_)
                clear hK K
                try simp only [Act.put, List.setIfInBounds_toArray, List.set_cons_zero, List.set_cons_succ]
                refine wpAnyH_take (i := 8) (v := ?_) (by simp only [List.getElem?_toArray, List.getElem?_cons_succ, List.getElem?_cons_zero]; rfl) (by kernel_rfl) (by kernel_rfl) (by kernel_rfl) (fun _ _ _ h => h) (Or.inl ⟨by rfl, ?_⟩) (by assumption) ?_
                rotate_left 1
                · (intro w hSw; (try dsimp only at hSw); obtain ⟨hA, d0⟩ := hSw; go_simp; try with_reducible rfl)
                try simp only [Act.put, List.setIfInBounds_toArray, List.set_cons_zero, List.set_cons_succ]
                refine wpAnyH_take (i := 9) (v := ?_) (by simp only [List.getElem?_toArray, List.getElem?_cons_succ, List.getElem?_cons_zero]; rfl) (by kernel_rfl) (by kernel_rfl) (by kernel_rfl) (fun _ _ _ h => h) (Or.inl ⟨by rfl, ?_⟩) (by assumption) ?_
                rotate_left 1
                · (intro w hSw; (try dsimp only at hSw); obtain ⟨hA, d0⟩ := hSw; go_simp; try with_reducible rfl)
                try simp only [Act.put, List.setIfInBounds_toArray, List.set_cons_zero, List.set_cons_succ]
                refine wpAnyH_take (i := 10) (v := ?_) (by simp only [List.getElem?_toArray, List.getElem?_cons_succ, List.getElem?_cons_zero]; rfl) (by kernel_rfl) (by kernel_rfl) (by kernel_rfl) (fun _ _ _ h => h) (Or.inl ⟨by rfl, ?_⟩) (by assumption) ?_
                rotate_left 1
                · (intro w hSw; (try dsimp only at hSw); obtain ⟨hA, d0⟩ := hSw; go_simp; try with_reducible rfl)
                try simp only [Act.put, List.setIfInBounds_toArray, List.set_cons_zero, List.set_cons_succ]
                refine wpAnyH_ready (rs := [12]) (by kernel_rfl) (by simp) ?_
                refine AllReadyH.cons rfl (fun K hK => ?_) AllReadyH.nil
                go_simp
                try go_simp
                refine hK.out _ _ (HSX.out _ ((((Grow.refl _).drew.alloc _).trans hg4).set5v (Nat.le_refl _) ch)) (fun hHeld => ?_)
                clear hK K
                try simp only [Act.put, List.setIfInBounds_toArray, List.set_cons_zero, List.set_cons_succ]
                refine wpAnyH_take (i := 13) (v := ?_) (by simp only [List.getElem?_toArray, List.getElem?_cons_succ, List.getElem?_cons_zero]; rfl) (by kernel_rfl) (by kernel_rfl) (by kernel_rfl) (fun _ _ _ h => h) (Or.inl ⟨by rfl, ?_⟩) (by assumption) ?_
                rotate_left 1
                · (intro w hSw; (try dsimp only at hSw); obtain ⟨hA, d0⟩ := hSw; go_simp; try with_reducible rfl)
                try simp only [Act.put, List.setIfInBounds_toArray, List.set_cons_zero, List.set_cons_succ]
                refine wpAnyH_done (by kernel_rfl) ?_ _
                refine NoPanic.normal ?_
                go_wp2_with fail
                go_meet
                exact PathAt.early (HDR.out.alloc _) hg4 (Nat.le_refl _) (by simp) hB4 hh hhp
              case rest =>
              obtain ⟨hg8, b5, ch, th, uh, rfl, rfl, hb5, hB5, hin5, hhp⟩ := hcut
              rename World => w8
              obtain ⟨rfl, rfl⟩ : th = true ∧ uh = u := by
                have hp := HPT.out
                rcases hhp with ⟨h, h1⟩ | ⟨h, -⟩
                · rw [hp] at h; injection h with h; exact ⟨h1, h.symm⟩
                · rw [hp] at h; cases h
              have HG8 := hide (HG7.out.trans hg8)
              have HSY := hide (show ∀ w', Grow w8 w' → (fun w' => (∀ i, w'.cell? ⟨b5, i, none⟩ = ch.cells[i]?) ∧ (∀ i, w'.cell? ⟨g16, i, none⟩ = (Cv.cells ⟨8, 0, none, 0, 0, none, 0, 0, some ⟨bk, o, none⟩, n, c3⟩)[i]?) ∧ w'.cell? ⟨bk, o + j * 6 + 1, none⟩ = some (.int .i64 x.k) ∧ w'.cell? ⟨bk, o + j * 6 + 1 + 1, none⟩ = some (.int .u64 x.n) ∧ w'.cell? ⟨bk, o + j * 6 + 1 + 2, none⟩ = some (.slice x.aB x.nB x.cB) ∧ w'.cell? ⟨bk, o + j * 6 + 1 + 3, none⟩ = some (.slice x.aL x.nL x.cL) ∧ w'.cell? ⟨bk, o + j * 6 + 1 + 4, none⟩ = some (.slice x.aF x.nF x.cF)) w' from fun w' h => ⟨(hB5.grow h).cell, ((HBR6.out.grow hg8).grow h).cell, (HSX0.out _ ((HW6.out.trans hg8).trans h)).2⟩)
              have HIN8 := hide hin5
              have HX8 := hide (HX6.out.grow hg8)
              have HCS := hide (show Calls Tryd.prog 17 #[ch.agg, x.agg] w8.drew fun e w' => e = .returned (.bool true) ∧ Grow w8.drew w' by
                have h := lawSame_any uh uh w8.drew ch x (HIN8.out.grow (Grow.refl _).drew) (HX8.out.grow (Grow.refl _).drew)
                rw [sameB_self] at h
                exact h)
              have HW8 := hide (HW6.out.trans hg8)
              have HBR8 := hide (HBR6.out.grow hg8)
              clear hg8 hb5 hB5 hin5 hhp HP1 HP2 HZ
              go_upto_region 34 with fail
              refine wp_region_noPanic ?_
              refine wp_region_held_drew (S := fun w' => (∀ i, w'.cell? ⟨b5, i, none⟩ = ch.cells[i]?) ∧ (∀ i, w'.cell? ⟨g16, i, none⟩ = (Cv.cells ⟨8, 0, none, 0, 0, none, 0, 0, some ⟨bk, o, none⟩, n, c3⟩)[i]?) ∧ w'.cell? ⟨bk, o + j * 6 + 1, none⟩ = some (.int .i64 x.k) ∧ w'.cell? ⟨bk, o + j * 6 + 1 + 1, none⟩ = some (.int .u64 x.n) ∧ w'.cell? ⟨bk, o + j * 6 + 1 + 2, none⟩ = some (.slice x.aB x.nB x.cB) ∧ w'.cell? ⟨bk, o + j * 6 + 1 + 3, none⟩ = some (.slice x.aL x.nL x.cL) ∧ w'.cell? ⟨bk, o + j * 6 + 1 + 4, none⟩ = some (.slice x.aF x.nF x.cF)) (by kernel_rfl) (HSY.out _ (Grow.refl _).drew) (fun hHeld => ?_)
              refine wpAnyH_take (i := 0) (v := ?_) (by simp only [List.getElem?_toArray, List.getElem?_cons_succ, List.getElem?_cons_zero]; rfl) (by kernel_rfl) (by kernel_rfl) (by kernel_rfl) (fun _ _ _ h => h) (Or.inl ⟨by rfl, ?_⟩) (by assumption) ?_
              rotate_left 1
              · (intro w hSw; (try dsimp only at hSw); obtain ⟨hA, hD, d0, d1, d2, d3, d4⟩ := hSw; go_simp; try with_reducible rfl)
              try simp only [Act.put, List.setIfInBounds_toArray, List.set_cons_zero, List.set_cons_succ]
              refine wpAnyH_take (i := 1) (v := ?_) (by simp only [List.getElem?_toArray, List.getElem?_cons_succ, List.getElem?_cons_zero]; rfl) (by kernel_rfl) (by kernel_rfl) (by kernel_rfl) (fun _ _ _ h => h) (Or.inl ⟨by rfl, ?_⟩) (by assumption) ?_
              rotate_left 1
              · (intro w hSw; (try dsimp only at hSw); obtain ⟨hA, hD, d0, d1, d2, d3, d4⟩ := hSw; go_simp; try with_reducible rfl)
              try simp only [Act.put, List.setIfInBounds_toArray, List.set_cons_zero, List.set_cons_succ]
              refine wpAnyH_take (i := 2) (v := ?_) (by simp only [List.getElem?_toArray, List.getElem?_cons_succ, List.getElem?_cons_zero]; rfl) (by kernel_rfl) (by kernel_rfl) (by kernel_rfl) (fun _ _ _ h => h) (Or.inl ⟨by rfl, ?_⟩) (by assumption) ?_
              rotate_left 1
              · (intro w hSw; (try dsimp only at hSw); obtain ⟨hA, hD, d0, d1, d2, d3, d4⟩ := hSw; go_simp; try with_reducible rfl)
              try simp only [Act.put, List.setIfInBounds_toArray, List.set_cons_zero, List.set_cons_succ]
              refine wpAnyH_take (i := 3) (v := ?_) (by simp only [List.getElem?_toArray, List.getElem?_cons_succ, List.getElem?_cons_zero]; rfl) (by kernel_rfl) (by kernel_rfl) (by kernel_rfl) (fun _ _ _ h => h) (Or.inl ⟨by rfl, ?_⟩) (by assumption) ?_
              rotate_left 1
              · (intro w hSw; (try dsimp only at hSw); obtain ⟨hA, hD, d0, d1, d2, d3, d4⟩ := hSw; go_simp; try with_reducible rfl)
              try simp only [Act.put, List.setIfInBounds_toArray, List.set_cons_zero, List.set_cons_succ]
              refine wpAnyH_take (i := 4) (v := ?_) (by simp only [List.getElem?_toArray, List.getElem?_cons_succ, List.getElem?_cons_zero]; rfl) (by kernel_rfl) (by kernel_rfl) (by kernel_rfl) (fun _ _ _ h => h) (Or.inl ⟨by rfl, ?_⟩) (by assumption) ?_
              rotate_left 1
              · (intro w hSw; (try dsimp only at hSw); obtain ⟨hA, hD, d0, d1, d2, d3, d4⟩ := hSw; go_simp; try with_reducible rfl)
              try simp only [Act.put, List.setIfInBounds_toArray, List.set_cons_zero, List.set_cons_succ]
              refine wpAnyH_take (i := 5) (v := ?_) (by simp only [List.getElem?_toArray, List.getElem?_cons_succ, List.getElem?_cons_zero]; rfl) (by kernel_rfl) (by kernel_rfl) (by kernel_rfl) (fun _ _ _ h => h) (Or.inl ⟨by rfl, ?_⟩) (by assumption) ?_
              rotate_left 1
              · (intro w hSw; (try dsimp only at hSw); obtain ⟨hA, hD, d0, d1, d2, d3, d4⟩ := hSw; go_simp; try with_reducible rfl)
              try simp only [Act.put, List.setIfInBounds_toArray, List.set_cons_zero, List.set_cons_succ]
              refine wpAnyH_take (i := 6) (v := ?_) (by simp only [List.getElem?_toArray, List.getElem?_cons_succ, List.getElem?_cons_zero]; rfl) (by kernel_rfl) (by kernel_rfl) (by kernel_rfl) (fun _ _ _ h => h) (Or.inl ⟨by rfl, ?_⟩) (by assumption) ?_
              rotate_left 1
              · (intro w hSw; (try dsimp only at hSw); obtain ⟨hA, hD, d0, d1, d2, d3, d4⟩ := hSw; go_simp; try with_reducible rfl)
              try simp only [Act.put, List.setIfInBounds_toArray, List.set_cons_zero, List.set_cons_succ]
              refine wpAnyH_take (i := 7) (v := ?_) (by simp only [List.getElem?_toArray, List.getElem?_cons_succ, List.getElem?_cons_zero]; rfl) (by kernel_rfl) (by kernel_rfl) (by kernel_rfl) (fun _ _ _ h => h) (Or.inl ⟨by rfl, ?_⟩) (by assumption) ?_
              rotate_left 1
              · (intro w hSw; (try dsimp only at hSw); obtain ⟨hA, hD, d0, d1, d2, d3, d4⟩ := hSw; go_simp; try with_reducible rfl)
              try simp only [Act.put, List.setIfInBounds_toArray, List.set_cons_zero, List.set_cons_succ]
              refine wpAnyH_take (i := 8) (v := ?_) (by simp only [List.getElem?_toArray, List.getElem?_cons_succ, List.getElem?_cons_zero]; rfl) (by kernel_rfl) (by kernel_rfl) (by kernel_rfl) (fun _ _ _ h => h) (Or.inl ⟨by rfl, ?_⟩) (by assumption) ?_
              rotate_left 1
              · (intro w hSw; (try dsimp only at hSw); obtain ⟨hA, hD, d0, d1, d2, d3, d4⟩ := hSw; go_simp; try with_reducible rfl)
              try simp only [Act.put, List.setIfInBounds_toArray, List.set_cons_zero, List.set_cons_succ]
              refine wpAnyH_take (i := 9) (v := ?_) (by simp only [List.getElem?_toArray, List.getElem?_cons_succ, List.getElem?_cons_zero]; rfl) (by kernel_rfl) (by kernel_rfl) (by kernel_rfl) (fun _ _ _ h => h) (Or.inl ⟨by rfl, ?_⟩) (by assumption) ?_
              rotate_left 1
              · (intro w hSw; (try dsimp only at hSw); obtain ⟨hA, hD, d0, d1, d2, d3, d4⟩ := hSw; go_simp; try with_reducible rfl)
              try simp only [Act.put, List.setIfInBounds_toArray, List.set_cons_zero, List.set_cons_succ]
              refine wpAnyH_ready (rs := [10]) (by kernel_rfl) (by simp) ?_
              refine AllReadyH.cons (by simp only [List.getElem?_toArray, List.getElem?_cons_succ, List.getElem?_cons_zero]; rfl) (fun K hK => ?_) AllReadyH.nil
              go_simp
              refine HCS.out.mono ?_
              rintro e wz ⟨rfl, hgz⟩
              refine hK.out _ _ (HSY.out _ ((Grow.refl _).drew.trans hgz)) (fun hHeld => ?_)
              clear hK K
              try simp only [Act.put, List.setIfInBounds_toArray, List.set_cons_zero, List.set_cons_succ]
              refine wpAnyH_take (i := 11) (v := ?_) (by simp only [List.getElem?_toArray, List.getElem?_cons_succ, List.getElem?_cons_zero]; rfl) (by kernel_rfl) (by kernel_rfl) (by kernel_rfl) (fun _ _ _ h => h) (Or.inl ⟨by rfl, ?_⟩) (by assumption) ?_
              rotate_left 1
              · (intro w hSw; (try dsimp only at hSw); obtain ⟨hA, hD, d0, d1, d2, d3, d4⟩ := hSw; go_simp; try with_reducible rfl)
              try simp only [Act.put, List.setIfInBounds_toArray, List.set_cons_zero, List.set_cons_succ]
              refine wpAnyH_take (i := 12) (v := ?_) (by simp only [List.getElem?_toArray, List.getElem?_cons_succ, List.getElem?_cons_zero]; rfl) (by kernel_rfl) (by kernel_rfl) (by kernel_rfl) (fun _ _ _ h => h) (Or.inl ⟨by rfl, ?_⟩) (by assumption) ?_
              rotate_left 1
              · (intro w hSw; (try dsimp only at hSw); obtain ⟨hA, hD, d0, d1, d2, d3, d4⟩ := hSw; go_simp; try with_reducible rfl)
              try simp only [Act.put, List.setIfInBounds_toArray, List.set_cons_zero, List.set_cons_succ]
              refine wpAnyH_done (by kernel_rfl) ?_ _
              refine NoPanic.normal ?_
              have hcz := (HBR8.out.grow ((Grow.refl _).drew.trans hgz)).cell
              have hqc := (HSX0.out _ (HW8.out.trans ((Grow.refl _).drew.trans hgz))).1
              go_wp2_with fail
              go_roundg gk'
              case measure => omega
              case rel => exact ⟨j + 1, z + 1 + q.size + k, by omega, by omega, by go_num, by go_num, HST.out.symm, by omega, HG8.out.trans ((Grow.refl _).drew.trans hgz)⟩
            · obtain rfl : j = n := by omega
              have hzz : z = Z := by rw [HZJ.out, ← HFN.out, List.take_length]; exact HZ.out
              subst hzz
              go_wp2_with fail
              go_ret
              exact ⟨ret_bool (by simp), HGR.out⟩
        · have g1 : (G2 != 0) = true := by simpa using g0
          rw [if_neg g0]
          go_wp2_with fail
          go_ret
          exact ⟨rfl, HG6.out⟩
end Go.Proofs.YtcdbchifigonpaaDoor
