/- The closed law ValKnown holds: chapter 2's examples. Written by wip/tools/gen_vknown.py. -/
import Derived.Test.YtcdbchifigonpaaDoorVKn
import Derived.Test.YtcdbchifigonpaaDoorPathAt
set_option linter.unusedVariables false
set_option linter.unusedSimpArgs false
namespace Go.Proofs.YtcdbchifigonpaaDoor
open Go.RowKit Go.Shelf

theorem In.vW {w : World} {g : Nat} (hB : Blk w g 52 #[.string ⟨#[97]⟩, .int .i64 3, .int .u64 1, .slice none 0 0, .slice none 0 0, .slice none 0 0, .string ⟨#[98]⟩, .int .i64 3, .int .u64 2, .slice none 0 0, .slice none 0 0, .slice none 0 0]) : In w vW ⟨8, 0, none, 0, 0, none, 0, 0, some ⟨g, 0, none⟩, 2, 2⟩ := by
  have hlt := hB.lt
  unfold In
  unfold Go.Proofs.YtcdbchifigonpaaDoor.vW
  rw [IsV]
  refine ⟨rfl, rfl, rfl, rfl, rfl, by decide, by decide, by decide, by simp, by simp, by simp, by simp, by simp, by simp, ⟨rfl, fun h => by simp at h⟩, fun i hi => by simp at hi, fun i hi => ?_⟩
  have hi2 : i = 0 ∨ i = 1 := by simp at hi; omega
  rcases hi2 with rfl | rfl
  · exact ⟨g, 0, cN 3 1, rfl, ⟨hB.cell 0, Nat.zero_le _, hlt⟩, (by show (1 : Nat) ≤ 140737488355328; decide), ⟨⟨hB.cell 1, Nat.zero_le _, hlt⟩, ⟨hB.cell 2, Nat.zero_le _, hlt⟩, ⟨hB.cell 3, Nat.zero_le _, hlt⟩, ⟨hB.cell 4, Nat.zero_le _, hlt⟩, ⟨hB.cell 5, Nat.zero_le _, hlt⟩⟩, In.num 3 1 (by decide) (by decide) (by decide)⟩
  · exact ⟨g, 0, cN 3 2, rfl, ⟨hB.cell 6, Nat.zero_le _, hlt⟩, (by show (1 : Nat) ≤ 140737488355328; decide), ⟨⟨hB.cell 7, Nat.zero_le _, hlt⟩, ⟨hB.cell 8, Nat.zero_le _, hlt⟩, ⟨hB.cell 9, Nat.zero_le _, hlt⟩, ⟨hB.cell 10, Nat.zero_le _, hlt⟩, ⟨hB.cell 11, Nat.zero_le _, hlt⟩⟩, In.num 3 2 (by decide) (by decide) (by decide)⟩
theorem vL1_good : (vL [vI 1]).good = 0 := vL_good (fun x hx => by simp only [List.mem_cons, List.not_mem_nil, or_false] at hx; subst hx; exact vI_good 1) (by simp) (fun x hx => by simp only [List.mem_cons, List.not_mem_nil, or_false] at hx; subst hx; unfold vI; rw [num_depth 3 (.inl rfl)]; omega) (by have h : (vI 1).bytes.length = 9 := num_bytes 3 (.inl rfl) 1; simp [h])
theorem vL2_good : (vL [vI 1, vI 2]).good = 0 := vL_good (fun x hx => by simp only [List.mem_cons, List.not_mem_nil, or_false] at hx; rcases hx with rfl | rfl <;> exact vI_good _) (by simp) (fun x hx => by simp only [List.mem_cons, List.not_mem_nil, or_false] at hx; rcases hx with rfl | rfl <;> (unfold vI; rw [num_depth 3 (.inl rfl)]; omega)) (by have h : (vI 1).bytes.length = 9 := num_bytes 3 (.inl rfl) 1; have h2 : (vI 2).bytes.length = 9 := num_bytes 3 (.inl rfl) 2; simp [h, h2])
set_option maxRecDepth 100000 in
set_option maxHeartbeats 3200000 in
theorem vknown_any (w : World) (hT : Tabs w) (hM : Len1 w) : Calls Tryd.prog 6 #[] w fun e w' => e = .returned (.bool true) ∧ Grow w w' := by
  have HT := hide hT
  have HM := hide hM
  have HG0 := hide (Grow.refl w)
  clear hT hM
  go_enter Tryd.func6, Tryd.ntmps6
  go_wp2_with fail
  refine (put_good vNull w (cN 1 0) (by unfold vNull; rw [V.count_mk]; decide) (HT.out.grow HG0.out) (In.num 1 0 (by decide) (by decide) (by decide)) vNull_good).mono ?_
  rintro e w1 ⟨b1, A1, c1, rfl, hb1, hr1, hg⟩
  have HG1 := hide (HG0.out.trans hg)
  rw [vNull_bytes] at hr1 ⊢
  have HR1 := hide hr1
  clear hr1 hb1
  clear hg
  go_wp2_with fail
  refine (D_val sA (vBool 1) (cN 2 1) w1 (by decide) (In.num 2 1 (by decide) (by decide) (by decide))).mono ?_
  rintro e w2 ⟨AD, rfl, hi, hg⟩
  have HG2 := hide (HG1.out.trans hg)
  replace HR1 := hide (HR1.out.grow hg)
  have HD := hide hi
  clear hi
  clear hg
  go_wp2_with fail
  refine (put_good (vD sA (vBool 1)) w2 _ (by unfold vD vBool; rw [V.count_mk]; simp [V.count_mk]) (HT.out.grow HG2.out) HD.out vDB_good).mono ?_
  rintro e w3 ⟨b2, A2, c2, rfl, hb2, hr2, hg⟩
  have HG3 := hide (HG2.out.trans hg)
  replace HR1 := hide (HR1.out.grow hg)
  replace HD := hide (HD.out.grow hg)
  rw [vDB_bytes] at hr2 ⊢
  have HR2 := hide hr2
  clear hr2 hb2 HD
  clear hg
  go_wp2_with fail
  refine (awake_any w3 (HT.out.grow HG3.out)).mono ?_
  rintro e w4 ⟨rfl, hg⟩
  have HG4 := hide (HG3.out.trans hg)
  replace HR1 := hide (HR1.out.grow hg)
  replace HR2 := hide (HR2.out.grow hg)
  clear hg
  have hv1 : (convert 23 9 (.slice A1 1 c1)).run Tryd.prog w4 = .ok (.string ⟨#[1]⟩) w4 := conv_row HR1.out
  have hv2 : (convert 23 9 (.slice A2 6 c2)).run Tryd.prog w4 = .ok (.string ⟨#[8, 1, 1, 97, 2, 1]⟩) w4 := conv_row HR2.out
  clear HR1 HR2
  go_wp2_with fail
  clear hv1 hv2
  have HBB := hide (InB.blk (xs := [2, 2]) (Blk.new w4 5 #[.int .u8 2, .int .u8 2]))
  have HA5 := hide ((Grow.refl w4).alloc (.cells #[.int .u8 2, .int .u8 2] 5))
  have HG5 := hide (HG4.out.trans HA5.out)
  refine (fails_any 4 [2, 2] _ 2 (w4.alloc (.cells #[.int .u8 2, .int .u8 2] 5)) (HT.out.grow HG5.out) HBB.out (by decide) (by decide) read22).mono ?_
  rintro e w6 ⟨rfl, hg⟩
  have HG6 := hide (HG5.out.trans hg)
  clear HBB
  clear hg
  go_wp2_with fail
  have HBB := hide (InB.blk (xs := [5, 1, 0, 255]) (Blk.new w6 5 #[.int .u8 5, .int .u8 1, .int .u8 0, .int .u8 255]))
  have HA7 := hide ((Grow.refl w6).alloc (.cells #[.int .u8 5, .int .u8 1, .int .u8 0, .int .u8 255] 5))
  have HG7 := hide (HG6.out.trans HA7.out)
  refine (fails_any 4 [5, 1, 0, 255] _ 4 (w6.alloc (.cells #[.int .u8 5, .int .u8 1, .int .u8 0, .int .u8 255] 5)) (HT.out.grow HG7.out) HBB.out (by decide) (by decide) read5).mono ?_
  rintro e w8 ⟨rfl, hg⟩
  have HG8 := hide (HG7.out.trans hg)
  clear HBB
  clear hg
  go_wp2_with fail
  have HBB := hide (InB.blk (xs := [1, 1]) (Blk.new w8 5 #[.int .u8 1, .int .u8 1]))
  have HA9 := hide ((Grow.refl w8).alloc (.cells #[.int .u8 1, .int .u8 1] 5))
  have HG9 := hide (HG8.out.trans HA9.out)
  refine (fails_any 4 [1, 1] _ 2 (w8.alloc (.cells #[.int .u8 1, .int .u8 1] 5)) (HT.out.grow HG9.out) HBB.out (by decide) (by decide) read11).mono ?_
  rintro e w10 ⟨rfl, hg⟩
  have HG10 := hide (HG9.out.trans hg)
  clear HBB
  clear hg
  go_wp2_with fail
  have HBB := hide (InB.blk (xs := [7, 65]) (Blk.new w10 5 #[.int .u8 7, .int .u8 65]))
  have HA11 := hide ((Grow.refl w10).alloc (.cells #[.int .u8 7, .int .u8 65] 5))
  have HG11 := hide (HG10.out.trans HA11.out)
  refine (fails_any 19 [7, 65] _ 2 (w10.alloc (.cells #[.int .u8 7, .int .u8 65] 5)) (HT.out.grow HG11.out) HBB.out (by decide) (by decide) read7).mono ?_
  rintro e w12 ⟨rfl, hg⟩
  have HG12 := hide (HG11.out.trans hg)
  clear HBB
  clear hg
  go_wp2_with fail
  have HBB := hide (InB.blk (xs := [3]) (Blk.new w12 5 #[.int .u8 3]))
  have HA13 := hide ((Grow.refl w12).alloc (.cells #[.int .u8 3] 5))
  have HG13 := hide (HG12.out.trans HA13.out)
  refine (fails_any 4 [3] _ 1 (w12.alloc (.cells #[.int .u8 3] 5)) (HT.out.grow HG13.out) HBB.out (by decide) (by decide) read3).mono ?_
  rintro e w14 ⟨rfl, hg⟩
  have HG14 := hide (HG13.out.trans hg)
  clear HBB
  clear hg
  go_wp2_with fail
  refine (I_val 1 _ (by decide) rfl w14).mono ?_
  rintro e w15 ⟨rfl, hg⟩
  have HG15 := hide (HG14.out.trans hg)
  clear hg
  go_wp2_with fail
  refine (F_val 4607182418800017408 _ rfl w15).mono ?_
  rintro e w16 ⟨rfl, hg⟩
  have HG16 := hide (HG15.out.trans hg)
  clear hg
  go_wp2_with fail
  refine (less_any (vI 1) (vF 4607182418800017408) _ _ w16 (HT.out.grow HG16.out) (vI_good _) (vF_good _) less1 (In.num 3 1 (by decide) (by decide) (by decide)) (In.num 4 4607182418800017408 (by decide) (by decide) (by decide))).mono ?_
  rintro e w17 ⟨rfl, hg⟩
  have HG17 := hide (HG16.out.trans hg)
  clear hg
  go_wp2_with fail
  refine (F_val 9223372036854775808 _ rfl w17).mono ?_
  rintro e w18 ⟨rfl, hg⟩
  have HG18 := hide (HG17.out.trans hg)
  clear hg
  go_wp2_with fail
  refine (I_val 0 _ (by decide) rfl w18).mono ?_
  rintro e w19 ⟨rfl, hg⟩
  have HG19 := hide (HG18.out.trans hg)
  clear hg
  go_wp2_with fail
  refine (less_any (vF 9223372036854775808) (vI 0) _ _ w19 (HT.out.grow HG19.out) (vF_good _) (vI_good _) less2 (In.num 4 9223372036854775808 (by decide) (by decide) (by decide)) (In.num 3 0 (by decide) (by decide) (by decide))).mono ?_
  rintro e w20 ⟨rfl, hg⟩
  have HG20 := hide (HG19.out.trans hg)
  clear hg
  go_wp2_with fail
  refine (F_val 4845873199050653696 _ rfl w20).mono ?_
  rintro e w21 ⟨rfl, hg⟩
  have HG21 := hide (HG20.out.trans hg)
  clear hg
  go_wp2_with fail
  refine (I_val 9007199254740993 _ (by decide) rfl w21).mono ?_
  rintro e w22 ⟨rfl, hg⟩
  have HG22 := hide (HG21.out.trans hg)
  clear hg
  go_wp2_with fail
  refine (less_any (vF 4845873199050653696) (vI 9007199254740993) _ _ w22 (HT.out.grow HG22.out) (vF_good _) (vI_good _) less3 (In.num 4 4845873199050653696 (by decide) (by decide) (by decide)) (In.num 3 9007199254740993 (by decide) (by decide) (by decide))).mono ?_
  rintro e w23 ⟨rfl, hg⟩
  have HG23 := hide (HG22.out.trans hg)
  clear hg
  go_wp2_with fail
  refine (F_val 9221120237041090560 _ rfl w23).mono ?_
  rintro e w24 ⟨rfl, hg⟩
  have HG24 := hide (HG23.out.trans hg)
  clear hg
  go_wp2_with fail
  refine (F_val 18442240474082181120 _ rfl w24).mono ?_
  rintro e w25 ⟨rfl, hg⟩
  have HG25 := hide (HG24.out.trans hg)
  clear hg
  go_wp2_with fail
  refine (less_any (vF 9221120237041090560) (vF 18442240474082181120) _ _ w25 (HT.out.grow HG25.out) (vF_good _) (vF_good _) less4 (In.num 4 9221120237041090560 (by decide) (by decide) (by decide)) (In.num 4 18442240474082181120 (by decide) (by decide) (by decide))).mono ?_
  rintro e w26 ⟨rfl, hg⟩
  have HG26 := hide (HG25.out.trans hg)
  clear hg
  go_wp2_with fail
  refine (I_val 1 _ (by decide) rfl w26).mono ?_
  rintro e w27 ⟨rfl, hg⟩
  have HG27 := hide (HG26.out.trans hg)
  clear hg
  go_wp2_with fail
  have HX := hide (InL.one_ (w := w27) (v := vI 1) (c := cN 3 1) (In.num 3 1 (by decide) (by decide) (by decide)))
  have HA28 := hide ((Grow.refl w27).alloc (.cells (cN 3 1).cells 37))
  have HG28 := hide (HG27.out.trans HA28.out)
  refine (L_val [vI 1] _ 1 1 (w27.alloc (.cells (cN 3 1).cells 37)) rfl HX.out).mono ?_
  rintro e w29 ⟨rfl, hi, hg⟩
  have HG29 := hide (HG28.out.trans hg)
  have HL1 := hide hi
  clear hi HX
  clear hg
  go_wp2_with fail
  refine (I_val 1 _ (by decide) rfl w29).mono ?_
  rintro e w30 ⟨rfl, hg⟩
  have HG30 := hide (HG29.out.trans hg)
  replace HL1 := hide (HL1.out.grow hg)
  clear hg
  go_wp2_with fail
  refine (I_val 2 _ (by decide) rfl w30).mono ?_
  rintro e w31 ⟨rfl, hg⟩
  have HG31 := hide (HG30.out.trans hg)
  replace HL1 := hide (HL1.out.grow hg)
  clear hg
  go_wp2_with fail
  have HX := hide (InL.row2 (w := w31) (u := vI 1) (v := vI 2) (c := cN 3 1) (d := cN 3 2) (In.num 3 1 (by decide) (by decide) (by decide)) (In.num 3 2 (by decide) (by decide) (by decide)))
  have HA32 := hide ((Grow.refl w31).alloc (.cells (cells2 (cN 3 1) (cN 3 2)) 37))
  have HG32 := hide (HG31.out.trans HA32.out)
  replace HL1 := hide (HL1.out.grow HA32.out)
  refine (L_val [vI 1, vI 2] _ 2 2 (w31.alloc (.cells (cells2 (cN 3 1) (cN 3 2)) 37)) rfl HX.out).mono ?_
  rintro e w33 ⟨rfl, hi, hg⟩
  have HG33 := hide (HG32.out.trans hg)
  replace HL1 := hide (HL1.out.grow hg)
  have HL2 := hide hi
  clear hi HX
  clear hg
  go_wp2_with fail
  refine (less_any (vL [vI 1]) (vL [vI 1, vI 2]) _ _ w33 (HT.out.grow HG33.out) vL1_good vL2_good less5 HL1.out HL2.out).mono ?_
  rintro e w34 ⟨rfl, hg⟩
  have HG34 := hide (HG33.out.trans hg)
  replace HL1 := hide (HL1.out.grow hg)
  replace HL2 := hide (HL2.out.grow hg)
  clear hg
  clear HL1 HL2
  go_wp2_with fail
  refine (I_val 1 _ (by decide) rfl w34).mono ?_
  rintro e w35 ⟨rfl, hg⟩
  have HG35 := hide (HG34.out.trans hg)
  clear hg
  go_wp2_with fail
  refine (D_val sA (vI 1) (cN 3 1) w35 (by decide) (In.num 3 1 (by decide) (by decide) (by decide))).mono ?_
  rintro e w36 ⟨AX, rfl, hi, hg⟩
  have HG36 := hide (HG35.out.trans hg)
  have HX1 := hide hi
  clear hi
  clear hg
  go_wp2_with fail
  refine (I_val 0 _ (by decide) rfl w36).mono ?_
  rintro e w37 ⟨rfl, hg⟩
  have HG37 := hide (HG36.out.trans hg)
  replace HX1 := hide (HX1.out.grow hg)
  clear hg
  go_wp2_with fail
  refine (D_val sB (vI 0) (cN 3 0) w37 (by decide) (In.num 3 0 (by decide) (by decide) (by decide))).mono ?_
  rintro e w38 ⟨AY, rfl, hi, hg⟩
  have HG38 := hide (HG37.out.trans hg)
  replace HX1 := hide (HX1.out.grow hg)
  have HX2 := hide hi
  clear hi
  clear hg
  go_wp2_with fail
  refine (less_any (vD sA (vI 1)) (vD sB (vI 0)) _ _ w38 (HT.out.grow HG38.out) (vDI_good nameA 1) (vDI_good nameB 0) less6 HX1.out HX2.out).mono ?_
  rintro e w39 ⟨rfl, hg⟩
  have HG39 := hide (HG38.out.trans hg)
  replace HX1 := hide (HX1.out.grow hg)
  replace HX2 := hide (HX2.out.grow hg)
  clear hg
  clear HX1 HX2
  go_wp2_with fail
  refine (less_any vNull (vBool 0) _ _ w39 (HT.out.grow HG39.out) vNull_good (vBool_good 0 (by decide)) less7 (In.num 1 0 (by decide) (by decide) (by decide)) (In.num 2 0 (by decide) (by decide) (by decide))).mono ?_
  rintro e w40 ⟨rfl, hg⟩
  have HG40 := hide (HG39.out.trans hg)
  clear hg
  go_wp2_with fail
  refine (I_val 5 _ (by decide) rfl w40).mono ?_
  rintro e w41 ⟨rfl, hg⟩
  have HG41 := hide (HG40.out.trans hg)
  clear hg
  go_wp2_with fail
  refine (I_val 6 _ (by decide) rfl w41).mono ?_
  rintro e w42 ⟨rfl, hg⟩
  have HG42 := hide (HG41.out.trans hg)
  clear hg
  go_wp2_with fail
  refine (D_val sB (vI 6) (cN 3 6) w42 (by decide) (In.num 3 6 (by decide) (by decide) (by decide))).mono ?_
  rintro e w43 ⟨AE, rfl, hi, hg⟩
  have HG43 := hide (HG42.out.trans hg)
  have HE := hide hi
  clear hi
  clear hg
  go_wp2_with fail
  have HX := hide (InL.row2 (w := w43) (u := vI 5) (v := vD sB (vI 6)) (c := cN 3 5) (d := ⟨8, 0, none, 0, 0, none, 0, 0, AE, 1, 1⟩) (In.num 3 5 (by decide) (by decide) (by decide)) HE.out)
  clear HE
  have HA44 := hide ((Grow.refl w43).alloc (.cells (cells2 (cN 3 5) ⟨8, 0, none, 0, 0, none, 0, 0, AE, 1, 1⟩) 37))
  have HG44 := hide (HG43.out.trans HA44.out)
  refine (L_val [vI 5, vD sB (vI 6)] _ 2 2 (w43.alloc (.cells (cells2 (cN 3 5) ⟨8, 0, none, 0, 0, none, 0, 0, AE, 1, 1⟩) 37)) rfl HX.out).mono ?_
  rintro e w45 ⟨rfl, hi, hg⟩
  have HG45 := hide (HG44.out.trans hg)
  have HL := hide hi
  clear hi HX
  clear hg
  go_wp2_with fail
  refine (D_val sA (vL [vI 5, vD sB (vI 6)]) _ w45 (by decide) HL.out).mono ?_
  rintro e w46 ⟨AT, rfl, hi, hg⟩
  have HG46 := hide (HG45.out.trans hg)
  have HTT := hide hi
  clear hi HL
  clear hg
  go_wp2_with fail
  refine (vpath_any vT sP _ w46 (HT.out.grow HG46.out) (HM.out.grow HG46.out) (by have := good_small vT_good; omega) (by decide) HTT.out).mono ?_
  rintro e w47 ⟨hg, cx, tx, ux, rfl, hx, hxx⟩
  have HG47 := hide (HG46.out.trans hg)
  obtain ⟨rfl, rfl⟩ : tx = true ∧ ux = vI 6 := by
    rcases hxx with ⟨h, h1⟩ | ⟨h, -⟩
    · rw [vT_path] at h; injection h with h; exact ⟨h1, h.symm⟩
    · rw [vT_path] at h; cases h
  have HXX := hide (isv_in hx)
  clear hx hxx HTT
  clear hg
  have HBX := hide (Blk.new w47 37 cx.cells)
  have hzx : w47.heap.size = w47.heap.size := rfl
  clear hzx
  have HA48 := hide ((Grow.refl w47).alloc (.cells cx.cells 37))
  have HG48 := hide (HG47.out.trans HA48.out)
  replace HXX := hide (HXX.out.grow HA48.out)
  go_wp2_with fail
  refine (I_val 1 _ (by decide) rfl (w47.alloc (.cells cx.cells 37))).mono ?_
  rintro e w49 ⟨rfl, hg⟩
  have HG49 := hide (HG48.out.trans hg)
  replace HXX := hide (HXX.out.grow hg)
  replace HBX := hide (HBX.out.grow hg)
  clear hg
  go_wp2_with fail
  refine (D_val sA (vI 1) (cN 3 1) w49 (by decide) (In.num 3 1 (by decide) (by decide) (by decide))).mono ?_
  rintro e w50 ⟨AN, rfl, hi, hg⟩
  have HG50 := hide (HG49.out.trans hg)
  replace HXX := hide (HXX.out.grow hg)
  replace HBX := hide (HBX.out.grow hg)
  have HN := hide hi
  clear hi
  clear hg
  go_wp2_with fail
  refine (vpath_any (vD sA (vI 1)) sB _ w50 (HT.out.grow HG50.out) (HM.out.grow HG50.out) (by have := good_small (vDI_good nameA 1); omega) (by decide) HN.out).mono ?_
  rintro e w51 ⟨hg, cn, tn, un, rfl, hn, hnn⟩
  have HG51 := hide (HG50.out.trans hg)
  replace HXX := hide (HXX.out.grow hg)
  replace HBX := hide (HBX.out.grow hg)
  replace HN := hide (HN.out.grow hg)
  obtain rfl : tn = false := by
    rcases hnn with ⟨h, -⟩ | ⟨-, h, -⟩
    · rw [vN_path] at h; cases h
    · exact h
  clear hn hnn HN
  clear hg
  have HA52 := hide ((Grow.refl w51).alloc (.cells cn.cells 37))
  have HG52 := hide (HG51.out.trans HA52.out)
  replace HXX := hide (HXX.out.grow HA52.out)
  replace HBX := hide (HBX.out.grow HA52.out)
  go_wp2_with fail
  refine (I_val 1 _ (by decide) rfl (w51.alloc (.cells cn.cells 37))).mono ?_
  rintro e w53 ⟨rfl, hg⟩
  have HG53 := hide (HG52.out.trans hg)
  replace HXX := hide (HXX.out.grow hg)
  replace HBX := hide (HBX.out.grow hg)
  clear hg
  go_wp2_with fail
  refine (D_val sA (vI 1) (cN 3 1) w53 (by decide) (In.num 3 1 (by decide) (by decide) (by decide))).mono ?_
  rintro e w54 ⟨AM, rfl, hi, hg⟩
  have HG54 := hide (HG53.out.trans hg)
  replace HXX := hide (HXX.out.grow hg)
  replace HBX := hide (HBX.out.grow hg)
  have HN := hide hi
  clear hi
  clear hg
  go_wp2_with fail
  refine (I_val 2 _ (by decide) rfl w54).mono ?_
  rintro e w55 ⟨rfl, hg⟩
  have HG55 := hide (HG54.out.trans hg)
  replace HXX := hide (HXX.out.grow hg)
  replace HBX := hide (HBX.out.grow hg)
  replace HN := hide (HN.out.grow hg)
  clear hg
  go_wp2_with fail
  refine (with_any (vD sA (vI 1)) (vI 2) sB _ (cN 3 2) w55 (HT.out.grow HG55.out) (by have := good_small (vDI_good nameA 1); have := good_small (vI_good 2); omega) (by decide) HN.out (In.num 3 2 (by decide) (by decide) (by decide))).mono ?_
  rintro e w56 ⟨hg, cy, ry, rfl, hy⟩
  have HG56 := hide (HG55.out.trans hg)
  replace HXX := hide (HXX.out.grow hg)
  replace HBX := hide (HBX.out.grow hg)
  replace HN := hide (HN.out.grow hg)
  obtain ⟨rfl, hyi⟩ : ry = 0 ∧ In w56 vW cy := by
    rcases hy with ⟨v, h, h1, h2⟩ | ⟨h, -⟩
    · rw [vW_withG] at h; injection h with h; exact ⟨h1, h ▸ h2⟩
    · rw [vW_withG] at h; cases h
  have HYY := hide hyi
  clear hy hyi HN
  clear hg
  have HBY := hide (Blk.new w56 37 cy.cells)
  have HA57 := hide ((Grow.refl w56).alloc (.cells cy.cells 37))
  have HG57 := hide (HG56.out.trans HA57.out)
  replace HXX := hide (HXX.out.grow HA57.out)
  replace HBX := hide (HBX.out.grow HA57.out)
  replace HYY := hide (HYY.out.grow HA57.out)
  obtain ⟨WL, hWL⟩ : ∃ WL, (w56.alloc (.cells cy.cells 37)) = WL := ⟨_, rfl⟩
  rw [hWL] at HG57 HXX HBX HYY HA57
  have HBYL := hide (show Blk WL w56.heap.size 37 cy.cells by rw [← hWL]; exact Blk.new _ _ _)
  have HS := hide (show ∀ w', Grow WL w' → (fun w' => (∀ i, w'.cell? ⟨w47.heap.size, i, none⟩ = cx.cells[i]?) ∧ (∀ i, w'.cell? ⟨w56.heap.size, i, none⟩ = cy.cells[i]?)) w' from fun w' h => ⟨(HBX.out.grow h).cell, (HBYL.out.grow h).cell⟩)
  go_upto_region 10 with fail
  refine wp_region_noPanic ?_
  refine wp_region_held_drew (S := fun w' => (∀ i, w'.cell? ⟨w47.heap.size, i, none⟩ = cx.cells[i]?) ∧ (∀ i, w'.cell? ⟨w56.heap.size, i, none⟩ = cy.cells[i]?)) (by kernel_rfl) (HS.out _ (Grow.refl _).drew) (fun hHeld => ?_)
  refine wpAnyH_take (i := 0) (v := ?_) (by simp only [List.getElem?_toArray, List.getElem?_cons_succ, List.getElem?_cons_zero]; rfl) (by kernel_rfl) (by kernel_rfl) (by kernel_rfl) (fun _ _ _ h => h) (Or.inl ⟨by rfl, ?_⟩) (by assumption) ?_
  rotate_left 1
  · (intro w hSw; (try dsimp only at hSw); obtain ⟨hA, hB⟩ := hSw; go_simp; try with_reducible rfl)
  try simp only [Act.put, List.setIfInBounds_toArray, List.set_cons_zero, List.set_cons_succ]
  refine wpAnyH_take (i := 1) (v := ?_) (by simp only [List.getElem?_toArray, List.getElem?_cons_succ, List.getElem?_cons_zero]; rfl) (by kernel_rfl) (by kernel_rfl) (by kernel_rfl) (fun _ _ _ h => h) (Or.inl ⟨by rfl, ?_⟩) (by assumption) ?_
  rotate_left 1
  · (intro w hSw; (try dsimp only at hSw); obtain ⟨hA, hB⟩ := hSw; go_simp; try with_reducible rfl)
  try simp only [Act.put, List.setIfInBounds_toArray, List.set_cons_zero, List.set_cons_succ]
  refine wpAnyH_take (i := 2) (v := ?_) (by simp only [List.getElem?_toArray, List.getElem?_cons_succ, List.getElem?_cons_zero]; rfl) (by kernel_rfl) (by kernel_rfl) (by kernel_rfl) (fun _ _ _ h => h) (Or.inl ⟨by rfl, ?_⟩) (by assumption) ?_
  rotate_left 1
  · (intro w hSw; (try dsimp only at hSw); obtain ⟨hA, hB⟩ := hSw; go_simp; try with_reducible rfl)
  try simp only [Act.put, List.setIfInBounds_toArray, List.set_cons_zero, List.set_cons_succ]
  refine wpAnyH_ready (rs := [3]) (by kernel_rfl) (by simp) ?_
  refine AllReadyH.cons (by simp only [List.getElem?_toArray, List.getElem?_cons_succ, List.getElem?_cons_zero]; rfl) (fun K hK => ?_) AllReadyH.nil
  go_simp
  refine (I_val 6 _ (by decide) rfl _).mono ?_
  rintro e wa ⟨rfl, hga⟩
  replace hga := hide ((Grow.refl WL).drew.trans hga)
  refine hK.out _ _ (HS.out _ hga.out) (fun hHeld => ?_)
  clear hK K
  try simp only [Act.put, List.setIfInBounds_toArray, List.set_cons_zero, List.set_cons_succ]
  refine wpAnyH_ready (rs := [4]) (by kernel_rfl) (by simp) ?_
  refine AllReadyH.cons (by simp only [List.getElem?_toArray, List.getElem?_cons_succ, List.getElem?_cons_zero]; rfl) (fun K hK => ?_) AllReadyH.nil
  go_simp
  refine (lawSame_any (vI 6) (vI 6) _ cx (cN 3 6) (HXX.out.grow hga.out) (In.num 3 6 (by decide) (by decide) (by decide))).mono ?_
  rintro e wb ⟨rfl, hgb⟩
  rw [sameB_self]
  replace hgb := hide (hga.out.trans hgb)
  refine hK.out _ _ (HS.out _ hgb.out) (fun hHeld => ?_)
  clear hK K
  try simp only [Act.put, List.setIfInBounds_toArray, List.set_cons_zero, List.set_cons_succ]
  refine wpAnyH_take (i := 5) (v := ?_) (by simp only [List.getElem?_toArray, List.getElem?_cons_succ, List.getElem?_cons_zero]; rfl) (by kernel_rfl) (by kernel_rfl) (by kernel_rfl) (fun _ _ _ h => h) (Or.inl ⟨by rfl, ?_⟩) (by assumption) ?_
  rotate_left 1
  · (intro w hSw; (try dsimp only at hSw); obtain ⟨hA, hB⟩ := hSw; go_simp; try with_reducible rfl)
  try simp only [Act.put, List.setIfInBounds_toArray, List.set_cons_zero, List.set_cons_succ]
  refine wpAnyH_take (i := 6) (v := ?_) (by simp only [List.getElem?_toArray, List.getElem?_cons_succ, List.getElem?_cons_zero]; rfl) (by kernel_rfl) (by kernel_rfl) (by kernel_rfl) (fun _ _ _ h => h) (Or.inl ⟨by rfl, ?_⟩) (by assumption) ?_
  rotate_left 1
  · (intro w hSw; (try dsimp only at hSw); obtain ⟨hA, hB⟩ := hSw; go_simp; try with_reducible rfl)
  try simp only [Act.put, List.setIfInBounds_toArray, List.set_cons_zero, List.set_cons_succ]
  refine wpAnyH_take (i := 7) (v := ?_) (by simp only [List.getElem?_toArray, List.getElem?_cons_succ, List.getElem?_cons_zero]; rfl) (by kernel_rfl) (by kernel_rfl) (by kernel_rfl) (fun _ _ _ h => h) (Or.inl ⟨by rfl, ?_⟩) (by assumption) ?_
  rotate_left 1
  · (intro w hSw; (try dsimp only at hSw); obtain ⟨hA, hB⟩ := hSw; go_simp; try with_reducible rfl)
  try simp only [Act.put, List.setIfInBounds_toArray, List.set_cons_zero, List.set_cons_succ]
  refine wpAnyH_take (i := 8) (v := ?_) (by simp only [List.getElem?_toArray, List.getElem?_cons_succ, List.getElem?_cons_zero]; rfl) (by kernel_rfl) (by kernel_rfl) (by kernel_rfl) (fun _ _ _ h => h) (Or.inl ⟨by rfl, ?_⟩) (by assumption) ?_
  rotate_left 1
  · (intro w hSw; (try dsimp only at hSw); obtain ⟨hA, hB⟩ := hSw; go_simp; try with_reducible rfl)
  try simp only [Act.put, List.setIfInBounds_toArray, List.set_cons_zero, List.set_cons_succ]
  refine wpAnyH_take (i := 9) (v := ?_) (by simp only [List.getElem?_toArray, List.getElem?_cons_succ, List.getElem?_cons_zero]; rfl) (by kernel_rfl) (by kernel_rfl) (by kernel_rfl) (fun _ _ _ h => h) (Or.inl ⟨by rfl, ?_⟩) (by assumption) ?_
  rotate_left 1
  · (intro w hSw; (try dsimp only at hSw); obtain ⟨hA, hB⟩ := hSw; go_simp; try with_reducible rfl)
  try simp only [Act.put, List.setIfInBounds_toArray, List.set_cons_zero, List.set_cons_succ]
  refine wpAnyH_take (i := 10) (v := ?_) (by simp only [List.getElem?_toArray, List.getElem?_cons_succ, List.getElem?_cons_zero]; rfl) (by kernel_rfl) (by kernel_rfl) (by kernel_rfl) (fun _ _ _ h => h) (Or.inl ⟨by rfl, ?_⟩) (by assumption) ?_
  rotate_left 1
  · (intro w hSw; (try dsimp only at hSw); obtain ⟨hA, hB⟩ := hSw; go_simp; try with_reducible rfl)
  try simp only [Act.put, List.setIfInBounds_toArray, List.set_cons_zero, List.set_cons_succ]
  refine wpAnyH_take (i := 11) (v := ?_) (by simp only [List.getElem?_toArray, List.getElem?_cons_succ, List.getElem?_cons_zero]; rfl) (by kernel_rfl) (by kernel_rfl) (by kernel_rfl) (fun _ _ _ h => h) (Or.inl ⟨by rfl, ?_⟩) (by assumption) ?_
  rotate_left 1
  · (intro w hSw; (try dsimp only at hSw); obtain ⟨hA, hB⟩ := hSw; go_simp; try with_reducible rfl)
  try simp only [Act.put, List.setIfInBounds_toArray, List.set_cons_zero, List.set_cons_succ]
  refine wpAnyH_take (i := 12) (v := ?_) (by simp only [List.getElem?_toArray, List.getElem?_cons_succ, List.getElem?_cons_zero]; rfl) (by kernel_rfl) (by kernel_rfl) (by kernel_rfl) (fun _ _ _ h => h) (Or.inl ⟨by rfl, ?_⟩) (by assumption) ?_
  rotate_left 1
  · (intro w hSw; (try dsimp only at hSw); obtain ⟨hA, hB⟩ := hSw; go_simp; try with_reducible rfl)
  try simp only [Act.put, List.setIfInBounds_toArray, List.set_cons_zero, List.set_cons_succ]
  refine wpAnyH_take (i := 13) (v := ?_) (by simp only [List.getElem?_toArray, List.getElem?_cons_succ, List.getElem?_cons_zero]; rfl) (by kernel_rfl) (by kernel_rfl) (by kernel_rfl) (fun _ _ _ h => h) (Or.inl ⟨by rfl, ?_⟩) (by assumption) ?_
  rotate_left 1
  · (intro w hSw; (try dsimp only at hSw); obtain ⟨hA, hB⟩ := hSw; go_simp; try with_reducible rfl)
  try simp only [Act.put, List.setIfInBounds_toArray, List.set_cons_zero, List.set_cons_succ]
  refine wpAnyH_take (i := 14) (v := ?_) (by simp only [List.getElem?_toArray, List.getElem?_cons_succ, List.getElem?_cons_zero]; rfl) (by kernel_rfl) (by kernel_rfl) (by kernel_rfl) (fun _ _ _ h => h) (Or.inl ⟨by rfl, ?_⟩) (by assumption) ?_
  rotate_left 1
  · (intro w hSw; (try dsimp only at hSw); obtain ⟨hA, hB⟩ := hSw; go_simp; try with_reducible rfl)
  try simp only [Act.put, List.setIfInBounds_toArray, List.set_cons_zero, List.set_cons_succ]
  refine wpAnyH_take (i := 15) (v := ?_) (by simp only [List.getElem?_toArray, List.getElem?_cons_succ, List.getElem?_cons_zero]; rfl) (by kernel_rfl) (by kernel_rfl) (by kernel_rfl) (fun _ _ _ h => h) (Or.inl ⟨by rfl, ?_⟩) (by assumption) ?_
  rotate_left 1
  · (intro w hSw; (try dsimp only at hSw); obtain ⟨hA, hB⟩ := hSw; go_simp; try with_reducible rfl)
  try simp only [Act.put, List.setIfInBounds_toArray, List.set_cons_zero, List.set_cons_succ]
  refine wpAnyH_ready (rs := [16]) (by kernel_rfl) (by simp) ?_
  refine AllReadyH.cons (by simp only [List.getElem?_toArray, List.getElem?_cons_succ, List.getElem?_cons_zero]; rfl) (fun K hK => ?_) AllReadyH.nil
  go_simp
  refine (I_val 1 _ (by decide) rfl _).mono ?_
  rintro e wc ⟨rfl, hgc⟩
  replace hgc := hide (hgb.out.trans hgc)
  refine hK.out _ _ (HS.out _ hgc.out) (fun hHeld => ?_)
  clear hK K
  try simp only [Act.put, List.setIfInBounds_toArray, List.set_cons_zero, List.set_cons_succ]
  refine wpAnyH_take (i := 17) (v := ?_) (by simp only [List.getElem?_toArray, List.getElem?_cons_succ, List.getElem?_cons_zero]; rfl) (by kernel_rfl) (by kernel_rfl) (by kernel_rfl) (fun _ _ _ h => h) (Or.inl ⟨by rfl, ?_⟩) (by assumption) ?_
  rotate_left 1
  · (intro w hSw; (try dsimp only at hSw); obtain ⟨hA, hB⟩ := hSw; go_simp; try with_reducible rfl)
  try simp only [Act.put, List.setIfInBounds_toArray, List.set_cons_zero, List.set_cons_succ]
  refine wpAnyH_ready (rs := [18]) (by kernel_rfl) (by simp) ?_
  refine AllReadyH.cons (by simp only [List.getElem?_toArray, List.getElem?_cons_succ, List.getElem?_cons_zero]; rfl) (fun K hK => ?_) AllReadyH.nil
  go_simp
  refine (I_val 2 _ (by decide) rfl _).mono ?_
  rintro e wd ⟨rfl, hgd⟩
  replace hgd := hide (hgc.out.trans hgd)
  refine hK.out _ _ (HS.out _ hgd.out) (fun hHeld => ?_)
  clear hK K
  try simp only [Act.put, List.setIfInBounds_toArray, List.set_cons_zero, List.set_cons_succ]
  refine wpAnyH_take (i := 19) (v := ?_) (by simp only [List.getElem?_toArray, List.getElem?_cons_succ, List.getElem?_cons_zero]; rfl) (by kernel_rfl) (by kernel_rfl) (by kernel_rfl) (fun _ _ _ h => h) (Or.inl ⟨by rfl, ?_⟩) (by assumption) ?_
  rotate_left 1
  · (intro w hSw; (try dsimp only at hSw); obtain ⟨hA, hB⟩ := hSw; go_simp; try with_reducible rfl)
  try simp only [Act.put, List.setIfInBounds_toArray, List.set_cons_zero, List.set_cons_succ]
  refine wpAnyH_ready (rs := [20]) (by kernel_rfl) (by simp) ?_
  refine AllReadyH.cons (by simp only [List.getElem?_toArray, List.getElem?_cons_succ, List.getElem?_cons_zero]; rfl) (fun K hK => ?_) AllReadyH.nil
  go_simp
  have HFB := hide (Blk.new wd 52 #[.string ⟨#[97]⟩, .int .i64 3, .int .u64 1, .slice none 0 0, .slice none 0 0, .slice none 0 0, .string ⟨#[98]⟩, .int .i64 3, .int .u64 2, .slice none 0 0, .slice none 0 0, .slice none 0 0])
  have HGE := hide (hgd.out.alloc (.cells #[.string ⟨#[97]⟩, .int .i64 3, .int .u64 1, .slice none 0 0, .slice none 0 0, .slice none 0 0, .string ⟨#[98]⟩, .int .i64 3, .int .u64 2, .slice none 0 0, .slice none 0 0, .slice none 0 0] 52))
  refine hK.out _ _ (HS.out _ HGE.out) (fun hHeld => ?_)
  clear hK K
  try simp only [Act.put, List.setIfInBounds_toArray, List.set_cons_zero, List.set_cons_succ]
  refine wpAnyH_take (i := 21) (v := ?_) (by simp only [List.getElem?_toArray, List.getElem?_cons_succ, List.getElem?_cons_zero]; rfl) (by kernel_rfl) (by kernel_rfl) (by kernel_rfl) (fun _ _ _ h => h) (Or.inl ⟨by rfl, ?_⟩) (by assumption) ?_
  rotate_left 1
  · (intro w hSw; (try dsimp only at hSw); obtain ⟨hA, hB⟩ := hSw; go_simp; try with_reducible rfl)
  try simp only [Act.put, List.setIfInBounds_toArray, List.set_cons_zero, List.set_cons_succ]
  refine wpAnyH_ready (rs := [22]) (by kernel_rfl) (by simp) ?_
  refine AllReadyH.cons (by simp only [List.getElem?_toArray, List.getElem?_cons_succ, List.getElem?_cons_zero]; rfl) (fun K hK => ?_) AllReadyH.nil
  go_simp
  refine (lawSame_any vW vW _ cy ⟨8, 0, none, 0, 0, none, 0, 0, some ⟨wd.heap.size, 0, none⟩, 2, 2⟩ (HYY.out.grow HGE.out) (In.vW HFB.out)).mono ?_
  rintro e wf ⟨rfl, hgf⟩
  rw [sameB_self]
  replace hgf := hide (HGE.out.trans hgf)
  refine hK.out _ _ (HS.out _ hgf.out) (fun hHeld => ?_)
  clear hK K
  try simp only [Act.put, List.setIfInBounds_toArray, List.set_cons_zero, List.set_cons_succ]
  refine wpAnyH_take (i := 23) (v := ?_) (by simp only [List.getElem?_toArray, List.getElem?_cons_succ, List.getElem?_cons_zero]; rfl) (by kernel_rfl) (by kernel_rfl) (by kernel_rfl) (fun _ _ _ h => h) (Or.inl ⟨by rfl, ?_⟩) (by assumption) ?_
  rotate_left 1
  · (intro w hSw; (try dsimp only at hSw); obtain ⟨hA, hB⟩ := hSw; go_simp; try with_reducible rfl)
  try simp only [Act.put, List.setIfInBounds_toArray, List.set_cons_zero, List.set_cons_succ]
  refine wpAnyH_take (i := 24) (v := ?_) (by simp only [List.getElem?_toArray, List.getElem?_cons_succ, List.getElem?_cons_zero]; rfl) (by kernel_rfl) (by kernel_rfl) (by kernel_rfl) (fun _ _ _ h => h) (Or.inl ⟨by rfl, ?_⟩) (by assumption) ?_
  rotate_left 1
  · (intro w hSw; (try dsimp only at hSw); obtain ⟨hA, hB⟩ := hSw; go_simp; try with_reducible rfl)
  try simp only [Act.put, List.setIfInBounds_toArray, List.set_cons_zero, List.set_cons_succ]
  refine wpAnyH_done (by kernel_rfl) ?_ _
  refine NoPanic.normal ?_
  go_wp2_with fail
  go_ret
  exact ⟨rfl, HG57.out.trans hgf.out⟩
end Go.Proofs.YtcdbchifigonpaaDoor
