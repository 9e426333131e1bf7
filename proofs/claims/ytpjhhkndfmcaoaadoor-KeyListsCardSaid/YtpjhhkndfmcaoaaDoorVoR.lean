/- Walks: two numbers held against one another by the document's answer. -/
import Derived.Test.YtpjhhkndfmcaoaaDoorVoM
import Derived.Deep.RegionHeld3
set_option linter.unusedVariables false
set_option linter.unusedSimpArgs false
namespace Go.Proofs.YtpjhhkndfmcaoaaDoor
open Go.RowKit Go.Shelf

theorem nanB_parts (n : Nat) (hn : n < 18446744073709551616) : nanB n = (decide (n / 4503599627370496 % 2048 = 2047) && decide (n % 4503599627370496 ≠ 0)) := by
  rw [nanB_eq hn, ← Bool.decide_and]
  exact decide_eq_decide.2 (by omega)
set_option maxRecDepth 100000 in
theorem risnan_any (k : Int) (n : Nat) (c : Cv) (w : World) (hk : k = 3 ∨ k = 4) (h0 : c.k = k) (h1 : c.n = (n : Int)) (h3 : n < 18446744073709551616) :
    Calls Tryd.prog 134 #[c.agg] w fun e w' => e = .returned (.bool (decide (k = 4) && nanB n)) ∧ Grow w w' := by
  obtain ⟨ck, cn, aB, nB, cB, aL, nL, cL, aF, nF, cF⟩ := c
  dsimp only at h0 h1
  replace h0 := h0.symm
  subst h0 h1
  have HG := hide ((Grow.refl w).alloc (.cells (Cv.mk k n aB nB cB aL nL cL aF nF cF).cells 27))
  rcases hk with rfl | rfl
  · go_enter Tryd.func134, Tryd.ntmps134
    go_wp2_with fail
    go_ret
    exact ⟨rfl, HG.out⟩
  · have hx1 : bits .and .u64 ((n : Int) / 4503599627370496) 2047 = ((n / 4503599627370496 % 2048 : Nat) : Int) := by
      have h := u64_and_nat (n / 4503599627370496) 2047 (by omega) (by decide)
      rw [show (n / 4503599627370496) &&& 2047 = n / 4503599627370496 % 2048 from Nat.and_two_pow_sub_one_eq_mod _ 11] at h
      rw [← h]; rfl
    have hx2 : bits .and .u64 (n : Int) 4503599627370495 = ((n % 4503599627370496 : Nat) : Int) := by
      have h := u64_and_nat n 4503599627370495 h3 (by decide)
      rw [show n &&& 4503599627370495 = n % 4503599627370496 from Nat.and_two_pow_sub_one_eq_mod _ 52] at h
      exact h
    have hnb := nanB_parts n h3
    obtain ⟨E, hE⟩ : ∃ E, n / 4503599627370496 % 2048 = E := ⟨_, rfl⟩
    obtain ⟨M, hM⟩ : ∃ M, n % 4503599627370496 = M := ⟨_, rfl⟩
    rw [hE] at hx1
    rw [hM] at hx2
    rw [hE, hM] at hnb
    have HNB := hide hnb
    clear hE hM hnb
    by_cases e1 : E = 2047
    · subst e1
      by_cases e2 : M = 0
      · subst e2
        go_enter Tryd.func134, Tryd.ntmps134
        go_wp2_with fail
        go_ret
        exact ⟨by rw [HNB.out]; rfl, HG.out⟩
      · have hMb : ((M : Int) != 0) = true := by simpa using e2
        go_enter Tryd.func134, Tryd.ntmps134
        go_wp2_with fail
        go_ret
        exact ⟨by rw [HNB.out]; simp [e2], HG.out⟩
    · have hEb : ((E : Int) == 2047) = false := by simp; omega
      go_enter Tryd.func134, Tryd.ntmps134
      go_wp2_with fail
      go_ret
      exact ⟨by rw [HNB.out]; simp [e1], HG.out⟩
/-- A number's place among those of its value. -/
def placeN (k : Int) (n : Nat) : Int := if k = 3 then 1 else if n = 9223372036854775808 then 0 else 2
theorem place_any (k : Int) (n : Nat) (c : Cv) (w : World) (hk : k = 3 ∨ k = 4) (h0 : c.k = k) (h1 : c.n = (n : Int)) (h3 : n < 18446744073709551616) :
    Calls Tryd.prog 136 #[c.agg] w fun e w' => e = .returned (.int .i64 (placeN k n)) ∧ Grow w w' := by
  obtain ⟨ck, cn, aB, nB, cB, aL, nL, cL, aF, nF, cF⟩ := c
  dsimp only at h0 h1
  replace h0 := h0.symm
  subst h0 h1
  have HG := hide ((Grow.refl w).alloc (.cells (Cv.mk k n aB nB cB aL nL cL aF nF cF).cells 27))
  rcases hk with rfl | rfl
  · go_enter Tryd.func136, Tryd.ntmps136
    go_wp2_with fail
    go_ret
    exact ⟨rfl, HG.out⟩
  · by_cases hz : n = 9223372036854775808
    · subst hz
      go_enter Tryd.func136, Tryd.ntmps136
      go_wp2_with fail
      go_ret
      exact ⟨rfl, HG.out⟩
    · have hzq : ((n : Int) == 9223372036854775808) = false := by simp; omega
      have HP := hide (show placeN 4 n = 2 by unfold placeN; rw [if_neg (by decide), if_neg hz])
      clear hz
      go_enter Tryd.func136, Tryd.ntmps136
      go_wp2_with fail
      go_ret
      exact ⟨by rw [HP.out]; rfl, HG.out⟩
theorem rcmpi_any (a b : Int) (w : World) : Calls Tryd.prog 82 #[.int .i64 a, .int .i64 b] w fun e w' => e = .returned (.int .i64 (sg a b)) ∧ w = w' := by
  rcases Int.lt_trichotomy a b with h | h | h
  · rw [sg_lt h]
    go_enter Tryd.func82, Tryd.ntmps82
    go_wp2_with fail
    go_ret
    exact ⟨rfl, rfl⟩
  · rw [sg_eq h]
    subst h
    go_enter Tryd.func82, Tryd.ntmps82
    go_wp2_with fail
    go_ret
    exact ⟨rfl, rfl⟩
  · rw [sg_gt h]
    have h2 : ¬ a < b := by omega
    go_enter Tryd.func82, Tryd.ntmps82
    go_wp2_with fail
    go_ret
    exact ⟨rfl, rfl⟩
/-- Numbers of one value go by their place. -/
theorem float_place (n n' : Nat) (h1 : n < 18446744073709551616) (h2 : n' < 18446744073709551616) (h : sv n = sv n') : sg ((n' / 9223372036854775808 : Nat) : Int) ((n / 9223372036854775808 : Nat) : Int) = sg (placeN 4 n) (placeN 4 n') := by
  by_cases e : n = n'
  · subst e; rw [sg_eq rfl, sg_eq rfl]
  · rcases sm_eq h1 h2 ((sv_eq _ _).1 h) e with ⟨rfl, rfl⟩ | ⟨rfl, rfl⟩ <;> rfl
set_option maxRecDepth 100000 in
set_option maxHeartbeats 3200000 in
theorem rnumber_ii (c c' : Cv) (n n' : Nat) (w : World) (hk : c.k = 3) (hn : c.n = (n : Int)) (hk' : c'.k = 3) (hn' : c'.n = (n' : Int)) (h1 : n < 18446744073709551616) (h2 : n' < 18446744073709551616) :
    Calls Tryd.prog 83 #[c.agg, c'.agg] w fun e w' => e = .returned (.int .i64 (numC 3 n 3 n')) ∧ Grow w w' := by
  obtain ⟨ck, cn, a1, a2, a3, a4, a5, a6, a7, a8, a9⟩ := c
  obtain ⟨dk, dn, b1, b2, b3, b4, b5, b6, b7, b8, b9⟩ := c'
  dsimp only at hk hn hk' hn'
  subst hk hn hk' hn'
  have hb := run_from
  have HG0 := hide (((Grow.refl w).alloc (.cells (Cv.mk 3 n a1 a2 a3 a4 a5 a6 a7 a8 a9).cells 27)).alloc (.cells (Cv.mk 3 n' b1 b2 b3 b4 b5 b6 b7 b8 b9).cells 27))
  have HB0 := hide ((Blk.new w 27 (Cv.mk 3 n a1 a2 a3 a4 a5 a6 a7 a8 a9).cells).alloc (.cells (Cv.mk 3 n' b1 b2 b3 b4 b5 b6 b7 b8 b9).cells 27))
  have HD0 := hide (Blk.new' (w := w.alloc (.cells (Cv.mk 3 n a1 a2 a3 a4 a5 a6 a7 a8 a9).cells 27)) (g := w.heap.size + 1) (by simp) 27 (Cv.mk 3 n' b1 b2 b3 b4 b5 b6 b7 b8 b9).cells)
  have HI := hide (fun w2 => risnan_any 3 n (Cv.mk 3 n a1 a2 a3 a4 a5 a6 a7 a8 a9) w2 (by decide) rfl rfl h1)
  have HJ := hide (fun w2 => risnan_any 3 n' (Cv.mk 3 n' b1 b2 b3 b4 b5 b6 b7 b8 b9) w2 (by decide) rfl rfl h2)
  have HP := hide (fun w2 => place_any 3 n (Cv.mk 3 n a1 a2 a3 a4 a5 a6 a7 a8 a9) w2 (by decide) rfl rfl h1)
  have HQ := hide (fun w2 => place_any 3 n' (Cv.mk 3 n' b1 b2 b3 b4 b5 b6 b7 b8 b9) w2 (by decide) rfl rfl h2)
  rw [show (decide ((3 : Int) = 4) && nanB n) = false from rfl] at HI
  rw [show (decide ((3 : Int) = 4) && nanB n') = false from rfl] at HJ
  have h43 : ¬ (4 : Int) = 3 := by decide
  have hcv := i64_conv n h1
  have hcv2 := i64_conv n' h2
  have hC : numC 3 n 3 n' = sg (i64 n) (i64 n') := by unfold numC; simp only [if_true]
  rw [hC]
  clear hC h43
  rcases Int.lt_trichotomy (i64 n) (i64 n') with h | h | h
  · rw [sg_lt h]
    go_enter Tryd.func83, Tryd.ntmps83
    go_wp2_with fail
    refine (HI.out _).mono ?_
    rintro e w1 ⟨rfl, hg1⟩
    have HG1 := hide (HG0.out.trans hg1)
    have HB1 := hide (HB0.out.grow hg1)
    have HD1 := hide (HD0.out.grow hg1)
    have hc1 := HB1.out.cell
    have hd1 := HD1.out.cell
    have hl1 := HB1.out.lt
    have hm1 := HD1.out.lt
    clear hg1
    go_wp2_with fail
    refine (HJ.out _).mono ?_
    rintro e w2 ⟨rfl, hg2⟩
    have HG2 := hide (HG1.out.trans hg2)
    have HB2 := hide (HB1.out.grow hg2)
    have HD2 := hide (HD1.out.grow hg2)
    have hc2 := HB2.out.cell
    have hd2 := HD2.out.cell
    have hl2 := HB2.out.lt
    have hm2 := HD2.out.lt
    clear hg2
    clear hc1 hd1 hl1 hm1
    go_wp2_with fail
    go_ret
    exact ⟨ret_int rfl, HG2.out⟩
  · rw [sg_eq h]
    have h0 : ¬ i64 n < i64 n' := by omega
    have h00 : ¬ i64 n' < i64 n := by omega
    clear h
    go_enter Tryd.func83, Tryd.ntmps83
    go_wp2_with fail
    refine (HI.out _).mono ?_
    rintro e w1 ⟨rfl, hg1⟩
    have HG1 := hide (HG0.out.trans hg1)
    have HB1 := hide (HB0.out.grow hg1)
    have HD1 := hide (HD0.out.grow hg1)
    have hc1 := HB1.out.cell
    have hd1 := HD1.out.cell
    have hl1 := HB1.out.lt
    have hm1 := HD1.out.lt
    clear hg1
    go_wp2_with fail
    refine (HJ.out _).mono ?_
    rintro e w2 ⟨rfl, hg2⟩
    have HG2 := hide (HG1.out.trans hg2)
    have HB2 := hide (HB1.out.grow hg2)
    have HD2 := hide (HD1.out.grow hg2)
    have hc2 := HB2.out.cell
    have hd2 := HD2.out.cell
    have hl2 := HB2.out.lt
    have hm2 := HD2.out.lt
    clear hg2
    clear hc1 hd1 hl1 hm1
    go_wp2_with fail
    go_ret
    exact ⟨ret_int rfl, HG2.out⟩
  · rw [sg_gt h]
    have h0 : ¬ i64 n < i64 n' := by omega
    go_enter Tryd.func83, Tryd.ntmps83
    go_wp2_with fail
    refine (HI.out _).mono ?_
    rintro e w1 ⟨rfl, hg1⟩
    have HG1 := hide (HG0.out.trans hg1)
    have HB1 := hide (HB0.out.grow hg1)
    have HD1 := hide (HD0.out.grow hg1)
    have hc1 := HB1.out.cell
    have hd1 := HD1.out.cell
    have hl1 := HB1.out.lt
    have hm1 := HD1.out.lt
    clear hg1
    go_wp2_with fail
    refine (HJ.out _).mono ?_
    rintro e w2 ⟨rfl, hg2⟩
    have HG2 := hide (HG1.out.trans hg2)
    have HB2 := hide (HB1.out.grow hg2)
    have HD2 := hide (HD1.out.grow hg2)
    have hc2 := HB2.out.cell
    have hd2 := HD2.out.cell
    have hl2 := HB2.out.lt
    have hm2 := HD2.out.lt
    clear hg2
    clear hc1 hd1 hl1 hm1
    go_wp2_with fail
    go_ret
    exact ⟨ret_int rfl, HG2.out⟩
set_option maxRecDepth 100000 in
set_option maxHeartbeats 3200000 in
theorem rnumber_if (c c' : Cv) (n n' : Nat) (w : World) (hk : c.k = 3) (hn : c.n = (n : Int)) (hk' : c'.k = 4) (hn' : c'.n = (n' : Int)) (h1 : n < 18446744073709551616) (h2 : n' < 18446744073709551616) :
    Calls Tryd.prog 83 #[c.agg, c'.agg] w fun e w' => e = .returned (.int .i64 (numC 3 n 4 n')) ∧ Grow w w' := by
  obtain ⟨ck, cn, a1, a2, a3, a4, a5, a6, a7, a8, a9⟩ := c
  obtain ⟨dk, dn, b1, b2, b3, b4, b5, b6, b7, b8, b9⟩ := c'
  dsimp only at hk hn hk' hn'
  subst hk hn hk' hn'
  have hb := run_from
  have HG0 := hide (((Grow.refl w).alloc (.cells (Cv.mk 3 n a1 a2 a3 a4 a5 a6 a7 a8 a9).cells 27)).alloc (.cells (Cv.mk 4 n' b1 b2 b3 b4 b5 b6 b7 b8 b9).cells 27))
  have HB0 := hide ((Blk.new w 27 (Cv.mk 3 n a1 a2 a3 a4 a5 a6 a7 a8 a9).cells).alloc (.cells (Cv.mk 4 n' b1 b2 b3 b4 b5 b6 b7 b8 b9).cells 27))
  have HD0 := hide (Blk.new' (w := w.alloc (.cells (Cv.mk 3 n a1 a2 a3 a4 a5 a6 a7 a8 a9).cells 27)) (g := w.heap.size + 1) (by simp) 27 (Cv.mk 4 n' b1 b2 b3 b4 b5 b6 b7 b8 b9).cells)
  have HI := hide (fun w2 => risnan_any 3 n (Cv.mk 3 n a1 a2 a3 a4 a5 a6 a7 a8 a9) w2 (by decide) rfl rfl h1)
  have HJ := hide (fun w2 => risnan_any 4 n' (Cv.mk 4 n' b1 b2 b3 b4 b5 b6 b7 b8 b9) w2 (by decide) rfl rfl h2)
  have HP := hide (fun w2 => place_any 3 n (Cv.mk 3 n a1 a2 a3 a4 a5 a6 a7 a8 a9) w2 (by decide) rfl rfl h1)
  have HQ := hide (fun w2 => place_any 4 n' (Cv.mk 4 n' b1 b2 b3 b4 b5 b6 b7 b8 b9) w2 (by decide) rfl rfl h2)
  rw [show (decide ((3 : Int) = 4) && nanB n) = false from rfl] at HI
  rw [show (decide ((4 : Int) = 4) && nanB n') = nanB n' from rfl] at HJ
  have h43 : ¬ (4 : Int) = 3 := by decide
  by_cases hy : nanB n' = true
  · rw [hy] at HJ
    rw [show numC 3 n 4 n' = 1 by unfold numC; rw [if_pos rfl, if_neg h43, if_pos hy]]
    go_enter Tryd.func83, Tryd.ntmps83
    go_wp2_with fail
    refine (HI.out _).mono ?_
    rintro e w1 ⟨rfl, hg1⟩
    have HG1 := hide (HG0.out.trans hg1)
    have HB1 := hide (HB0.out.grow hg1)
    have HD1 := hide (HD0.out.grow hg1)
    have hc1 := HB1.out.cell
    have hd1 := HD1.out.cell
    have hl1 := HB1.out.lt
    have hm1 := HD1.out.lt
    clear hg1
    go_wp2_with fail
    refine (HJ.out _).mono ?_
    rintro e w2 ⟨rfl, hg2⟩
    have HG2 := hide (HG1.out.trans hg2)
    have HB2 := hide (HB1.out.grow hg2)
    have HD2 := hide (HD1.out.grow hg2)
    have hc2 := HB2.out.cell
    have hd2 := HD2.out.cell
    have hl2 := HB2.out.lt
    have hm2 := HD2.out.lt
    clear hg2
    clear hc1 hd1 hl1 hm1
    go_wp2_with fail
    refine (HI.out _).mono ?_
    rintro e w3 ⟨rfl, hg3⟩
    have HG3 := hide (HG2.out.trans hg3)
    have HB3 := hide (HB2.out.grow hg3)
    have HD3 := hide (HD2.out.grow hg3)
    have hc3 := HB3.out.cell
    have hd3 := HD3.out.cell
    have hl3 := HB3.out.lt
    have hm3 := HD3.out.lt
    clear hg3
    clear hc2 hd2 hl2 hm2
    go_wp2_with fail
    refine (HI.out _).mono ?_
    rintro e w4 ⟨rfl, hg4⟩
    have HG4 := hide (HG3.out.trans hg4)
    have HB4 := hide (HB3.out.grow hg4)
    have HD4 := hide (HD3.out.grow hg4)
    have hc4 := HB4.out.cell
    have hd4 := HD4.out.cell
    have hl4 := HB4.out.lt
    have hm4 := HD4.out.lt
    clear hg4
    clear hc3 hd3 hl3 hm3
    go_wp2_with fail
    go_ret
    exact ⟨ret_int rfl, HG4.out⟩
  · have hy : nanB n' = false := by simpa using hy
    rw [hy] at HJ
    have fx := Num.of h2 hy
    have hcv := i64_conv n h1
    have hr := i64_range n h1
    have hC : numC 3 n 4 n' = mixC (i64 n) n' := by unfold numC; rw [if_pos rfl, if_neg h43, if_neg (by rw [hy]; decide)]
    rw [mixC_whole] at hC
    have HW := hide (fun w => mixed_any (i64 n) n' fx hr.1 hr.2 w)
    rcases wholeC_vals (i64 n) n' with h | h | h
    · rw [h] at hC HW
      rw [hC]
      clear hC h hr fx h43
      go_enter Tryd.func83, Tryd.ntmps83
      go_wp2_with fail
      refine (HI.out _).mono ?_
      rintro e w1 ⟨rfl, hg1⟩
      have HG1 := hide (HG0.out.trans hg1)
      have HB1 := hide (HB0.out.grow hg1)
      have HD1 := hide (HD0.out.grow hg1)
      have hc1 := HB1.out.cell
      have hd1 := HD1.out.cell
      have hl1 := HB1.out.lt
      have hm1 := HD1.out.lt
      clear hg1
      go_wp2_with fail
      refine (HJ.out _).mono ?_
      rintro e w2 ⟨rfl, hg2⟩
      have HG2 := hide (HG1.out.trans hg2)
      have HB2 := hide (HB1.out.grow hg2)
      have HD2 := hide (HD1.out.grow hg2)
      have hc2 := HB2.out.cell
      have hd2 := HD2.out.cell
      have hl2 := HB2.out.lt
      have hm2 := HD2.out.lt
      clear hg2
      clear hc1 hd1 hl1 hm1
      go_wp2_with fail
      go_quiet ((first | (go_at_call 135; exact Calls.quiet_of_same ((HW.out _).mono fun e w' h => ⟨h.1, h.2.symm⟩))))
      go_wp2_with fail
      go_ret
      exact ⟨ret_int (by simp), HG2.out.drewN _⟩
    · rw [h] at hC HW
      rw [hC]
      clear hC h hr fx h43
      have hE : sg (placeN 3 n) (placeN 4 n') = if (0 : Int) ≠ 0 then 0 else if n' = 9223372036854775808 then 1 else -1 := by
        have e3 : placeN 3 n = 1 := rfl
        by_cases hz : n' = 9223372036854775808
        · have e4 : placeN 4 n' = 0 := by rw [hz]; rfl
          rw [e3, e4, if_neg (by decide), if_pos hz]; rfl
        · have e4 : placeN 4 n' = 2 := by unfold placeN; rw [if_neg (by decide), if_neg hz]
          rw [e3, e4, if_neg (by decide), if_neg hz]; rfl
      rw [← hE]
      clear hE
      go_enter Tryd.func83, Tryd.ntmps83
      go_wp2_with fail
      refine (HI.out _).mono ?_
      rintro e w1 ⟨rfl, hg1⟩
      have HG1 := hide (HG0.out.trans hg1)
      have HB1 := hide (HB0.out.grow hg1)
      have HD1 := hide (HD0.out.grow hg1)
      have hc1 := HB1.out.cell
      have hd1 := HD1.out.cell
      have hl1 := HB1.out.lt
      have hm1 := HD1.out.lt
      clear hg1
      go_wp2_with fail
      refine (HJ.out _).mono ?_
      rintro e w2 ⟨rfl, hg2⟩
      have HG2 := hide (HG1.out.trans hg2)
      have HB2 := hide (HB1.out.grow hg2)
      have HD2 := hide (HD1.out.grow hg2)
      have hc2 := HB2.out.cell
      have hd2 := HD2.out.cell
      have hl2 := HB2.out.lt
      have hm2 := HD2.out.lt
      clear hg2
      clear hc1 hd1 hl1 hm1
      go_wp2_with fail
      go_quiet ((first | (go_at_call 135; exact Calls.quiet_of_same ((HW.out _).mono fun e w' h => ⟨h.1, h.2.symm⟩))))
      go_wp2_with fail
      go_region_held3 (fun w' => (∀ q, w'.cell? ⟨w.heap.size, q, none⟩ = (Cv.mk 3 n a1 a2 a3 a4 a5 a6 a7 a8 a9).cells[q]?) ∧ (∀ q, w'.cell? ⟨w.heap.size + 1, q, none⟩ = (Cv.mk 4 n' b1 b2 b3 b4 b5 b6 b7 b8 b9).cells[q]?)) (first | go_keep | exact ⟨hcx, hdx⟩ | exact ⟨hcy, hdy⟩)
        (first | ((with_reducible refine (HP.out _).mono ?_); rintro e wx ⟨rfl, hgx⟩; first | (have HGY := hide (HGX.out.trans hgx); have HBY := hide (HBX.out.grow hgx); have HDY := hide (HDX.out.grow hgx); have hcy := HBY.out.cell; have hdy := HDY.out.cell; clear hgx) | (have HGX := hide ((HG2.out.drewN _ |>.drew).trans hgx); have HBX := hide ((HB2.out.drewN _ |>.drew).grow hgx); have HDX := hide ((HD2.out.drewN _ |>.drew).grow hgx); have hcx := HBX.out.cell; have hdx := HDX.out.cell; clear hgx)) | ((with_reducible refine (HQ.out _).mono ?_); rintro e wx ⟨rfl, hgx⟩; first | (have HGY := hide (HGX.out.trans hgx); have HBY := hide (HBX.out.grow hgx); have HDY := hide (HDX.out.grow hgx); have hcy := HBY.out.cell; have hdy := HDY.out.cell; clear hgx) | (have HGX := hide ((HG2.out.drewN _ |>.drew).trans hgx); have HBX := hide ((HB2.out.drewN _ |>.drew).grow hgx); have HDX := hide ((HD2.out.drewN _ |>.drew).grow hgx); have hcx := HBX.out.cell; have hdx := HDX.out.cell; clear hgx)) | (go_at_call 82; refine (rcmpi_any _ _ _).mono ?_; rintro e wx ⟨rfl, rfl⟩))
      all_goals
        go_wp2_with fail
        go_ret
        exact ⟨rfl, HGY.out⟩
    · rw [h] at hC HW
      rw [hC]
      clear hC h hr fx h43
      go_enter Tryd.func83, Tryd.ntmps83
      go_wp2_with fail
      refine (HI.out _).mono ?_
      rintro e w1 ⟨rfl, hg1⟩
      have HG1 := hide (HG0.out.trans hg1)
      have HB1 := hide (HB0.out.grow hg1)
      have HD1 := hide (HD0.out.grow hg1)
      have hc1 := HB1.out.cell
      have hd1 := HD1.out.cell
      have hl1 := HB1.out.lt
      have hm1 := HD1.out.lt
      clear hg1
      go_wp2_with fail
      refine (HJ.out _).mono ?_
      rintro e w2 ⟨rfl, hg2⟩
      have HG2 := hide (HG1.out.trans hg2)
      have HB2 := hide (HB1.out.grow hg2)
      have HD2 := hide (HD1.out.grow hg2)
      have hc2 := HB2.out.cell
      have hd2 := HD2.out.cell
      have hl2 := HB2.out.lt
      have hm2 := HD2.out.lt
      clear hg2
      clear hc1 hd1 hl1 hm1
      go_wp2_with fail
      go_quiet ((first | (go_at_call 135; exact Calls.quiet_of_same ((HW.out _).mono fun e w' h => ⟨h.1, h.2.symm⟩))))
      go_wp2_with fail
      go_ret
      exact ⟨ret_int (by simp), HG2.out.drewN _⟩
set_option maxRecDepth 100000 in
set_option maxHeartbeats 3200000 in
theorem rnumber_fi (c c' : Cv) (n n' : Nat) (w : World) (hk : c.k = 4) (hn : c.n = (n : Int)) (hk' : c'.k = 3) (hn' : c'.n = (n' : Int)) (h1 : n < 18446744073709551616) (h2 : n' < 18446744073709551616) :
    Calls Tryd.prog 83 #[c.agg, c'.agg] w fun e w' => e = .returned (.int .i64 (numC 4 n 3 n')) ∧ Grow w w' := by
  obtain ⟨ck, cn, a1, a2, a3, a4, a5, a6, a7, a8, a9⟩ := c
  obtain ⟨dk, dn, b1, b2, b3, b4, b5, b6, b7, b8, b9⟩ := c'
  dsimp only at hk hn hk' hn'
  subst hk hn hk' hn'
  have hb := run_from
  have HG0 := hide (((Grow.refl w).alloc (.cells (Cv.mk 4 n a1 a2 a3 a4 a5 a6 a7 a8 a9).cells 27)).alloc (.cells (Cv.mk 3 n' b1 b2 b3 b4 b5 b6 b7 b8 b9).cells 27))
  have HB0 := hide ((Blk.new w 27 (Cv.mk 4 n a1 a2 a3 a4 a5 a6 a7 a8 a9).cells).alloc (.cells (Cv.mk 3 n' b1 b2 b3 b4 b5 b6 b7 b8 b9).cells 27))
  have HD0 := hide (Blk.new' (w := w.alloc (.cells (Cv.mk 4 n a1 a2 a3 a4 a5 a6 a7 a8 a9).cells 27)) (g := w.heap.size + 1) (by simp) 27 (Cv.mk 3 n' b1 b2 b3 b4 b5 b6 b7 b8 b9).cells)
  have HI := hide (fun w2 => risnan_any 4 n (Cv.mk 4 n a1 a2 a3 a4 a5 a6 a7 a8 a9) w2 (by decide) rfl rfl h1)
  have HJ := hide (fun w2 => risnan_any 3 n' (Cv.mk 3 n' b1 b2 b3 b4 b5 b6 b7 b8 b9) w2 (by decide) rfl rfl h2)
  have HP := hide (fun w2 => place_any 4 n (Cv.mk 4 n a1 a2 a3 a4 a5 a6 a7 a8 a9) w2 (by decide) rfl rfl h1)
  have HQ := hide (fun w2 => place_any 3 n' (Cv.mk 3 n' b1 b2 b3 b4 b5 b6 b7 b8 b9) w2 (by decide) rfl rfl h2)
  rw [show (decide ((3 : Int) = 4) && nanB n') = false from rfl] at HJ
  rw [show (decide ((4 : Int) = 4) && nanB n) = nanB n from rfl] at HI
  have h43 : ¬ (4 : Int) = 3 := by decide
  by_cases hx : nanB n = true
  · rw [hx] at HI
    rw [show numC 4 n 3 n' = -1 by unfold numC; rw [if_neg h43, if_pos hx, if_pos rfl]]
    go_enter Tryd.func83, Tryd.ntmps83
    go_wp2_with fail
    refine (HI.out _).mono ?_
    rintro e w1 ⟨rfl, hg1⟩
    have HG1 := hide (HG0.out.trans hg1)
    have HB1 := hide (HB0.out.grow hg1)
    have HD1 := hide (HD0.out.grow hg1)
    have hc1 := HB1.out.cell
    have hd1 := HD1.out.cell
    have hl1 := HB1.out.lt
    have hm1 := HD1.out.lt
    clear hg1
    go_wp2_with fail
    refine (HI.out _).mono ?_
    rintro e w2 ⟨rfl, hg2⟩
    have HG2 := hide (HG1.out.trans hg2)
    have HB2 := hide (HB1.out.grow hg2)
    have HD2 := hide (HD1.out.grow hg2)
    have hc2 := HB2.out.cell
    have hd2 := HD2.out.cell
    have hl2 := HB2.out.lt
    have hm2 := HD2.out.lt
    clear hg2
    clear hc1 hd1 hl1 hm1
    go_wp2_with fail
    refine (HJ.out _).mono ?_
    rintro e w3 ⟨rfl, hg3⟩
    have HG3 := hide (HG2.out.trans hg3)
    have HB3 := hide (HB2.out.grow hg3)
    have HD3 := hide (HD2.out.grow hg3)
    have hc3 := HB3.out.cell
    have hd3 := HD3.out.cell
    have hl3 := HB3.out.lt
    have hm3 := HD3.out.lt
    clear hg3
    clear hc2 hd2 hl2 hm2
    go_wp2_with fail
    refine (HI.out _).mono ?_
    rintro e w4 ⟨rfl, hg4⟩
    have HG4 := hide (HG3.out.trans hg4)
    have HB4 := hide (HB3.out.grow hg4)
    have HD4 := hide (HD3.out.grow hg4)
    have hc4 := HB4.out.cell
    have hd4 := HD4.out.cell
    have hl4 := HB4.out.lt
    have hm4 := HD4.out.lt
    clear hg4
    clear hc3 hd3 hl3 hm3
    go_wp2_with fail
    go_ret
    exact ⟨ret_int rfl, HG4.out⟩
  · have hx : nanB n = false := by simpa using hx
    rw [hx] at HI
    have fx := Num.of h1 hx
    have hcv := i64_conv n' h2
    have hr := i64_range n' h2
    have hC : numC 4 n 3 n' = -(mixC (i64 n') n) := by unfold numC; rw [if_neg h43, if_neg (by rw [hx]; decide), if_pos rfl]
    rw [mixC_whole] at hC
    have HW := hide (fun w => mixed_any (i64 n') n fx hr.1 hr.2 w)
    rcases wholeC_vals (i64 n') n with h | h | h
    · rw [h] at hC HW
      rw [hC]
      clear hC h hr fx h43
      go_enter Tryd.func83, Tryd.ntmps83
      go_wp2_with fail
      refine (HI.out _).mono ?_
      rintro e w1 ⟨rfl, hg1⟩
      have HG1 := hide (HG0.out.trans hg1)
      have HB1 := hide (HB0.out.grow hg1)
      have HD1 := hide (HD0.out.grow hg1)
      have hc1 := HB1.out.cell
      have hd1 := HD1.out.cell
      have hl1 := HB1.out.lt
      have hm1 := HD1.out.lt
      clear hg1
      go_wp2_with fail
      refine (HJ.out _).mono ?_
      rintro e w2 ⟨rfl, hg2⟩
      have HG2 := hide (HG1.out.trans hg2)
      have HB2 := hide (HB1.out.grow hg2)
      have HD2 := hide (HD1.out.grow hg2)
      have hc2 := HB2.out.cell
      have hd2 := HD2.out.cell
      have hl2 := HB2.out.lt
      have hm2 := HD2.out.lt
      clear hg2
      clear hc1 hd1 hl1 hm1
      go_wp2_with fail
      go_quiet ((first | (go_at_call 135; exact Calls.quiet_of_same ((HW.out _).mono fun e w' h => ⟨h.1, h.2.symm⟩))))
      go_wp2_with fail
      go_ret
      exact ⟨ret_int (by simp), HG2.out.drewN _⟩
    · rw [h] at hC HW
      rw [hC]
      clear hC h hr fx h43
      have hE : sg (placeN 4 n) (placeN 3 n') = -(if (0 : Int) ≠ 0 then 0 else if n = 9223372036854775808 then 1 else -1) := by
        have e3 : placeN 3 n' = 1 := rfl
        by_cases hz : n = 9223372036854775808
        · have e4 : placeN 4 n = 0 := by rw [hz]; rfl
          rw [e3, e4, if_neg (by decide), if_pos hz]; rfl
        · have e4 : placeN 4 n = 2 := by unfold placeN; rw [if_neg (by decide), if_neg hz]
          rw [e3, e4, if_neg (by decide), if_neg hz]; rfl
      rw [← hE]
      clear hE
      go_enter Tryd.func83, Tryd.ntmps83
      go_wp2_with fail
      refine (HI.out _).mono ?_
      rintro e w1 ⟨rfl, hg1⟩
      have HG1 := hide (HG0.out.trans hg1)
      have HB1 := hide (HB0.out.grow hg1)
      have HD1 := hide (HD0.out.grow hg1)
      have hc1 := HB1.out.cell
      have hd1 := HD1.out.cell
      have hl1 := HB1.out.lt
      have hm1 := HD1.out.lt
      clear hg1
      go_wp2_with fail
      refine (HJ.out _).mono ?_
      rintro e w2 ⟨rfl, hg2⟩
      have HG2 := hide (HG1.out.trans hg2)
      have HB2 := hide (HB1.out.grow hg2)
      have HD2 := hide (HD1.out.grow hg2)
      have hc2 := HB2.out.cell
      have hd2 := HD2.out.cell
      have hl2 := HB2.out.lt
      have hm2 := HD2.out.lt
      clear hg2
      clear hc1 hd1 hl1 hm1
      go_wp2_with fail
      go_quiet ((first | (go_at_call 135; exact Calls.quiet_of_same ((HW.out _).mono fun e w' h => ⟨h.1, h.2.symm⟩))))
      go_wp2_with fail
      go_region_held3 (fun w' => (∀ q, w'.cell? ⟨w.heap.size, q, none⟩ = (Cv.mk 4 n a1 a2 a3 a4 a5 a6 a7 a8 a9).cells[q]?) ∧ (∀ q, w'.cell? ⟨w.heap.size + 1, q, none⟩ = (Cv.mk 3 n' b1 b2 b3 b4 b5 b6 b7 b8 b9).cells[q]?)) (first | go_keep | exact ⟨hcx, hdx⟩ | exact ⟨hcy, hdy⟩)
        (first | ((with_reducible refine (HP.out _).mono ?_); rintro e wx ⟨rfl, hgx⟩; first | (have HGY := hide (HGX.out.trans hgx); have HBY := hide (HBX.out.grow hgx); have HDY := hide (HDX.out.grow hgx); have hcy := HBY.out.cell; have hdy := HDY.out.cell; clear hgx) | (have HGX := hide ((HG2.out.drewN _ |>.drew).trans hgx); have HBX := hide ((HB2.out.drewN _ |>.drew).grow hgx); have HDX := hide ((HD2.out.drewN _ |>.drew).grow hgx); have hcx := HBX.out.cell; have hdx := HDX.out.cell; clear hgx)) | ((with_reducible refine (HQ.out _).mono ?_); rintro e wx ⟨rfl, hgx⟩; first | (have HGY := hide (HGX.out.trans hgx); have HBY := hide (HBX.out.grow hgx); have HDY := hide (HDX.out.grow hgx); have hcy := HBY.out.cell; have hdy := HDY.out.cell; clear hgx) | (have HGX := hide ((HG2.out.drewN _ |>.drew).trans hgx); have HBX := hide ((HB2.out.drewN _ |>.drew).grow hgx); have HDX := hide ((HD2.out.drewN _ |>.drew).grow hgx); have hcx := HBX.out.cell; have hdx := HDX.out.cell; clear hgx)) | (go_at_call 82; refine (rcmpi_any _ _ _).mono ?_; rintro e wx ⟨rfl, rfl⟩))
      all_goals
        go_wp2_with fail
        go_ret
        exact ⟨rfl, HGY.out⟩
    · rw [h] at hC HW
      rw [hC]
      clear hC h hr fx h43
      go_enter Tryd.func83, Tryd.ntmps83
      go_wp2_with fail
      refine (HI.out _).mono ?_
      rintro e w1 ⟨rfl, hg1⟩
      have HG1 := hide (HG0.out.trans hg1)
      have HB1 := hide (HB0.out.grow hg1)
      have HD1 := hide (HD0.out.grow hg1)
      have hc1 := HB1.out.cell
      have hd1 := HD1.out.cell
      have hl1 := HB1.out.lt
      have hm1 := HD1.out.lt
      clear hg1
      go_wp2_with fail
      refine (HJ.out _).mono ?_
      rintro e w2 ⟨rfl, hg2⟩
      have HG2 := hide (HG1.out.trans hg2)
      have HB2 := hide (HB1.out.grow hg2)
      have HD2 := hide (HD1.out.grow hg2)
      have hc2 := HB2.out.cell
      have hd2 := HD2.out.cell
      have hl2 := HB2.out.lt
      have hm2 := HD2.out.lt
      clear hg2
      clear hc1 hd1 hl1 hm1
      go_wp2_with fail
      go_quiet ((first | (go_at_call 135; exact Calls.quiet_of_same ((HW.out _).mono fun e w' h => ⟨h.1, h.2.symm⟩))))
      go_wp2_with fail
      go_ret
      exact ⟨ret_int (by simp), HG2.out.drewN _⟩
set_option maxRecDepth 100000 in
set_option maxHeartbeats 3200000 in
theorem rnumber_ff (c c' : Cv) (n n' : Nat) (w : World) (hk : c.k = 4) (hn : c.n = (n : Int)) (hk' : c'.k = 4) (hn' : c'.n = (n' : Int)) (h1 : n < 18446744073709551616) (h2 : n' < 18446744073709551616) :
    Calls Tryd.prog 83 #[c.agg, c'.agg] w fun e w' => e = .returned (.int .i64 (numC 4 n 4 n')) ∧ Grow w w' := by
  obtain ⟨ck, cn, a1, a2, a3, a4, a5, a6, a7, a8, a9⟩ := c
  obtain ⟨dk, dn, b1, b2, b3, b4, b5, b6, b7, b8, b9⟩ := c'
  dsimp only at hk hn hk' hn'
  subst hk hn hk' hn'
  have hb := run_from
  have HG0 := hide (((Grow.refl w).alloc (.cells (Cv.mk 4 n a1 a2 a3 a4 a5 a6 a7 a8 a9).cells 27)).alloc (.cells (Cv.mk 4 n' b1 b2 b3 b4 b5 b6 b7 b8 b9).cells 27))
  have HB0 := hide ((Blk.new w 27 (Cv.mk 4 n a1 a2 a3 a4 a5 a6 a7 a8 a9).cells).alloc (.cells (Cv.mk 4 n' b1 b2 b3 b4 b5 b6 b7 b8 b9).cells 27))
  have HD0 := hide (Blk.new' (w := w.alloc (.cells (Cv.mk 4 n a1 a2 a3 a4 a5 a6 a7 a8 a9).cells 27)) (g := w.heap.size + 1) (by simp) 27 (Cv.mk 4 n' b1 b2 b3 b4 b5 b6 b7 b8 b9).cells)
  have HI := hide (fun w2 => risnan_any 4 n (Cv.mk 4 n a1 a2 a3 a4 a5 a6 a7 a8 a9) w2 (by decide) rfl rfl h1)
  have HJ := hide (fun w2 => risnan_any 4 n' (Cv.mk 4 n' b1 b2 b3 b4 b5 b6 b7 b8 b9) w2 (by decide) rfl rfl h2)
  have HP := hide (fun w2 => place_any 4 n (Cv.mk 4 n a1 a2 a3 a4 a5 a6 a7 a8 a9) w2 (by decide) rfl rfl h1)
  have HQ := hide (fun w2 => place_any 4 n' (Cv.mk 4 n' b1 b2 b3 b4 b5 b6 b7 b8 b9) w2 (by decide) rfl rfl h2)
  rw [show (decide ((4 : Int) = 4) && nanB n) = nanB n from rfl] at HI
  rw [show (decide ((4 : Int) = 4) && nanB n') = nanB n' from rfl] at HJ
  have h43 : ¬ (4 : Int) = 3 := by decide
  by_cases hx : nanB n = true
  · rw [hx] at HI
    by_cases hy : nanB n' = true
    · rw [hy] at HJ
      rw [show numC 4 n 4 n' = sg n n' by unfold numC; rw [if_neg h43, if_pos hx, if_neg h43, if_pos hy]]
      clear h43
      rcases Int.lt_trichotomy (n : Int) (n' : Int) with h | h | h
      · rw [sg_lt h]
        go_enter Tryd.func83, Tryd.ntmps83
        go_wp2_with fail
        refine (HI.out _).mono ?_
        rintro e w1 ⟨rfl, hg1⟩
        have HG1 := hide (HG0.out.trans hg1)
        have HB1 := hide (HB0.out.grow hg1)
        have HD1 := hide (HD0.out.grow hg1)
        have hc1 := HB1.out.cell
        have hd1 := HD1.out.cell
        have hl1 := HB1.out.lt
        have hm1 := HD1.out.lt
        clear hg1
        go_wp2_with fail
        refine (HI.out _).mono ?_
        rintro e w2 ⟨rfl, hg2⟩
        have HG2 := hide (HG1.out.trans hg2)
        have HB2 := hide (HB1.out.grow hg2)
        have HD2 := hide (HD1.out.grow hg2)
        have hc2 := HB2.out.cell
        have hd2 := HD2.out.cell
        have hl2 := HB2.out.lt
        have hm2 := HD2.out.lt
        clear hg2
        clear hc1 hd1 hl1 hm1
        go_wp2_with fail
        refine (HJ.out _).mono ?_
        rintro e w3 ⟨rfl, hg3⟩
        have HG3 := hide (HG2.out.trans hg3)
        have HB3 := hide (HB2.out.grow hg3)
        have HD3 := hide (HD2.out.grow hg3)
        have hc3 := HB3.out.cell
        have hd3 := HD3.out.cell
        have hl3 := HB3.out.lt
        have hm3 := HD3.out.lt
        clear hg3
        clear hc2 hd2 hl2 hm2
        go_wp2_with fail
        go_ret
        exact ⟨ret_int rfl, HG3.out⟩
      · rw [sg_eq h]
        have h0 : ¬ (n : Int) < (n' : Int) := by omega
        have h00 : ¬ (n' : Int) < (n : Int) := by omega
        clear h
        go_enter Tryd.func83, Tryd.ntmps83
        go_wp2_with fail
        refine (HI.out _).mono ?_
        rintro e w1 ⟨rfl, hg1⟩
        have HG1 := hide (HG0.out.trans hg1)
        have HB1 := hide (HB0.out.grow hg1)
        have HD1 := hide (HD0.out.grow hg1)
        have hc1 := HB1.out.cell
        have hd1 := HD1.out.cell
        have hl1 := HB1.out.lt
        have hm1 := HD1.out.lt
        clear hg1
        go_wp2_with fail
        refine (HI.out _).mono ?_
        rintro e w2 ⟨rfl, hg2⟩
        have HG2 := hide (HG1.out.trans hg2)
        have HB2 := hide (HB1.out.grow hg2)
        have HD2 := hide (HD1.out.grow hg2)
        have hc2 := HB2.out.cell
        have hd2 := HD2.out.cell
        have hl2 := HB2.out.lt
        have hm2 := HD2.out.lt
        clear hg2
        clear hc1 hd1 hl1 hm1
        go_wp2_with fail
        refine (HJ.out _).mono ?_
        rintro e w3 ⟨rfl, hg3⟩
        have HG3 := hide (HG2.out.trans hg3)
        have HB3 := hide (HB2.out.grow hg3)
        have HD3 := hide (HD2.out.grow hg3)
        have hc3 := HB3.out.cell
        have hd3 := HD3.out.cell
        have hl3 := HB3.out.lt
        have hm3 := HD3.out.lt
        clear hg3
        clear hc2 hd2 hl2 hm2
        go_wp2_with fail
        go_ret
        exact ⟨ret_int rfl, HG3.out⟩
      · rw [sg_gt h]
        have h0 : ¬ (n : Int) < (n' : Int) := by omega
        go_enter Tryd.func83, Tryd.ntmps83
        go_wp2_with fail
        refine (HI.out _).mono ?_
        rintro e w1 ⟨rfl, hg1⟩
        have HG1 := hide (HG0.out.trans hg1)
        have HB1 := hide (HB0.out.grow hg1)
        have HD1 := hide (HD0.out.grow hg1)
        have hc1 := HB1.out.cell
        have hd1 := HD1.out.cell
        have hl1 := HB1.out.lt
        have hm1 := HD1.out.lt
        clear hg1
        go_wp2_with fail
        refine (HI.out _).mono ?_
        rintro e w2 ⟨rfl, hg2⟩
        have HG2 := hide (HG1.out.trans hg2)
        have HB2 := hide (HB1.out.grow hg2)
        have HD2 := hide (HD1.out.grow hg2)
        have hc2 := HB2.out.cell
        have hd2 := HD2.out.cell
        have hl2 := HB2.out.lt
        have hm2 := HD2.out.lt
        clear hg2
        clear hc1 hd1 hl1 hm1
        go_wp2_with fail
        refine (HJ.out _).mono ?_
        rintro e w3 ⟨rfl, hg3⟩
        have HG3 := hide (HG2.out.trans hg3)
        have HB3 := hide (HB2.out.grow hg3)
        have HD3 := hide (HD2.out.grow hg3)
        have hc3 := HB3.out.cell
        have hd3 := HD3.out.cell
        have hl3 := HB3.out.lt
        have hm3 := HD3.out.lt
        clear hg3
        clear hc2 hd2 hl2 hm2
        go_wp2_with fail
        go_ret
        exact ⟨ret_int rfl, HG3.out⟩
    · have hy : nanB n' = false := by simpa using hy
      rw [hy] at HJ
      rw [show numC 4 n 4 n' = -1 by unfold numC; rw [if_neg h43, if_pos hx, if_neg h43, if_neg (by rw [hy]; decide)]]
      go_enter Tryd.func83, Tryd.ntmps83
      go_wp2_with fail
      refine (HI.out _).mono ?_
      rintro e w1 ⟨rfl, hg1⟩
      have HG1 := hide (HG0.out.trans hg1)
      have HB1 := hide (HB0.out.grow hg1)
      have HD1 := hide (HD0.out.grow hg1)
      have hc1 := HB1.out.cell
      have hd1 := HD1.out.cell
      have hl1 := HB1.out.lt
      have hm1 := HD1.out.lt
      clear hg1
      go_wp2_with fail
      refine (HI.out _).mono ?_
      rintro e w2 ⟨rfl, hg2⟩
      have HG2 := hide (HG1.out.trans hg2)
      have HB2 := hide (HB1.out.grow hg2)
      have HD2 := hide (HD1.out.grow hg2)
      have hc2 := HB2.out.cell
      have hd2 := HD2.out.cell
      have hl2 := HB2.out.lt
      have hm2 := HD2.out.lt
      clear hg2
      clear hc1 hd1 hl1 hm1
      go_wp2_with fail
      refine (HJ.out _).mono ?_
      rintro e w3 ⟨rfl, hg3⟩
      have HG3 := hide (HG2.out.trans hg3)
      have HB3 := hide (HB2.out.grow hg3)
      have HD3 := hide (HD2.out.grow hg3)
      have hc3 := HB3.out.cell
      have hd3 := HD3.out.cell
      have hl3 := HB3.out.lt
      have hm3 := HD3.out.lt
      clear hg3
      clear hc2 hd2 hl2 hm2
      go_wp2_with fail
      refine (HI.out _).mono ?_
      rintro e w4 ⟨rfl, hg4⟩
      have HG4 := hide (HG3.out.trans hg4)
      have HB4 := hide (HB3.out.grow hg4)
      have HD4 := hide (HD3.out.grow hg4)
      have hc4 := HB4.out.cell
      have hd4 := HD4.out.cell
      have hl4 := HB4.out.lt
      have hm4 := HD4.out.lt
      clear hg4
      clear hc3 hd3 hl3 hm3
      go_wp2_with fail
      go_ret
      exact ⟨ret_int rfl, HG4.out⟩
  · have hx : nanB n = false := by simpa using hx
    rw [hx] at HI
    by_cases hy : nanB n' = true
    · rw [hy] at HJ
      rw [show numC 4 n 4 n' = 1 by unfold numC; rw [if_neg h43, if_neg (by rw [hx]; decide), if_neg h43, if_pos hy]]
      go_enter Tryd.func83, Tryd.ntmps83
      go_wp2_with fail
      refine (HI.out _).mono ?_
      rintro e w1 ⟨rfl, hg1⟩
      have HG1 := hide (HG0.out.trans hg1)
      have HB1 := hide (HB0.out.grow hg1)
      have HD1 := hide (HD0.out.grow hg1)
      have hc1 := HB1.out.cell
      have hd1 := HD1.out.cell
      have hl1 := HB1.out.lt
      have hm1 := HD1.out.lt
      clear hg1
      go_wp2_with fail
      refine (HJ.out _).mono ?_
      rintro e w2 ⟨rfl, hg2⟩
      have HG2 := hide (HG1.out.trans hg2)
      have HB2 := hide (HB1.out.grow hg2)
      have HD2 := hide (HD1.out.grow hg2)
      have hc2 := HB2.out.cell
      have hd2 := HD2.out.cell
      have hl2 := HB2.out.lt
      have hm2 := HD2.out.lt
      clear hg2
      clear hc1 hd1 hl1 hm1
      go_wp2_with fail
      refine (HI.out _).mono ?_
      rintro e w3 ⟨rfl, hg3⟩
      have HG3 := hide (HG2.out.trans hg3)
      have HB3 := hide (HB2.out.grow hg3)
      have HD3 := hide (HD2.out.grow hg3)
      have hc3 := HB3.out.cell
      have hd3 := HD3.out.cell
      have hl3 := HB3.out.lt
      have hm3 := HD3.out.lt
      clear hg3
      clear hc2 hd2 hl2 hm2
      go_wp2_with fail
      refine (HI.out _).mono ?_
      rintro e w4 ⟨rfl, hg4⟩
      have HG4 := hide (HG3.out.trans hg4)
      have HB4 := hide (HB3.out.grow hg4)
      have HD4 := hide (HD3.out.grow hg4)
      have hc4 := HB4.out.cell
      have hd4 := HD4.out.cell
      have hl4 := HB4.out.lt
      have hm4 := HD4.out.lt
      clear hg4
      clear hc3 hd3 hl3 hm3
      go_wp2_with fail
      go_ret
      exact ⟨ret_int rfl, HG4.out⟩
    · have hy : nanB n' = false := by simpa using hy
      rw [hy] at HJ
      have hC : numC 4 n 4 n' = if sv n < sv n' then -1 else if sv n' < sv n then 1 else sg (placeN 4 n) (placeN 4 n') := by
        unfold numC
        rw [if_neg h43, if_neg (by rw [hx]; decide), if_neg h43, if_neg (by rw [hy]; decide)]
        by_cases q1 : sv n < sv n'
        · rw [if_pos q1, if_pos q1]
        · rw [if_neg q1, if_neg q1]
          by_cases q2 : sv n' < sv n
          · rw [if_pos q2, if_pos q2]
          · rw [if_neg q2, if_neg q2, float_place n n' h1 h2 (by omega)]
      have fx := Num.of h1 hx
      have fy := Num.of h2 hy
      rw [hC]
      clear hC h43
      rcases Int.lt_trichotomy (sv n) (sv n') with h | h | h
      · have ho := fx.lt fy h
        rw [if_pos h]
        clear h fx fy
        go_enter Tryd.func83, Tryd.ntmps83
        go_wp2_with fail
        refine (HI.out _).mono ?_
        rintro e w1 ⟨rfl, hg1⟩
        have HG1 := hide (HG0.out.trans hg1)
        have HB1 := hide (HB0.out.grow hg1)
        have HD1 := hide (HD0.out.grow hg1)
        have hc1 := HB1.out.cell
        have hd1 := HD1.out.cell
        have hl1 := HB1.out.lt
        have hm1 := HD1.out.lt
        clear hg1
        go_wp2_with fail
        refine (HJ.out _).mono ?_
        rintro e w2 ⟨rfl, hg2⟩
        have HG2 := hide (HG1.out.trans hg2)
        have HB2 := hide (HB1.out.grow hg2)
        have HD2 := hide (HD1.out.grow hg2)
        have hc2 := HB2.out.cell
        have hd2 := HD2.out.cell
        have hl2 := HB2.out.lt
        have hm2 := HD2.out.lt
        clear hg2
        clear hc1 hd1 hl1 hm1
        go_wp2_with fail
        go_ret
        exact ⟨ret_int rfl, HG2.out⟩
      · have ho := fx.eq fy h
        rw [if_neg (by omega), if_neg (by omega)]
        clear h fx fy
        go_enter Tryd.func83, Tryd.ntmps83
        go_wp2_with fail
        refine (HI.out _).mono ?_
        rintro e w1 ⟨rfl, hg1⟩
        have HG1 := hide (HG0.out.trans hg1)
        have HB1 := hide (HB0.out.grow hg1)
        have HD1 := hide (HD0.out.grow hg1)
        have hc1 := HB1.out.cell
        have hd1 := HD1.out.cell
        have hl1 := HB1.out.lt
        have hm1 := HD1.out.lt
        clear hg1
        go_wp2_with fail
        refine (HJ.out _).mono ?_
        rintro e w2 ⟨rfl, hg2⟩
        have HG2 := hide (HG1.out.trans hg2)
        have HB2 := hide (HB1.out.grow hg2)
        have HD2 := hide (HD1.out.grow hg2)
        have hc2 := HB2.out.cell
        have hd2 := HD2.out.cell
        have hl2 := HB2.out.lt
        have hm2 := HD2.out.lt
        clear hg2
        clear hc1 hd1 hl1 hm1
        go_wp2_with fail
        go_region_held3 (fun w' => (∀ q, w'.cell? ⟨w.heap.size, q, none⟩ = (Cv.mk 4 n a1 a2 a3 a4 a5 a6 a7 a8 a9).cells[q]?) ∧ (∀ q, w'.cell? ⟨w.heap.size + 1, q, none⟩ = (Cv.mk 4 n' b1 b2 b3 b4 b5 b6 b7 b8 b9).cells[q]?)) (first | go_keep | exact ⟨hcx, hdx⟩ | exact ⟨hcy, hdy⟩)
          (first | ((with_reducible refine (HP.out _).mono ?_); rintro e wx ⟨rfl, hgx⟩; first | (have HGY := hide (HGX.out.trans hgx); have HBY := hide (HBX.out.grow hgx); have HDY := hide (HDX.out.grow hgx); have hcy := HBY.out.cell; have hdy := HDY.out.cell; clear hgx) | (have HGX := hide ((HG2.out.drew).trans hgx); have HBX := hide ((HB2.out.drew).grow hgx); have HDX := hide ((HD2.out.drew).grow hgx); have hcx := HBX.out.cell; have hdx := HDX.out.cell; clear hgx)) | ((with_reducible refine (HQ.out _).mono ?_); rintro e wx ⟨rfl, hgx⟩; first | (have HGY := hide (HGX.out.trans hgx); have HBY := hide (HBX.out.grow hgx); have HDY := hide (HDX.out.grow hgx); have hcy := HBY.out.cell; have hdy := HDY.out.cell; clear hgx) | (have HGX := hide ((HG2.out.drew).trans hgx); have HBX := hide ((HB2.out.drew).grow hgx); have HDX := hide ((HD2.out.drew).grow hgx); have hcx := HBX.out.cell; have hdx := HDX.out.cell; clear hgx)) | (go_at_call 82; refine (rcmpi_any _ _ _).mono ?_; rintro e wx ⟨rfl, rfl⟩))
        all_goals
          go_wp2_with fail
          go_ret
          exact ⟨rfl, HGY.out⟩
      · have ho := fx.gt fy h
        rw [if_neg (by omega), if_pos h]
        clear h fx fy
        go_enter Tryd.func83, Tryd.ntmps83
        go_wp2_with fail
        refine (HI.out _).mono ?_
        rintro e w1 ⟨rfl, hg1⟩
        have HG1 := hide (HG0.out.trans hg1)
        have HB1 := hide (HB0.out.grow hg1)
        have HD1 := hide (HD0.out.grow hg1)
        have hc1 := HB1.out.cell
        have hd1 := HD1.out.cell
        have hl1 := HB1.out.lt
        have hm1 := HD1.out.lt
        clear hg1
        go_wp2_with fail
        refine (HJ.out _).mono ?_
        rintro e w2 ⟨rfl, hg2⟩
        have HG2 := hide (HG1.out.trans hg2)
        have HB2 := hide (HB1.out.grow hg2)
        have HD2 := hide (HD1.out.grow hg2)
        have hc2 := HB2.out.cell
        have hd2 := HD2.out.cell
        have hl2 := HB2.out.lt
        have hm2 := HD2.out.lt
        clear hg2
        clear hc1 hd1 hl1 hm1
        go_wp2_with fail
        go_ret
        exact ⟨ret_int rfl, HG2.out⟩
theorem rnumber_any (k k' : Int) (n n' : Nat) (c c' : Cv) (w : World) (hk : k = 3 ∨ k = 4) (hk' : k' = 3 ∨ k' = 4) (h : In w (.mk k n [] [] []) c) (h' : In w (.mk k' n' [] [] []) c') :
    Calls Tryd.prog 83 #[c.agg, c'.agg] w fun e w' => e = .returned (.int .i64 (numC k n k' n')) ∧ Grow w w' := by
  obtain ⟨aB, aL, aF, cB, cL, cF, rfl, -, -, h3, -⟩ := h.open
  obtain ⟨bB, bL, bF, dB, dL, dF, rfl, -, -, k3, -⟩ := h'.open
  rcases hk with rfl | rfl <;> rcases hk' with rfl | rfl
  · exact rnumber_ii _ _ n n' w rfl rfl rfl rfl h3 k3
  · exact rnumber_if _ _ n n' w rfl rfl rfl rfl h3 k3
  · exact rnumber_fi _ _ n n' w rfl rfl rfl rfl h3 k3
  · exact rnumber_ff _ _ n n' w rfl rfl rfl rfl h3 k3
end Go.Proofs.YtpjhhkndfmcaoaaDoor
