/- Walks: two numbers held against one another, by the program and by the document's answer. -/
import Derived.Test.YtcdbchifigonpaaDoorVoN
import Derived.Deep.QuietTactic
import Derived.BigQuiet
set_option linter.unusedVariables false
set_option linter.unusedSimpArgs false
namespace Go.Proofs.YtcdbchifigonpaaDoor
open Go.RowKit Go.Shelf

theorem neg_wrap {c : Int} (h : c = -1 ∨ c = 0 ∨ c = 1) : IntKind.i64.wrap (-c) = -c := by rcases h with rfl | rfl | rfl <;> decide
theorem wholeC_vals (i : Int) (f : Nat) : wholeC i f = -1 ∨ wholeC i f = 0 ∨ wholeC i f = 1 := by
  unfold wholeC; repeat' split
  all_goals omega
set_option maxRecDepth 100000 in
set_option maxHeartbeats 1600000 in
theorem numbers_ff (c c' : Cv) (n n' : Nat) (w : World) (hk : c.k = 4) (hn : c.n = (n : Int)) (hk' : c'.k = 4) (hn' : c'.n = (n' : Int)) (h1 : n < 18446744073709551616) (h2 : n' < 18446744073709551616) :
    Calls Tryd.prog 85 #[c.agg, c'.agg] w fun e w' => e = .returned (.int .i64 (numC 4 n 4 n')) ∧ Grow w w' := by
  obtain ⟨ck, cn, a1, a2, a3, a4, a5, a6, a7, a8, a9⟩ := c
  obtain ⟨dk, dn, b1, b2, b3, b4, b5, b6, b7, b8, b9⟩ := c'
  dsimp only at hk hn hk' hn'
  subst hk hn hk' hn'
  have hb := run_from
  have HNN := hide (Num.of h1)
  have HNM := hide (Num.of h2)
  have HG := hide (((Grow.refl w).alloc (.cells (Cv.mk 4 n a1 a2 a3 a4 a5 a6 a7 a8 a9).cells 37)).alloc (.cells (Cv.mk 4 n' b1 b2 b3 b4 b5 b6 b7 b8 b9).cells 37))
  have HI := hide (fun w => isnan_any n w)
  have HJ := hide (fun w => isnan_any n' w)
  by_cases hx : nanB n = true
  · by_cases hy : nanB n' = true
    · have HC := hide (show sg (n : Int) (n' : Int) = numC 4 n 4 n' by unfold numC; rw [if_neg (by decide), if_pos hx, if_neg (by decide), if_pos hy])
      rw [hx] at HI
      rw [hy] at HJ
      go_enter Tryd.func85, Tryd.ntmps85
      go_wp2_with fail
      go_quiet (fail)
      go_wp2_with (first | (go_at_call 101; refine (HI.out _).mono ?_; rintro e w' ⟨rfl, rfl⟩) | (go_at_call 101; refine (HJ.out _).mono ?_; rintro e w' ⟨rfl, rfl⟩) | (go_at_call 84; refine (cmpu64_any _ _ _).mono ?_; rintro e w' ⟨rfl, rfl⟩))
      go_ret
      exact ⟨ret_int HC.out, HG.out.drewN _⟩
    · have hy : nanB n' = false := by simpa using hy
      have HC := hide (show -1 = numC 4 n 4 n' by unfold numC; rw [if_neg (by decide), if_pos hx, if_neg (by decide), if_neg (by rw [hy]; decide)])
      rw [hx] at HI
      rw [hy] at HJ
      go_enter Tryd.func85, Tryd.ntmps85
      go_wp2_with fail
      go_quiet (fail)
      go_wp2_with (first | (go_at_call 101; refine (HI.out _).mono ?_; rintro e w' ⟨rfl, rfl⟩) | (go_at_call 101; refine (HJ.out _).mono ?_; rintro e w' ⟨rfl, rfl⟩))
      go_ret
      exact ⟨ret_int HC.out, HG.out.drewN _⟩
  · have hx : nanB n = false := by simpa using hx
    rw [hx] at HI
    by_cases hy : nanB n' = true
    · have HC := hide (show 1 = numC 4 n 4 n' by unfold numC; rw [if_neg (by decide), if_neg (by rw [hx]; decide), if_neg (by decide), if_pos hy])
      rw [hy] at HJ
      go_enter Tryd.func85, Tryd.ntmps85
      go_wp2_with fail
      go_quiet (fail)
      go_wp2_with (first | (go_at_call 101; refine (HI.out _).mono ?_; rintro e w' ⟨rfl, rfl⟩) | (go_at_call 101; refine (HJ.out _).mono ?_; rintro e w' ⟨rfl, rfl⟩))
      go_ret
      exact ⟨ret_int HC.out, HG.out.drewN _⟩
    · have hy : nanB n' = false := by simpa using hy
      rw [hy] at HJ
      have fx := HNN.out hx
      have fy := HNM.out hy
      have hC : numC 4 n 4 n' = if sv n < sv n' then -1 else if sv n' < sv n then 1 else sg ((n' / 9223372036854775808 : Nat) : Int) ((n / 9223372036854775808 : Nat) : Int) := by
        unfold numC; rw [if_neg (by decide), if_neg (by rw [hx]; decide), if_neg (by decide), if_neg (by rw [hy]; decide)]
      rcases Int.lt_trichotomy (sv n) (sv n') with h | h | h
      · have ho := fx.lt fy h
        have HS := hide (fun w => cmpf_any n n' fx fy w)
        rw [sg_lt h] at HS
        have HC := hide (show -1 = numC 4 n 4 n' by rw [hC, if_pos h])
        clear h hC fx fy
        go_enter Tryd.func85, Tryd.ntmps85
        go_wp2_with fail
        go_quiet (fail)
        go_wp2_with (first | (go_at_call 101; refine (HI.out _).mono ?_; rintro e w' ⟨rfl, rfl⟩) | (go_at_call 101; refine (HJ.out _).mono ?_; rintro e w' ⟨rfl, rfl⟩) | (go_at_call 102; refine (HS.out _).mono ?_; rintro e w' ⟨rfl, rfl⟩))
        go_ret
        exact ⟨ret_int HC.out, HG.out.drewN _⟩
      · have ho := fx.eq fy h
        have HC := hide (show sg ((n' / 9223372036854775808 : Nat) : Int) ((n / 9223372036854775808 : Nat) : Int) = numC 4 n 4 n' by rw [hC, if_neg (by omega), if_neg (by omega)])
        clear h hC fx fy
        go_enter Tryd.func85, Tryd.ntmps85
        go_wp2_with fail
        go_quiet (fail)
        go_wp2_with (first | (go_at_call 101; refine (HI.out _).mono ?_; rintro e w' ⟨rfl, rfl⟩) | (go_at_call 101; refine (HJ.out _).mono ?_; rintro e w' ⟨rfl, rfl⟩) | (go_at_call 84; refine (cmpu64_any _ _ _).mono ?_; rintro e w' ⟨rfl, rfl⟩))
        go_ret
        exact ⟨ret_int (by rw [← HC.out]; rfl), HG.out.drewN _⟩
      · have ho := fx.gt fy h
        have HS := hide (fun w => cmpf_any n n' fx fy w)
        rw [sg_gt h] at HS
        have HC := hide (show 1 = numC 4 n 4 n' by rw [hC, if_neg (by omega), if_pos h])
        clear h hC fx fy
        go_enter Tryd.func85, Tryd.ntmps85
        go_wp2_with fail
        go_quiet (fail)
        go_wp2_with (first | (go_at_call 101; refine (HI.out _).mono ?_; rintro e w' ⟨rfl, rfl⟩) | (go_at_call 101; refine (HJ.out _).mono ?_; rintro e w' ⟨rfl, rfl⟩) | (go_at_call 102; refine (HS.out _).mono ?_; rintro e w' ⟨rfl, rfl⟩))
        go_ret
        exact ⟨ret_int HC.out, HG.out.drewN _⟩

theorem i64_conv (n : Nat) (h : n < 18446744073709551616) : IntKind.i64.wrap (n : Int) = i64 n := by
  unfold i64
  rw [IntKind.wrap_i64]
  split <;> omega
set_option maxRecDepth 100000 in
set_option maxHeartbeats 1600000 in
theorem numbers_fi (c c' : Cv) (n n' : Nat) (w : World) (hk : c.k = 4) (hn : c.n = (n : Int)) (hk' : c'.k = 3) (hn' : c'.n = (n' : Int)) (h1 : n < 18446744073709551616) (h2 : n' < 18446744073709551616) :
    Calls Tryd.prog 85 #[c.agg, c'.agg] w fun e w' => e = .returned (.int .i64 (numC 4 n 3 n')) ∧ Grow w w' := by
  obtain ⟨ck, cn, a1, a2, a3, a4, a5, a6, a7, a8, a9⟩ := c
  obtain ⟨dk, dn, b1, b2, b3, b4, b5, b6, b7, b8, b9⟩ := c'
  dsimp only at hk hn hk' hn'
  subst hk hn hk' hn'
  have hb := run_from
  have HG := hide (((Grow.refl w).alloc (.cells (Cv.mk 4 n a1 a2 a3 a4 a5 a6 a7 a8 a9).cells 37)).alloc (.cells (Cv.mk 3 n' b1 b2 b3 b4 b5 b6 b7 b8 b9).cells 37))
  have HI := hide (fun w => isnan_any n w)
  have hcv := i64_conv n' h2
  by_cases hx : nanB n = true
  · have HC := hide (show -1 = numC 4 n 3 n' by unfold numC; rw [if_neg (by decide), if_pos hx, if_pos rfl])
    rw [hx] at HI
    go_enter Tryd.func85, Tryd.ntmps85
    go_wp2_with fail
    go_quiet (fail)
    go_wp2_with (go_at_call 101; refine (HI.out _).mono ?_; rintro e w' ⟨rfl, rfl⟩)
    go_ret
    exact ⟨ret_int HC.out, HG.out.drewN _⟩
  · have hx : nanB n = false := by simpa using hx
    rw [hx] at HI
    have fx := Num.of h1 hx
    have hr := i64_range n' h2
    have hC : numC 4 n 3 n' = -(mixC (i64 n') n) := by unfold numC; rw [if_neg (by decide), if_neg (by rw [hx]; decide), if_pos rfl]
    rw [mixC_whole] at hC
    have HW := hide (fun w => whole_any (i64 n') n fx hr.1 hr.2 w)
    rcases wholeC_vals (i64 n') n with h | h | h
    · rw [h] at hC HW
      have HC := hide hC
      clear hC h hr fx
      go_enter Tryd.func85, Tryd.ntmps85
      go_wp2_with fail
      go_quiet (fail)
      go_wp2_with (first | (go_at_call 101; refine (HI.out _).mono ?_; rintro e w' ⟨rfl, rfl⟩) | (go_at_call 103; refine (HW.out _).mono ?_; rintro e w' ⟨rfl, rfl⟩))
      go_ret
      exact ⟨ret_int (by rw [HC.out]; simp), HG.out.drewN _⟩
    · rw [h] at hC HW
      have HC := hide hC
      clear hC h hr fx
      by_cases hz : n = 9223372036854775808
      · subst hz
        go_enter Tryd.func85, Tryd.ntmps85
        go_wp2_with fail
        go_quiet (fail)
        go_wp2_with (first | (go_at_call 101; refine (HI.out _).mono ?_; rintro e w' ⟨rfl, rfl⟩) | (go_at_call 103; refine (HW.out _).mono ?_; rintro e w' ⟨rfl, rfl⟩))
        go_ret
        exact ⟨ret_int (by rw [HC.out]; simp), HG.out.drewN _⟩
      · have hzq : ((n : Int) == 9223372036854775808) = false := by simp; omega
        have HZ := hide hz
        clear hz
        go_enter Tryd.func85, Tryd.ntmps85
        go_wp2_with fail
        go_quiet (fail)
        go_wp2_with (first | (go_at_call 101; refine (HI.out _).mono ?_; rintro e w' ⟨rfl, rfl⟩) | (go_at_call 103; refine (HW.out _).mono ?_; rintro e w' ⟨rfl, rfl⟩))
        go_ret
        exact ⟨ret_int (by rw [HC.out]; simp [HZ.out]), HG.out.drewN _⟩
    · rw [h] at hC HW
      have HC := hide hC
      clear hC h hr fx
      go_enter Tryd.func85, Tryd.ntmps85
      go_wp2_with fail
      go_quiet (fail)
      go_wp2_with (first | (go_at_call 101; refine (HI.out _).mono ?_; rintro e w' ⟨rfl, rfl⟩) | (go_at_call 103; refine (HW.out _).mono ?_; rintro e w' ⟨rfl, rfl⟩))
      go_ret
      exact ⟨ret_int (by rw [HC.out]; simp), HG.out.drewN _⟩
set_option maxRecDepth 100000 in
set_option maxHeartbeats 1600000 in
theorem numbers_ii (c c' : Cv) (n n' : Nat) (w : World) (hk : c.k = 3) (hn : c.n = (n : Int)) (hk' : c'.k = 3) (hn' : c'.n = (n' : Int)) (h1 : n < 18446744073709551616) (h2 : n' < 18446744073709551616) :
    Calls Tryd.prog 85 #[c.agg, c'.agg] w fun e w' => e = .returned (.int .i64 (numC 3 n 3 n')) ∧ Grow w w' := by
  obtain ⟨ck, cn, a1, a2, a3, a4, a5, a6, a7, a8, a9⟩ := c
  obtain ⟨dk, dn, b1, b2, b3, b4, b5, b6, b7, b8, b9⟩ := c'
  dsimp only at hk hn hk' hn'
  subst hk hn hk' hn'
  have hb := run_from
  have HG := hide (((Grow.refl w).alloc (.cells (Cv.mk 3 n a1 a2 a3 a4 a5 a6 a7 a8 a9).cells 37)).alloc (.cells (Cv.mk 3 n' b1 b2 b3 b4 b5 b6 b7 b8 b9).cells 37))
  have hcv := i64_conv n h1
  have hcv2 := i64_conv n' h2
  have HC := hide (show sg (i64 n) (i64 n') = numC 3 n 3 n' by unfold numC; rw [if_pos rfl, if_pos rfl])
  go_enter Tryd.func85, Tryd.ntmps85
  go_wp2_with fail
  go_quiet (fail)
  go_wp2_with (go_at_call 100; refine (cmpi64_any _ _ _).mono ?_; rintro e w' ⟨rfl, rfl⟩)
  go_ret
  exact ⟨ret_int HC.out, HG.out.drewN _⟩
theorem numC_vals (k k' : Int) (n n' : Nat) : numC k n k' n' = -1 ∨ numC k n k' n' = 0 ∨ numC k n k' n' = 1 := by
  have hm : ∀ i f, mixC i f = -1 ∨ mixC i f = 1 := by
    intro i f; unfold mixC; repeat' split
    all_goals omega
  unfold numC
  repeat' split
  all_goals first | exact sg_vals _ _ | omega | (have := hm (i64 n) n'; omega) | (have := hm (i64 n') n; omega)
theorem numC_swap_if (n n' : Nat) : numC 3 n 4 n' = -(numC 4 n' 3 n) := by
  unfold numC
  have h43 : ¬ (4 : Int) = 3 := by decide
  simp only [if_true, if_neg h43]
  by_cases h : nanB n' = true
  · simp only [if_pos h]; rfl
  · simp only [if_neg h]; omega
set_option maxRecDepth 100000 in
set_option maxHeartbeats 1600000 in
theorem numbers_if (c c' : Cv) (n n' : Nat) (w : World) (hk : c.k = 3) (hn : c.n = (n : Int)) (hk' : c'.k = 4) (hn' : c'.n = (n' : Int)) (h1 : n < 18446744073709551616) (h2 : n' < 18446744073709551616) :
    Calls Tryd.prog 85 #[c.agg, c'.agg] w fun e w' => e = .returned (.int .i64 (numC 3 n 4 n')) ∧ Grow w w' := by
  have HR := hide (fun w => numbers_fi c' c n' n w hk' hn' hk hn h2 h1)
  have HWR := hide (neg_wrap (numC_vals 4 3 n' n))
  rw [numC_swap_if]
  obtain ⟨ck, cn, a1, a2, a3, a4, a5, a6, a7, a8, a9⟩ := c
  obtain ⟨dk, dn, b1, b2, b3, b4, b5, b6, b7, b8, b9⟩ := c'
  dsimp only at hk hn hk' hn'
  subst hk hn hk' hn'
  obtain ⟨z, hz⟩ : ∃ z, numC 4 n' 3 n = z := ⟨_, rfl⟩
  rw [hz] at HR HWR ⊢
  have hwr := HWR.out
  clear hz
  have hb := run_from
  have HG := hide (((Grow.refl w).alloc (.cells (Cv.mk 3 n a1 a2 a3 a4 a5 a6 a7 a8 a9).cells 37)).alloc (.cells (Cv.mk 4 n' b1 b2 b3 b4 b5 b6 b7 b8 b9).cells 37))
  go_enter Tryd.func85, Tryd.ntmps85
  go_wp2_with fail
  go_quiet (fail)
  go_wp2_with fail
  refine (HR.out _).mono ?_
  rintro e w' ⟨rfl, hg⟩
  have HG2 := hide ((HG.out.drewN _).trans hg)
  clear hg
  go_wp2_with fail
  go_ret
  exact ⟨rfl, HG2.out⟩
theorem numbers_any (k k' : Int) (n n' : Nat) (c c' : Cv) (w : World) (hk : k = 3 ∨ k = 4) (hk' : k' = 3 ∨ k' = 4) (h : In w (.mk k n [] [] []) c) (h' : In w (.mk k' n' [] [] []) c') :
    Calls Tryd.prog 85 #[c.agg, c'.agg] w fun e w' => e = .returned (.int .i64 (numC k n k' n')) ∧ Grow w w' := by
  obtain ⟨aB, aL, aF, cB, cL, cF, rfl, -, -, h3, -⟩ := h.open
  obtain ⟨bB, bL, bF, dB, dL, dF, rfl, -, -, k3, -⟩ := h'.open
  rcases hk with rfl | rfl <;> rcases hk' with rfl | rfl
  · exact numbers_ii _ _ n n' w rfl rfl rfl rfl h3 k3
  · exact numbers_if _ _ n n' w rfl rfl rfl rfl h3 k3
  · exact numbers_fi _ _ n n' w rfl rfl rfl rfl h3 k3
  · exact numbers_ff _ _ n n' w rfl rfl rfl rfl h3 k3
end Go.Proofs.YtcdbchifigonpaaDoor
