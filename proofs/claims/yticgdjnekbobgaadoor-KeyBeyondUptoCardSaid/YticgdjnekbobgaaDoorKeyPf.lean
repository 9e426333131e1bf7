/- Walk of the law KeyPrefix: of texts, just those that begin with a text have keys between its key, the end's two bytes left out, and After of that. -/
import Derived.Test.YticgdjnekbobgaaDoorKeyBk
import Derived.Test.YticgdjnekbobgaaDoorKeyH
import Derived.Test.YticgdjnekbobgaaDoorKeyAft
set_option linter.unusedVariables false
set_option linter.unusedSimpArgs false
namespace Go.Proofs.YticgdjnekbobgaaDoor
open Go.RowKit Go.Shelf Go.WideShapes

theorem begB_iff {a b : List UInt8} : begB b a = true ↔ a <+: b := by
  unfold begB
  rw [Bool.and_eq_true, decide_eq_true_eq, beq_iff_eq, List.prefix_iff_eq_take]
  refine ⟨fun h => h.2.symm, fun h => ⟨?_, h.symm⟩⟩
  have := congrArg List.length h
  rw [List.length_take] at this
  omega
theorem raw_key (b : List UInt8) : (V.mk 6 0 b [] []).key = (80 :: escB b) ++ [0, 0] := by rw [V.key_mk]; simp [esc]
theorem after_80 (l : List UInt8) : ∃ x, afterN (80 :: l) = (x, true) := by
  rcases afterN_cases (80 :: l) with ⟨_, h⟩ | ⟨p, c, k, _, _, h⟩
  · rw [List.length_cons, List.replicate_succ] at h
    injection h with h
    exact absurd h (by decide)
  · exact ⟨_, h⟩
/-- Just the texts that begin with a text have keys between. -/
theorem pref_law {a b x : List UInt8} (h : afterN (80 :: escB a) = (x, true)) : (decide (0 ≤ Lib.compareBytes ((80 :: escB b) ++ [0, 0]) (80 :: escB a)) && decide (Lib.compareBytes ((80 :: escB b) ++ [0, 0]) x < 0)) = begB b a := by
  rw [Bool.eq_iff_iff, begB_iff, Bool.and_eq_true, decide_eq_true_eq, decide_eq_true_eq, And.comm, after_between h]
  rw [List.cons_append, List.cons_prefix_cons, escB_pre]
  simp

set_option maxRecDepth 100000 in
set_option maxHeartbeats 6400000 in
theorem kprefix_any (a : List UInt8) (A : Option Addr) (ac : Nat) (b : List UInt8) (B : Option Addr) (bc : Nat) (w : World) (hT : Tabs w) (ha : InB w A a) (la : a.length ≤ 140737488355328) (ca : a.length ≤ ac) (hb : InB w B b) (lb : b.length ≤ 140737488355328) (cb : b.length ≤ bc) :
    Calls Tryd.prog 10 #[.slice A a.length ac, .slice B b.length bc] w fun e w' => e = .returned (.bool true) ∧ Grow w w' := by
  have HT := hide hT
  have HA := hide ha
  have HB := hide hb
  have HOA := hide (fun w' (h : Grow w w') => of_any (.mk 6 0 a [] []) ⟨6, 0, A, a.length, ac, none, 0, 0, none, 0, 0⟩ w' (by rw [V.fit]; simp) (by rw [V.count_mk]; simp) (hT.grow h) (In.raw 6 A ac a (by omega) (by omega) (ha.grow h) ca la))
  have HOB := hide (fun w' (h : Grow w w') => of_any (.mk 6 0 b [] []) ⟨6, 0, B, b.length, bc, none, 0, 0, none, 0, 0⟩ w' (by rw [V.fit]; simp) (by rw [V.count_mk]; simp) (hT.grow h) (In.raw 6 B bc b (by omega) (by omega) (hb.grow h) cb lb))
  clear hT ha hb
  obtain ⟨KA, ea, hea⟩ : ∃ X e, ofK (.mk 6 0 a [] []) = (X, e) := ⟨_, _, rfl⟩
  obtain ⟨KB, eb, heb⟩ : ∃ X e, ofK (.mk 6 0 b [] []) = (X, e) := ⟨_, _, rfl⟩
  rw [hea] at HOA
  rw [heb] at HOB
  have HEA := hide hea
  have HEB := hide heb
  clear hea heb
  go_enter Tryd.func10, Tryd.ntmps10
  go_wp2_with fail
  refine (kawake_any _ HT.out).mono ?_
  rintro e w1 ⟨rfl, hg1⟩
  have HG1 := hide hg1
  have HC1 := hide (HOA.out w1 hg1)
  clear hg1 HOA
  go_wp2_with fail
  refine HC1.out.mono ?_
  rintro e w2 ⟨b2, A2, c2, rfl, hb2, hr2, hg2⟩
  dsimp only at hr2 ⊢
  have HR2 := hide hr2
  have HG2 := hide (HG1.out.trans hg2)
  clear hr2 hg2 hb2 HC1
  have HC2 := hide (HOB.out w2 HG2.out)
  clear HOB
  go_wp2_with fail
  refine HC2.out.mono ?_
  rintro e w3 ⟨b3, A3, c3, rfl, hb3, hr3, hg3⟩
  dsimp only at hr3 ⊢
  have HR3 := hide hr3
  have HR2b := hide (HR2.out.grow hg3)
  have HG3 := hide (HG2.out.trans hg3)
  clear hr3 hg3 hb3 HC2 HR2
  by_cases h0 : ea = 0
  · subst h0
    by_cases h1 : eb = 0
    · subst h1
      have hka : KA = (80 :: escB a) ++ [0, 0] := by
        have := ofK_zero (v := .mk 6 0 a [] []) (by rw [HEA.out])
        rw [HEA.out, raw_key] at this
        exact (Prod.ext_iff.1 this).1
      have hkb : KB = (80 :: escB b) ++ [0, 0] := by
        have := ofK_zero (v := .mk 6 0 b [] []) (by rw [HEB.out])
        rw [HEB.out, raw_key] at this
        exact (Prod.ext_iff.1 this).1
      obtain ⟨H, hH⟩ := after_80 (escB a)
      have HPL := hide (pref_law (b := b) hH)
      rw [← hkb] at HPL
      obtain ⟨LOW, hLOW⟩ : ∃ l, 80 :: escB a = l := ⟨_, rfl⟩
      rw [hLOW] at HPL hka hH
      subst hka
      have hl0 : 1 ≤ LOW.length := by rw [← hLOW]; simp
      have hll : LOW.length ≤ 96 := by
        have := (ofK_ok HEA.out).2.2
        rw [List.length_append] at this
        simp at this; omega
      have hlen : (LOW ++ [0, 0]).length = LOW.length + 2 := by simp
      rw [hlen] at HR2b ⊢
      have hcap2 := row_cap HR2b.out
      obtain ⟨g2, cap2, hv2, hb2, hlt2⟩ := World.ownsRow.form HR2b.out (by omega)
      have hA2 : A2 = some ⟨g2, 0, none⟩ := by injection hv2
      subst hA2
      have hlow : InB w3 (some ⟨g2, 0, none⟩) LOW := by
        have := (HR2b.out.reads.1)
        obtain ⟨hx, hy⟩ := this
        refine ⟨by rw [u8s_length, Nat.mul_one], fun hn => ?_⟩
        obtain ⟨bk, o, e, hc⟩ := hy (by rw [hlen]; omega)
        refine ⟨bk, o, e, fun j u hu => hc j u ?_⟩
        have hj := (List.getElem?_eq_some_iff.1 hu).1
        rw [u8s_length] at hj
        rw [show u8s (LOW ++ [0, 0]) = u8s LOW ++ u8s [0, 0] by simp [u8s], List.getElem?_append_left (by rw [u8s_length]; exact hj)]
        exact hu
      have HLOW := hide hlow
      have HAF := hide (kafter_any LOW (some ⟨g2, 0, none⟩) c2 w3 hlow (by omega) (by omega))
      rw [hH] at HAF
      have HHH := hide hH
      clear hlow hv2 hH hkb hLOW hlen
      have hlt2 : ¬ ((LOW.length : Int) + 2 < 2) := by omega
      go_wp2_with fail
      refine HAF.out.mono ?_
      rintro e w4 ⟨b4, A4, c4, rfl, hb4, hr4, hg4⟩
      dsimp only at hr4 ⊢
      have HG4 := hide (HG3.out.trans hg4)
      have HC1 := hide (kcmp_any KB LOW A3 (some ⟨g2, 0, none⟩) c3 c2 w4 ((HR3.out.grow hg4).reads.1) (HLOW.out.grow hg4))
      have HC2 := hide (kcmp_any KB H A3 A4 c3 c4 w4 ((HR3.out.grow hg4).reads.1) hr4.reads.1)
      have HBG := hide (begins_any b a B A bc ac w4 (HB.out.grow HG4.out) (HA.out.grow HG4.out) cb lb la)
      obtain ⟨z1, hz1⟩ : ∃ z, Lib.compareBytes KB LOW = z := ⟨_, rfl⟩
      obtain ⟨z2, hz2⟩ : ∃ z, Lib.compareBytes KB H = z := ⟨_, rfl⟩
      rw [hz1] at HC1 HPL
      rw [hz2] at HC2 HPL
      rw [← HPL.out] at HBG
      clear hr4 hg4 hb4 hz1 hz2 HAF HPL
      go_wp2_with fail
      refine HC1.out.mono ?_
      rintro e w5 ⟨rfl, rfl⟩
      by_cases hq : 0 ≤ z1
      · have hqd : decide (0 ≤ z1) = true := decide_eq_true hq
        rw [hqd, Bool.true_and] at HBG
        go_wp2_with fail
        refine HC2.out.mono ?_
        rintro e w6 ⟨rfl, rfl⟩
        by_cases hq2 : z2 < 0
        · have hqd2 : decide (z2 < 0) = true := decide_eq_true hq2
          rw [hqd2] at HBG
          go_wp2_with fail
          refine HBG.out.mono ?_
          rintro e w7 ⟨rfl, hg7⟩
          go_wp2_with fail
          go_ret
          exact ⟨rfl, HG4.out.trans hg7⟩
        · have hqd2 : decide (z2 < 0) = false := decide_eq_false hq2
          rw [hqd2] at HBG
          go_wp2_with fail
          refine HBG.out.mono ?_
          rintro e w7 ⟨rfl, hg7⟩
          go_wp2_with fail
          go_ret
          exact ⟨rfl, HG4.out.trans hg7⟩
      · have hqd : decide (0 ≤ z1) = false := decide_eq_false hq
        rw [hqd, Bool.false_and] at HBG
        go_wp2_with fail
        refine HBG.out.mono ?_
        rintro e w7 ⟨rfl, hg7⟩
        go_wp2_with fail
        go_ret
        exact ⟨rfl, HG4.out.trans hg7⟩
    · have h1b : (eb != 0) = true := by simpa using h1
      go_wp2_with fail
      go_ret
      exact ⟨rfl, HG3.out⟩
  · have h0b : (ea != 0) = true := by simpa using h0
    go_wp2_with fail
    go_ret
    exact ⟨rfl, HG3.out⟩
end Go.Proofs.YticgdjnekbobgaaDoor
