/- Walk of the law KeyBytes: any byte strings in order; what is above all that begin with one. -/
import Derived.Test.YticgdjnekbobgaaDoorKeyBk
import Derived.Test.YticgdjnekbobgaaDoorKeyH
import Derived.Test.YticgdjnekbobgaaDoorKeyAft
set_option linter.unusedVariables false
set_option linter.unusedSimpArgs false
namespace Go.Proofs.YticgdjnekbobgaaDoor
open Go.RowKit Go.Shelf Go.WideShapes

set_option maxRecDepth 100000 in
set_option maxHeartbeats 3200000 in
theorem kbytes_any (a : List UInt8) (A : Option Addr) (ac : Nat) (b : List UInt8) (B : Option Addr) (bc : Nat) (w : World) (hT : Tabs w) (ha : InB w A a) (la : a.length ≤ 140737488355328) (ca : a.length ≤ ac) (hb : InB w B b) :
    Calls Tryd.prog 8 #[.slice A a.length ac, .slice B b.length bc] w fun e w' => e = .returned (.bool true) ∧ Grow w w' := by
  have HT := hide hT
  have HA := hide ha
  have HB := hide hb
  have HK := hide (kafter_any a A ac w ha la ca)
  have HR := hide (fun w' (h : Grow w w') => rafter_any a A ac w' (ha.grow h) la ca)
  clear hT ha hb
  obtain ⟨X, ok, hP⟩ : ∃ X ok, afterN a = (X, ok) := ⟨_, _, rfl⟩
  rw [hP] at HK
  have HR2 := hide (fun w' (h : Grow w w') => by have := HR.out w' h; rw [hP] at this; exact this)
  clear HR hP
  go_enter Tryd.func8, Tryd.ntmps8
  go_wp2_with fail
  refine HK.out.mono ?_
  rintro e w1 ⟨b1, A1, c1, rfl, hb1, hr1, hg1⟩
  dsimp only at hr1 ⊢
  have HR1 := hide hr1
  have HG1 := hide hg1
  have HC2 := hide (HR2.out w1 hg1)
  clear hr1 hg1 hb1 HR2 HK
  go_wp2_with fail
  refine HC2.out.mono ?_
  rintro e w2 ⟨b2, A2, c2, rfl, hb2, hr2, hg2⟩
  dsimp only at hr2 ⊢
  have HR2 := hide hr2
  have HG2 := hide (HG1.out.trans hg2)
  have HR1b := hide (HR1.out.grow hg2)
  clear hr2 hg2 hb2 HC2 HR1
  go_wp2_with fail
  refine (kawake_any _ (HT.out.grow HG2.out)).mono ?_
  rintro e w3 ⟨rfl, hg3⟩
  have hs1 := conv_row (HR1b.out.grow hg3)
  have hs2 := conv_row (HR2.out.grow hg3)
  have HG3 := hide (HG2.out.trans hg3)
  clear hg3
  have HC1 := hide (kcmp_any a b A B ac bc w3 (HA.out.grow HG3.out) (HB.out.grow HG3.out))
  have HC2 := hide (rcmp_any a b A B ac bc w3 (HA.out.grow HG3.out) (HB.out.grow HG3.out))
  go_wp2_with fail
  refine HC1.out.mono ?_
  rintro e w4 ⟨rfl, rfl⟩
  go_wp2_with fail
  refine HC2.out.mono ?_
  rintro e w5 ⟨rfl, rfl⟩
  go_wp2_with fail
  go_ret
  exact ⟨rfl, HG3.out⟩
end Go.Proofs.YticgdjnekbobgaaDoor
