/- Keys, plainly: chapter 4's examples. No program in sight. -/
import Derived.Test.YticgdjnekbobgaaDoorKeyT
import Derived.Test.YticgdjnekbobgaaDoorKeyAw
import Derived.Test.YticgdjnekbobgaaDoorKeyC
set_option linter.unusedVariables false
set_option linter.unusedSimpArgs false
namespace Go.Proofs.YticgdjnekbobgaaDoor
open V

def keyOne : List UInt8 := [48, 1, 191, 240, 0, 0, 0, 0, 0, 0, 0, 0, 0]
theorem ofK_of {v : V} {b : List UInt8} (hg : v.good = 0) (hk : v.key = b) (hl : b.length ≤ 96) : ofK v = (b, 0) := by
  unfold ofK
  rw [if_neg (by omega), if_neg (by rw [hk]; omega), hk]
theorem isK_of {v : V} {b : List UInt8} (h : ofK v = (b, 0)) : isK v b = true := by unfold isK; rw [h]; simp
theorem flat_good {k : Int} {n : Nat} {b : List UInt8} (hf : (V.mk k n b [] []).formed = true) (hb : (V.mk k n b [] []).bytes.length ≤ 4096) : (V.mk k n b [] []).good = 0 := by
  refine good_iff.2 ⟨hf, ?_, ?_, hb⟩
  · rw [V.most_mk]; decide
  · rw [V.depth_mk]; simp only [List.map_nil, List.foldl_nil]; split <;> omega
theorem null_ofK : ofK (.mk 1 0 [] [] []) = ([16], 0) := ofK_of (flat_good (by rw [V.formed_mk]; decide +kernel) (by rw [V.bytes_mk]; decide +kernel)) (by rw [key_mk]; decide +kernel) (by decide)
theorem bool_ofK : ofK (.mk 2 1 [] [] []) = ([32, 1], 0) := ofK_of (flat_good (by rw [V.formed_mk]; decide +kernel) (by rw [V.bytes_mk]; decide +kernel)) (by rw [key_mk]; decide +kernel) (by decide)
theorem raw_ofK : ofK (.mk 6 0 [0] [] []) = ([80, 0, 255, 0, 0], 0) := ofK_of (flat_good (by rw [V.formed_mk]; decide +kernel) (by rw [V.bytes_mk]; decide +kernel)) (by rw [key_mk]; decide +kernel) (by decide)
theorem one_ofK : ofK (.mk 3 1 [] [] []) = (keyOne, 0) := ofK_of (flat_good (by rw [V.formed_mk]; decide +kernel) (by rw [V.bytes_mk]; decide +kernel)) (by rw [key_mk]; decide +kernel) (by decide)
theorem flt_ofK : ofK (.mk 4 4607182418800017408 [] [] []) = ([48, 1, 191, 240, 0, 0, 0, 0, 0, 0, 0, 0, 1], 0) := ofK_of (flat_good (by rw [V.formed_mk]; decide +kernel) (by rw [V.bytes_mk]; decide +kernel)) (by rw [key_mk]; decide +kernel) (by decide)
theorem big_ofK : ofK (.mk 3 9007199254740993 [] [] []) = ([48, 1, 195, 64, 0, 0, 0, 0, 0, 0, 0, 1, 0], 0) := ofK_of (flat_good (by rw [V.formed_mk]; decide +kernel) (by rw [V.bytes_mk]; decide +kernel)) (by rw [key_mk]; decide +kernel) (by decide)
theorem two_allK : allK [.mk 3 1 [] [] [], vA] [false, true] = (keyOne ++ [191, 158, 255, 255], 0) := by
  have e1 : (V.mk 3 1 [] [] []).key = keyOne := (ofK_ok one_ofK).2.1
  have eb : allB [.mk 3 1 [] [] [], vA] [false, true] = keyOne ++ [191, 158, 255, 255] := by
    unfold allB allB allB
    rw [e1, vA_key]
    decide +kernel
  have ee : allE [.mk 3 1 [] [] [], vA] = 0 := by
    unfold allE allE allE
    rw [one_ofK, vA_ofK]
    rfl
  unfold allK
  rw [if_neg (by decide), ee, if_neg (by decide), eb, if_neg (by decide)]
theorem after_1 : afterN [1, 255] = ([2], true) := by decide +kernel
theorem after_2 : afterN [255] = ([], false) := by decide +kernel
end Go.Proofs.YticgdjnekbobgaaDoor
