/- Walk of the document's answer: words of bytes, read. -/
import Derived.Test.YtcdbchifigonpaaDoorLibs
set_option linter.unusedVariables false
set_option linter.unusedSimpArgs false
namespace Go.Proofs.YtcdbchifigonpaaDoor
open Go.RowKit

theorem drop_take_snoc (b : List UInt8) (at_ j size : Nat) (h : at_ + size ≤ b.length) (hj : j < size) :
    (b.drop (at_ + j)).take (size - j) = b[at_ + j]'(by omega) :: (b.drop (at_ + (j + 1))).take (size - (j + 1)) := by
  rw [List.drop_eq_getElem_cons (by omega), show size - j = (size - (j + 1)) + 1 from by omega, List.take_succ_cons]
  rfl
end Go.Proofs.YtcdbchifigonpaaDoor
