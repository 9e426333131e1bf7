/- What the cards of a seat's laws share: the listed tables, the witness world. -/
import Derived.Test.YtojpeiihkjpeoaaDoorOpen
import Derived.Test.YtojpeiihkjpeoaaDoorCards
import Derived.Test.YtojpeiihkjpeoaaDoorTie
import Derived.Deep.DeepHandedRow
import Derived.Deep.DeepWitnessRowRef
import Derived.SevenTiedAt
set_option linter.unusedVariables false
set_option linter.unusedSimpArgs false
namespace Go.Proofs.YtojpeiihkjpeoaaDoor
open Go.RowKit Go.ChangeShapes Go.ChangeAt Go.Shelf Go.WideShapes

theorem own_ : ownKnob Tryd.prog.godebug = none := by kernel_rfl
theorem laidOut_ : laidOutB Tryd.prog = true := by kernel_rfl
/-- What the rows of this seat list. -/
def rowLaid : List (String × DataW Unit) := [("unicode/utf8.acceptRanges", Rows.laid_unicode_utf8_acceptRanges), ("unicode/utf8.first", Rows.laid_unicode_utf8_first)]
theorem rowLaid_eq : rowLaid = [("unicode/utf8.acceptRanges", Lib.acceptData), ("unicode/utf8.first", Lib.firstData)] := by
  unfold rowLaid
  rw [first_pinned, accept_laid]
theorem laid_row (os : Os) (args : Array Value) : laidMet Tryd.prog rowLaid ((laidWorld os).forCall (fun _ _ => 0) ⟨#[], args, []⟩).memory := by
  rw [rowLaid_eq]; exact laid_met os args
theorem tabs_row {W : World} (h : laidMetH Tryd.prog rowLaid W) : Tabs W := by
  have h2 : laidMet Tryd.prog rowLaid W := h
  rw [rowLaid_eq] at h2
  exact tabs_of_laid h2 (.tail _ (.head _)) (.head _)
end Go.Proofs.YtojpeiihkjpeoaaDoor
