/- An argument that is a value: how it is read. -/
import Derived.Test.YtpjhhkndfmcaoaaDoorOpenV
set_option linter.unusedVariables false
set_option linter.unusedSimpArgs false
set_option maxRecDepth 100000
namespace Go.Proofs.YtpjhhkndfmcaoaaDoor
open Go.RowKit Go.ChangeShapes Go.ChangeAt Go.Shelf Go.WideShapes Go.Deep

def zeroD {H : Type} : DataW H := .agg [.lit (.int .i64 0), .lit (.int .u64 0), .nil, .nil, .nil]
theorem open_arg {H : Type} {enc : TypeId × Value → H} {W : World} {sp : Nat → Bool} {held : Bool} {base : Nat} {v : Value} {d : DataW H} {p : List MemPlace} (hok : Value.okWide Tryd.prog W .any base 27 v)
    (h : DataW.Trod enc Tryd.prog W 0 sp held 27 v d p) (hw : ∀ n ∈ d.weights Tryd.prog 27, n ≤ reachBytes) : ∃ (x : V) (c : Cv), v = c.agg ∧ In W x c := by
  obtain ⟨fs, hu, _⟩ := under_val
  obtain ⟨cs, rfl, _⟩ := okWide_struct hu hok
  obtain ⟨fuel, hf⟩ := h
  obtain ⟨x, c, hc, hin⟩ := open_val _ d (Nat.le_refl _) fuel _ _ hf hw
  refine ⟨x, c, ?_, hin⟩
  have : cs = c.cells := by
    apply Array.ext'
    exact hc
  rw [this]

end Go.Proofs.YtpjhhkndfmcaoaaDoor
