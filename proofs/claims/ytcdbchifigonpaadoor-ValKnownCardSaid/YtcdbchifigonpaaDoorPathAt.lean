/- What a path told lies in a block of the call's own: the value, and whether there is one. -/
import Derived.Test.YtcdbchifigonpaaDoorPathV
import Derived.Test.YtcdbchifigonpaaDoorIsv
set_option linter.unusedVariables false
set_option linter.unusedSimpArgs false
namespace Go.Proofs.YtcdbchifigonpaaDoor
open Go.RowKit Go.Shelf

/-- What a path told lies in a block of the call's own. -/
def PathAt (w0 : World) (g : Option V) (p t : Value) (wx : World) : Prop :=
  Grow w0 wx ∧ ∃ (b : Nat) (c : Cv) (tb : Bool) (u : V), p = .pointer (some ⟨b, 0, none⟩) ∧ t = .bool tb ∧ w0.heap.size ≤ b ∧ Blk wx b 37 c.cells ∧ In wx u c ∧ ((g = some u ∧ tb = true) ∨ (g = none ∧ tb = false ∧ u = V.zero ∧ c = Cv.zero))
theorem PathAt.late {w0 w1 w4 : World} {g : Option V} {c : Cv} {tb : Bool} {u : V} (h0 : Grow w0 w1) (hg : Grow w1 w4) (hv : IsV (AtW w4 w1.heap.size w4.heap.size) u c) (h : (g = some u ∧ tb = true) ∨ (g = none ∧ tb = false ∧ u = V.zero ∧ c = Cv.zero)) :
    PathAt w0 g (.pointer (some ⟨w4.heap.size, 0, none⟩)) (.bool tb) (w4.alloc (.cells c.cells 37)) :=
  ⟨(h0.trans hg).alloc _, w4.heap.size, c, tb, u, rfl, rfl, (h0.trans hg).size, Blk.new _ _ _, (isv_in hv).grow ((Grow.refl _).alloc _), h⟩
theorem PathAt.early {w0 w1 w4 : World} {g : Option V} {c : Cv} {tb : Bool} {u : V} {b : Nat} (h0 : Grow w0 w1) (hg : Grow w1 w4) (hb0 : w0.heap.size ≤ b) (hb1 : b < w1.heap.size) {c0 c1 c2 c3 c4 : Value} (hB : Blk w4 b 37 #[c0, c1, c2, c3, c4]) (hv : IsV (AtW w4 w1.heap.size w4.heap.size) u c) (h : (g = some u ∧ tb = true) ∨ (g = none ∧ tb = false ∧ u = V.zero ∧ c = Cv.zero)) :
    PathAt w0 g (.pointer (some ⟨b, 0, none⟩)) (.bool tb) (set5 w4 b c) :=
  ⟨(h0.trans hg).set5v hb0 c, b, c, tb, u, rfl, rfl, hb0, set5_from (c := c) hB, isv_in (isv_set5 hv hb1 c), h⟩
end Go.Proofs.YtcdbchifigonpaaDoor
