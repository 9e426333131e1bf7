/- Walks: Utf of the document's answer. Written by wip/tools/gen_utf.py. -/
import Derived.Test.YtcdbchifigonpaaDoorRefs
import Derived.Test.YtcdbchifigonpaaDoorPls
import Derived.LoopN
namespace Go.Proofs.YtcdbchifigonpaaDoor
open Go.RowKit

theorem getD_drop (b : List UInt8) (i k : Nat) : (b.drop i).getD k 0 = b.getD (i + k) 0 := by
  simp [List.getD_eq_getElem?_getD, List.getElem?_drop]
theorem InB.cellD {w : World} {bk o : Nat} {b : List UInt8} (h : InB w (some ⟨bk, o, none⟩) b) (j : Nat) (hj : j < b.length) : w.cell? ⟨bk, o + j, none⟩ = some (.int .u8 ((b.getD j 0).toNat : Int)) := by
  obtain ⟨bk', o', e, _, hc⟩ := h.at_ j hj
  injection e with e
  injection e with e1 e2
  subst e1 e2
  rw [hc, List.getD_eq_getElem?_getD, List.getElem?_eq_getElem hj]
  rfl

end Go.Proofs.YtcdbchifigonpaaDoor
