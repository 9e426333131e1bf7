/- Walks: the document's answer: bytes. -/
import Derived.Test.YtcdbchifigonpaaDoorGood
import Derived.Test.YtcdbchifigonpaaDoorRead1
import Derived.Deep.RegionHeld3
import Derived.IntWalk
set_option linter.unusedVariables false
set_option linter.unusedSimpArgs false
namespace Go.Proofs.YtcdbchifigonpaaDoor
open Go.RowKit Go.Shelf

/-- One byte in a block of its own: a row. -/
theorem Row.lit {w : World} (x : UInt8) {e : Int} (he : (x.toNat : Int) = e) : Row (w.alloc (.cells #[.int .u8 e] 5)) w.heap.size (.slice (some ⟨w.heap.size, 0, none⟩) 1 1) 1 [x] :=
  ⟨rfl, .inr ⟨w.heap.size, 1, #[.int .u8 e], rfl, Nat.le_refl _, Blk.new w _ _, Nat.le_refl _, by decide, rfl, by simp [u8s, he]⟩⟩

/-- Bytes in a row of the call's own. -/
def BytesC (w : World) (bs : List UInt8) (e : Ending) (w' : World) : Prop :=
  ∃ base A c, e = .returned (.slice A bs.length c) ∧ w.heap.size ≤ base ∧ Row w' base (.slice A bs.length c) bs.length bs ∧ Grow w w'
theorem BytesC.of {w w' : World} {base k c : Nat} {A : Option Addr} {zs bs : List UInt8} (hk : k = bs.length) (hz : zs = bs) (hb : w.heap.size ≤ base) (h1 : Row w' base (.slice A k c) k zs) (h2 : Grow w w') : BytesC w bs (.returned (.slice A k c)) w' := by
  subst hk; subst hz; exact ⟨base, A, c, rfl, hb, h1, h2⟩
theorem BytesC.after {w w1 w' : World} {bs : List UInt8} {e : Ending} (hg : Grow w w1) (h : BytesC w1 bs e w') : BytesC w bs e w' := by
  obtain ⟨base, A, c, he, hb, hr, hg'⟩ := h
  exact ⟨base, A, c, he, Nat.le_trans hg.size hb, hr, hg.trans hg'⟩
end Go.Proofs.YtcdbchifigonpaaDoor
