/- Arguments that are strings: their size is bounded by the bulk; the library's greatest length. -/
import Derived.Test.YtcdbchifigonpaaDoorBulkV
import Derived.Test.YtcdbchifigonpaaDoorPathV
set_option linter.unusedVariables false
set_option linter.unusedSimpArgs false
namespace Go.Proofs.YtcdbchifigonpaaDoor
open Go.RowKit Go.ChangeShapes Go.ChangeAt Go.Shelf Go.WideShapes

set_option maxRecDepth 100000 in
theorem open_strB {H : Type} {enc : TypeId × Value → H} {W : World} {sp : Nat → Bool} {held : Bool} {base : Nat} {v : Value} {d : DataW H} {p : List MemPlace} (hok : Value.okWide Tryd.prog W .any base 9 v)
    (h : DataW.Trod enc Tryd.prog W 0 sp held 9 v d p) : ∃ s : ByteArray, v = .string s ∧ s.size + 1 = Rows.uptoBulk d := by
  obtain ⟨s, rfl⟩ := okWide_string under_string hok
  obtain ⟨fuel, hf⟩ := h
  obtain ⟨s', es, hys, _⟩ := DataW.trod_string under_string hf
  refine ⟨s, rfl, ?_⟩
  have e1 : s = s' := by
    have h2 : ([Value.string s] : List Value) = [Value.string s'] := es
    injection h2 with h2 _
    injection h2
  have e2 := congrArg Prod.fst hys
  dsimp only at e2
  subst e1
  rw [e2]
  simp [Rows.uptoBulk]
theorem laysSplit_len (W : World) (h : W.ShapedOpen Tryd.prog) : Len1 W := by
  obtain ⟨m, hm⟩ := Tryd.laysSplit.s1_3 W h
  exact ⟨m, hm, World.block_lt_of_cell? _ _ hm⟩
end Go.Proofs.YtcdbchifigonpaaDoor
