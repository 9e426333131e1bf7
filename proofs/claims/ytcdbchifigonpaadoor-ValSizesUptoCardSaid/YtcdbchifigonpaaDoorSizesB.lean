/- Arguments that are lists of texts: how they are read, and that the bulk bounds them. -/
import Derived.Test.YtcdbchifigonpaaDoorStrB
import Derived.Test.YtcdbchifigonpaaDoorSizes
set_option linter.unusedVariables false
set_option linter.unusedSimpArgs false
set_option maxRecDepth 100000
namespace Go.Proofs.YtcdbchifigonpaaDoor
open Go.RowKit Go.ChangeShapes Go.Shelf Go.Deep Go.WideShapes

theorem under_strsB : Tryd.prog.underlying 44 = some (.slice 9) := by kernel_rfl
theorem bytes_strV : Tryd.prog.bytesOf 9 = 16 := by kernel_rfl
theorem row_listB {α : Type} {n : Nat} {p : Nat → α → Prop} (h : ∀ i, i < n → ∃ x, p i x) : ∃ l : List α, l.length = n ∧ ∀ i (hi : i < l.length), p i l[i] := by
  induction n with
  | zero => exact ⟨[], rfl, fun i hi => absurd hi (by simp)⟩
  | succ n ih =>
    obtain ⟨l, hl, hp⟩ := ih (fun i hi => h i (by omega))
    obtain ⟨x, hx⟩ := h n (by omega)
    refine ⟨l ++ [x], by simp [hl], fun i hi => ?_⟩
    by_cases hlt : i < l.length
    · rw [List.getElem_append_left hlt]; exact hp i hlt
    · obtain rfl : i = l.length := by simp at hi; omega
      have e : (l ++ [x])[l.length]'hi = x := by simp
      rw [e, hl]; exact hx
section
variable {H : Type} {enc : TypeId × Value → H} {W : World} {sp : Nat → Bool} {held : Bool}
/-- A list of texts. -/
theorem open_strsB {fuel : Nat} {c : Value} {x : DataW H × List MemPlace} (h : DataW.trod enc Tryd.prog W 0 sp held fuel 44 [c] = some x) (hw : ∀ n ∈ x.1.weights Tryd.prog 44, n ≤ reachBytes) : ∃ A cap ts, c = .slice A ts.length cap ∧ InSs W A ts ∧ ts.length ≤ 140737488355328 := by
  obtain ⟨A, len, cap, D, rfl, hlc, hll, _, hbk, hall⟩ := open_rowB under_strsB cells_str (by omega) bytes_strV (by omega) h hw
  have hv : ∀ i, i < len → ∃ (s : ByteArray), ∃ bk o, A = some ⟨bk, o, none⟩ ∧ AtW W 0 W.heap.size ⟨bk, o + i, none⟩ (.string s) ∧ s.size ≤ 140737488355328 := fun i hi => by
    obtain ⟨s1, s2, bk, o, fuel', q', cs', ha, hlen', hcs', htr⟩ := hall i hi
    obtain ⟨s, es, hys, _⟩ := DataW.trod_string under_string htr
    subst es
    have h1 := hcs' 0 _ rfl
    have hsl : s.size ≤ reachBytes := by
      have := s2 s.data.toList.length (by rw [show D i = _ from congrArg Prod.fst hys]; simp [DataW.weights])
      simpa using this
    have hreach := reachBytes_lt
    simp only [Nat.reducePow] at hreach
    exact ⟨s, bk, o, ha, by simpa using h1, by omega⟩
  obtain ⟨ts, hl, hp⟩ := row_listB hv
  subst hl
  exact ⟨A, cap, ts, rfl, hp, hll⟩
end
end Go.Proofs.YtcdbchifigonpaaDoor
