/- Arguments that are lists of replies: how they are read, and that the bulk bounds their number. -/
import Derived.Test.YtcdbchifigonpaaDoorManyP
import Derived.Test.YtcdbchifigonpaaDoorCardW
set_option linter.unusedVariables false
set_option linter.unusedSimpArgs false
set_option maxRecDepth 100000
namespace Go.Proofs.YtcdbchifigonpaaDoor
open Go.RowKit Go.ChangeShapes Go.Shelf Go.Deep Go.WideShapes

theorem under_replies : Tryd.prog.underlying 22 = some (.slice 29) := by kernel_rfl
theorem bytes_reply : Tryd.prog.bytesOf 29 = 48 := by kernel_rfl
theorem len_sumR (f : Nat → Nat) : ∀ (n : Nat), (∀ i, 1 ≤ f i) → n ≤ ((List.range n).map f).sum
  | 0, _ => Nat.zero_le _
  | n + 1, h => by
    rw [List.range_succ, List.map_append, List.sum_append]
    simp only [List.map_cons, List.map_nil, List.sum_cons, List.sum_nil]
    have := len_sumR f n h
    have := h n
    omega
section
variable {H : Type} {enc : TypeId × Value → H} {W : World} {sp : Nat → Bool} {held : Bool}
/-- A list of replies. -/
theorem open_repliesB {fuel : Nat} {c : Value} {x : DataW H × List MemPlace} (h : DataW.trod enc Tryd.prog W 0 sp held fuel 22 [c] = some x) (hw : ∀ n ∈ x.1.weights Tryd.prog 22, n ≤ reachBytes) : ∃ A cap l, c = .slice A l.length cap ∧ InRs W A l ∧ l.length ≤ cap ∧ l.length ≤ Rows.uptoBulk x.1 := by
  obtain ⟨A, len, cap, D, rfl, hlc, hll, _, hall⟩ := open_row under_replies cells_reply (by omega) bytes_reply (by omega) h hw
  obtain ⟨D2, hb, _⟩ := row_bulk under_replies cells_reply (by omega) h
  have h1 := len_sumR (fun i => Rows.uptoBulk (D2 i)) len (fun i => bulk_pos _)
  have hv : ∀ i, i < len → ∃ (r : Rp), ∃ bk o dA dc, A = some ⟨bk, o, none⟩ ∧ AtW W 0 W.heap.size ⟨bk, o + i * 4, none⟩ (.int .i64 r.e) ∧ AtW W 0 W.heap.size ⟨bk, o + i * 4 + 1, none⟩ (.int .i64 r.n) ∧ AtW W 0 W.heap.size ⟨bk, o + i * 4 + 2, none⟩ (.slice dA r.docs.length dc) ∧ AtW W 0 W.heap.size ⟨bk, o + i * 4 + 3, none⟩ (.int .i64 r.cursor) ∧
      InL W dA dc r.docs ∧ (-9223372036854775808 ≤ r.e ∧ r.e ≤ 9223372036854775807) ∧ (-9223372036854775808 ≤ r.n ∧ r.n ≤ 9223372036854775807) ∧ (-9223372036854775808 ≤ r.cursor ∧ r.cursor ≤ 9223372036854775807) := fun i hi => by
    obtain ⟨s1, s2, bk, o, fuel', q', cs', ha, hlen', hcs', htr⟩ := hall i hi
    obtain ⟨r, dA, dc, rfl, hin, hr⟩ := open_reply (D i) fuel' cs' q' htr s2
    exact ⟨r, bk, o, dA, dc, ha, hcs' 0 _ rfl, hcs' 1 _ rfl, hcs' 2 _ rfl, hcs' 3 _ rfl, hin, hr⟩
  obtain ⟨l, hl, hp⟩ := row_list hv
  subst hl
  exact ⟨A, cap, l, rfl, hp, hlc, by omega⟩
end
end Go.Proofs.YtcdbchifigonpaaDoor
