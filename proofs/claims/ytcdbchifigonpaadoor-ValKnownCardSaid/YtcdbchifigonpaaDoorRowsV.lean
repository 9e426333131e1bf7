/- Values beside one another in a block of their own: as a list. -/
import Derived.Test.YtcdbchifigonpaaDoorRefs
set_option linter.unusedVariables false
set_option linter.unusedSimpArgs false
namespace Go.Proofs.YtcdbchifigonpaaDoor
open Go.RowKit

abbrev cells2 (c d : Cv) : Array Value := #[.int .i64 c.k, .int .u64 c.n, .slice c.aB c.nB c.cB, .slice c.aL c.nL c.cL, .slice c.aF c.nF c.cF, .int .i64 d.k, .int .u64 d.n, .slice d.aB d.nB d.cB, .slice d.aL d.nL d.cL, .slice d.aF d.nF d.cF]
/-- Values beside one another in a block of their own: as a list. -/
theorem InL.row2 {w : World} {u v : V} {c d : Cv} (h : In w u c) (k : In w v d) : InL (w.alloc (.cells (cells2 c d) 37)) (some ⟨w.heap.size, 0, none⟩) 2 [u, v] := by
  have hg := (Grow.refl w).alloc (.cells (cells2 c d) 37)
  have hB := Blk.new w 37 (cells2 c d)
  have h' := h.grow hg
  have k' := k.grow hg
  have hlt := hB.lt
  unfold InL In
  rw [IsV]
  refine ⟨rfl, rfl, rfl, rfl, rfl, by decide, by decide, by decide, by simp, by simp, by simp, by simp, by simp, by simp, ⟨rfl, fun h => by simp at h⟩, fun i hi => ?_, fun i hi => by simp at hi⟩
  have hi2 : i = 0 ∨ i = 1 := by simp at hi; omega
  rcases hi2 with rfl | rfl
  · exact ⟨w.heap.size, 0, c, rfl, ⟨⟨hB.cell 0, Nat.zero_le _, hlt⟩, ⟨hB.cell 1, Nat.zero_le _, hlt⟩, ⟨hB.cell 2, Nat.zero_le _, hlt⟩, ⟨hB.cell 3, Nat.zero_le _, hlt⟩, ⟨hB.cell 4, Nat.zero_le _, hlt⟩⟩, h'⟩
  · exact ⟨w.heap.size, 0, d, rfl, ⟨⟨hB.cell 5, Nat.zero_le _, hlt⟩, ⟨hB.cell 6, Nat.zero_le _, hlt⟩, ⟨hB.cell 7, Nat.zero_le _, hlt⟩, ⟨hB.cell 8, Nat.zero_le _, hlt⟩, ⟨hB.cell 9, Nat.zero_le _, hlt⟩⟩, k'⟩
abbrev cells3 (c d e : Cv) : Array Value := #[.int .i64 c.k, .int .u64 c.n, .slice c.aB c.nB c.cB, .slice c.aL c.nL c.cL, .slice c.aF c.nF c.cF, .int .i64 d.k, .int .u64 d.n, .slice d.aB d.nB d.cB, .slice d.aL d.nL d.cL, .slice d.aF d.nF d.cF, .int .i64 e.k, .int .u64 e.n, .slice e.aB e.nB e.cB, .slice e.aL e.nL e.cL, .slice e.aF e.nF e.cF]
/-- Values beside one another in a block of their own: as a list. -/
theorem InL.row3 {w : World} {u v x : V} {c d e : Cv} (h : In w u c) (k : In w v d) (m : In w x e) : InL (w.alloc (.cells (cells3 c d e) 37)) (some ⟨w.heap.size, 0, none⟩) 3 [u, v, x] := by
  have hg := (Grow.refl w).alloc (.cells (cells3 c d e) 37)
  have hB := Blk.new w 37 (cells3 c d e)
  have h' := h.grow hg
  have k' := k.grow hg
  have m' := m.grow hg
  have hlt := hB.lt
  unfold InL In
  rw [IsV]
  refine ⟨rfl, rfl, rfl, rfl, rfl, by decide, by decide, by decide, by simp, by simp, by simp, by simp, by simp, by simp, ⟨rfl, fun h => by simp at h⟩, fun i hi => ?_, fun i hi => by simp at hi⟩
  have hi2 : i = 0 ∨ i = 1 ∨ i = 2 := by simp at hi; omega
  rcases hi2 with rfl | rfl | rfl
  · exact ⟨w.heap.size, 0, c, rfl, ⟨⟨hB.cell 0, Nat.zero_le _, hlt⟩, ⟨hB.cell 1, Nat.zero_le _, hlt⟩, ⟨hB.cell 2, Nat.zero_le _, hlt⟩, ⟨hB.cell 3, Nat.zero_le _, hlt⟩, ⟨hB.cell 4, Nat.zero_le _, hlt⟩⟩, h'⟩
  · exact ⟨w.heap.size, 0, d, rfl, ⟨⟨hB.cell 5, Nat.zero_le _, hlt⟩, ⟨hB.cell 6, Nat.zero_le _, hlt⟩, ⟨hB.cell 7, Nat.zero_le _, hlt⟩, ⟨hB.cell 8, Nat.zero_le _, hlt⟩, ⟨hB.cell 9, Nat.zero_le _, hlt⟩⟩, k'⟩
  · exact ⟨w.heap.size, 0, e, rfl, ⟨⟨hB.cell 10, Nat.zero_le _, hlt⟩, ⟨hB.cell 11, Nat.zero_le _, hlt⟩, ⟨hB.cell 12, Nat.zero_le _, hlt⟩, ⟨hB.cell 13, Nat.zero_le _, hlt⟩, ⟨hB.cell 14, Nat.zero_le _, hlt⟩⟩, m'⟩
end Go.Proofs.YtcdbchifigonpaaDoor
