/- Walks: the makers of values of the law ValDeep: L, D, long. -/
import Derived.Test.YtkgjfkpabdlgbaaDoorDeepP
import Derived.Test.YtkgjfkpabdlgbaaDoorBack
import Derived.Test.YtkgjfkpabdlgbaaDoorRefB
import Derived.Test.YtkgjfkpabdlgbaaDoorSpoil
import Derived.Test.YtkgjfkpabdlgbaaDoorRead5
set_option linter.unusedVariables false
set_option linter.unusedSimpArgs false
namespace Go.Proofs.YtkgjfkpabdlgbaaDoor
open Go.RowKit Go.Shelf

/-- The value lies in blocks from lo on. -/
def InF (w : World) (lo : Nat) (v : V) (c : Cv) : Prop := IsV (AtW w lo w.heap.size) v c
theorem InF.in_ {w : World} {lo : Nat} {v : V} {c : Cv} (h : InF w lo v c) : In w v c := IsV.mono (fun _ _ h => ⟨h.1, Nat.zero_le _, h.2.2⟩) v c h
theorem InF.grow {w w' : World} {lo : Nat} {v : V} {c : Cv} (h : InF w lo v c) (hb : Grow w w') : InF w' lo v c :=
  IsV.mono (AtW.below hb.below (Nat.le_refl _) (Nat.le_refl _) hb.size) v c h
theorem InF.set {w : World} {lo : Nat} {v : V} {c : Cv} (h : InF w lo v c) {p : Addr} (hp : p.block < lo) (u : Value) : InF (w.setCell p u) lo v c := by
  refine IsV.mono (fun q x h => ⟨?_, h.2.1, ?_⟩) v c h
  · rw [World.cell?_of_block (w := w) (Below.heap_setCell w p u q.block (by have := h.2.1; omega))]; exact h.1
  · rw [show (w.setCell p u).heap.size = w.heap.size by simp [World.setCell]]; exact h.2.2
theorem InF.set5 {w : World} {lo : Nat} {v : V} {c : Cv} (h : InF w lo v c) {bk o : Nat} (hp : bk < lo) (u0 u1 u2 u3 u4 : Value) : InF (set5c w bk o u0 u1 u2 u3 u4) lo v c :=
  ((((h.set (p := ⟨bk, o, none⟩) hp u0).set (p := ⟨bk, o + 1, none⟩) hp u1).set (p := ⟨bk, o + 2, none⟩) hp u2).set (p := ⟨bk, o + 3, none⟩) hp u3).set (p := ⟨bk, o + 4, none⟩) hp u4
/-- Cells stored into a block of the call's own. -/
theorem Grow.set5 {a w : World} (h : Grow a w) {bk o : Nat} (hp : a.heap.size ≤ bk) (u0 u1 u2 u3 u4 : Value) : Grow a (set5c w bk o u0 u1 u2 u3 u4) :=
  ((((h.setCell (p := ⟨bk, o, none⟩) hp u0).setCell (p := ⟨bk, o + 1, none⟩) hp u1).setCell (p := ⟨bk, o + 2, none⟩) hp u2).setCell (p := ⟨bk, o + 3, none⟩) hp u3).setCell (p := ⟨bk, o + 4, none⟩) hp u4
theorem blk_set5 {w : World} {bk : Nat} {t : TypeId} {c0 c1 c2 c3 c4 u0 u1 u2 u3 u4 : Value} (h : Blk w bk t #[c0, c1, c2, c3, c4]) : Blk (set5c w bk 0 u0 u1 u2 u3 u4) bk t #[u0, u1, u2, u3, u4] := by
  have := ((((h.set_ 0 u0).set_ (0 + 1) u1).set_ (0 + 2) u2).set_ (0 + 3) u3).set_ (0 + 4) u4
  exact this
theorem set5c_size (W : World) (bk o : Nat) (u0 u1 u2 u3 u4 : Value) : (set5c W bk o u0 u1 u2 u3 u4).heap.size = W.heap.size := by simp [set5c, World.setCell]

theorem InF.num (w : World) (lo : Nat) (k : Int) (n : Nat) (h1 : -9223372036854775808 ≤ k) (h2 : k ≤ 9223372036854775807) (hn : n < 18446744073709551616) : InF w lo (.mk k n [] [] []) ⟨k, n, none, 0, 0, none, 0, 0, none, 0, 0⟩ := by
  unfold InF
  rw [IsV]
  exact ⟨rfl, rfl, rfl, rfl, rfl, h1, h2, hn, by simp, by simp, by simp, by simp, by simp, by simp, ⟨by simp [u8s], fun h => by simp at h⟩, fun i h => absurd h (by simp), fun i h => absurd h (by simp)⟩
/-- A list of one, its row in a new block. -/
theorem InF.one {w : World} {lo : Nat} {v : V} {c : Cv} (h : InF w lo v c) (hlo : lo ≤ w.heap.size) : InF (w.alloc (.cells c.cells 27)) lo (.mk 7 0 [] [v] []) ⟨7, 0, none, 0, 0, some ⟨w.heap.size, 0, none⟩, 1, 1, none, 0, 0⟩ := by
  have hg := (Grow.refl w).alloc (.cells c.cells 27)
  have hB := Blk.new w 27 c.cells
  have h' := h.grow hg
  have hlt := hB.lt
  unfold InF
  rw [IsV]
  refine ⟨rfl, rfl, rfl, rfl, rfl, by decide, by decide, by decide, by simp, by simp, by simp, by simp, by simp, by simp, ⟨rfl, fun h => by simp at h⟩, fun i hi => ?_, fun i hi => by simp at hi⟩
  obtain rfl : i = 0 := by simpa using hi
  exact ⟨w.heap.size, 0, c, rfl, ⟨⟨hB.cell 0, hlo, hlt⟩, ⟨hB.cell 1, hlo, hlt⟩, ⟨hB.cell 2, hlo, hlt⟩, ⟨hB.cell 3, hlo, hlt⟩, ⟨hB.cell 4, hlo, hlt⟩⟩, h'⟩

abbrev fcell (s : ByteArray) (c : Cv) : Array Value := #[.string s, .int .i64 c.k, .int .u64 c.n, .slice c.aB c.nB c.cB, .slice c.aL c.nL c.cL, .slice c.aF c.nF c.cF]
/-- A document of one field. -/
theorem InF.doc1 {w : World} {lo g : Nat} {s : ByteArray} {v : V} {c : Cv} (hs : s.size ≤ 140737488355328) (hlo : lo ≤ g) (h : InF w lo v c) (hB : Blk w g 59 (fcell s c)) : InF w lo (.mk 8 0 [] [] [(s, v)]) ⟨8, 0, none, 0, 0, none, 0, 0, some ⟨g, 0, none⟩, 1, 1⟩ := by
  have hlt := hB.lt
  unfold InF
  rw [IsV]
  refine ⟨rfl, rfl, rfl, rfl, rfl, by decide, by decide, by decide, by simp, by simp, by simp, by simp, by simp, by simp, ⟨rfl, fun h => by simp at h⟩, fun i hi => by simp at hi, fun i hi => ?_⟩
  obtain rfl : i = 0 := by simpa using hi
  exact ⟨g, 0, c, rfl, ⟨hB.cell 0, hlo, hlt⟩, hs, ⟨⟨hB.cell 1, hlo, hlt⟩, ⟨hB.cell 2, hlo, hlt⟩, ⟨hB.cell 3, hlo, hlt⟩, ⟨hB.cell 4, hlo, hlt⟩, ⟨hB.cell 5, hlo, hlt⟩⟩, h⟩
theorem cellresN {F : Func} {W : World} {vb : Nat} {tmps : Array Value} (i : Nat) (hF : F.results = #[ResultVar.cell i 27]) (h2 : tmps.getD i undef = .pointer (some ⟨vb, 0, none⟩)) (c : Cv) (hv : Blk W vb 27 c.cells) :
    (results F tmps).run Tryd.prog W = .ok c.agg W := by
  have hvc := hv.cell
  have h2' : tmps[i]?.getD undef = .pointer (some ⟨vb, 0, none⟩) := by simpa using h2
  simp [results, hF, go_sem, h2', hvc]

set_option maxHeartbeats 400000 in
theorem L_any (A : Option Addr) (n cap : Nat) (w : World) : Calls Tryd.prog 25 #[.slice A n cap] w fun e w' => e = .returned (Cv.agg ⟨7, 0, none, 0, 0, A, n, cap, none, 0, 0⟩) ∧ Grow w w' := by
  go_enter Tryd.func25, Tryd.ntmps25
  go_wp2_with fail
  exact bodyPost_ret (cellres rfl rfl ⟨7, 0, none, 0, 0, A, n, cap, none, 0, 0⟩ (Blk.new w _ _)) rfl ⟨rfl, (Grow.refl w).alloc _⟩

theorem longS_succ (k : Nat) : longS k ++ ⟨#[110]⟩ = longS (k + 1) := by
  apply ByteArray.ext
  rw [ByteArray.data_append]
  simp only [longS, Array.replicate_succ]
  rfl
set_option maxHeartbeats 400000 in
theorem long_any (k : Nat) (hk : k ≤ 127) (w : World) : Calls Tryd.prog 27 #[.int .i64 k] w fun e w' => e = .returned (.string (longS k)) ∧ Grow w w' := by
  go_enter Tryd.func27, Tryd.ntmps27
  go_wp2_with fail
  go_loopg [3, 4] (k + 1) (fun gk v' i wr => ∃ j : Nat, j ≤ k ∧ gk + j = k + 1 ∧ i = .int .i64 j ∧ v' = .string (longS j) ∧ Grow w wr)
  case atStart => exact ⟨0, by omega, by omega, rfl, rfl, Grow.refl w⟩
  case round =>
    obtain ⟨j, hj, hg, rfl, rfl, hgr⟩ := hrel
    obtain ⟨gk', rfl⟩ : ∃ g, gk = g + 1 := ⟨gk - 1, by omega⟩
    have HG := hide hgr
    clear hgr
    by_cases hlt : j < k
    · have hz := long_size j
      go_wp2_with fail
      go_roundg gk'
      case measure => omega
      case rel => exact ⟨j + 1, by omega, by omega, by go_num, by rw [longS_succ], HG.out⟩
    · obtain rfl : j = k := by omega
      go_wp2_with fail
      go_ret
      exact ⟨rfl, HG.out⟩

set_option maxHeartbeats 400000 in
theorem D_any (s : ByteArray) (v : V) (c : Cv) (lo : Nat) (w : World) (hs : s.size ≤ 140737488355328) (hlo : lo ≤ w.heap.size) (hv : InF w lo v c) :
    Calls Tryd.prog 26 #[.string s, c.agg] w fun e w' => ∃ A, e = .returned (Cv.agg ⟨8, 0, none, 0, 0, none, 0, 0, A, 1, 1⟩) ∧ InF w' lo (.mk 8 0 [] [] [(s, v)]) ⟨8, 0, none, 0, 0, none, 0, 0, A, 1, 1⟩ ∧ Grow w w' := by
  have HV := hide hv
  clear hv
  go_enter Tryd.func26, Tryd.ntmps26
  go_wp2_with fail
  obtain ⟨W, hW⟩ : ∃ W, W = (w.alloc (Obj.cells c.cells 27)).alloc (Obj.cells (Cv.cells ⟨8, 0, none, 0, 0, none, 0, 0, some ⟨w.heap.size + 1 + 1, 0, none⟩, 1, 1⟩) 27) := ⟨_, rfl⟩
  have hgW : Grow w W := by rw [hW]; exact ((Grow.refl w).alloc _).alloc _
  have hzW : W.heap.size = w.heap.size + 1 + 1 := by rw [hW]; simp
  have hbW : Blk W (w.heap.size + 1) 27 (Cv.cells ⟨8, 0, none, 0, 0, none, 0, 0, some ⟨w.heap.size + 1 + 1, 0, none⟩, 1, 1⟩) := by rw [hW]; exact Blk.new' (by simp) _ _
  rw [← hW]
  exact bodyPost_ret (cellresN 4 rfl rfl ⟨8, 0, none, 0, 0, none, 0, 0, some ⟨w.heap.size + 1 + 1, 0, none⟩, 1, 1⟩ (hbW.alloc _)) rfl ⟨_, rfl, InF.doc1 hs (by omega) ((HV.out.grow hgW).grow ((Grow.refl W).alloc _)) (Blk.new' hzW.symm _ _), hgW.alloc _⟩
end Go.Proofs.YtkgjfkpabdlgbaaDoor
