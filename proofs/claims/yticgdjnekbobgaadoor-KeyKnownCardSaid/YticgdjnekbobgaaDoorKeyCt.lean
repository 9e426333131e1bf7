/- Walks: the deferred closure of the reading of a key: a thrown error is caught; where nothing was thrown it does nothing. -/
import Derived.Test.YticgdjnekbobgaaDoorKeyT
import Derived.Test.YticgdjnekbobgaaDoorCatch
import Derived.Recover
set_option linter.unusedVariables false
set_option linter.unusedSimpArgs false
namespace Go.Proofs.YticgdjnekbobgaaDoor
open Go.RowKit Go.Shelf

/-- What Copy tells: the value, in new memory. -/
def CopyC (w : World) (v : V) (e : Ending) (w' : World) : Prop :=
  ∃ c : Cv, e = .returned c.agg ∧ InS w' w.heap.size w'.heap.size v c ∧ Grow w w'

/-- The world behind the catching of an error. -/
def kcaught (w : World) (vb sb eb : Nat) (e : Int) : World :=
  ((((((w.setCell ⟨vb, 0, none⟩ (.int .i64 0)).setCell ⟨vb, 1, none⟩ (.int .u64 0)).setCell ⟨vb, 2, none⟩ (.slice none 0 0)).setCell ⟨vb, 3, none⟩ (.slice none 0 0)).setCell ⟨vb, 4, none⟩ (.slice none 0 0)).setCell ⟨sb, 0, none⟩ (.slice none 0 0)).setCell ⟨eb, 0, none⟩ (.int .i64 e)

set_option maxRecDepth 100000 in
set_option maxHeartbeats 400000 in
theorem kcatch_panicking (vb sb eb : Nat) (e : Int) (c0 c1 c2 c3 c4 : Value) (x y : Value) (older : List PanicEntry) (w : World) (hv : Blk w vb 27 #[c0, c1, c2, c3, c4]) (hs : Blk w sb 23 #[y]) (he : Blk w eb 29 #[x]) (hne : vb ≠ eb) (hne2 : vb ≠ sb) (hne3 : sb ≠ eb) :
    CallsD Tryd.prog 107 #[.pointer (some ⟨vb, 0, none⟩), .pointer (some ⟨sb, 0, none⟩), .pointer (some ⟨eb, 0, none⟩)] (.panicking ({ v := .iface 29 (.int .i64 e), recovered := false } :: older)) w fun r u' w' =>
      r = .returned (.tuple #[]) ∧ u' = .panicking ({ v := .iface 29 (.int .i64 e), recovered := true } :: older) ∧ w' = kcaught w vb sb eb e := by
  have hvc := hv.cell
  have hvf := hv.frozen
  have hsc := hs.cell
  have hsf := hs.frozen
  have hec := he.cell
  have hef := he.frozen
  have hta := assert_yes
  clear hv he hs
  refine callsD_of_wpS Tryd.func107 rfl fun c₀ cs hu => ?_
  apply wpS_seq
  apply wpS_region
  simp [wpOpsS, go_sem, recoverD, hu, Tryd.ntmps107, Exit.thenS]
  simp only [Array.replicate, List.replicate, Array.setIfInBounds]
  refine wpS_of_wp ?_
  clear hu
  go_wp2_with fail
  simp [bodyPostS, results, Tryd.results107, go_sem, kcaught]

set_option maxRecDepth 100000 in
set_option maxHeartbeats 400000 in
theorem kcatch_idle (vb sb eb : Nat) (w : World) :
    CallsD Tryd.prog 107 #[.pointer (some ⟨vb, 0, none⟩), .pointer (some ⟨sb, 0, none⟩), .pointer (some ⟨eb, 0, none⟩)] .returning w fun r u' w' =>
      r = .returned (.tuple #[]) ∧ u' = .returning ∧ w' = w := by
  have hta := assert_nil
  refine callsD_of_wpS Tryd.func107 rfl fun c₀ cs hu => ?_
  apply wpS_seq
  apply wpS_region
  simp [wpOpsS, go_sem, recoverD, hu, Tryd.ntmps107, Exit.thenS]
  simp only [Array.replicate, List.replicate, Array.setIfInBounds]
  refine wpS_of_wp ?_
  go_wp2_with fail
  cases c₀
  simp_all [bodyPostS, results, Tryd.results107, go_sem]
theorem kcaught_grow {w W : World} {vb sb eb : Nat} (h : Grow w W) (h1 : w.heap.size ≤ vb) (h2 : w.heap.size ≤ sb) (h3 : w.heap.size ≤ eb) (e : Int) : Grow w (kcaught W vb sb eb e) :=
  ((((((h.setCell (by simpa using h1) _).setCell (by simpa using h1) _).setCell (by simpa using h1) _).setCell (by simpa using h1) _).setCell (by simpa using h1) _).setCell (by simpa using h2) _).setCell (by simpa using h3) _
theorem kread_results {W : World} {vb sb eb : Nat} {tmps : Array Value} (h4 : tmps.getD 4 undef = .pointer (some ⟨vb, 0, none⟩)) (h5 : tmps.getD 5 undef = .pointer (some ⟨sb, 0, none⟩)) (h6 : tmps.getD 6 undef = .pointer (some ⟨eb, 0, none⟩)) (c : Cv) (s : Value) (e : Int) (hv : Blk W vb 27 c.cells) (hs : Blk W sb 23 #[s]) (he : Blk W eb 29 #[.int .i64 e]) :
    (results Tryd.f60 tmps).run Tryd.prog W = .ok (.tuple #[c.agg, s, .int .i64 e]) W := by
  have hvc := hv.cell
  have hsc := hs.cell
  have hec := he.cell
  have h4' : tmps[4]?.getD undef = .pointer (some ⟨vb, 0, none⟩) := by simpa using h4
  have h5' : tmps[5]?.getD undef = .pointer (some ⟨sb, 0, none⟩) := by simpa using h5
  have h6' : tmps[6]?.getD undef = .pointer (some ⟨eb, 0, none⟩) := by simpa using h6
  simp [results, Tryd.results60, go_sem, h4', h5', h6', hvc, hsc, hec]
end Go.Proofs.YticgdjnekbobgaaDoor
