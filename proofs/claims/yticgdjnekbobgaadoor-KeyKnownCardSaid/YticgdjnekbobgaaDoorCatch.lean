/- Walks: the deferred closure of the program's Get: a thrown error is caught; where nothing was thrown it does nothing. -/
import Derived.Test.YticgdjnekbobgaaDoorLibs
import Derived.Recover
set_option linter.unusedVariables false
set_option linter.unusedSimpArgs false
namespace Go.Proofs.YticgdjnekbobgaaDoor
open Go.RowKit

theorem assert_yes (W : World) (v : Value) : (Instr.typeAssert (.iface 29 v) 20 29 true).run Tryd.prog W = .ok (.tuple #[v, .bool true]) W := by kernel_rfl
theorem assert_nil (W : World) : (Instr.typeAssert .nilIface 20 29 true).run Tryd.prog W = .ok (.tuple #[.int .i64 0, .bool false]) W := by kernel_rfl

/-- The world behind the catching of an error. -/
def caught (w : World) (vb eb : Nat) (e : Int) : World :=
  (((((w.setCell ⟨vb, 0, none⟩ (.int .i64 0)).setCell ⟨vb, 1, none⟩ (.int .u64 0)).setCell ⟨vb, 2, none⟩ (.slice none 0 0)).setCell ⟨vb, 3, none⟩ (.slice none 0 0)).setCell ⟨vb, 4, none⟩ (.slice none 0 0)).setCell ⟨eb, 0, none⟩ (.int .i64 e)

set_option maxRecDepth 100000 in
set_option maxHeartbeats 400000 in
theorem catch_panicking (vb eb : Nat) (e : Int) (c0 c1 c2 c3 c4 : Value) (x : Value) (older : List PanicEntry) (w : World) (hv : Blk w vb 27 #[c0, c1, c2, c3, c4]) (he : Blk w eb 29 #[x]) (hne : vb ≠ eb) :
    CallsD Tryd.prog 129 #[.pointer (some ⟨vb, 0, none⟩), .pointer (some ⟨eb, 0, none⟩)] (.panicking ({ v := .iface 29 (.int .i64 e), recovered := false } :: older)) w fun r u' w' =>
      r = .returned (.tuple #[]) ∧ u' = .panicking ({ v := .iface 29 (.int .i64 e), recovered := true } :: older) ∧ w' = caught w vb eb e := by
  have hvc := hv.cell
  have hvf := hv.frozen
  have hec := he.cell
  have hef := he.frozen
  have hta := assert_yes
  clear hv he
  refine callsD_of_wpS Tryd.func129 rfl fun c₀ cs hu => ?_
  apply wpS_seq
  apply wpS_region
  simp [wpOpsS, go_sem, recoverD, hu, Tryd.ntmps129, Exit.thenS]
  simp only [Array.replicate, List.replicate, Array.setIfInBounds]
  refine wpS_of_wp ?_
  clear hu
  go_wp2_with fail
  simp [bodyPostS, results, Tryd.results129, go_sem, caught]

set_option maxRecDepth 100000 in
set_option maxHeartbeats 400000 in
theorem catch_idle (vb eb : Nat) (w : World) :
    CallsD Tryd.prog 129 #[.pointer (some ⟨vb, 0, none⟩), .pointer (some ⟨eb, 0, none⟩)] .returning w fun r u' w' =>
      r = .returned (.tuple #[]) ∧ u' = .returning ∧ w' = w := by
  have hta := assert_nil
  refine callsD_of_wpS Tryd.func129 rfl fun c₀ cs hu => ?_
  apply wpS_seq
  apply wpS_region
  simp [wpOpsS, go_sem, recoverD, hu, Tryd.ntmps129, Exit.thenS]
  simp only [Array.replicate, List.replicate, Array.setIfInBounds]
  refine wpS_of_wp ?_
  go_wp2_with fail
  cases c₀
  simp_all [bodyPostS, results, Tryd.results129, go_sem]
end Go.Proofs.YticgdjnekbobgaaDoor
