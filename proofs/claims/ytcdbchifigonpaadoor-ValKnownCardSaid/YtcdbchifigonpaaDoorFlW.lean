/- Walks: floats: their bits, IsNaN, to a whole number. -/
import Derived.Test.YtcdbchifigonpaaDoorKeyPQ
set_option linter.unusedVariables false
set_option linter.unusedSimpArgs false
namespace Go.Proofs.YtcdbchifigonpaaDoor
open Go.RowKit Go.Shelf

theorem run_from (w : World) (b : Int) : (callFunc 99 #[.int .u64 b]).run Tryd.prog w = .ok (.value (.float .f64 b.toNat)) w := by kernel_rfl

theorem isnan_any (b : Nat) (w : World) : Calls Tryd.prog 101 #[.float .f64 b] w fun e w' => e = .returned (.bool (nanB b)) ∧ w = w' := by
  go_enter Tryd.func101, Tryd.ntmps101
  go_wp2
  go_ret
  exact ⟨rfl, rfl⟩
theorem conv_fi (f : Nat) (n : Int) (h : floatToIntVal .f64 f .i64 = some n) (w : World) : (convert 140 2 (.float .f64 f)).run Tryd.prog w = .ok (.int .i64 n) w :=
  run_convert_float_int (P := Tryd.prog) w 140 2 .f64 .i64 f n (by kernel_rfl) (by kernel_rfl) h
end Go.Proofs.YtcdbchifigonpaaDoor
