/- Joined texts of the claim LeaseMost (part 15): contracts of functions and plain laws. -/
import Derived.Laws.Externs
import Derived.Test.YtlmefnifhbcbcaaJLeaseMost14
section
/- Leases: products compared, and a number more. -/
namespace Go.Proofs.Ytlmefnifhbcbcaa.PAll
open Go.RowKit Go.Proofs.YtlmefnifhbcbcaaW.PrintWords Go.Proofs.YtlmefnifhbcbcaaW.PrintMore Go.Proofs.Ytlmefnifhbcbcaa
set_option linter.unusedVariables false
theorem add64 (x y : Int) (hx : 0 ≤ x) (hy : 0 ≤ y) (w : World) : (callFunc 53 #[.int .u64 x, .int .u64 y, .int .u64 0]).run Try.prog w = .ok (.value (.tuple #[.int .u64 ((x + y) % 18446744073709551616), .int .u64 ((x + y) / 18446744073709551616)])) w := by
  rw [run_callFunc_extern Try.func53 (by kernel_rfl) (by kernel_rfl) (by kernel_rfl) (e := add64Entry) (by kernel_rfl), run_add64 x y 0 hx hy (by omega) (by omega), Int.add_zero]
  simp only [Result.andThen]
theorem ret_b3 {a b : Bool} (h : a = b) : Ending.returned (.bool a) = .returned (.bool b) := by rw [h]
end Go.Proofs.Ytlmefnifhbcbcaa.PAll
end
section
/- Products in four quarters: what they come to, plain. -/
namespace Go.Proofs.Ytlmefnifhbcbcaa.PAll
open Go.RowKit Go.Proofs.YtlmefnifhbcbcaaW.PrintWords Go.Proofs.Ytlmefnifhbcbcaa
set_option linter.unusedVariables false
def wU (x : Int) : Int := IntKind.u64.wrap x
theorem wU_nat {n : Nat} (h : n < 18446744073709551616) : wU (n : Int) = n := by unfold wU; rw [IntKind.wrap_u64]; omega
end Go.Proofs.Ytlmefnifhbcbcaa.PAll
end
