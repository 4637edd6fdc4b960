/- Joined texts of the claim LeaseMost (part 43): contracts of functions and plain laws. -/
import Derived.BigQuiet
import Derived.Deep.QuietTactic
import Derived.Deep.RegionHeld3
import Derived.Outline
import Derived.Test.YtlmefnifhbcbcaaJLeaseMost12
import Derived.Test.YtlmefnifhbcbcaaJLeaseMost15
import Derived.Test.YtlmefnifhbcbcaaJLeaseMost19
import Derived.Test.YtlmefnifhbcbcaaJLeaseMost41
import Derived.Test.YtlmefnifhbcbcaaJLeaseMost42
section
/- What the laws of leases have in common. -/
namespace Go.Proofs.Ytlmefnifhbcbcaa.PAll
open Go.RowKit Go.Proofs.YtlmefnifhbcbcaaW.PrintWords Go.Proofs.YtlmefnifhbcbcaaW.PrintMore Go.Proofs.Ytlmefnifhbcbcaa
set_option linter.unusedVariables false
theorem wf_u64 {n : Int} (h : (Lit.int .u64 n).wf = true) : 0 ≤ n ∧ n < 18446744073709551616 := by
  simp [Lit.wf, IntKind.min, IntKind.max, IntKind.signed, IntKind.bits] at h
  omega
/-! The numbers -/
end Go.Proofs.Ytlmefnifhbcbcaa.PAll
end
