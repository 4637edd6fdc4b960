/- Joined texts of the claim LeaseBounds (part 49): contracts of functions and plain laws. -/
import Derived.Test.YtlmefnifhbcbcaaJLeaseBounds45
import Derived.Test.YtlmefnifhbcbcaaJLeaseBounds47
import Derived.Test.YtlmefnifhbcbcaaJLeaseBounds48
section
/- Every numbers: how long a span is for sure is told by the code as the document defines it. -/
namespace Go.Proofs.Ytlmefnifhbcbcaa.PAll
open Go.RowKit Go.Proofs.YtlmefnifhbcbcaaW.PrintWords Go.Proofs.YtlmefnifhbcbcaaW.PrintMore Go.Proofs.Ytlmefnifhbcbcaa
set_option linter.unusedVariables false
theorem LeaseBounds_walk {w : World} (a0 : Int) (w0 : (Lit.int .u64 a0).wf = true) (a1 : Int) (w1 : (Lit.int .u64 a1).wf = true) :
    Calls Try.prog 3 #[.int .u64 a0, .int .u64 a1] w fun e w' => e = .returned (.bool true) ∧ Below w.heap.size w w' := by
  refine ferrulelaw10_LeaseBounds.calls a0 a1 true w ?_
  unfold ferrulelaw10_LeaseBounds.f
  rw [shown10_ok]
  simp only [Option.bind_some]
  rw [gB_eq (wf_u64 w0) (wf_u64 w1), rB_eq (wf_u64 w0) (wf_u64 w1)]
  simp
end Go.Proofs.Ytlmefnifhbcbcaa.PAll
end
