/- Joined texts of the claim LeaseWithin (part 49): contracts of functions and plain laws. -/
import Derived.Test.YtlmefnifhbcbcaaJLeaseWithin45
import Derived.Test.YtlmefnifhbcbcaaJLeaseWithin47
import Derived.Test.YtlmefnifhbcbcaaJLeaseWithin48
section
/- Every numbers: whether a clock is within the drift is told by the code as the document defines it. -/
namespace Go.Proofs.Ytlmefnifhbcbcaa.PAll
open Go.RowKit Go.Proofs.YtlmefnifhbcbcaaW.PrintWords Go.Proofs.YtlmefnifhbcbcaaW.PrintMore Go.Proofs.Ytlmefnifhbcbcaa
set_option linter.unusedVariables false
theorem LeaseWithin_walk {w : World} (a0 : Int) (w0 : (Lit.int .u64 a0).wf = true) (a1 : Int) (w1 : (Lit.int .u64 a1).wf = true) (a2 : Int) (w2 : (Lit.int .u64 a2).wf = true) :
    Calls Try.prog 7 #[.int .u64 a0, .int .u64 a1, .int .u64 a2] w fun e w' => e = .returned (.bool true) ∧ Below w.heap.size w w' := by
  refine ferrulelaw10_LeaseWithin.calls a0 a1 a2 true w ?_
  unfold ferrulelaw10_LeaseWithin.f
  rw [shown10_ok]
  simp only [Option.bind_some]
  rw [gW_eq (wf_u64 w0) (wf_u64 w1) (wf_u64 w2), rW_eq (wf_u64 w0) (wf_u64 w1) (wf_u64 w2)]
  simp
end Go.Proofs.Ytlmefnifhbcbcaa.PAll
end
