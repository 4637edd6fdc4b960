/- Joined texts of the claim LeaseBounds (part 45): contracts of functions and plain laws. -/
import Derived.BigQuiet
import Derived.Deep.QuietTactic
import Derived.Deep.RegionHeld3
import Derived.Outline
import Derived.Test.YtlmefnifhbcbcaaJLeaseBounds10
import Derived.Test.YtlmefnifhbcbcaaJLeaseBounds13
import Derived.Test.YtlmefnifhbcbcaaJLeaseBounds18
import Derived.Test.YtlmefnifhbcbcaaJLeaseBounds43
import Derived.Test.YtlmefnifhbcbcaaJLeaseBounds44
section
/- What the laws of leases have in common. -/
namespace Go.Proofs.Ytlmefnifhbcbcaa.PAll
open Go.RowKit Go.Proofs.YtlmefnifhbcbcaaW.PrintWords Go.Proofs.YtlmefnifhbcbcaaW.PrintMore Go.Proofs.Ytlmefnifhbcbcaa
set_option linter.unusedVariables false
theorem shown10_ok : ferrulelaw10_shown.f = some true := rfl
theorem wf_u64 {n : Int} (h : (Lit.int .u64 n).wf = true) : 0 ≤ n ∧ n < 18446744073709551616 := by
  simp [Lit.wf, IntKind.min, IntKind.max, IntKind.signed, IntKind.bits] at h
  omega
theorem gB_eq {a b : Int} (ha : 0 ≤ a ∧ a < 18446744073709551616) (hb : 0 ≤ b ∧ b < 18446744073709551616) : lease_Bound.f a b = some ((bndN a.toNat b.toNat : Nat) : Int) := by unfold lease_Bound.f; rw [if_pos ⟨ha, hb⟩]
theorem rB_eq {a b : Int} (ha : 0 ≤ a ∧ a < 18446744073709551616) (hb : 0 ≤ b ∧ b < 18446744073709551616) : ferruleref10_Bound.f a b = some ((bndN a.toNat b.toNat : Nat) : Int) := by unfold ferruleref10_Bound.f; rw [if_pos ⟨ha, hb⟩]
/-! The numbers -/
end Go.Proofs.Ytlmefnifhbcbcaa.PAll
end
