/- Joined texts of the claim LeaseSafe (part 46): contracts of functions and plain laws. -/
import Derived.Test.YtlmefnifhbcbcaaJLeaseSafe42
import Derived.Test.YtlmefnifhbcbcaaJLeaseSafe44
import Derived.Test.YtlmefnifhbcbcaaJLeaseSafe45
section
/- Every numbers: while the leader's clock has gone on by less than the bound, another clock within the drift has gone on by less than the span. -/
namespace Go.Proofs.Ytlmefnifhbcbcaa.PAll
open Go.RowKit Go.Proofs.YtlmefnifhbcbcaaW.PrintWords Go.Proofs.YtlmefnifhbcbcaaW.PrintMore Go.Proofs.Ytlmefnifhbcbcaa
set_option linter.unusedVariables false
theorem LeaseSafe_pure (a b c s d : Int) (ha : 0 ≤ a ∧ a < 18446744073709551616) (hb : 0 ≤ b ∧ b < 18446744073709551616) (hc : 0 ≤ c ∧ c < 18446744073709551616) (hs : 0 ≤ s ∧ s < 18446744073709551616) (hd : 0 ≤ d ∧ d < 18446744073709551616) : ferrulelaw10_LeaseSafe.f a b c s d = some true := by
  unfold ferrulelaw10_LeaseSafe.f
  rw [shown10_ok]
  simp only [Option.bind_some]
  rw [gW_eq ha hb hd, gW_eq ha hc hd, gB_eq hs hd]
  simp only [Option.bind_some]
  by_cases h1 : inN a.toNat b.toNat d.toNat = true
  case neg => rw [if_neg h1]
  rw [if_pos h1]
  by_cases h2 : inN a.toNat c.toNat d.toNat = true
  case neg => rw [if_neg h2]
  rw [if_pos h2]
  by_cases h3 : b ≥ ((bndN s.toNat d.toNat : Nat) : Int)
  · rw [if_pos h3]
  · have := safe_of h1 h2 (by omega : b.toNat < bndN s.toNat d.toNat)
    have h4 : c < s := by omega
    rw [if_neg h3]
    simp [h4]
theorem LeaseSafe_walk {w : World} (cs : Array Value) (x : S42) (hx : k42.K w x cs.toList) (hsx : ok42 x) :
    Calls Try.prog 8 #[.agg cs] w fun e w' => e = .returned (.bool true) ∧ Below w.heap.size w w' := by
  obtain ⟨u0, u1, u2, u3, u4⟩ := hsx
  obtain ⟨_, _, hcs, rfl, ⟨_, _, rfl, rfl, ⟨_, _, rfl, rfl, ⟨_, _, rfl, rfl, rfl⟩⟩⟩⟩ := hx
  obtain rfl : cs = #[.int .u64 x.f0, .int .u64 x.f1, .int .u64 x.f2, .int .u64 x.f3, .int .u64 x.f4] := Array.toList_inj.1 hcs
  exact ferrulelaw10_LeaseSafe.calls x.f0 x.f1 x.f2 x.f3 x.f4 true w (LeaseSafe_pure _ _ _ _ _ (wf_u64 u0) (wf_u64 u1) (wf_u64 u2) (wf_u64 u3) (wf_u64 u4))
end Go.Proofs.Ytlmefnifhbcbcaa.PAll
end
