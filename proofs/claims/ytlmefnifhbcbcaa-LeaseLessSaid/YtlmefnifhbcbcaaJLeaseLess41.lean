/- Joined texts of the claim LeaseLess (part 41): contracts of functions and plain laws. -/
import Derived.BigQuiet
import Derived.Deep.QuietTactic
import Derived.Deep.RegionHeld3
import Derived.Outline
import Derived.Test.YtlmefnifhbcbcaaJLeaseLess10
import Derived.Test.YtlmefnifhbcbcaaJLeaseLess13
import Derived.Test.YtlmefnifhbcbcaaJLeaseLess17
import Derived.Test.YtlmefnifhbcbcaaJLeaseLess39
import Derived.Test.YtlmefnifhbcbcaaJLeaseLess40
section
/- What the laws of leases have in common. -/
namespace Go.Proofs.Ytlmefnifhbcbcaa.PAll
open Go.RowKit Go.Proofs.YtlmefnifhbcbcaaW.PrintWords Go.Proofs.YtlmefnifhbcbcaaW.PrintMore Go.Proofs.Ytlmefnifhbcbcaa
set_option linter.unusedVariables false
theorem wf_u64 {n : Int} (h : (Lit.int .u64 n).wf = true) : 0 ≤ n ∧ n < 18446744073709551616 := by
  simp [Lit.wf, IntKind.min, IntKind.max, IntKind.signed, IntKind.bits] at h
  omega
theorem gB_eq {a b : Int} (ha : 0 ≤ a ∧ a < 18446744073709551616) (hb : 0 ≤ b ∧ b < 18446744073709551616) : lease_Bound.f a b = some ((bndN a.toNat b.toNat : Nat) : Int) := by unfold lease_Bound.f; rw [if_pos ⟨ha, hb⟩]
/-! The numbers -/
theorem bnd_lt {span d : Nat} (hs : 0 < span) : bndN span d < span := by
  unfold bndN
  split
  · exact hs
  · refine (Nat.div_lt_iff_lt_mul (by omega)).2 ?_
    exact Nat.mul_lt_mul_of_pos_left (by omega) hs
theorem bnd_zero (d : Nat) : bndN 0 d = 0 := by
  unfold bndN
  split
  · rfl
  · rw [Nat.zero_mul, Nat.zero_div]
theorem bnd_span {a b d : Nat} (h : a ≤ b) : bndN a d ≤ bndN b d := by
  unfold bndN
  split
  · exact Nat.le_refl _
  · exact Nat.div_le_div_right (Nat.mul_le_mul_right _ h)
theorem bnd_drift (span d : Nat) (h : 2 ≤ d) : bndN span d ≤ bndN span (d + 1) := by
  unfold bndN
  rw [if_neg (by omega), if_neg (by omega), Nat.add_sub_cancel]
  refine (Nat.le_div_iff_mul_le (by omega)).2 ?_
  have h1 := Nat.div_mul_le_self (span * (d - 1)) (d + 1)
  generalize span * (d - 1) / (d + 1) = q at *
  obtain ⟨e, rfl⟩ : ∃ e, d = e + 1 := ⟨d - 1, by omega⟩
  rw [Nat.add_sub_cancel] at h1
  simp only [Nat.mul_add, Nat.mul_one] at h1 ⊢
  have h2 : q ≤ span := by
    rcases Nat.lt_or_ge span q with c | c
    · have h3 : span * e ≤ q * e := Nat.mul_le_mul_right _ (by omega)
      omega
    · exact c
  omega
end Go.Proofs.Ytlmefnifhbcbcaa.PAll
end
