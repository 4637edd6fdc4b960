/- Joined texts of the claim LeaseWithin (part 45): contracts of functions and plain laws. -/
import Derived.Test.YtlmefnifhbcbcaaJLeaseWithin42
import Derived.Test.YtlmefnifhbcbcaaJLeaseWithin43
import Derived.Test.YtlmefnifhbcbcaaJLeaseWithin44
section
/- What the laws of leases have in common. -/
namespace Go.Proofs.Ytlmefnifhbcbcaa.PAll
open Go.RowKit Go.Proofs.YtlmefnifhbcbcaaW.PrintWords Go.Proofs.YtlmefnifhbcbcaaW.PrintMore Go.Proofs.Ytlmefnifhbcbcaa
set_option linter.unusedVariables false
theorem shown10_ok : ferrulelaw10_shown.f = some true := rfl
theorem wf_u64 {n : Int} (h : (Lit.int .u64 n).wf = true) : 0 ≤ n ∧ n < 18446744073709551616 := by
  simp [Lit.wf, IntKind.min, IntKind.max, IntKind.signed, IntKind.bits] at h
  omega
theorem mostW_val (x y : Nat) : mostW ((x / 18446744073709551616 : Nat) : Int) ((x % 18446744073709551616 : Nat) : Int) ((y / 18446744073709551616 : Nat) : Int) ((y % 18446744073709551616 : Nat) : Int) = decide (x ≤ y) := by
  unfold mostW
  by_cases h : x ≤ y
  · rw [decide_eq_true h]
    by_cases h1 : x / 18446744073709551616 < y / 18446744073709551616
    · rw [decide_eq_true (by omega)]; rfl
    · rw [decide_eq_false (by omega), decide_eq_true (by omega), decide_eq_true (by omega)]; rfl
  · rw [decide_eq_false h, decide_eq_false (by omega)]
    by_cases h1 : x / 18446744073709551616 = y / 18446744073709551616
    · rw [decide_eq_true (by omega), decide_eq_false (by omega)]; rfl
    · rw [decide_eq_false (by omega)]; rfl
theorem mulH_nat (x y : Nat) : mulH x y = ((x * y / 18446744073709551616 : Nat) : Int) := by unfold mulH; simp
theorem mulL_nat (x y : Nat) : mulL x y = ((x * y % 18446744073709551616 : Nat) : Int) := by unfold mulL; simp
theorem in_same (real loc d : Nat) (hr : real < 18446744073709551616) (hd : d < 18446744073709551616) : inV real loc d = inN real loc d := by
  unfold inV inN
  by_cases c : d < 2
  · rw [if_pos (by omega), decide_eq_false (by omega)]; rfl
  · have e : (d : Int) - 1 = ((d - 1 : Nat) : Int) := by omega
    have hbig : real * d + real < 340282366920938463463374607431768211456 := by
      have h1 : real * d ≤ 18446744073709551615 * 18446744073709551615 := Nat.mul_le_mul (by omega) (by omega)
      omega
    rw [if_neg (by omega), e, mulH_nat, mulL_nat, mulH_nat, mulL_nat, mulH_nat, mulL_nat, mostW_val, decide_eq_true (show 2 ≤ d by omega), Bool.true_and]
    refine congrArg (fun z => decide (real * (d - 1) ≤ loc * d) && z) ?_
    rw [← mostW_val (loc * d) (real * d + real)]
    generalize real * d = m at *
    have e1 : IntKind.u64.wrap (((m / 18446744073709551616 : Nat) : Int) + (((m % 18446744073709551616 : Nat) : Int) + (real : Int)) / 18446744073709551616) = (((m + real) / 18446744073709551616 : Nat) : Int) := by
      rw [IntKind.wrap_u64]; omega
    have e2 : (((m % 18446744073709551616 : Nat) : Int) + (real : Int)) % 18446744073709551616 = (((m + real) % 18446744073709551616 : Nat) : Int) := by omega
    rw [e1, e2]
theorem gW_eq {a b c : Int} (ha : 0 ≤ a ∧ a < 18446744073709551616) (hb : 0 ≤ b ∧ b < 18446744073709551616) (hc : 0 ≤ c ∧ c < 18446744073709551616) : lease_Within.f a b c = some (inN a.toNat b.toNat c.toNat) := by
  unfold lease_Within.f
  rw [if_pos ⟨ha, hb, hc⟩]
  obtain ⟨x, rfl⟩ := Int.eq_ofNat_of_zero_le ha.1
  obtain ⟨y, rfl⟩ := Int.eq_ofNat_of_zero_le hb.1
  obtain ⟨z, rfl⟩ := Int.eq_ofNat_of_zero_le hc.1
  simp only [Int.toNat_natCast]
  rw [in_same x y z (by omega) (by omega)]
theorem rW_eq {a b c : Int} (ha : 0 ≤ a ∧ a < 18446744073709551616) (hb : 0 ≤ b ∧ b < 18446744073709551616) (hc : 0 ≤ c ∧ c < 18446744073709551616) : ferruleref10_Within.f a b c = some (inN a.toNat b.toNat c.toNat) := by unfold ferruleref10_Within.f; rw [if_pos ⟨ha, hb, hc⟩]
/-! The numbers -/
end Go.Proofs.Ytlmefnifhbcbcaa.PAll
end
