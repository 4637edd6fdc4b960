/- Joined texts of the claim LeaseSafe (part 42): contracts of functions and plain laws. -/
import Derived.Test.YtlmefnifhbcbcaaJLeaseSafe39
import Derived.Test.YtlmefnifhbcbcaaJLeaseSafe40
import Derived.Test.YtlmefnifhbcbcaaJLeaseSafe41
section
/- What the laws of leases have in common. -/
namespace Go.Proofs.Ytlmefnifhbcbcaa.PAll
open Go.RowKit Go.Proofs.YtlmefnifhbcbcaaW.PrintWords Go.Proofs.YtlmefnifhbcbcaaW.PrintMore Go.Proofs.Ytlmefnifhbcbcaa
set_option linter.unusedVariables false
theorem shown10_ok : ferrulelaw10_shown.f = some true := rfl
theorem wf_u64 {n : Int} (h : (Lit.int .u64 n).wf = true) : 0 ≤ n ∧ n < 18446744073709551616 := by
  simp [Lit.wf, IntKind.min, IntKind.max, IntKind.signed, IntKind.bits] at h
  omega
theorem gB_eq {a b : Int} (ha : 0 ≤ a ∧ a < 18446744073709551616) (hb : 0 ≤ b ∧ b < 18446744073709551616) : lease_Bound.f a b = some ((bndN a.toNat b.toNat : Nat) : Int) := by unfold lease_Bound.f; rw [if_pos ⟨ha, hb⟩]
theorem mostW_val (x y : Nat) : mostW ((x / 18446744073709551616 : Nat) : Int) ((x % 18446744073709551616 : Nat) : Int) ((y / 18446744073709551616 : Nat) : Int) ((y % 18446744073709551616 : Nat) : Int) = decide (x ≤ y) := by
  unfold mostW
  by_cases h : x ≤ y
  · rw [decide_eq_true h]
    by_cases h1 : x / 18446744073709551616 < y / 18446744073709551616
    · rw [decide_eq_true (by omega)]; rfl
    · rw [decide_eq_false (by omega), decide_eq_true (by omega), decide_eq_true (by omega)]; rfl
  · rw [decide_eq_false h, decide_eq_false (by omega)]
    by_cases h1 : x / 18446744073709551616 = y / 18446744073709551616
    · rw [decide_eq_true (by omega), decide_eq_false (by omega)]; rfl
    · rw [decide_eq_false (by omega)]; rfl
theorem mulH_nat (x y : Nat) : mulH x y = ((x * y / 18446744073709551616 : Nat) : Int) := by unfold mulH; simp
theorem mulL_nat (x y : Nat) : mulL x y = ((x * y % 18446744073709551616 : Nat) : Int) := by unfold mulL; simp
theorem in_same (real loc d : Nat) (hr : real < 18446744073709551616) (hd : d < 18446744073709551616) : inV real loc d = inN real loc d := by
  unfold inV inN
  by_cases c : d < 2
  · rw [if_pos (by omega), decide_eq_false (by omega)]; rfl
  · have e : (d : Int) - 1 = ((d - 1 : Nat) : Int) := by omega
    have hbig : real * d + real < 340282366920938463463374607431768211456 := by
      have h1 : real * d ≤ 18446744073709551615 * 18446744073709551615 := Nat.mul_le_mul (by omega) (by omega)
      omega
    rw [if_neg (by omega), e, mulH_nat, mulL_nat, mulH_nat, mulL_nat, mulH_nat, mulL_nat, mostW_val, decide_eq_true (show 2 ≤ d by omega), Bool.true_and]
    refine congrArg (fun z => decide (real * (d - 1) ≤ loc * d) && z) ?_
    rw [← mostW_val (loc * d) (real * d + real)]
    generalize real * d = m at *
    have e1 : IntKind.u64.wrap (((m / 18446744073709551616 : Nat) : Int) + (((m % 18446744073709551616 : Nat) : Int) + (real : Int)) / 18446744073709551616) = (((m + real) / 18446744073709551616 : Nat) : Int) := by
      rw [IntKind.wrap_u64]; omega
    have e2 : (((m % 18446744073709551616 : Nat) : Int) + (real : Int)) % 18446744073709551616 = (((m + real) % 18446744073709551616 : Nat) : Int) := by omega
    rw [e1, e2]
theorem gW_eq {a b c : Int} (ha : 0 ≤ a ∧ a < 18446744073709551616) (hb : 0 ≤ b ∧ b < 18446744073709551616) (hc : 0 ≤ c ∧ c < 18446744073709551616) : lease_Within.f a b c = some (inN a.toNat b.toNat c.toNat) := by
  unfold lease_Within.f
  rw [if_pos ⟨ha, hb, hc⟩]
  obtain ⟨x, rfl⟩ := Int.eq_ofNat_of_zero_le ha.1
  obtain ⟨y, rfl⟩ := Int.eq_ofNat_of_zero_le hb.1
  obtain ⟨z, rfl⟩ := Int.eq_ofNat_of_zero_le hc.1
  simp only [Int.toNat_natCast]
  rw [in_same x y z (by omega) (by omega)]
/-! The numbers -/
theorem safe_of {real own other span d : Nat} (ha : inN real own d = true) (hb : inN real other d = true) (h : own < bndN span d) : other < span := by
  unfold inN at ha hb
  simp only [Bool.and_eq_true, decide_eq_true_eq] at ha hb
  obtain ⟨hd, h1, _⟩ := ha
  obtain ⟨_, _, h2⟩ := hb
  unfold bndN at h
  rw [if_neg (by omega)] at h
  have h3 : (own + 1) * (d + 1) ≤ span * (d - 1) := (Nat.le_div_iff_mul_le (by omega)).1 h
  obtain ⟨e, rfl⟩ : ∃ e, d = e + 1 := ⟨d - 1, by omega⟩
  rw [Nat.add_sub_cancel] at h1 h3
  -- other (e+1) ≤ real (e+2); real e ≤ own (e+1)
  have h4 : other * (e + 1) * e ≤ (real * (e + 1) + real) * e := Nat.mul_le_mul_right _ h2
  have h5 : (real * (e + 1) + real) * e = real * e * (e + 2) := by
    rw [show real * (e + 1) + real = real * (e + 2) by rw [Nat.mul_add, Nat.mul_add]; omega, Nat.mul_right_comm]
  have h6 : real * e * (e + 2) ≤ own * (e + 1) * (e + 2) := Nat.mul_le_mul_right _ h1
  have h7 : other * (e + 1) * e ≤ own * (e + 1) * (e + 2) := by rw [h5] at h4; exact Nat.le_trans h4 h6
  have h8 : other * e * (e + 1) ≤ own * (e + 2) * (e + 1) := by rw [Nat.mul_right_comm other, Nat.mul_right_comm own]; exact h7
  have h9 : other * e ≤ own * (e + 2) := Nat.le_of_mul_le_mul_right h8 (by omega)
  have h10 : other * e < span * e := by
    rw [show e + 1 + 1 = e + 2 from rfl, Nat.add_mul, Nat.one_mul] at h3
    omega
  exact Nat.lt_of_mul_lt_mul_right h10
end Go.Proofs.Ytlmefnifhbcbcaa.PAll
end
