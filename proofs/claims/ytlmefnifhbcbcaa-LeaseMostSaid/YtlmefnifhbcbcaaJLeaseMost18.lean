/- Joined texts of the claim LeaseMost (part 18): contracts of functions and plain laws. -/
import Derived.Laws.Bits64b
import Derived.Laws.BitsAllLaws
import Derived.Lib.Mul64
import Derived.Shelf.Bits.Mul64
import Derived.Test.YtlmefnifhbcbcaaJLeaseMost15
import Derived.Test.YtlmefnifhbcbcaaJLeaseMost17
section
/- Division of two digits, plain. -/
namespace Go.Proofs.Ytlmefnifhbcbcaa.PAll
open Go.RowKit Go.Proofs.YtlmefnifhbcbcaaW.PrintWords Go.Proofs.Ytlmefnifhbcbcaa
set_option linter.unusedVariables false
/-- What a digit's loop keeps: q·y1 + r = u, the true digit is at most q. -/
theorem stop_le {y1 y0 u v q r : Nat} (h : q * y1 + r = u) (h2 : q * y0 ≤ 4294967296 * r + v) : q * (y1 * 4294967296 + y0) ≤ u * 4294967296 + v := by
  have e : q * (y1 * 4294967296 + y0) = q * y1 * 4294967296 + q * y0 := by rw [Nat.mul_add, Nat.mul_assoc]
  rw [e]; generalize q * y1 = a at *; generalize q * y0 = b at *; omega
theorem go_gt {y1 y0 u v q r : Nat} (h : q * y1 + r = u) (h2 : 4294967296 * r + v < q * y0) : u * 4294967296 + v < q * (y1 * 4294967296 + y0) := by
  have e : q * (y1 * 4294967296 + y0) = q * y1 * 4294967296 + q * y0 := by rw [Nat.mul_add, Nat.mul_assoc]
  rw [e]; generalize q * y1 = a at *; generalize q * y0 = b at *; omega
theorem big_gt {y u v q : Nat} (hu : u < y) (hv : v < 4294967296) (h2 : 4294967296 ≤ q) : u * 4294967296 + v < q * y := by
  have : 4294967296 * y ≤ q * y := Nat.mul_le_mul_right _ h2
  omega
theorem first_gt {y1 y0 u v : Nat} (h1 : 0 < y1) (hv : v < 4294967296) : u * 4294967296 + v < (u / y1 + 1) * (y1 * 4294967296 + y0) := by
  have h : u < (u / y1 + 1) * y1 := by have := Nat.div_add_mod u y1; have := Nat.mod_lt u h1; rw [Nat.add_mul, Nat.mul_comm]; omega
  have e : (u / y1 + 1) * (y1 * 4294967296 + y0) = (u / y1 + 1) * y1 * 4294967296 + (u / y1 + 1) * y0 := by rw [Nat.mul_add, Nat.mul_assoc]
  rw [e]; generalize (u / y1 + 1) * y1 = a at *; generalize (u / y1 + 1) * y0 = b at *; omega
theorem brk {b q r v : Nat} (h5 : q ≤ r) (h4 : b ≤ q * 4294967296) : b ≤ 4294967296 * r + v := by omega
theorem break_le {y1 y0 u v q r : Nat} (h : q * y1 + r = u) (hu : u < y1 * 4294967296 + y0) (hy0 : y0 < 4294967296) (hr : 4294967296 ≤ r) : q < 4294967296 ∧ q * y0 ≤ 4294967296 * r + v := by
  have hq : q < 4294967296 := by
    rcases Nat.lt_or_ge q 4294967296 with h2 | h2
    · exact h2
    · have h3 := Nat.mul_le_mul_right y1 h2
      omega
  have h4 : q * y0 ≤ q * 4294967296 := Nat.mul_le_mul_left q (Nat.le_of_lt hy0)
  have h5 : q ≤ r := by omega
  exact ⟨hq, brk h5 h4⟩
theorem div_of {q y U : Nat} (h1 : q * y ≤ U) (h2 : U < (q + 1) * y) : q = U / y := by
  have hy : 0 < y := by rcases Nat.eq_zero_or_pos y with e | e; · subst e; simp at h2
                        · exact e
  exact ((Nat.div_eq_iff hy).2 ⟨by omega, by rw [Nat.add_mul] at h2; omega⟩).symm
theorem two_a {a w y : Nat} (hy : 0 < y) : a / y * 4294967296 + (a % y * 4294967296 + w) / y = (a * 4294967296 + w) / y := by
  have h := Nat.div_add_mod a y
  have e2 : a * 4294967296 + w = (a % y * 4294967296 + w) + y * (a / y * 4294967296) := by
    have e3 : y * (a / y * 4294967296) = y * (a / y) * 4294967296 := by rw [Nat.mul_assoc]
    rw [e3]; generalize y * (a / y) = c at *; omega
  refine Eq.trans ?_ (congrArg (fun z => z / y) e2.symm)
  refine Eq.trans ?_ (Nat.add_mul_div_left _ _ hy).symm
  exact Nat.add_comm _ _
theorem two_digits {u v w y : Nat} (hy : 0 < y) : (u * 4294967296 + v) / y * 4294967296 + ((u * 4294967296 + v) % y * 4294967296 + w) / y = (u * 18446744073709551616 + (v * 4294967296 + w)) / y :=
  (two_a hy).trans (congrArg (fun z => z / y) (by omega))
theorem or_add_lt {a b s : Nat} (hb : b < 2 ^ s) : a * 2 ^ s ||| b = a * 2 ^ s + b := by
  have := Nat.shiftLeft_add_eq_or_of_lt hb a
  rw [Nat.shiftLeft_eq] at this
  exact this.symm
theorem low_lt {lo s : Nat} (hs : s ≤ 63) (hl : lo < 18446744073709551616) : lo / 2 ^ (64 - s) < 2 ^ s := by
  refine (Nat.div_lt_iff_lt_mul (Nat.pow_pos (by decide))).2 ?_
  rw [← Nat.pow_add, show s + (64 - s) = 64 by omega]
  exact hl
theorem setup_num {hi lo s : Nat} (hs : s ≤ 63) : (hi * 18446744073709551616 + lo) * 2 ^ s = (hi * 2 ^ s + lo / 2 ^ (64 - s)) * 18446744073709551616 + lo * 2 ^ s % 18446744073709551616 := by
  have hp : 2 ^ (64 - s) * 2 ^ s = 18446744073709551616 := by rw [← Nat.pow_add, show 64 - s + s = 64 by omega]
  have h0 := Nat.div_add_mod lo (2 ^ (64 - s))
  have hm : lo % 2 ^ (64 - s) * 2 ^ s < 18446744073709551616 := by
    rw [← hp]; exact Nat.mul_lt_mul_of_pos_right (Nat.mod_lt _ (Nat.pow_pos (by decide))) (Nat.pow_pos (by decide))
  have h1 : lo * 2 ^ s = lo / 2 ^ (64 - s) * 18446744073709551616 + lo % 2 ^ (64 - s) * 2 ^ s := by
    have e : (2 ^ (64 - s) * (lo / 2 ^ (64 - s)) + lo % 2 ^ (64 - s)) * 2 ^ s = lo * 2 ^ s := by rw [h0]
    rw [← e, Nat.add_mul, Nat.mul_right_comm, hp, Nat.mul_comm 18446744073709551616]
  have h2 : lo * 2 ^ s % 18446744073709551616 = lo % 2 ^ (64 - s) * 2 ^ s := by
    rw [h1]; generalize lo / 2 ^ (64 - s) = a at *; generalize lo % 2 ^ (64 - s) * 2 ^ s = b at *; omega
  rw [h2, Nat.add_mul, h1, Nat.add_mul, Nat.mul_right_comm]
  omega
theorem setup_lt {hi lo y s : Nat} (hs : s ≤ 63) (hl : lo < 18446744073709551616) (h : hi < y) : hi * 2 ^ s + lo / 2 ^ (64 - s) < y * 2 ^ s := by
  have h1 := low_lt hs hl
  have h2 : (hi + 1) * 2 ^ s ≤ y * 2 ^ s := Nat.mul_le_mul_right _ h
  rw [Nat.add_mul] at h2
  omega
theorem setup_quo {hi lo y s : Nat} (hs : s ≤ 63) : ((hi * 2 ^ s + lo / 2 ^ (64 - s)) * 18446744073709551616 + lo * 2 ^ s % 18446744073709551616) / (y * 2 ^ s) = (hi * 18446744073709551616 + lo) / y := by
  rw [← setup_num hs, Nat.mul_div_mul_right _ _ (Nat.pow_pos (by decide))]
theorem lenT_pow (t : Int) (h0 : 0 ≤ t) (h : t < 256) : t < 2 ^ (lenT t).toNat ∧ (0 < t → (2 : Int) ^ (lenT t).toNat ≤ 2 * t) := by
  unfold lenT
  repeat' split
  all_goals (constructor <;> simp <;> omega)
/-- L is the length of x in bits. -/
def IsLen (x L : Int) : Prop := 0 ≤ L ∧ x < 2 ^ L.toNat ∧ (2 : Int) ^ L.toNat ≤ 2 * x
theorem isLen_up {x : Int} {k L : Nat} (h : IsLen (x / 2 ^ k) L) (hx : 0 ≤ x) : IsLen x ((L + k : Nat) : Int) := by
  obtain ⟨_, h1, h2⟩ := h
  have hp : (0 : Int) < 2 ^ k := Int.pow_pos (by decide)
  refine ⟨by omega, ?_, ?_⟩
  · rw [Int.toNat_natCast] at h1 ⊢
    rw [Int.pow_add]
    exact (Int.ediv_lt_iff_lt_mul hp).1 h1
  · rw [Int.toNat_natCast] at h2 ⊢
    rw [Int.pow_add]
    have h3 := Int.mul_le_mul_of_nonneg_right h2 (Int.le_of_lt hp)
    have h4 := Int.ediv_mul_le x (Int.ne_of_gt hp)
    have h5 : 2 * (x / 2 ^ k) * 2 ^ k = 2 * (x / 2 ^ k * 2 ^ k) := Int.mul_assoc _ _ _
    rw [h5] at h3
    omega
theorem lenT_is {t : Int} (h0 : 0 < t) (h : t < 256) : IsLen t (lenT t) := by
  have h1 := lenT_pow t (by omega) h
  exact ⟨(lenT_range t).1, h1.1, h1.2 h0⟩
theorem len3_is {x : Int} {n : Nat} (h0 : 0 < x) (h : x < 65536) : ∃ L : Nat, len3 x n = ((n + L : Nat) : Int) ∧ IsLen x L := by
  unfold len3
  split
  · obtain ⟨L, hL⟩ := Int.eq_ofNat_of_zero_le (lenT_range (x / 256)).1
    have h1 : IsLen (x / 2 ^ 8) L := by rw [← hL]; exact lenT_is (t := x / 256) (by omega) (by omega)
    exact ⟨L + 8, by rw [hL]; omega, isLen_up h1 (by omega)⟩
  · obtain ⟨L, hL⟩ := Int.eq_ofNat_of_zero_le (lenT_range x).1
    exact ⟨L, by rw [hL]; omega, by rw [← hL]; exact lenT_is h0 (by omega)⟩
theorem len2_is {x : Int} {n : Nat} (h0 : 0 < x) (h : x < 4294967296) : ∃ L : Nat, len2 x n = ((n + L : Nat) : Int) ∧ IsLen x L := by
  unfold len2
  split
  · obtain ⟨L, h1, h2⟩ := len3_is (x := x / 65536) (n := n + 16) (by omega) (by omega)
    exact ⟨L + 16, by have e : ((n : Int) + 16) = ((n + 16 : Nat) : Int) := by omega
                      rw [e, h1]; omega, isLen_up (k := 16) h2 (by omega)⟩
  · exact len3_is h0 (by omega)
theorem len64_is {x : Int} (h0 : 0 < x) (h : x < 18446744073709551616) : ∃ L : Nat, len64 x = (L : Int) ∧ IsLen x L := by
  unfold len64
  split
  · obtain ⟨L, h1, h2⟩ := len2_is (x := x / 4294967296) (n := 32) (by omega) (by omega)
    exact ⟨L + 32, by rw [show (32 : Int) = ((32 : Nat) : Int) from rfl, h1]; omega, isLen_up (k := 32) h2 (by omega)⟩
  · obtain ⟨L, h1, h2⟩ := len2_is (x := x) (n := 0) h0 (by omega)
    exact ⟨L, by rw [show (0 : Int) = ((0 : Nat) : Int) from rfl, h1]; omega, h2⟩
/-- How many zeros lead. -/
theorem lead_is (y : Nat) (h0 : 0 < y) (h : y < 18446744073709551616) : ∃ s : Nat, s ≤ 63 ∧ bits_LeadingZeros64.f (y : Int) = some (s : Int) ∧ y * 2 ^ s < 18446744073709551616 ∧ 9223372036854775808 ≤ y * 2 ^ s := by
  obtain ⟨L, h1, _, h2, h3⟩ := len64_is (x := (y : Int)) (by omega) (by omega)
  rw [Int.toNat_natCast] at h2 h3
  have h2' : y < 2 ^ L := by exact_mod_cast h2
  have h3' : 2 ^ L ≤ 2 * y := by exact_mod_cast h3
  have hL0 : 0 < L := by
    rcases Nat.eq_zero_or_pos L with e | e
    · subst e; simp at h2'; omega
    · exact e
  have hL : L ≤ 64 := by
    rcases Nat.lt_or_ge 64 L with c | c
    · have := Nat.pow_le_pow_right (show 0 < 2 by decide) (show 65 ≤ L from c)
      omega
    · exact c
  refine ⟨64 - L, by omega, ?_, ?_, ?_⟩
  · unfold bits_LeadingZeros64.f bits_Len64.f
    rw [if_pos ⟨by omega, by omega⟩, h1]
    simp only [Option.bind_some]
    refine congrArg some ?_
    unfold wrap64
    omega
  · have hp : 2 ^ L * 2 ^ (64 - L) = 18446744073709551616 := by rw [← Nat.pow_add, show L + (64 - L) = 64 by omega]
    rw [← hp]; exact Nat.mul_lt_mul_of_pos_right h2' (Nat.pow_pos (by decide))
  · have hp : 2 ^ L * 2 ^ (64 - L) = 18446744073709551616 := by rw [← Nat.pow_add, show L + (64 - L) = 64 by omega]
    have h4 := Nat.mul_le_mul_right (2 ^ (64 - L)) h3'
    rw [hp, Nat.mul_assoc] at h4
    generalize y * 2 ^ (64 - L) = b at *
    omega
end Go.Proofs.Ytlmefnifhbcbcaa.PAll
end
