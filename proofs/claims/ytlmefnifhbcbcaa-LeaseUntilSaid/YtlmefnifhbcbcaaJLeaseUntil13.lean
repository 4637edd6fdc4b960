/- Joined texts of the claim LeaseUntil (part 13): contracts of functions and plain laws. -/
import Derived.Test.YtlmefnifhbcbcaaJLeaseUntil12
section
/- Products in four quarters: what they come to, plain. -/
namespace Go.Proofs.Ytlmefnifhbcbcaa.PAll
open Go.RowKit Go.Proofs.YtlmefnifhbcbcaaW.PrintWords Go.Proofs.Ytlmefnifhbcbcaa
set_option linter.unusedVariables false
/-- A product's four quarters, and their value. -/
def val4 (a b c d : Nat) : Nat := a + b * 4294967296 + c * 18446744073709551616 + d * 79228162514264337593543950336
theorem times_val (a0 a1 b0 b1 p q r u s t v : Nat) (hp : p = a0 * b0) (hq : q = a1 * b0) (hr : r = a0 * b1) (hu : u = a1 * b1) (hs : s = p / 4294967296 + q % 4294967296 + r % 4294967296) (ht : t = s / 4294967296 + q / 4294967296 + r / 4294967296) (hv : v = t + u % 4294967296) :
    val4 (p % 4294967296) (s % 4294967296) (v % 4294967296) (v / 4294967296 + u / 4294967296) = (a0 + a1 * 4294967296) * (b0 + b1 * 4294967296) := by
  have e : (a0 + a1 * 4294967296) * (b0 + b1 * 4294967296) = p + (q + r) * 4294967296 + u * 18446744073709551616 := by
    have e1 : a1 * 4294967296 * b0 = q * 4294967296 := by rw [hq, Nat.mul_right_comm]
    have e2 : a0 * (b1 * 4294967296) = r * 4294967296 := by rw [hr, Nat.mul_assoc]
    have e3 : a1 * 4294967296 * (b1 * 4294967296) = u * 18446744073709551616 := by
      rw [hu, Nat.mul_assoc, Nat.mul_left_comm 4294967296, Nat.mul_assoc a1]
    rw [Nat.add_mul, Nat.mul_add, Nat.mul_add, e1, e2, e3, ← hp]; omega
  rw [e]
  unfold val4
  clear hp hq hr hu e
  omega
theorem more_val (h0 h1 h2 h3 a s t u : Nat) (hs : s = h0 + a % 4294967296) (ht : t = h1 + a / 4294967296 + s / 4294967296) (hu : u = h2 + t / 4294967296) :
    val4 (s % 4294967296) (t % 4294967296) (u % 4294967296) (h3 + u / 4294967296) = val4 h0 h1 h2 h3 + a := by
  unfold val4
  omega
theorem cmp_val {a0 a1 a2 a3 b0 b1 b2 b3 : Nat} (ha0 : a0 < 4294967296) (ha1 : a1 < 4294967296) (ha2 : a2 < 4294967296) (hb0 : b0 < 4294967296) (hb1 : b1 < 4294967296) (hb2 : b2 < 4294967296) :
    (if a3 ≠ b3 then decide (a3 < b3) else if a2 ≠ b2 then decide (a2 < b2) else if a1 ≠ b1 then decide (a1 < b1) else if a0 ≠ b0 then decide (a0 < b0) else true) = decide (val4 a0 a1 a2 a3 ≤ val4 b0 b1 b2 b3) := by
  unfold val4
  split
  · exact decide_eq_decide.2 (by omega)
  · split
    · exact decide_eq_decide.2 (by omega)
    · split
      · exact decide_eq_decide.2 (by omega)
      · split
        · exact decide_eq_decide.2 (by omega)
        · exact (decide_eq_true (by omega)).symm
def wU (x : Int) : Int := IntKind.u64.wrap x
theorem wU_nat {n : Nat} (h : n < 18446744073709551616) : wU (n : Int) = n := by unfold wU; rw [IntKind.wrap_u64]; omega
theorem tdivN (n : Nat) : (n : Int).tdiv 4294967296 = ((n / 4294967296 : Nat) : Int) := rfl
theorem tmodN (n : Nat) : (n : Int).tmod 4294967296 = ((n % 4294967296 : Nat) : Int) := rfl
theorem emodN (n : Nat) : (n : Int) % 4294967296 = ((n % 4294967296 : Nat) : Int) := rfl
def tA (x : Int) : Int := wU (x.tdiv 4294967296)
def tP (x y : Int) : Int := wU (x % 4294967296 * (y % 4294967296))
def tQ (x y : Int) : Int := wU (tA x * (y % 4294967296))
def tR (x y : Int) : Int := wU (x % 4294967296 * tA y)
def tS (x y : Int) : Int := wU (wU (wU ((tP x y).tdiv 4294967296) + (tQ x y).tmod 4294967296) + (tR x y).tmod 4294967296)
def tT (x y : Int) : Int := wU (wU (wU ((tS x y).tdiv 4294967296) + wU ((tQ x y).tdiv 4294967296)) + wU ((tR x y).tdiv 4294967296))
def tU (x y : Int) : Int := wU (tA x * tA y)
def tV (x y : Int) : Int := wU (tT x y + (tU x y).tmod 4294967296)
def tH3 (x y : Int) : Int := wU (wU ((tV x y).tdiv 4294967296) + wU ((tU x y).tdiv 4294967296))
theorem half_le {a b : Nat} (ha : a < 4294967296) (hb : b < 4294967296) : a * b ≤ 18446744065119617025 := by
  have h := Nat.mul_le_mul (Nat.le_of_lt_succ ha) (Nat.le_of_lt_succ hb)
  exact h
theorem times_clean (x y : Nat) (hx : x < 18446744073709551616) (hy : y < 18446744073709551616) : ∃ h0 h1 h2 h3 : Nat, h0 < 4294967296 ∧ h1 < 4294967296 ∧ h2 < 4294967296 ∧ h3 < 4294967296 ∧ val4 h0 h1 h2 h3 = x * y ∧
    (tP x y).tmod 4294967296 = h0 ∧ (tS x y).tmod 4294967296 = h1 ∧ (tV x y).tmod 4294967296 = h2 ∧ tH3 x y = h3 := by
  have hA : ∀ z : Nat, z < 18446744073709551616 → tA z = ((z / 4294967296 : Nat) : Int) := fun z hz => by unfold tA; rw [tdivN, wU_nat (by omega)]
  have ha0 : x % 4294967296 < 4294967296 := Nat.mod_lt _ (by decide)
  have hb0 : y % 4294967296 < 4294967296 := Nat.mod_lt _ (by decide)
  have ha1 : x / 4294967296 < 4294967296 := by omega
  have hb1 : y / 4294967296 < 4294967296 := by omega
  have h := times_val (x % 4294967296) (x / 4294967296) (y % 4294967296) (y / 4294967296) _ _ _ _ _ _ _ rfl rfl rfl rfl rfl rfl rfl
  rw [show x % 4294967296 + x / 4294967296 * 4294967296 = x by omega, show y % 4294967296 + y / 4294967296 * 4294967296 = y by omega] at h
  have bp := half_le ha0 hb0
  have bq := half_le ha1 hb0
  have br := half_le ha0 hb1
  have bu := half_le ha1 hb1
  have hxy : x * y < 340282366920938463463374607431768211456 := by
    rcases Nat.eq_zero_or_pos y with e | e
    · subst e; rw [Nat.mul_zero]; decide
    · exact Nat.lt_of_lt_of_le (Nat.mul_lt_mul_of_pos_right hx e) (Nat.le_trans (Nat.mul_le_mul_left _ (Nat.le_of_lt hy)) (by decide))
  have eP : tP x y = ((x % 4294967296 * (y % 4294967296) : Nat) : Int) := by unfold tP; rw [emodN, emodN, ← Int.natCast_mul, wU_nat (by omega)]
  have eQ : tQ x y = ((x / 4294967296 * (y % 4294967296) : Nat) : Int) := by unfold tQ; rw [emodN, hA x hx, ← Int.natCast_mul, wU_nat (by omega)]
  have eR : tR x y = ((x % 4294967296 * (y / 4294967296) : Nat) : Int) := by unfold tR; rw [emodN, hA y hy, ← Int.natCast_mul, wU_nat (by omega)]
  have eU : tU x y = ((x / 4294967296 * (y / 4294967296) : Nat) : Int) := by unfold tU; rw [hA x hx, hA y hy, ← Int.natCast_mul, wU_nat (by omega)]
  generalize x % 4294967296 * (y % 4294967296) = p at *
  generalize x / 4294967296 * (y % 4294967296) = q at *
  generalize x % 4294967296 * (y / 4294967296) = r at *
  generalize x / 4294967296 * (y / 4294967296) = u at *
  have eS : tS x y = ((p / 4294967296 + q % 4294967296 + r % 4294967296 : Nat) : Int) := by
    unfold tS; rw [eP, eQ, eR, tdivN, tmodN, tmodN, wU_nat (by omega), ← Int.natCast_add, wU_nat (by omega), ← Int.natCast_add, wU_nat (by omega)]
  generalize hs : p / 4294967296 + q % 4294967296 + r % 4294967296 = s at *
  have eT : tT x y = ((s / 4294967296 + q / 4294967296 + r / 4294967296 : Nat) : Int) := by
    unfold tT; rw [eS, eQ, eR, tdivN, tdivN, tdivN, wU_nat (by omega), wU_nat (by omega), wU_nat (by omega), ← Int.natCast_add, wU_nat (by omega), ← Int.natCast_add, wU_nat (by omega)]
  generalize ht : s / 4294967296 + q / 4294967296 + r / 4294967296 = t at *
  have eV : tV x y = ((t + u % 4294967296 : Nat) : Int) := by
    unfold tV; rw [eT, eU, tmodN, ← Int.natCast_add, wU_nat (by omega)]
  generalize hv : t + u % 4294967296 = v at *
  have eH : tH3 x y = ((v / 4294967296 + u / 4294967296 : Nat) : Int) := by
    unfold tH3; rw [eV, eU, tdivN, tdivN, wU_nat (by omega), wU_nat (by omega), ← Int.natCast_add, wU_nat (by omega)]
  refine ⟨p % 4294967296, s % 4294967296, v % 4294967296, v / 4294967296 + u / 4294967296, Nat.mod_lt _ (by decide), Nat.mod_lt _ (by decide), Nat.mod_lt _ (by decide), ?_, h, by rw [eP, tmodN], by rw [eS, tmodN], by rw [eV, tmodN], eH⟩
  unfold val4 at h
  omega
def mS (h0 a : Int) : Int := wU (h0 + a % 4294967296)
def mT (h0 h1 a : Int) : Int := wU (wU (h1 + tA a) + wU ((mS h0 a).tdiv 4294967296))
def mU (h0 h1 h2 a : Int) : Int := wU (h2 + wU ((mT h0 h1 a).tdiv 4294967296))
def mH3 (h0 h1 h2 h3 a : Int) : Int := wU (h3 + wU ((mU h0 h1 h2 a).tdiv 4294967296))
theorem more_clean (h0 h1 h2 h3 a : Nat) (b0 : h0 < 4294967296) (b1 : h1 < 4294967296) (b2 : h2 < 4294967296) (b3 : h3 < 4294967296) (ha : a < 18446744073709551616) (hv : val4 h0 h1 h2 h3 + a < 340282366920938463463374607431768211456) : ∃ g0 g1 g2 g3 : Nat, g0 < 4294967296 ∧ g1 < 4294967296 ∧ g2 < 4294967296 ∧ g3 < 4294967296 ∧ val4 g0 g1 g2 g3 = val4 h0 h1 h2 h3 + a ∧
    (mS h0 a).tmod 4294967296 = g0 ∧ (mT h0 h1 a).tmod 4294967296 = g1 ∧ (mU h0 h1 h2 a).tmod 4294967296 = g2 ∧ mH3 h0 h1 h2 h3 a = g3 := by
  have h := more_val h0 h1 h2 h3 a _ _ _ rfl rfl rfl
  have eS : mS h0 a = ((h0 + a % 4294967296 : Nat) : Int) := by unfold mS; rw [emodN, ← Int.natCast_add, wU_nat (by omega)]
  generalize hs : h0 + a % 4294967296 = s at *
  have eT : mT h0 h1 a = ((h1 + a / 4294967296 + s / 4294967296 : Nat) : Int) := by
    unfold mT tA; rw [eS, tdivN, tdivN, wU_nat (by omega), wU_nat (by omega), ← Int.natCast_add, wU_nat (by omega), ← Int.natCast_add, wU_nat (by omega)]
  generalize ht : h1 + a / 4294967296 + s / 4294967296 = t at *
  have eU : mU h0 h1 h2 a = ((h2 + t / 4294967296 : Nat) : Int) := by
    unfold mU; rw [eT, tdivN, wU_nat (by omega), ← Int.natCast_add, wU_nat (by omega)]
  generalize hu : h2 + t / 4294967296 = u at *
  have eH : mH3 h0 h1 h2 h3 a = ((h3 + u / 4294967296 : Nat) : Int) := by
    unfold mH3; rw [eU, tdivN, wU_nat (by omega), ← Int.natCast_add, wU_nat (by omega)]
  refine ⟨s % 4294967296, t % 4294967296, u % 4294967296, h3 + u / 4294967296, Nat.mod_lt _ (by decide), Nat.mod_lt _ (by decide), Nat.mod_lt _ (by decide), ?_, h, by rw [eS, tmodN], by rw [eT, tmodN], by rw [eU, tmodN], eH⟩
  rw [← h] at hv
  unfold val4 at hv
  omega
end Go.Proofs.Ytlmefnifhbcbcaa.PAll
end
