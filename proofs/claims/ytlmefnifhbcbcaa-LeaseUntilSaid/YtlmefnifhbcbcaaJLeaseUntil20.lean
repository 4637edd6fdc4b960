/- Joined texts of the claim LeaseUntil (part 20): contracts of functions and plain laws. -/
import Derived.Test.YtlmefnifhbcbcaaJLeaseUntil19
section
/- The document's Within, walked. -/
namespace Go.Proofs.Ytlmefnifhbcbcaa.PAll
open Go.RowKit Go.Proofs.YtlmefnifhbcbcaaW.PrintWords Go.Proofs.YtlmefnifhbcbcaaW.PrintMore Go.Proofs.Ytlmefnifhbcbcaa
set_option linter.unusedVariables false
/-- v is the product in quarters whose value is n. -/
def IsH (v : Value) (n : Nat) : Prop := ∃ h0 h1 h2 h3 : Nat, h0 < 4294967296 ∧ h1 < 4294967296 ∧ h2 < 4294967296 ∧ h3 < 4294967296 ∧ val4 h0 h1 h2 h3 = n ∧ v = half4 h0 h1 h2 h3
theorem rtimes_h (x y : Nat) (hx : x < 18446744073709551616) (hy : y < 18446744073709551616) (w : World) :
    Calls Try.prog 50 #[.int .u64 x, .int .u64 y] w fun e w' => (∃ h0 h1 h2 h3 : Int, e = .returned (.agg #[.int .u64 h0, .int .u64 h1, .int .u64 h2, .int .u64 h3]) ∧ IsH (half4 h0 h1 h2 h3) (x * y)) ∧ Below w.heap.size w w' :=
  (rtimes_calls x y hx hy w).mono fun e w' ⟨⟨h0, h1, h2, h3, b0, b1, b2, b3, hv, he⟩, hb⟩ => ⟨⟨h0, h1, h2, h3, he, ⟨h0, h1, h2, h3, b0, b1, b2, b3, hv, rfl⟩⟩, hb⟩
theorem half4_inj {a b c d a' b' c' d' : Int} (h : half4 a b c d = half4 a' b' c' d') : a = a' ∧ b = b' ∧ c = c' ∧ d = d' := by
  unfold half4 at h; simp at h; exact h
theorem rmore_h {h0 h1 h2 h3 : Int} {n : Nat} (a : Nat) (h : IsH (half4 h0 h1 h2 h3) n) (ha : a < 18446744073709551616) (hv : n + a < 340282366920938463463374607431768211456) (w : World) :
    Calls Try.prog 52 #[.agg #[.int .u64 h0, .int .u64 h1, .int .u64 h2, .int .u64 h3], .int .u64 a] w fun e w' => (∃ g0 g1 g2 g3 : Int, e = .returned (.agg #[.int .u64 g0, .int .u64 g1, .int .u64 g2, .int .u64 g3]) ∧ IsH (half4 g0 g1 g2 g3) (n + a)) ∧ Below w.heap.size w w' := by
  obtain ⟨a0, a1, a2, a3, b0, b1, b2, b3, rfl, he⟩ := h
  obtain ⟨rfl, rfl, rfl, rfl⟩ := half4_inj he
  exact (rmore_calls a0 a1 a2 a3 a b0 b1 b2 b3 ha hv w).mono fun e w' ⟨⟨h0, h1, h2, h3, b0, b1, b2, b3, hv, he⟩, hb⟩ => ⟨⟨h0, h1, h2, h3, he, ⟨h0, h1, h2, h3, b0, b1, b2, b3, hv, rfl⟩⟩, hb⟩
theorem most4_val {a0 a1 a2 a3 b0 b1 b2 b3 : Nat} (ha0 : a0 < 4294967296) (ha1 : a1 < 4294967296) (ha2 : a2 < 4294967296) (hb0 : b0 < 4294967296) (hb1 : b1 < 4294967296) (hb2 : b2 < 4294967296) :
    most4 a0 a1 a2 a3 b0 b1 b2 b3 = decide (val4 a0 a1 a2 a3 ≤ val4 b0 b1 b2 b3) := by
  rw [← cmp_val ha0 ha1 ha2 hb0 hb1 hb2]
  unfold most4
  simp only [ne_eq, Int.natCast_inj, Int.ofNat_lt]
theorem rmost_h {a0 a1 a2 a3 b0 b1 b2 b3 : Int} {n m : Nat} (ha : IsH (half4 a0 a1 a2 a3) n) (hb : IsH (half4 b0 b1 b2 b3) m) (w : World) :
    Calls Try.prog 51 #[.agg #[.int .u64 a0, .int .u64 a1, .int .u64 a2, .int .u64 a3], .agg #[.int .u64 b0, .int .u64 b1, .int .u64 b2, .int .u64 b3]] w fun e w' => e = .returned (.bool (decide (n ≤ m))) ∧ Below w.heap.size w w' := by
  obtain ⟨c0, c1, c2, c3, p0, p1, p2, p3, rfl, he⟩ := ha
  obtain ⟨rfl, rfl, rfl, rfl⟩ := half4_inj he
  obtain ⟨d0, d1, d2, d3, q0, q1, q2, q3, rfl, he⟩ := hb
  obtain ⟨rfl, rfl, rfl, rfl⟩ := half4_inj he
  have := rmost_calls c0 c1 c2 c3 d0 d1 d2 d3 w
  rw [most4_val p0 p1 p2 q0 q1 q2] at this
  exact this
theorem keep4 {n : Nat} {a b c d : Value} {w W w' : World} (h : W.cell? ⟨n, 0, none⟩ = some a ∧ W.cell? ⟨n, 1, none⟩ = some b ∧ W.cell? ⟨n, 2, none⟩ = some c ∧ W.cell? ⟨n, 3, none⟩ = some d ∧ Below w.heap.size w W) (hb : Below W.heap.size W w') : w'.cell? ⟨n, 0, none⟩ = some a ∧ w'.cell? ⟨n, 1, none⟩ = some b ∧ w'.cell? ⟨n, 2, none⟩ = some c ∧ w'.cell? ⟨n, 3, none⟩ = some d ∧ Below w.heap.size w w' :=
  ⟨(hb.cell (World.block_lt_of_cell? _ _ h.1)).trans h.1, (hb.cell (World.block_lt_of_cell? _ _ h.2.1)).trans h.2.1, (hb.cell (World.block_lt_of_cell? _ _ h.2.2.1)).trans h.2.2.1, (hb.cell (World.block_lt_of_cell? _ _ h.2.2.2.1)).trans h.2.2.2.1, h.2.2.2.2.trans (hb.mono h.2.2.2.2.size)⟩
end Go.Proofs.Ytlmefnifhbcbcaa.PAll
end
