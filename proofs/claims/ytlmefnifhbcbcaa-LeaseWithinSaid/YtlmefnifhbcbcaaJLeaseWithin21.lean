/- Joined texts of the claim LeaseWithin (part 21): contracts of functions and plain laws. -/
import Derived.Test.YtlmefnifhbcbcaaJLeaseWithin20
section
/- The document's Within, walked. -/
namespace Go.Proofs.Ytlmefnifhbcbcaa.PAll
open Go.RowKit Go.Proofs.YtlmefnifhbcbcaaW.PrintWords Go.Proofs.YtlmefnifhbcbcaaW.PrintMore Go.Proofs.Ytlmefnifhbcbcaa
set_option linter.unusedVariables false
/-- v is the product in quarters whose value is n. -/
def IsH (v : Value) (n : Nat) : Prop := ∃ h0 h1 h2 h3 : Nat, h0 < 4294967296 ∧ h1 < 4294967296 ∧ h2 < 4294967296 ∧ h3 < 4294967296 ∧ val4 h0 h1 h2 h3 = n ∧ v = half4 h0 h1 h2 h3
theorem rtimes_h (x y : Nat) (hx : x < 18446744073709551616) (hy : y < 18446744073709551616) (w : World) :
    Calls Try.prog 50 #[.int .u64 x, .int .u64 y] w fun e w' => (∃ h0 h1 h2 h3 : Int, e = .returned (.agg #[.int .u64 h0, .int .u64 h1, .int .u64 h2, .int .u64 h3]) ∧ IsH (half4 h0 h1 h2 h3) (x * y)) ∧ Below w.heap.size w w' :=
  (rtimes_calls x y hx hy w).mono fun e w' ⟨⟨h0, h1, h2, h3, b0, b1, b2, b3, hv, he⟩, hb⟩ => ⟨⟨h0, h1, h2, h3, he, ⟨h0, h1, h2, h3, b0, b1, b2, b3, hv, rfl⟩⟩, hb⟩
theorem half4_inj {a b c d a' b' c' d' : Int} (h : half4 a b c d = half4 a' b' c' d') : a = a' ∧ b = b' ∧ c = c' ∧ d = d' := by
  unfold half4 at h; simp at h; exact h
theorem rmore_h {h0 h1 h2 h3 : Int} {n : Nat} (a : Nat) (h : IsH (half4 h0 h1 h2 h3) n) (ha : a < 18446744073709551616) (hv : n + a < 340282366920938463463374607431768211456) (w : World) :
    Calls Try.prog 52 #[.agg #[.int .u64 h0, .int .u64 h1, .int .u64 h2, .int .u64 h3], .int .u64 a] w fun e w' => (∃ g0 g1 g2 g3 : Int, e = .returned (.agg #[.int .u64 g0, .int .u64 g1, .int .u64 g2, .int .u64 g3]) ∧ IsH (half4 g0 g1 g2 g3) (n + a)) ∧ Below w.heap.size w w' := by
  obtain ⟨a0, a1, a2, a3, b0, b1, b2, b3, rfl, he⟩ := h
  obtain ⟨rfl, rfl, rfl, rfl⟩ := half4_inj he
  exact (rmore_calls a0 a1 a2 a3 a b0 b1 b2 b3 ha hv w).mono fun e w' ⟨⟨h0, h1, h2, h3, b0, b1, b2, b3, hv, he⟩, hb⟩ => ⟨⟨h0, h1, h2, h3, he, ⟨h0, h1, h2, h3, b0, b1, b2, b3, hv, rfl⟩⟩, hb⟩
theorem most4_val {a0 a1 a2 a3 b0 b1 b2 b3 : Nat} (ha0 : a0 < 4294967296) (ha1 : a1 < 4294967296) (ha2 : a2 < 4294967296) (hb0 : b0 < 4294967296) (hb1 : b1 < 4294967296) (hb2 : b2 < 4294967296) :
    most4 a0 a1 a2 a3 b0 b1 b2 b3 = decide (val4 a0 a1 a2 a3 ≤ val4 b0 b1 b2 b3) := by
  rw [← cmp_val ha0 ha1 ha2 hb0 hb1 hb2]
  unfold most4
  simp only [ne_eq, Int.natCast_inj, Int.ofNat_lt]
theorem rmost_h {a0 a1 a2 a3 b0 b1 b2 b3 : Int} {n m : Nat} (ha : IsH (half4 a0 a1 a2 a3) n) (hb : IsH (half4 b0 b1 b2 b3) m) (w : World) :
    Calls Try.prog 51 #[.agg #[.int .u64 a0, .int .u64 a1, .int .u64 a2, .int .u64 a3], .agg #[.int .u64 b0, .int .u64 b1, .int .u64 b2, .int .u64 b3]] w fun e w' => e = .returned (.bool (decide (n ≤ m))) ∧ Below w.heap.size w w' := by
  obtain ⟨c0, c1, c2, c3, p0, p1, p2, p3, rfl, he⟩ := ha
  obtain ⟨rfl, rfl, rfl, rfl⟩ := half4_inj he
  obtain ⟨d0, d1, d2, d3, q0, q1, q2, q3, rfl, he⟩ := hb
  obtain ⟨rfl, rfl, rfl, rfl⟩ := half4_inj he
  have := rmost_calls c0 c1 c2 c3 d0 d1 d2 d3 w
  rw [most4_val p0 p1 p2 q0 q1 q2] at this
  exact this
def inN (real loc d : Nat) : Bool := decide (2 ≤ d) && (decide (real * (d - 1) ≤ loc * d) && decide (loc * d ≤ real * d + real))
theorem keep4 {n : Nat} {a b c d : Value} {w W w' : World} (h : W.cell? ⟨n, 0, none⟩ = some a ∧ W.cell? ⟨n, 1, none⟩ = some b ∧ W.cell? ⟨n, 2, none⟩ = some c ∧ W.cell? ⟨n, 3, none⟩ = some d ∧ Below w.heap.size w W) (hb : Below W.heap.size W w') : w'.cell? ⟨n, 0, none⟩ = some a ∧ w'.cell? ⟨n, 1, none⟩ = some b ∧ w'.cell? ⟨n, 2, none⟩ = some c ∧ w'.cell? ⟨n, 3, none⟩ = some d ∧ Below w.heap.size w w' :=
  ⟨(hb.cell (World.block_lt_of_cell? _ _ h.1)).trans h.1, (hb.cell (World.block_lt_of_cell? _ _ h.2.1)).trans h.2.1, (hb.cell (World.block_lt_of_cell? _ _ h.2.2.1)).trans h.2.2.1, (hb.cell (World.block_lt_of_cell? _ _ h.2.2.2.1)).trans h.2.2.2.1, h.2.2.2.2.trans (hb.mono h.2.2.2.2.size)⟩
def ferruleref10_Within.f (a0 a1 a2 : Int) : Option Bool := if (0 ≤ a0 ∧ a0 < 18446744073709551616) ∧ (0 ≤ a1 ∧ a1 < 18446744073709551616) ∧ (0 ≤ a2 ∧ a2 < 18446744073709551616) then some (inN a0.toNat a1.toNat a2.toNat) else none
set_option maxHeartbeats 4000000 in
set_option maxRecDepth 100000 in
theorem rwithin_calls (real loc d : Nat) (hr : real < 18446744073709551616) (hl : loc < 18446744073709551616) (hd : d < 18446744073709551616) (w : World) : Calls Try.prog 25 #[.int .u64 real, .int .u64 loc, .int .u64 d] w fun e w' => e = .returned (.bool (inN real loc d)) ∧ Below w.heap.size w w' := by
  by_cases c : d < 2
  · have cz : (d : Int) < 2 := by omega
    have HV : Aside0 (inN real loc d = false) := ⟨by unfold inN; rw [decide_eq_false (by omega)]; rfl⟩
    clear hr hl hd c
    go_enter Try.func25, Try.ntmps25
    go_wp2
    go_ret
    exact ⟨ret_b3 HV.out.symm, Below.refl _ _⟩
  · have hz : ¬ (d : Int) < 2 := by omega
    have hw : IntKind.u64.wrap ((d : Int) - 1) = (d : Int) - 1 := by rw [IntKind.wrap_u64]; omega
    have HT1 := Aside0.mk (fun W => rtimes_h loc d hl hd W)
    have HT2 := Aside0.mk (fun W => rtimes_h real (d - 1) hr (by omega) W)
    rw [show ((d - 1 : Nat) : Int) = (d : Int) - 1 by omega] at HT2
    have HT3 := Aside0.mk (fun W => rtimes_h real d hr hd W)
    have hbig : real * d + real < 340282366920938463463374607431768211456 := by
      have h1 : real * d ≤ 18446744073709551615 * 18446744073709551615 := Nat.mul_le_mul (by omega) (by omega)
      omega
    have HBIG := Aside0.mk hbig
    have HR := Aside0.mk hr
    have HV : Aside0 (inN real loc d = (decide (real * (d - 1) ≤ loc * d) && decide (loc * d ≤ real * d + real))) := ⟨by unfold inN; rw [decide_eq_true (show 2 ≤ d by omega), Bool.true_and]⟩
    have HM1 := Aside0.mk (fun (a0 a1 a2 a3 b0 b1 b2 b3 : Int) (ha : IsH (half4 a0 a1 a2 a3) (real * (d - 1))) (hb : IsH (half4 b0 b1 b2 b3) (loc * d)) W => rmost_h ha hb W)
    have HM2 := Aside0.mk (fun (a0 a1 a2 a3 b0 b1 b2 b3 : Int) (ha : IsH (half4 a0 a1 a2 a3) (loc * d)) (hb : IsH (half4 b0 b1 b2 b3) (real * d + real)) W => rmost_h ha hb W)
    have HMO := Aside0.mk (fun (a0 a1 a2 a3 : Int) (ha : IsH (half4 a0 a1 a2 a3) (real * d)) W => rmore_h real ha hr hbig W)
    generalize inN real loc d = res at *
    generalize decide (real * (d - 1) ≤ loc * d) = b1 at *
    generalize decide (loc * d ≤ real * d + real) = b2 at *
    generalize real * d + real = n4 at *
    generalize real * (d - 1) = n2 at *
    generalize real * d = n3 at *
    generalize loc * d = n1 at *
    clear hr hl hd hbig c
    go_enter Try.func25, Try.ntmps25
    go_wp2_with (go_at_call 50; refine (HT1.out _).mono ?_; rintro e w1 ⟨⟨h0, h1, h2, h3, rfl, hH⟩, hb1⟩; have HB1 := Aside0.mk hb1; have HH := Aside0.mk hH; clear hb1 hH)
    have hS0 : (w1.alloc (.cells #[.int .u64 h0, .int .u64 h1, .int .u64 h2, .int .u64 h3] 84)).cell? ⟨w1.heap.size, 0, none⟩ = some (.int .u64 h0) ∧ (w1.alloc (.cells #[.int .u64 h0, .int .u64 h1, .int .u64 h2, .int .u64 h3] 84)).cell? ⟨w1.heap.size, 1, none⟩ = some (.int .u64 h1) ∧ (w1.alloc (.cells #[.int .u64 h0, .int .u64 h1, .int .u64 h2, .int .u64 h3] 84)).cell? ⟨w1.heap.size, 2, none⟩ = some (.int .u64 h2) ∧ (w1.alloc (.cells #[.int .u64 h0, .int .u64 h1, .int .u64 h2, .int .u64 h3] 84)).cell? ⟨w1.heap.size, 3, none⟩ = some (.int .u64 h3) ∧ Below w.heap.size w (w1.alloc (.cells #[.int .u64 h0, .int .u64 h1, .int .u64 h2, .int .u64 h3] 84)) :=
      ⟨cell_row (cs := [.int .u64 h0, .int .u64 h1, .int .u64 h2, .int .u64 h3]) (heap_alloc_new w1 _) 0, cell_row (cs := [.int .u64 h0, .int .u64 h1, .int .u64 h2, .int .u64 h3]) (heap_alloc_new w1 _) 1, cell_row (cs := [.int .u64 h0, .int .u64 h1, .int .u64 h2, .int .u64 h3]) (heap_alloc_new w1 _) 2, cell_row (cs := [.int .u64 h0, .int .u64 h1, .int .u64 h2, .int .u64 h3]) (heap_alloc_new w1 _) 3, HB1.out.alloc HB1.out.size _⟩
    generalize w1.alloc (.cells #[.int .u64 h0, .int .u64 h1, .int .u64 h2, .int .u64 h3] 84) = W1 at *
    go_region_held3 (fun w' => w'.cell? ⟨w1.heap.size, 0, none⟩ = some (.int .u64 h0) ∧ w'.cell? ⟨w1.heap.size, 1, none⟩ = some (.int .u64 h1) ∧ w'.cell? ⟨w1.heap.size, 2, none⟩ = some (.int .u64 h2) ∧ w'.cell? ⟨w1.heap.size, 3, none⟩ = some (.int .u64 h3) ∧ Below w.heap.size w w') (first | exact keep4 (by assumption) (by assumption) | exact keep4 (by assumption) ((Below.refl _ _).drew))
      (first
        | (go_at_call 50; with_reducible refine (HT2.out _).mono ?_; rintro e w' ⟨⟨g0, g1, g2, g3, rfl, hG⟩, hb⟩; have HG2 := Aside0.mk hG; clear hG)
        | (go_at_call 51; with_reducible refine (HM1.out _ _ _ _ _ _ _ _ HG2.out HH.out _).mono ?_; rintro e w' ⟨rfl, hb⟩))
    go_wp2
    go_region_held3 (fun w' => w'.cell? ⟨w1.heap.size, 0, none⟩ = some (.int .u64 h0) ∧ w'.cell? ⟨w1.heap.size, 1, none⟩ = some (.int .u64 h1) ∧ w'.cell? ⟨w1.heap.size, 2, none⟩ = some (.int .u64 h2) ∧ w'.cell? ⟨w1.heap.size, 3, none⟩ = some (.int .u64 h3) ∧ Below w.heap.size w w') (first | exact keep4 (by assumption) (by assumption) | exact keep4 (by assumption) ((Below.refl _ _).drew))
      (first
        | (go_at_call 50; with_reducible refine (HT3.out _).mono ?_; rintro e w' ⟨⟨g0, g1, g2, g3, rfl, hG⟩, hb⟩; have HG3 := Aside0.mk hG; clear hG)
        | (go_at_call 52; with_reducible refine (HMO.out _ _ _ _ HG3.out _).mono ?_; rintro e w' ⟨⟨k0, k1, k2, k3, rfl, hK⟩, hb⟩; have HG4 := Aside0.mk hK; clear hK)
        | (go_at_call 51; with_reducible refine (HM2.out _ _ _ _ _ _ _ _ HH.out HG4.out _).mono ?_; rintro e w' ⟨rfl, hb⟩))
    cases b1
    all_goals
      go_wp2
      go_ret
      exact ⟨ret_b3 (by rw [HV.out]; rfl), (by assumption : _ ∧ _ ∧ _ ∧ _ ∧ Below w.heap.size w _).2.2.2.2⟩
theorem ferruleref10_Within.calls (a0 a1 a2 : Int) (r : Bool) (w : World) (h : ferruleref10_Within.f a0 a1 a2 = some r) : Calls Try.prog 25 #[.int .u64 a0, .int .u64 a1, .int .u64 a2] w fun e w' => e = .returned (.bool r) ∧ Below w.heap.size w w' := by
  unfold ferruleref10_Within.f at h
  split at h
  case isFalse => cases h
  rename_i hg
  obtain ⟨⟨h0, h1⟩, ⟨h2, h3⟩, h4, h5⟩ := hg
  obtain rfl := Option.some.inj h
  have := rwithin_calls a0.toNat a1.toNat a2.toNat (by omega) (by omega) (by omega) w
  rwa [Int.toNat_of_nonneg h0, Int.toNat_of_nonneg h2, Int.toNat_of_nonneg h4] at this
end Go.Proofs.Ytlmefnifhbcbcaa.PAll
end
