/- Joined texts of the claim LeaseMost (part 20): contracts of functions and plain laws. -/
import Derived.Outline
import Derived.Test.YtlmefnifhbcbcaaJLeaseMost17
import Derived.Test.YtlmefnifhbcbcaaJLeaseMost18
import Derived.Test.YtlmefnifhbcbcaaJLeaseMost19
section
/- math/bits.Div64, walked. -/
namespace Go.Proofs.Ytlmefnifhbcbcaa.PAll
open Go.RowKit Go.Proofs.YtlmefnifhbcbcaaW.PrintWords Go.Proofs.YtlmefnifhbcbcaaW.PrintMore Go.Proofs.Ytlmefnifhbcbcaa
set_option linter.unusedVariables false
theorem wrapN64 {x : Int} {n : Nat} (h : x = (n : Int)) (hn : n < 18446744073709551616) : IntKind.u64.wrap x = (n : Int) := by subst h; exact wU_nat hn
theorem andN (n : Nat) (h : n < 18446744073709551616) : bits .and .u64 (n : Int) 4294967295 = ((n % 4294967296 : Nat) : Int) := by
  have := u64_and_nat n 4294967295 h (by decide)
  rw [show ((4294967295 : Nat) : Int) = 4294967295 from rfl] at this
  rw [this, show (4294967295 : Nat) = 2 ^ 32 - 1 from rfl, Nat.and_two_pow_sub_one_eq_mod]
theorem castMul (y s : Nat) : (y : Int) * 2 ^ s = ((y * 2 ^ s : Nat) : Int) := by rw [Int.natCast_mul, Int.natCast_pow]; rfl
theorem castDiv (y s : Nat) : (y : Int) / 2 ^ s = ((y / 2 ^ s : Nat) : Int) := by rw [Int.natCast_ediv, Int.natCast_pow]; rfl
theorem castEmod (y s : Nat) : ((y : Int) * 2 ^ s) % 18446744073709551616 = ((y * 2 ^ s % 18446744073709551616 : Nat) : Int) := by rw [castMul]; rfl
theorem un21_eq {u v q Y : Nat} (h : q * Y ≤ u * 4294967296 + v) (hr : u * 4294967296 + v - q * Y < 18446744073709551616) : IntKind.u64.wrap (IntKind.u64.wrap (IntKind.u64.wrap ((u : Int) * 4294967296) + (v : Int)) - IntKind.u64.wrap ((q : Int) * (Y : Int))) = ((u * 4294967296 + v - q * Y : Nat) : Int) := by
  rw [← Int.natCast_mul]
  generalize q * Y = b at *
  simp only [IntKind.wrap_u64]
  omega
theorem quo_eq {a b : Nat} (ha : a < 18446744073709551616) : IntKind.u64.wrap ((a : Int) / (b : Int)) = ((a / b : Nat) : Int) := wrapN64 (by rw [← Int.natCast_ediv]) (Nat.lt_of_le_of_lt (Nat.div_le_self _ _) ha)
theorem wU_natx {n : Nat} (h : n < 18446744073709551616) : IntKind.u64.wrap (n : Int) = n := wU_nat h
theorem rem_eq {a b : Nat} (ha : a < 18446744073709551616) : IntKind.u64.wrap ((a : Int) - IntKind.u64.wrap (((a / b : Nat) : Int) * (b : Int))) = ((a % b : Nat) : Int) := by
  have h1 := Nat.div_add_mod a b
  rw [Nat.mul_comm] at h1
  rw [← Int.natCast_mul]
  generalize a / b * b = c at *
  rw [wU_natx (n := c) (by omega)]
  exact wrapN64 (by omega) (by omega)
set_option maxHeartbeats 8000000 in
set_option maxRecDepth 100000 in
theorem div64_big (hi lo y s Y y1 y0 H L1 u32 u10 u1 u0 Q1 U21 Q0 QQ : Nat)
    (hY : Y = y * 2 ^ s) (hYb : Y < 18446744073709551616) (hYl : 9223372036854775808 ≤ Y) (hy1 : y1 = Y / 4294967296) (hy0 : y0 = Y % 4294967296) (hs : s ≤ 63)
    (hu32 : u32 = hi * 2 ^ s + lo / 2 ^ (64 - s)) (hult : u32 < Y) (hu10 : u10 = lo * 2 ^ s % 18446744073709551616) (hu1 : u1 = u10 / 4294967296) (hu0 : u0 = u10 % 4294967296)
    (hQ1 : Q1 = (u32 * 4294967296 + u1) / Y) (hU21 : U21 = (u32 * 4294967296 + u1) % Y) (hQ0 : Q0 = (U21 * 4294967296 + u0) / Y) (hQQ : QQ = Q1 * 4294967296 + Q0)
    (h1 : 0 < hi) (h2 : hi < y) (hl : lo < 18446744073709551616) (hy : y < 18446744073709551616) (hH : H = hi * 2 ^ s) (hL1 : L1 = lo / 2 ^ (64 - s))
    (hf : bits_LeadingZeros64.f (y : Int) = some (s : Int)) (w : World) :
    Calls Try.prog 49 #[.int .u64 hi, .int .u64 lo, .int .u64 y] w fun e w' => (∃ r : Int, e = .returned (.tuple #[.int .u64 (QQ : Int), .int .u64 r])) ∧ Below w.heap.size w w' := by
  have HF := Aside0.mk hf
  have z1 : (0 : Int) < (hi : Int) := by omega
  have z2 : (hi : Int) < (y : Int) := by omega
  have z3 : (s : Int) ≤ 63 := by omega
  have z4 : (0 : Int) ≤ (s : Int) := by omega
  have z5 : ¬ (hi : Int) = 0 := by omega
  have hy1b : 2147483648 ≤ y1 ∧ y1 < 4294967296 := by omega
  have hy0b : y0 < 4294967296 := by omega
  have hu10b : u10 < 18446744073709551616 := by rw [hu10]; exact Nat.mod_lt _ (by decide)
  have hu1b : u1 < 4294967296 := by omega
  have hu0b : u0 < 4294967296 := by omega
  have hYe : y1 * 4294967296 + y0 = Y := by omega
  have hlow := low_lt hs hl
  have hU21b : U21 < Y := by rw [hU21]; exact Nat.mod_lt _ (by omega)
  have hQ1b : Q1 < 4294967296 := by rw [hQ1]; exact (Nat.div_lt_iff_lt_mul (by omega)).2 (by omega)
  have hQ0b : Q0 < 4294967296 := by rw [hQ0]; exact (Nat.div_lt_iff_lt_mul (by omega)).2 (by omega)
  have e1 : IntKind.u64.wrap ((y : Int) * 2 ^ s) = (Y : Int) := wrapN64 (by rw [hY]; exact castMul _ _) hYb
  have e2 : (Y : Int) / 4294967296 = (y1 : Int) := by rw [hy1]; rfl
  have e3 : bits .and .u64 (Y : Int) 4294967295 = (y0 : Int) := by rw [andN _ hYb, hy0]
  have e4 : IntKind.u64.wrap ((hi : Int) * 2 ^ s) = (H : Int) := wrapN64 (by rw [hH]; exact castMul _ _) (by omega)
  have e4b : (lo : Int) / 2 ^ (64 - s) = (L1 : Int) := by rw [hL1]; exact castDiv _ _
  have e5 : bits .or .u64 (H : Int) (L1 : Int) = (u32 : Int) := by
    rw [u64_or_nat H L1 (by omega) (by omega), hH, hL1, or_add_lt hlow, hu32]
  have e6 : IntKind.u64.wrap ((lo : Int) * 2 ^ s) = (u10 : Int) := by
    rw [IntKind.wrap_u64, hu10]; exact castEmod _ _
  have e7 : (u10 : Int) / 4294967296 = (u1 : Int) := by rw [hu1]; rfl
  have e8 : bits .and .u64 (u10 : Int) 4294967295 = (u0 : Int) := by rw [andN _ hu10b, hu0]
  have e9 : IntKind.u64.wrap ((u32 : Int) / (y1 : Int)) = ((u32 / y1 : Nat) : Int) := quo_eq (by omega)
  have e10 : IntKind.u64.wrap ((u32 : Int) - IntKind.u64.wrap (((u32 / y1 : Nat) : Int) * (y1 : Int))) = ((u32 % y1 : Nat) : Int) := rem_eq (by omega)
  have z6 : ¬ (y1 : Int) = 0 := by omega
  have z7 : (0 : Int) < (y1 : Int) := by omega
  have e13 : IntKind.u64.wrap (IntKind.u64.wrap (IntKind.u64.wrap ((u32 : Int) * 4294967296) + (u1 : Int)) - IntKind.u64.wrap ((Q1 : Int) * (Y : Int))) = (U21 : Int) := by
    have hd := Nat.div_add_mod (u32 * 4294967296 + u1) Y
    rw [Nat.mul_comm, ← hQ1, ← hU21] at hd
    have e : U21 = u32 * 4294967296 + u1 - Q1 * Y := by omega
    rw [un21_eq (by omega) (by omega), ← e]
  have e14 : IntKind.u64.wrap ((U21 : Int) / (y1 : Int)) = ((U21 / y1 : Nat) : Int) := quo_eq (by omega)
  have e15 : IntKind.u64.wrap ((U21 : Int) - IntKind.u64.wrap (((U21 / y1 : Nat) : Int) * (y1 : Int))) = ((U21 % y1 : Nat) : Int) := rem_eq (by omega)
  have e16 : IntKind.u64.wrap (IntKind.u64.wrap ((Q1 : Int) * 4294967296) + (Q0 : Int)) = (QQ : Int) := by
    rw [hQQ]
    rw [wrapN64 (x := (Q1 : Int) * 4294967296) (n := Q1 * 4294967296) (by omega) (by omega)]
    exact wrapN64 (by omega) (by omega)
  have e17 : IntKind.u64.wrap ((Q1 : Int) * 4294967296 + (Q0 : Int)) = (QQ : Int) := by
    rw [hQQ]
    exact wrapN64 (by omega) (by omega)
  have HYE := Aside0.mk hYe
  have HB := Aside0.mk (show y1 < 4294967296 ∧ 2147483648 ≤ y1 ∧ y0 < 4294967296 ∧ u1 < 4294967296 ∧ u0 < 4294967296 ∧ u32 < Y ∧ U21 < Y ∧ Y < 18446744073709551616 from ⟨hy1b.2, hy1b.1, hy0b, hu1b, hu0b, hult, hU21b, hYb⟩)
  have HQ1 := Aside0.mk hQ1
  have HQ0 := Aside0.mk hQ0
  clear hQQ hf hs hy1b hy0b hu1b hu0b hYe hU21b hQ1b hQ0b hu10b hY hYb hYl hu32 hult hu10 hu1 hu0 hQ1 hU21 hQ0 h1 h2 hl hy hH hL1 hlow hy1 hy0
  have hi1 : Aside0 ((u32 / y1) * y1 + u32 % y1 = u32) := ⟨by rw [Nat.mul_comm]; exact Nat.div_add_mod _ _⟩
  have hj1 : Aside0 (u32 % y1 < 4294967296) := ⟨Nat.lt_trans (Nat.mod_lt _ (by have := HB.out; omega)) HB.out.1⟩
  have hk1 : Aside0 (u32 * 4294967296 + u1 < (u32 / y1 + 1) * Y) := ⟨by rw [← HYE.out]; exact first_gt (by have := HB.out; omega) HB.out.2.2.2.1⟩
  have hi2 : Aside0 ((U21 / y1) * y1 + U21 % y1 = U21) := ⟨by rw [Nat.mul_comm]; exact Nat.div_add_mod _ _⟩
  have hj2 : Aside0 (U21 % y1 < 4294967296) := ⟨Nat.lt_trans (Nat.mod_lt _ (by have := HB.out; omega)) HB.out.1⟩
  have hk2 : Aside0 (U21 * 4294967296 + u0 < (U21 / y1 + 1) * Y) := ⟨by rw [← HYE.out]; exact first_gt (by have := HB.out; omega) HB.out.2.2.2.2.1⟩
  have hp1 := HB.out.2.2.2.2.2.1
  have HU1 : Aside0 (u32 < y1 * 4294967296 + y0) := ⟨by rw [HYE.out]; exact HB.out.2.2.2.2.2.1⟩
  have HU2 : Aside0 (U21 < y1 * 4294967296 + y0) := ⟨by rw [HYE.out]; exact HB.out.2.2.2.2.2.2.1⟩
  clear hp1
  generalize u32 / y1 = a1 at *
  generalize u32 % y1 = b1 at *
  generalize U21 / y1 = a2 at *
  generalize U21 % y1 = b2 at *
  go_enter Try.func49, Try.ntmps49
  go_wp2_with (first
    | (go_at_call 78; refine (bits_LeadingZeros64.calls _ _ _ HF.out).mono ?_; rintro e w1 ⟨rfl, hb1⟩; have HB1 := Aside0.mk hb1; clear hb1))
  go_loopg [15, 16] (a1 + 1) (fun gg sq sr wr => ∃ q r : Nat, q + 1 ≤ gg ∧ sq = .int .u64 (q : Int) ∧ sr = .int .u64 (r : Int) ∧ Aside0 (q * y1 + r = u32) ∧ Aside0 (r < 4294967296) ∧ Aside0 (u32 * 4294967296 + u1 < (q + 1) * Y) ∧ wr = w1)
  case atStart => exact ⟨a1, b1, by omega, rfl, rfl, hi1, hj1, hk1, rfl⟩
  case round =>
    obtain ⟨q1, r1, hg, rfl, rfl, HA, HR, HK, rfl⟩ := hrel
    have HG := Aside0.mk hg
    clear hg
    have em : IntKind.u64.wrap (4294967296 * (r1 : Int)) = 4294967296 * (r1 : Int) := by rw [IntKind.wrap_u64]; have := HR.out; omega
    have ea : IntKind.u64.wrap (4294967296 * (r1 : Int) + (u1 : Int)) = ((4294967296 * r1 + u1 : Nat) : Int) := wrapN64 (by omega) (by have := HR.out; have := HB.out; omega)
    have er : IntKind.u64.wrap ((r1 : Int) + (y1 : Int)) = ((r1 + y1 : Nat) : Int) := wrapN64 (by omega) (by have := HR.out; have := HB.out; omega)
    have hgo : Aside0 (4294967296 ≤ q1 ∨ 4294967296 * r1 + u1 < q1 * y0 → u32 * 4294967296 + u1 < q1 * Y) := ⟨fun h => by
      rcases h with h | h
      · exact big_gt HB.out.2.2.2.2.2.1 (by have := HB.out; omega) h
      · rw [← HYE.out]; exact go_gt HA.out h⟩
    have hst : Aside0 (q1 * y0 ≤ 4294967296 * r1 + u1 → q1 = Q1) := ⟨fun h => by
      rw [HQ1.out]; refine div_of ?_ HK.out; rw [← HYE.out]; exact stop_le HA.out h⟩
    have ep : Aside0 (q1 < 4294967296 → IntKind.u64.wrap ((q1 : Int) * (y0 : Int)) = ((q1 * y0 : Nat) : Int)) := ⟨fun h => wrapN64 (Int.natCast_mul _ _).symm (by have := Nat.mul_le_mul (Nat.le_of_lt_succ h) (Nat.le_of_lt_succ HB.out.2.2.1); have e : (4294967295 : Nat) * 4294967295 = 18446744065119617025 := rfl; omega)⟩
    have hbk : Aside0 (0 < q1 → 4294967296 ≤ r1 + y1 → u32 * 4294967296 + u1 < q1 * Y → q1 - 1 = Q1) := ⟨fun h0 h1 h2 => by
      obtain ⟨q', rfl⟩ : ∃ q', q1 = q' + 1 := ⟨q1 - 1, by omega⟩
      have h3 : q' * y1 + (r1 + y1) = u32 := by have := HA.out; rw [Nat.add_mul] at this; omega
      have h4 := break_le (v := u1) h3 HU1.out HB.out.2.2.1 h1
      rw [Nat.add_sub_cancel, HQ1.out]
      refine div_of ?_ h2; rw [← HYE.out]; exact stop_le h3 h4.2⟩
    have hpos : Aside0 (u32 * 4294967296 + u1 < q1 * Y → 0 < q1) := ⟨fun h => by
      rcases Nat.eq_zero_or_pos q1 with e | e
      · rw [e] at h; simp at h
      · exact e⟩
    have hnx : Aside0 (0 < q1 → u32 * 4294967296 + u1 < q1 * Y → (q1 - 1) * y1 + (r1 + y1) = u32 ∧ u32 * 4294967296 + u1 < (q1 - 1 + 1) * Y ∧ IntKind.u64.wrap ((q1 : Int) - 1) = ((q1 - 1 : Nat) : Int)) := ⟨fun h0 h2 => by
      obtain ⟨q', rfl⟩ : ∃ q', q1 = q' + 1 := ⟨q1 - 1, by omega⟩
      refine ⟨by have := HA.out; rw [Nat.add_mul] at this; rw [Nat.add_sub_cancel]; omega, by rw [Nat.add_sub_cancel]; exact h2, ?_⟩
      have hle : q' + 1 ≤ u32 := by have h5 := HA.out; have h6 : (q' + 1) * 1 ≤ (q' + 1) * y1 := Nat.mul_le_mul_left _ (by have := HB.out; omega); omega
      exact wrapN64 (by omega) (by have := HB.out; omega)⟩
    by_cases hgoing : 4294967296 ≤ q1 ∨ 4294967296 * r1 + u1 < q1 * y0
    · have hbig := hgo.out hgoing
      have h0 := hpos.out hbig
      have hn := hnx.out h0 hbig
      have ed := hn.2.2
      have HN := Aside0.mk hn
      have HBIG := Aside0.mk hbig
      have H0 := Aside0.mk h0
      have HGO := Aside0.mk hgoing
      clear hn hbig h0
      by_cases hbr : 4294967296 ≤ r1 + y1
      · have hq := hbk.out H0.out hbr HBIG.out
        rw [hq] at ed
        have HBR := Aside0.mk hbr
        have hbrz : decide (4294967296 ≤ ((r1 + y1 : Nat) : Int)) = true := decide_eq_true (by omega)
        have hbrz2 : (4294967296 : Int) ≤ ((r1 + y1 : Nat) : Int) := by omega
        clear hq hbr hgo hst hbk hpos hnx
        generalize r1 + y1 = rn at *
        by_cases hlt : q1 < 4294967296
        · have ep2 := ep.out hlt
          have hgt : 4294967296 * r1 + u1 < q1 * y0 := by rcases HGO.out with h | h; exact absurd h (by omega); exact h
          have hltz : decide ((4294967296 : Int) ≤ (q1 : Int)) = false := decide_eq_false (by omega)
          have hltz2 : ¬ (4294967296 : Int) ≤ (q1 : Int) := by omega
          have HLT := Aside0.mk hlt
          clear hlt hgoing ep
          generalize 4294967296 * r1 + u1 = m at *
          generalize q1 * y0 = pp at *
          go_wp2
          go_loopg [18, 16] (a2 + 1) (fun gg sq sr wq => ∃ q r : Nat, q + 1 ≤ gg ∧ sq = .int .u64 (q : Int) ∧ sr = .int .u64 (r : Int) ∧ Aside0 (q * y1 + r = U21) ∧ Aside0 (r < 4294967296) ∧ Aside0 (U21 * 4294967296 + u0 < (q + 1) * Y) ∧ wq = wr)
          case atStart => exact ⟨a2, b2, by omega, rfl, rfl, hi2, hj2, hk2, rfl⟩
          case round =>
            obtain ⟨q2, r2, hg, rfl, rfl, HA, HR, HK, rfl⟩ := hrel
            have HG := Aside0.mk hg
            clear hg
            have em : IntKind.u64.wrap (4294967296 * (r2 : Int)) = 4294967296 * (r2 : Int) := by rw [IntKind.wrap_u64]; have := HR.out; omega
            have ea : IntKind.u64.wrap (4294967296 * (r2 : Int) + (u0 : Int)) = ((4294967296 * r2 + u0 : Nat) : Int) := wrapN64 (by omega) (by have := HR.out; have := HB.out; omega)
            have er : IntKind.u64.wrap ((r2 : Int) + (y1 : Int)) = ((r2 + y1 : Nat) : Int) := wrapN64 (by omega) (by have := HR.out; have := HB.out; omega)
            have hgo : Aside0 (4294967296 ≤ q2 ∨ 4294967296 * r2 + u0 < q2 * y0 → U21 * 4294967296 + u0 < q2 * Y) := ⟨fun h => by
              rcases h with h | h
              · exact big_gt HB.out.2.2.2.2.2.2.1 (by have := HB.out; omega) h
              · rw [← HYE.out]; exact go_gt HA.out h⟩
            have hst : Aside0 (q2 * y0 ≤ 4294967296 * r2 + u0 → q2 = Q0) := ⟨fun h => by
              rw [HQ0.out]; refine div_of ?_ HK.out; rw [← HYE.out]; exact stop_le HA.out h⟩
            have ep : Aside0 (q2 < 4294967296 → IntKind.u64.wrap ((q2 : Int) * (y0 : Int)) = ((q2 * y0 : Nat) : Int)) := ⟨fun h => wrapN64 (Int.natCast_mul _ _).symm (by have := Nat.mul_le_mul (Nat.le_of_lt_succ h) (Nat.le_of_lt_succ HB.out.2.2.1); have e : (4294967295 : Nat) * 4294967295 = 18446744065119617025 := rfl; omega)⟩
            have hbk : Aside0 (0 < q2 → 4294967296 ≤ r2 + y1 → U21 * 4294967296 + u0 < q2 * Y → q2 - 1 = Q0) := ⟨fun h0 h1 h2 => by
              obtain ⟨q', rfl⟩ : ∃ q', q2 = q' + 1 := ⟨q2 - 1, by omega⟩
              have h3 : q' * y1 + (r2 + y1) = U21 := by have := HA.out; rw [Nat.add_mul] at this; omega
              have h4 := break_le (v := u0) h3 HU2.out HB.out.2.2.1 h1
              rw [Nat.add_sub_cancel, HQ0.out]
              refine div_of ?_ h2; rw [← HYE.out]; exact stop_le h3 h4.2⟩
            have hpos : Aside0 (U21 * 4294967296 + u0 < q2 * Y → 0 < q2) := ⟨fun h => by
              rcases Nat.eq_zero_or_pos q2 with e | e
              · rw [e] at h; simp at h
              · exact e⟩
            have hnx : Aside0 (0 < q2 → U21 * 4294967296 + u0 < q2 * Y → (q2 - 1) * y1 + (r2 + y1) = U21 ∧ U21 * 4294967296 + u0 < (q2 - 1 + 1) * Y ∧ IntKind.u64.wrap ((q2 : Int) - 1) = ((q2 - 1 : Nat) : Int)) := ⟨fun h0 h2 => by
              obtain ⟨q', rfl⟩ : ∃ q', q2 = q' + 1 := ⟨q2 - 1, by omega⟩
              refine ⟨by have := HA.out; rw [Nat.add_mul] at this; rw [Nat.add_sub_cancel]; omega, by rw [Nat.add_sub_cancel]; exact h2, ?_⟩
              have hle : q' + 1 ≤ U21 := by have h5 := HA.out; have h6 : (q' + 1) * 1 ≤ (q' + 1) * y1 := Nat.mul_le_mul_left _ (by have := HB.out; omega); omega
              exact wrapN64 (by omega) (by have := HB.out; omega)⟩
            by_cases hgoing : 4294967296 ≤ q2 ∨ 4294967296 * r2 + u0 < q2 * y0
            · have hbig := hgo.out hgoing
              have h0 := hpos.out hbig
              have hn := hnx.out h0 hbig
              have ed := hn.2.2
              have HN := Aside0.mk hn
              have HBIG := Aside0.mk hbig
              have H0 := Aside0.mk h0
              have HGO := Aside0.mk hgoing
              clear hn hbig h0
              by_cases hbr : 4294967296 ≤ r2 + y1
              · have hq := hbk.out H0.out hbr HBIG.out
                rw [hq] at ed
                have HBR := Aside0.mk hbr
                have hbrz : decide (4294967296 ≤ ((r2 + y1 : Nat) : Int)) = true := decide_eq_true (by omega)
                have hbrz2 : (4294967296 : Int) ≤ ((r2 + y1 : Nat) : Int) := by omega
                clear hq hbr hgo hst hbk hpos hnx
                generalize r2 + y1 = rn at *
                by_cases hlt : q2 < 4294967296
                · have ep2 := ep.out hlt
                  have hgt : 4294967296 * r2 + u0 < q2 * y0 := by rcases HGO.out with h | h; exact absurd h (by omega); exact h
                  have hltz : decide ((4294967296 : Int) ≤ (q2 : Int)) = false := decide_eq_false (by omega)
                  have hltz2 : ¬ (4294967296 : Int) ≤ (q2 : Int) := by omega
                  have HLT := Aside0.mk hlt
                  clear hlt hgoing ep
                  generalize 4294967296 * r2 + u0 = m at *
                  generalize q2 * y0 = pp at *
                  go_wp2
                  (go_ret2; exact ⟨⟨_, rfl⟩, HB1.out⟩)
                · have hltz : decide ((4294967296 : Int) ≤ (q2 : Int)) = true := decide_eq_true (by omega)
                  have hltz2 : (4294967296 : Int) ≤ (q2 : Int) := by omega
                  have HLT := Aside0.mk hlt
                  clear hlt hgoing ep
                  go_wp2
                  (go_ret2; exact ⟨⟨_, rfl⟩, HB1.out⟩)
              · have HBR := Aside0.mk hbr
                have hbrz : decide (4294967296 ≤ ((r2 + y1 : Nat) : Int)) = false := decide_eq_false (by omega)
                have hbrz2 : ¬ (4294967296 : Int) ≤ ((r2 + y1 : Nat) : Int) := by omega
                clear hbr hgo hst hbk hpos hnx
                generalize hrn : r2 + y1 = rn at *
                have HRN := Aside0.mk hrn
                clear hrn
                by_cases hlt : q2 < 4294967296
                · have ep2 := ep.out hlt
                  have hgt : 4294967296 * r2 + u0 < q2 * y0 := by rcases HGO.out with h | h; exact absurd h (by omega); exact h
                  have hltz : decide ((4294967296 : Int) ≤ (q2 : Int)) = false := decide_eq_false (by omega)
                  have hltz2 : ¬ (4294967296 : Int) ≤ (q2 : Int) := by omega
                  have HLT := Aside0.mk hlt
                  clear hlt hgoing ep
                  generalize 4294967296 * r2 + u0 = m at *
                  generalize q2 * y0 = pp at *
                  go_wp2
                  go_roundg (q2 - 1 + 1)
                  case measure => have := HG.out; have := H0.out; omega
                  case rel => exact ⟨q2 - 1, rn, by omega, rfl, rfl, ⟨HN.out.1⟩, ⟨by have := HBR.out; omega⟩, ⟨HN.out.2.1⟩, rfl⟩
                · have hltz : decide ((4294967296 : Int) ≤ (q2 : Int)) = true := decide_eq_true (by omega)
                  have hltz2 : (4294967296 : Int) ≤ (q2 : Int) := by omega
                  have HLT := Aside0.mk hlt
                  clear hlt hgoing ep
                  go_wp2
                  go_roundg (q2 - 1 + 1)
                  case measure => have := HG.out; have := H0.out; omega
                  case rel => exact ⟨q2 - 1, rn, by omega, rfl, rfl, ⟨HN.out.1⟩, ⟨by have := HBR.out; omega⟩, ⟨HN.out.2.1⟩, rfl⟩
            · have hlt : q2 < 4294967296 := by omega
              have hle : ¬ 4294967296 * r2 + u0 < q2 * y0 := fun h => hgoing (Or.inr h)
              have hq := hst.out (by omega)
              have ep2 := ep.out hlt
              have hltz : decide ((4294967296 : Int) ≤ (q2 : Int)) = false := decide_eq_false (by omega)
              have hltz2 : ¬ (4294967296 : Int) ≤ (q2 : Int) := by omega
              clear hlt hgoing ep hgo hst hbk hpos hnx
              generalize 4294967296 * r2 + u0 = m at *
              generalize q2 * y0 = pp at *
              subst hq
              go_wp2
              (go_ret2; exact ⟨⟨_, rfl⟩, HB1.out⟩)
        · have hltz : decide ((4294967296 : Int) ≤ (q1 : Int)) = true := decide_eq_true (by omega)
          have hltz2 : (4294967296 : Int) ≤ (q1 : Int) := by omega
          have HLT := Aside0.mk hlt
          clear hlt hgoing ep
          go_wp2
          go_loopg [18, 16] (a2 + 1) (fun gg sq sr wq => ∃ q r : Nat, q + 1 ≤ gg ∧ sq = .int .u64 (q : Int) ∧ sr = .int .u64 (r : Int) ∧ Aside0 (q * y1 + r = U21) ∧ Aside0 (r < 4294967296) ∧ Aside0 (U21 * 4294967296 + u0 < (q + 1) * Y) ∧ wq = wr)
          case atStart => exact ⟨a2, b2, by omega, rfl, rfl, hi2, hj2, hk2, rfl⟩
          case round =>
            obtain ⟨q2, r2, hg, rfl, rfl, HA, HR, HK, rfl⟩ := hrel
            have HG := Aside0.mk hg
            clear hg
            have em : IntKind.u64.wrap (4294967296 * (r2 : Int)) = 4294967296 * (r2 : Int) := by rw [IntKind.wrap_u64]; have := HR.out; omega
            have ea : IntKind.u64.wrap (4294967296 * (r2 : Int) + (u0 : Int)) = ((4294967296 * r2 + u0 : Nat) : Int) := wrapN64 (by omega) (by have := HR.out; have := HB.out; omega)
            have er : IntKind.u64.wrap ((r2 : Int) + (y1 : Int)) = ((r2 + y1 : Nat) : Int) := wrapN64 (by omega) (by have := HR.out; have := HB.out; omega)
            have hgo : Aside0 (4294967296 ≤ q2 ∨ 4294967296 * r2 + u0 < q2 * y0 → U21 * 4294967296 + u0 < q2 * Y) := ⟨fun h => by
              rcases h with h | h
              · exact big_gt HB.out.2.2.2.2.2.2.1 (by have := HB.out; omega) h
              · rw [← HYE.out]; exact go_gt HA.out h⟩
            have hst : Aside0 (q2 * y0 ≤ 4294967296 * r2 + u0 → q2 = Q0) := ⟨fun h => by
              rw [HQ0.out]; refine div_of ?_ HK.out; rw [← HYE.out]; exact stop_le HA.out h⟩
            have ep : Aside0 (q2 < 4294967296 → IntKind.u64.wrap ((q2 : Int) * (y0 : Int)) = ((q2 * y0 : Nat) : Int)) := ⟨fun h => wrapN64 (Int.natCast_mul _ _).symm (by have := Nat.mul_le_mul (Nat.le_of_lt_succ h) (Nat.le_of_lt_succ HB.out.2.2.1); have e : (4294967295 : Nat) * 4294967295 = 18446744065119617025 := rfl; omega)⟩
            have hbk : Aside0 (0 < q2 → 4294967296 ≤ r2 + y1 → U21 * 4294967296 + u0 < q2 * Y → q2 - 1 = Q0) := ⟨fun h0 h1 h2 => by
              obtain ⟨q', rfl⟩ : ∃ q', q2 = q' + 1 := ⟨q2 - 1, by omega⟩
              have h3 : q' * y1 + (r2 + y1) = U21 := by have := HA.out; rw [Nat.add_mul] at this; omega
              have h4 := break_le (v := u0) h3 HU2.out HB.out.2.2.1 h1
              rw [Nat.add_sub_cancel, HQ0.out]
              refine div_of ?_ h2; rw [← HYE.out]; exact stop_le h3 h4.2⟩
            have hpos : Aside0 (U21 * 4294967296 + u0 < q2 * Y → 0 < q2) := ⟨fun h => by
              rcases Nat.eq_zero_or_pos q2 with e | e
              · rw [e] at h; simp at h
              · exact e⟩
            have hnx : Aside0 (0 < q2 → U21 * 4294967296 + u0 < q2 * Y → (q2 - 1) * y1 + (r2 + y1) = U21 ∧ U21 * 4294967296 + u0 < (q2 - 1 + 1) * Y ∧ IntKind.u64.wrap ((q2 : Int) - 1) = ((q2 - 1 : Nat) : Int)) := ⟨fun h0 h2 => by
              obtain ⟨q', rfl⟩ : ∃ q', q2 = q' + 1 := ⟨q2 - 1, by omega⟩
              refine ⟨by have := HA.out; rw [Nat.add_mul] at this; rw [Nat.add_sub_cancel]; omega, by rw [Nat.add_sub_cancel]; exact h2, ?_⟩
              have hle : q' + 1 ≤ U21 := by have h5 := HA.out; have h6 : (q' + 1) * 1 ≤ (q' + 1) * y1 := Nat.mul_le_mul_left _ (by have := HB.out; omega); omega
              exact wrapN64 (by omega) (by have := HB.out; omega)⟩
            by_cases hgoing : 4294967296 ≤ q2 ∨ 4294967296 * r2 + u0 < q2 * y0
            · have hbig := hgo.out hgoing
              have h0 := hpos.out hbig
              have hn := hnx.out h0 hbig
              have ed := hn.2.2
              have HN := Aside0.mk hn
              have HBIG := Aside0.mk hbig
              have H0 := Aside0.mk h0
              have HGO := Aside0.mk hgoing
              clear hn hbig h0
              by_cases hbr : 4294967296 ≤ r2 + y1
              · have hq := hbk.out H0.out hbr HBIG.out
                rw [hq] at ed
                have HBR := Aside0.mk hbr
                have hbrz : decide (4294967296 ≤ ((r2 + y1 : Nat) : Int)) = true := decide_eq_true (by omega)
                have hbrz2 : (4294967296 : Int) ≤ ((r2 + y1 : Nat) : Int) := by omega
                clear hq hbr hgo hst hbk hpos hnx
                generalize r2 + y1 = rn at *
                by_cases hlt : q2 < 4294967296
                · have ep2 := ep.out hlt
                  have hgt : 4294967296 * r2 + u0 < q2 * y0 := by rcases HGO.out with h | h; exact absurd h (by omega); exact h
                  have hltz : decide ((4294967296 : Int) ≤ (q2 : Int)) = false := decide_eq_false (by omega)
                  have hltz2 : ¬ (4294967296 : Int) ≤ (q2 : Int) := by omega
                  have HLT := Aside0.mk hlt
                  clear hlt hgoing ep
                  generalize 4294967296 * r2 + u0 = m at *
                  generalize q2 * y0 = pp at *
                  go_wp2
                  (go_ret2; exact ⟨⟨_, rfl⟩, HB1.out⟩)
                · have hltz : decide ((4294967296 : Int) ≤ (q2 : Int)) = true := decide_eq_true (by omega)
                  have hltz2 : (4294967296 : Int) ≤ (q2 : Int) := by omega
                  have HLT := Aside0.mk hlt
                  clear hlt hgoing ep
                  go_wp2
                  (go_ret2; exact ⟨⟨_, rfl⟩, HB1.out⟩)
              · have HBR := Aside0.mk hbr
                have hbrz : decide (4294967296 ≤ ((r2 + y1 : Nat) : Int)) = false := decide_eq_false (by omega)
                have hbrz2 : ¬ (4294967296 : Int) ≤ ((r2 + y1 : Nat) : Int) := by omega
                clear hbr hgo hst hbk hpos hnx
                generalize hrn : r2 + y1 = rn at *
                have HRN := Aside0.mk hrn
                clear hrn
                by_cases hlt : q2 < 4294967296
                · have ep2 := ep.out hlt
                  have hgt : 4294967296 * r2 + u0 < q2 * y0 := by rcases HGO.out with h | h; exact absurd h (by omega); exact h
                  have hltz : decide ((4294967296 : Int) ≤ (q2 : Int)) = false := decide_eq_false (by omega)
                  have hltz2 : ¬ (4294967296 : Int) ≤ (q2 : Int) := by omega
                  have HLT := Aside0.mk hlt
                  clear hlt hgoing ep
                  generalize 4294967296 * r2 + u0 = m at *
                  generalize q2 * y0 = pp at *
                  go_wp2
                  go_roundg (q2 - 1 + 1)
                  case measure => have := HG.out; have := H0.out; omega
                  case rel => exact ⟨q2 - 1, rn, by omega, rfl, rfl, ⟨HN.out.1⟩, ⟨by have := HBR.out; omega⟩, ⟨HN.out.2.1⟩, rfl⟩
                · have hltz : decide ((4294967296 : Int) ≤ (q2 : Int)) = true := decide_eq_true (by omega)
                  have hltz2 : (4294967296 : Int) ≤ (q2 : Int) := by omega
                  have HLT := Aside0.mk hlt
                  clear hlt hgoing ep
                  go_wp2
                  go_roundg (q2 - 1 + 1)
                  case measure => have := HG.out; have := H0.out; omega
                  case rel => exact ⟨q2 - 1, rn, by omega, rfl, rfl, ⟨HN.out.1⟩, ⟨by have := HBR.out; omega⟩, ⟨HN.out.2.1⟩, rfl⟩
            · have hlt : q2 < 4294967296 := by omega
              have hle : ¬ 4294967296 * r2 + u0 < q2 * y0 := fun h => hgoing (Or.inr h)
              have hq := hst.out (by omega)
              have ep2 := ep.out hlt
              have hltz : decide ((4294967296 : Int) ≤ (q2 : Int)) = false := decide_eq_false (by omega)
              have hltz2 : ¬ (4294967296 : Int) ≤ (q2 : Int) := by omega
              clear hlt hgoing ep hgo hst hbk hpos hnx
              generalize 4294967296 * r2 + u0 = m at *
              generalize q2 * y0 = pp at *
              subst hq
              go_wp2
              (go_ret2; exact ⟨⟨_, rfl⟩, HB1.out⟩)
      · have HBR := Aside0.mk hbr
        have hbrz : decide (4294967296 ≤ ((r1 + y1 : Nat) : Int)) = false := decide_eq_false (by omega)
        have hbrz2 : ¬ (4294967296 : Int) ≤ ((r1 + y1 : Nat) : Int) := by omega
        clear hbr hgo hst hbk hpos hnx
        generalize hrn : r1 + y1 = rn at *
        have HRN := Aside0.mk hrn
        clear hrn
        by_cases hlt : q1 < 4294967296
        · have ep2 := ep.out hlt
          have hgt : 4294967296 * r1 + u1 < q1 * y0 := by rcases HGO.out with h | h; exact absurd h (by omega); exact h
          have hltz : decide ((4294967296 : Int) ≤ (q1 : Int)) = false := decide_eq_false (by omega)
          have hltz2 : ¬ (4294967296 : Int) ≤ (q1 : Int) := by omega
          have HLT := Aside0.mk hlt
          clear hlt hgoing ep
          generalize 4294967296 * r1 + u1 = m at *
          generalize q1 * y0 = pp at *
          go_wp2
          go_roundg (q1 - 1 + 1)
          case measure => have := HG.out; have := H0.out; omega
          case rel => exact ⟨q1 - 1, rn, by omega, rfl, rfl, ⟨HN.out.1⟩, ⟨by have := HBR.out; omega⟩, ⟨HN.out.2.1⟩, rfl⟩
        · have hltz : decide ((4294967296 : Int) ≤ (q1 : Int)) = true := decide_eq_true (by omega)
          have hltz2 : (4294967296 : Int) ≤ (q1 : Int) := by omega
          have HLT := Aside0.mk hlt
          clear hlt hgoing ep
          go_wp2
          go_roundg (q1 - 1 + 1)
          case measure => have := HG.out; have := H0.out; omega
          case rel => exact ⟨q1 - 1, rn, by omega, rfl, rfl, ⟨HN.out.1⟩, ⟨by have := HBR.out; omega⟩, ⟨HN.out.2.1⟩, rfl⟩
    · have hlt : q1 < 4294967296 := by omega
      have hle : ¬ 4294967296 * r1 + u1 < q1 * y0 := fun h => hgoing (Or.inr h)
      have hq := hst.out (by omega)
      have ep2 := ep.out hlt
      have hltz : decide ((4294967296 : Int) ≤ (q1 : Int)) = false := decide_eq_false (by omega)
      have hltz2 : ¬ (4294967296 : Int) ≤ (q1 : Int) := by omega
      clear hlt hgoing ep hgo hst hbk hpos hnx
      generalize 4294967296 * r1 + u1 = m at *
      generalize q1 * y0 = pp at *
      subst hq
      go_wp2
      go_loopg [18, 16] (a2 + 1) (fun gg sq sr wq => ∃ q r : Nat, q + 1 ≤ gg ∧ sq = .int .u64 (q : Int) ∧ sr = .int .u64 (r : Int) ∧ Aside0 (q * y1 + r = U21) ∧ Aside0 (r < 4294967296) ∧ Aside0 (U21 * 4294967296 + u0 < (q + 1) * Y) ∧ wq = wr)
      case atStart => exact ⟨a2, b2, by omega, rfl, rfl, hi2, hj2, hk2, rfl⟩
      case round =>
        obtain ⟨q2, r2, hg, rfl, rfl, HA, HR, HK, rfl⟩ := hrel
        have HG := Aside0.mk hg
        clear hg
        have em : IntKind.u64.wrap (4294967296 * (r2 : Int)) = 4294967296 * (r2 : Int) := by rw [IntKind.wrap_u64]; have := HR.out; omega
        have ea : IntKind.u64.wrap (4294967296 * (r2 : Int) + (u0 : Int)) = ((4294967296 * r2 + u0 : Nat) : Int) := wrapN64 (by omega) (by have := HR.out; have := HB.out; omega)
        have er : IntKind.u64.wrap ((r2 : Int) + (y1 : Int)) = ((r2 + y1 : Nat) : Int) := wrapN64 (by omega) (by have := HR.out; have := HB.out; omega)
        have hgo : Aside0 (4294967296 ≤ q2 ∨ 4294967296 * r2 + u0 < q2 * y0 → U21 * 4294967296 + u0 < q2 * Y) := ⟨fun h => by
          rcases h with h | h
          · exact big_gt HB.out.2.2.2.2.2.2.1 (by have := HB.out; omega) h
          · rw [← HYE.out]; exact go_gt HA.out h⟩
        have hst : Aside0 (q2 * y0 ≤ 4294967296 * r2 + u0 → q2 = Q0) := ⟨fun h => by
          rw [HQ0.out]; refine div_of ?_ HK.out; rw [← HYE.out]; exact stop_le HA.out h⟩
        have ep : Aside0 (q2 < 4294967296 → IntKind.u64.wrap ((q2 : Int) * (y0 : Int)) = ((q2 * y0 : Nat) : Int)) := ⟨fun h => wrapN64 (Int.natCast_mul _ _).symm (by have := Nat.mul_le_mul (Nat.le_of_lt_succ h) (Nat.le_of_lt_succ HB.out.2.2.1); have e : (4294967295 : Nat) * 4294967295 = 18446744065119617025 := rfl; omega)⟩
        have hbk : Aside0 (0 < q2 → 4294967296 ≤ r2 + y1 → U21 * 4294967296 + u0 < q2 * Y → q2 - 1 = Q0) := ⟨fun h0 h1 h2 => by
          obtain ⟨q', rfl⟩ : ∃ q', q2 = q' + 1 := ⟨q2 - 1, by omega⟩
          have h3 : q' * y1 + (r2 + y1) = U21 := by have := HA.out; rw [Nat.add_mul] at this; omega
          have h4 := break_le (v := u0) h3 HU2.out HB.out.2.2.1 h1
          rw [Nat.add_sub_cancel, HQ0.out]
          refine div_of ?_ h2; rw [← HYE.out]; exact stop_le h3 h4.2⟩
        have hpos : Aside0 (U21 * 4294967296 + u0 < q2 * Y → 0 < q2) := ⟨fun h => by
          rcases Nat.eq_zero_or_pos q2 with e | e
          · rw [e] at h; simp at h
          · exact e⟩
        have hnx : Aside0 (0 < q2 → U21 * 4294967296 + u0 < q2 * Y → (q2 - 1) * y1 + (r2 + y1) = U21 ∧ U21 * 4294967296 + u0 < (q2 - 1 + 1) * Y ∧ IntKind.u64.wrap ((q2 : Int) - 1) = ((q2 - 1 : Nat) : Int)) := ⟨fun h0 h2 => by
          obtain ⟨q', rfl⟩ : ∃ q', q2 = q' + 1 := ⟨q2 - 1, by omega⟩
          refine ⟨by have := HA.out; rw [Nat.add_mul] at this; rw [Nat.add_sub_cancel]; omega, by rw [Nat.add_sub_cancel]; exact h2, ?_⟩
          have hle : q' + 1 ≤ U21 := by have h5 := HA.out; have h6 : (q' + 1) * 1 ≤ (q' + 1) * y1 := Nat.mul_le_mul_left _ (by have := HB.out; omega); omega
          exact wrapN64 (by omega) (by have := HB.out; omega)⟩
        by_cases hgoing : 4294967296 ≤ q2 ∨ 4294967296 * r2 + u0 < q2 * y0
        · have hbig := hgo.out hgoing
          have h0 := hpos.out hbig
          have hn := hnx.out h0 hbig
          have ed := hn.2.2
          have HN := Aside0.mk hn
          have HBIG := Aside0.mk hbig
          have H0 := Aside0.mk h0
          have HGO := Aside0.mk hgoing
          clear hn hbig h0
          by_cases hbr : 4294967296 ≤ r2 + y1
          · have hq := hbk.out H0.out hbr HBIG.out
            rw [hq] at ed
            have HBR := Aside0.mk hbr
            have hbrz : decide (4294967296 ≤ ((r2 + y1 : Nat) : Int)) = true := decide_eq_true (by omega)
            have hbrz2 : (4294967296 : Int) ≤ ((r2 + y1 : Nat) : Int) := by omega
            clear hq hbr hgo hst hbk hpos hnx
            generalize r2 + y1 = rn at *
            by_cases hlt : q2 < 4294967296
            · have ep2 := ep.out hlt
              have hgt : 4294967296 * r2 + u0 < q2 * y0 := by rcases HGO.out with h | h; exact absurd h (by omega); exact h
              have hltz : decide ((4294967296 : Int) ≤ (q2 : Int)) = false := decide_eq_false (by omega)
              have hltz2 : ¬ (4294967296 : Int) ≤ (q2 : Int) := by omega
              have HLT := Aside0.mk hlt
              clear hlt hgoing ep
              generalize 4294967296 * r2 + u0 = m at *
              generalize q2 * y0 = pp at *
              go_wp2
              (go_ret2; exact ⟨⟨_, rfl⟩, HB1.out⟩)
            · have hltz : decide ((4294967296 : Int) ≤ (q2 : Int)) = true := decide_eq_true (by omega)
              have hltz2 : (4294967296 : Int) ≤ (q2 : Int) := by omega
              have HLT := Aside0.mk hlt
              clear hlt hgoing ep
              go_wp2
              (go_ret2; exact ⟨⟨_, rfl⟩, HB1.out⟩)
          · have HBR := Aside0.mk hbr
            have hbrz : decide (4294967296 ≤ ((r2 + y1 : Nat) : Int)) = false := decide_eq_false (by omega)
            have hbrz2 : ¬ (4294967296 : Int) ≤ ((r2 + y1 : Nat) : Int) := by omega
            clear hbr hgo hst hbk hpos hnx
            generalize hrn : r2 + y1 = rn at *
            have HRN := Aside0.mk hrn
            clear hrn
            by_cases hlt : q2 < 4294967296
            · have ep2 := ep.out hlt
              have hgt : 4294967296 * r2 + u0 < q2 * y0 := by rcases HGO.out with h | h; exact absurd h (by omega); exact h
              have hltz : decide ((4294967296 : Int) ≤ (q2 : Int)) = false := decide_eq_false (by omega)
              have hltz2 : ¬ (4294967296 : Int) ≤ (q2 : Int) := by omega
              have HLT := Aside0.mk hlt
              clear hlt hgoing ep
              generalize 4294967296 * r2 + u0 = m at *
              generalize q2 * y0 = pp at *
              go_wp2
              go_roundg (q2 - 1 + 1)
              case measure => have := HG.out; have := H0.out; omega
              case rel => exact ⟨q2 - 1, rn, by omega, rfl, rfl, ⟨HN.out.1⟩, ⟨by have := HBR.out; omega⟩, ⟨HN.out.2.1⟩, rfl⟩
            · have hltz : decide ((4294967296 : Int) ≤ (q2 : Int)) = true := decide_eq_true (by omega)
              have hltz2 : (4294967296 : Int) ≤ (q2 : Int) := by omega
              have HLT := Aside0.mk hlt
              clear hlt hgoing ep
              go_wp2
              go_roundg (q2 - 1 + 1)
              case measure => have := HG.out; have := H0.out; omega
              case rel => exact ⟨q2 - 1, rn, by omega, rfl, rfl, ⟨HN.out.1⟩, ⟨by have := HBR.out; omega⟩, ⟨HN.out.2.1⟩, rfl⟩
        · have hlt : q2 < 4294967296 := by omega
          have hle : ¬ 4294967296 * r2 + u0 < q2 * y0 := fun h => hgoing (Or.inr h)
          have hq := hst.out (by omega)
          have ep2 := ep.out hlt
          have hltz : decide ((4294967296 : Int) ≤ (q2 : Int)) = false := decide_eq_false (by omega)
          have hltz2 : ¬ (4294967296 : Int) ≤ (q2 : Int) := by omega
          clear hlt hgoing ep hgo hst hbk hpos hnx
          generalize 4294967296 * r2 + u0 = m at *
          generalize q2 * y0 = pp at *
          subst hq
          go_wp2
          (go_ret2; exact ⟨⟨_, rfl⟩, HB1.out⟩)
end Go.Proofs.Ytlmefnifhbcbcaa.PAll
end
