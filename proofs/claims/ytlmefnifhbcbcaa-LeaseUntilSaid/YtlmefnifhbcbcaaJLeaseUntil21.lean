/- Joined texts of the claim LeaseUntil (part 21): contracts of functions and plain laws. -/
import Derived.Test.YtlmefnifhbcbcaaJLeaseUntil20
section
/- The document's Bound, walked. -/
namespace Go.Proofs.Ytlmefnifhbcbcaa.PAll
open Go.RowKit Go.Proofs.YtlmefnifhbcbcaaW.PrintWords Go.Proofs.YtlmefnifhbcbcaaW.PrintMore Go.Proofs.Ytlmefnifhbcbcaa
set_option linter.unusedVariables false
/-- How long a span is for sure. -/
def bndN (span d : Nat) : Nat := if d < 2 then 0 else span * (d - 1) / (d + 1)
theorem bnd_le (span d : Nat) : span * (d - 1) / (d + 1) ≤ span := by
  have h : span * (d - 1) ≤ span * (d + 1) := Nat.mul_le_mul_left _ (by omega)
  exact Nat.le_trans (Nat.div_le_div_right h) (by rw [Nat.mul_div_cancel _ (by omega)]; exact Nat.le_refl _)
def BInv (span d q w : Nat) : Prop := q ≤ span * (d - 1) / (d + 1) ∧ span * (d - 1) / (d + 1) < q + w
theorem bstep_yes {span d q s : Nat} (hs : s ≤ 9223372036854775808) (h : BInv span d q (s + s)) (hq : q < 18446744073709551616) (ht : q < (q + s) % 18446744073709551616) (hf : (q + s) % 18446744073709551616 * d + (q + s) % 18446744073709551616 ≤ span * (d - 1)) : BInv span d ((q + s) % 18446744073709551616) s := by
  have e : (q + s) % 18446744073709551616 = q + s := by omega
  rw [e] at hf ⊢
  refine ⟨(Nat.le_div_iff_mul_le (by omega)).2 (by rw [Nat.mul_add, Nat.mul_one]; exact hf), ?_⟩
  have := h.2
  omega
theorem bstep_no {span d q s : Nat} (hsp : span < 18446744073709551616) (hs : s ≤ 9223372036854775808) (h0 : 0 < s) (h : BInv span d q (s + s)) (hq : q < 18446744073709551616) (hno : ¬ ((q + s) % 18446744073709551616 ≤ span ∧ q < (q + s) % 18446744073709551616 ∧ (q + s) % 18446744073709551616 * d + (q + s) % 18446744073709551616 ≤ span * (d - 1))) : BInv span d q s := by
  refine ⟨h.1, ?_⟩
  have hle := bnd_le span d
  rcases Nat.lt_or_ge (q + s) 18446744073709551616 with c | c
  · have e : (q + s) % 18446744073709551616 = q + s := by omega
    rw [e] at hno
    rcases Nat.lt_or_ge span (q + s) with c2 | c2
    · omega
    · refine (Nat.div_lt_iff_lt_mul (by omega)).2 ?_
      rcases Nat.lt_or_ge (span * (d - 1)) ((q + s) * (d + 1)) with c3 | c3
      · exact c3
      · exact absurd ⟨c2, by omega, by rw [Nat.mul_add, Nat.mul_one] at c3; exact c3⟩ hno
  · omega
def ferruleref10_Bound.f (a0 a1 : Int) : Option Int := if (0 ≤ a0 ∧ a0 < 18446744073709551616) ∧ (0 ≤ a1 ∧ a1 < 18446744073709551616) then some (bndN a0.toNat a1.toNat : Nat) else none
theorem ret_n {a b : Nat} (h : a = b) : Ending.returned (.int .u64 (a : Int)) = .returned (.int .u64 (b : Int)) := by rw [h]
theorem pow_half {j : Nat} (h : 0 < j) : 2 ^ j / 2 + 2 ^ j / 2 = 2 ^ j := by
  obtain ⟨i, rfl⟩ : ∃ i, j = i + 1 := ⟨j - 1, by omega⟩
  rw [Nat.pow_succ]; omega
theorem pow_le64 {j : Nat} (h : j ≤ 64) : 2 ^ j / 2 ≤ 9223372036854775808 := by
  have := Nat.pow_le_pow_right (show 0 < 2 by decide) h
  omega
theorem pow_pos2 {j : Nat} (h : 0 < j) : 0 < 2 ^ j / 2 := by
  have := pow_half h
  have := Nat.pow_pos (n := j) (show 0 < 2 by decide)
  omega
theorem pow_next {j : Nat} (h : 0 < j) : 2 ^ j / 2 = 2 ^ (j - 1) := by
  obtain ⟨i, rfl⟩ : ∃ i, j = i + 1 := ⟨j - 1, by omega⟩
  rw [Nat.pow_succ, Nat.add_sub_cancel]; omega
set_option maxHeartbeats 4000000 in
set_option maxRecDepth 100000 in
theorem rbound_calls (span d : Nat) (hs : span < 18446744073709551616) (hd : d < 18446744073709551616) (w : World) : Calls Try.prog 19 #[.int .u64 span, .int .u64 d] w fun e w' => e = .returned (.int .u64 (bndN span d : Nat)) ∧ Below w.heap.size w w' := by
  by_cases c : d < 2
  · have cz : (d : Int) < 2 := by omega
    have HV : Aside0 (bndN span d = 0) := ⟨by unfold bndN; rw [if_pos c]⟩
    clear hs hd c
    go_enter Try.func19, Try.ntmps19
    go_wp2
    go_ret
    exact ⟨ret_n HV.out.symm, Below.refl _ _⟩
  · have hz : ¬ (d : Int) < 2 := by omega
    have hw : IntKind.u64.wrap ((d : Int) - 1) = (d : Int) - 1 := by rw [IntKind.wrap_u64]; omega
    have HT1 := Aside0.mk (fun W => rtimes_h span (d - 1) hs (by omega) W)
    rw [show ((d - 1 : Nat) : Int) = (d : Int) - 1 by omega] at HT1
    have HV : Aside0 (bndN span d = span * (d - 1) / (d + 1)) := ⟨by unfold bndN; rw [if_neg c]⟩
    have HS := Aside0.mk hs
    have HD := Aside0.mk hd
    generalize bndN span d = res at *
    clear hs hd c
    go_enter Try.func19, Try.ntmps19
    go_wp2_with (go_at_call 50; refine (HT1.out _).mono ?_; rintro e w1 ⟨⟨h0, h1, h2, h3, rfl, hH⟩, hb1⟩; have HB1 := Aside0.mk hb1; have HH := Aside0.mk hH; clear hb1 hH)
    have hS0 : (w1.alloc (.cells #[.int .u64 h0, .int .u64 h1, .int .u64 h2, .int .u64 h3] 84)).cell? ⟨w1.heap.size, 0, none⟩ = some (.int .u64 h0) ∧ (w1.alloc (.cells #[.int .u64 h0, .int .u64 h1, .int .u64 h2, .int .u64 h3] 84)).cell? ⟨w1.heap.size, 1, none⟩ = some (.int .u64 h1) ∧ (w1.alloc (.cells #[.int .u64 h0, .int .u64 h1, .int .u64 h2, .int .u64 h3] 84)).cell? ⟨w1.heap.size, 2, none⟩ = some (.int .u64 h2) ∧ (w1.alloc (.cells #[.int .u64 h0, .int .u64 h1, .int .u64 h2, .int .u64 h3] 84)).cell? ⟨w1.heap.size, 3, none⟩ = some (.int .u64 h3) ∧ Below w.heap.size w (w1.alloc (.cells #[.int .u64 h0, .int .u64 h1, .int .u64 h2, .int .u64 h3] 84)) :=
      ⟨cell_row (cs := [.int .u64 h0, .int .u64 h1, .int .u64 h2, .int .u64 h3]) (heap_alloc_new w1 _) 0, cell_row (cs := [.int .u64 h0, .int .u64 h1, .int .u64 h2, .int .u64 h3]) (heap_alloc_new w1 _) 1, cell_row (cs := [.int .u64 h0, .int .u64 h1, .int .u64 h2, .int .u64 h3]) (heap_alloc_new w1 _) 2, cell_row (cs := [.int .u64 h0, .int .u64 h1, .int .u64 h2, .int .u64 h3]) (heap_alloc_new w1 _) 3, HB1.out.alloc HB1.out.size _⟩
    have HS0 := Aside0.mk hS0
    clear hS0
    generalize w1.alloc (.cells #[.int .u64 h0, .int .u64 h1, .int .u64 h2, .int .u64 h3] 84) = W1 at *
    go_loopg [6, 7] 65 (fun gg s6 s7 wr => ∃ (j q s : Nat), j ≤ 64 ∧ j + 1 ≤ gg ∧ s6 = .int .u64 (q : Int) ∧ s7 = .int .u64 (s : Int) ∧ Aside0 (s = 2 ^ j / 2) ∧ Aside0 (q < 18446744073709551616) ∧ Aside0 (BInv span d q (2 ^ j)) ∧ Aside0 (wr.cell? ⟨w1.heap.size, 0, none⟩ = some (.int .u64 h0) ∧ wr.cell? ⟨w1.heap.size, 1, none⟩ = some (.int .u64 h1) ∧ wr.cell? ⟨w1.heap.size, 2, none⟩ = some (.int .u64 h2) ∧ wr.cell? ⟨w1.heap.size, 3, none⟩ = some (.int .u64 h3) ∧ Below w.heap.size w wr))
    case atStart => exact ⟨64, 0, 9223372036854775808, by omega, by omega, rfl, rfl, ⟨rfl⟩, ⟨by decide⟩, ⟨⟨Nat.zero_le _, by have := bnd_le span d; have := HS.out; omega⟩⟩, HS0⟩
    case round =>
      obtain ⟨j, q, s, hj, hg, rfl, rfl, HJ, HQ, HI, HC⟩ := hrel
      have HG := Aside0.mk hg
      clear hg HS0
      by_cases hs0 : 0 < s
      · have hs1 : (0 : Int) < (s : Int) := by omega
        have hj0 : 0 < j := by
          rcases Nat.eq_zero_or_pos j with e | e
          · subst e; have := HJ.out; simp at this; omega
          · exact e
        have HJ0 := Aside0.mk hj0
        have HN : Aside0 (s / 2 = 2 ^ (j - 1) / 2 ∧ s + s = 2 ^ j ∧ s = 2 ^ (j - 1) ∧ s ≤ 9223372036854775808) := ⟨by rw [HJ.out]; exact ⟨by rw [pow_next hj0], pow_half hj0, pow_next hj0, pow_le64 hj⟩⟩
        have HJL := Aside0.mk hj
        clear hj hj0
        have ht : IntKind.u64.wrap ((q : Int) + (s : Int)) = (((q + s) % 18446744073709551616 : Nat) : Int) := by rw [IntKind.wrap_u64]; omega
        have HI2 : Aside0 (BInv span d q (s + s)) := ⟨by rw [HN.out.2.1]; exact HI.out⟩
        have HYES := Aside0.mk (fun a b => bstep_yes HN.out.2.2.2 HI2.out HQ.out a b)
        have HNO := Aside0.mk (fun a => bstep_no HS.out HN.out.2.2.2 hs0 HI2.out HQ.out a)
        have hT2 : (q + s) % 18446744073709551616 < 18446744073709551616 := Nat.mod_lt _ (by decide)
        generalize (q + s) % 18446744073709551616 = t at *
        have HT2 := Aside0.mk hT2
        have hhalf : IntKind.u64.wrap ((s : Int) / 2) = ((s / 2 : Nat) : Int) := by rw [IntKind.wrap_u64]; have := HN.out.2.2.2; omega
        have HHALF := Aside0.mk hhalf
        clear HI HI2 hT2 hhalf
        by_cases hts : t ≤ span
        · have htsz : (t : Int) ≤ (span : Int) := by omega
          have HTM := Aside0.mk (fun W => rtimes_h t d HT2.out HD.out W)
          have hbig : t * d + t < 340282366920938463463374607431768211456 := by
            have h1 : t * d ≤ 18446744073709551615 * 18446744073709551615 := Nat.mul_le_mul (by have := HT2.out; omega) (by have := HD.out; omega)
            have := HT2.out
            omega
          have HMO := Aside0.mk (fun (a0 a1 a2 a3 : Int) (ha : IsH (half4 a0 a1 a2 a3) (t * d)) W => rmore_h t ha HT2.out hbig W)
          have HMS := Aside0.mk (fun (a0 a1 a2 a3 : Int) (ha : IsH (half4 a0 a1 a2 a3) (t * d + t)) W => rmost_h ha HH.out W)
          have HF := Aside0.mk (Iff.refl (decide (t * d + t ≤ span * (d - 1)) = true))
          have hfd : decide (t * d + t ≤ span * (d - 1)) = true ↔ t * d + t ≤ span * (d - 1) := decide_eq_true_iff
          generalize decide (t * d + t ≤ span * (d - 1)) = fits at *
          have HFD := Aside0.mk hfd
          clear hbig hfd HF
          have HTS := Aside0.mk hts
          have hw1 := HC.out
          go_wp2
          go_region_held3 (fun w' => w'.cell? ⟨w1.heap.size, 0, none⟩ = some (.int .u64 h0) ∧ w'.cell? ⟨w1.heap.size, 1, none⟩ = some (.int .u64 h1) ∧ w'.cell? ⟨w1.heap.size, 2, none⟩ = some (.int .u64 h2) ∧ w'.cell? ⟨w1.heap.size, 3, none⟩ = some (.int .u64 h3) ∧ Below w.heap.size w w') (first | exact keep4 (by assumption) (by assumption) | exact keep4 (by assumption) ((Below.refl _ _).drew))
            (first
              | (go_at_call 50; with_reducible refine (HTM.out _).mono ?_; rintro e w' ⟨⟨g0, g1, g2, g3, rfl, hG⟩, hb⟩; have HG3 := Aside0.mk hG; clear hG)
              | (go_at_call 52; with_reducible refine (HMO.out _ _ _ _ HG3.out _).mono ?_; rintro e w' ⟨⟨k0, k1, k2, k3, rfl, hK⟩, hb⟩; have HG4 := Aside0.mk hK; clear hK)
              | (go_at_call 51; with_reducible refine (HMS.out _ _ _ _ HG4.out _).mono ?_; rintro e w' ⟨rfl, hb⟩))
          clear hw1
          by_cases hqt : q < t
          · have hqz : (q : Int) < (t : Int) := by omega
            have HQT := Aside0.mk hqt
            cases fits
            · have HNN := Aside0.mk (HNO.out (fun h => by have := HFD.out.2 h.2.2; cases this))
              go_wp2
              go_roundg (j + 1 - 1)
              case measure => have := HG.out; have := HJ0.out; omega
              case rel => exact ⟨j - 1, q, s / 2, by have := HJL.out; omega, by have := HJ0.out; omega, rfl, by rw [HHALF.out], ⟨HN.out.1⟩, HQ, ⟨by rw [← HN.out.2.2.1]; exact HNN.out⟩, ⟨by assumption⟩⟩
            · have HNN := Aside0.mk (HYES.out HQT.out (HFD.out.1 rfl))
              go_wp2
              go_roundg (j + 1 - 1)
              case measure => have := HG.out; have := HJ0.out; omega
              case rel => exact ⟨j - 1, t, s / 2, by have := HJL.out; omega, by have := HJ0.out; omega, rfl, by rw [HHALF.out], ⟨HN.out.1⟩, HT2, ⟨by rw [← HN.out.2.2.1]; exact HNN.out⟩, ⟨by assumption⟩⟩
          · have hqz : ¬ (q : Int) < (t : Int) := by omega
            have HNN := Aside0.mk (HNO.out (fun h => hqt h.2.1))
            cases fits
            all_goals
              go_wp2
              go_roundg (j + 1 - 1)
              case measure => have := HG.out; have := HJ0.out; omega
              case rel => exact ⟨j - 1, q, s / 2, by have := HJL.out; omega, by have := HJ0.out; omega, rfl, by rw [HHALF.out], ⟨HN.out.1⟩, HQ, ⟨by rw [← HN.out.2.2.1]; exact HNN.out⟩, ⟨by assumption⟩⟩
        · have htsz : ¬ (t : Int) ≤ (span : Int) := by omega
          have HNN := Aside0.mk (HNO.out (fun h => hts h.1))
          go_wp2
          go_roundg (j + 1 - 1)
          case measure => have := HG.out; have := HJ0.out; omega
          case rel => exact ⟨j - 1, q, s / 2, by have := HJL.out; omega, by have := HJ0.out; omega, rfl, by rw [HHALF.out], ⟨HN.out.1⟩, HQ, ⟨by rw [← HN.out.2.2.1]; exact HNN.out⟩, HC⟩
      · obtain rfl : s = 0 := by omega
        have hj0 : j = 0 := by
          rcases Nat.eq_zero_or_pos j with e | e
          · exact e
          · have := pow_pos2 e; have := HJ.out; omega
        subst hj0
        have HE : Aside0 (res = q) := ⟨by rw [HV.out]; have := HI.out; unfold BInv at this; omega⟩
        go_wp2
        go_ret
        exact ⟨ret_n HE.out.symm, HC.out.2.2.2.2⟩
theorem ferruleref10_Bound.calls (a0 a1 : Int) (r : Int) (w : World) (h : ferruleref10_Bound.f a0 a1 = some r) : Calls Try.prog 19 #[.int .u64 a0, .int .u64 a1] w fun e w' => e = .returned (.int .u64 r) ∧ Below w.heap.size w w' := by
  unfold ferruleref10_Bound.f at h
  split at h
  case isFalse => cases h
  rename_i hg
  obtain ⟨⟨h0, h1⟩, ⟨h2, h3⟩⟩ := hg
  obtain rfl := Option.some.inj h
  have := rbound_calls a0.toNat a1.toNat (by omega) (by omega) w
  rwa [Int.toNat_of_nonneg h0, Int.toNat_of_nonneg h2] at this
end Go.Proofs.Ytlmefnifhbcbcaa.PAll
end
