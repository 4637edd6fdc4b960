/- Joined texts of the claim LeaseMost (part 22): contracts of functions and plain laws. -/
import Derived.BigQuiet
import Derived.Deep.QuietTactic
import Derived.Test.YtlmefnifhbcbcaaJLeaseMost20
import Derived.Test.YtlmefnifhbcbcaaJLeaseMost21
import Derived.WalkLawsBesides
section
/- lease.Bound, as the printed texts call it. -/
namespace Go.Proofs.Ytlmefnifhbcbcaa.PAll
open Go.RowKit Go.Proofs.YtlmefnifhbcbcaaW.PrintWords Go.Proofs.YtlmefnifhbcbcaaW.PrintMore Go.Proofs.Ytlmefnifhbcbcaa
set_option linter.unusedVariables false
set_option maxHeartbeats 4000000 in
set_option maxRecDepth 100000 in
theorem div64_zero (lo y : Nat) (h2 : 0 < y) (hl : lo < 18446744073709551616) (w : World) :
    Calls Try.prog 49 #[.int .u64 0, .int .u64 lo, .int .u64 y] w fun e w' => (∃ r : Int, e = .returned (.tuple #[.int .u64 ((lo / y : Nat) : Int), .int .u64 r])) ∧ Below w.heap.size w w' := by
  have e9 : IntKind.u64.wrap ((lo : Int) / (y : Int)) = ((lo / y : Nat) : Int) := quo_eq hl
  have z7 : (0 : Int) < (y : Int) := by omega
  have z6 : ¬ (y : Int) = 0 := by omega
  clear hl
  generalize lo / y = q at *
  go_enter Try.func49, Try.ntmps49
  go_wp2
  go_quiet (fail)
  go_wp2
  go_ret2
  exact ⟨⟨_, rfl⟩, pw_below_drewN (Below.refl _ _) _⟩
theorem div64_calls (hi lo y : Nat) (h2 : hi < y) (hl : lo < 18446744073709551616) (hy : y < 18446744073709551616) (w : World) :
    Calls Try.prog 49 #[.int .u64 hi, .int .u64 lo, .int .u64 y] w fun e w' => (∃ r : Int, e = .returned (.tuple #[.int .u64 (((hi * 18446744073709551616 + lo) / y : Nat) : Int), .int .u64 r])) ∧ Below w.heap.size w w' := by
  rcases Nat.eq_zero_or_pos hi with h0 | h0
  · subst h0
    have := div64_zero lo y h2 hl w
    rwa [show (0 * 18446744073709551616 + lo) = lo by omega]
  · obtain ⟨s, hs, hf, hb1, hb2⟩ := lead_is y (by omega) hy
    have h := div64_big hi lo y s _ _ _ _ _ _ _ _ _ _ _ _ ((hi * 18446744073709551616 + lo) / y) rfl hb1 hb2 rfl rfl hs rfl (setup_lt hs hl h2) rfl rfl rfl rfl rfl rfl (by
      rw [two_digits (by omega), ← setup_quo (hi := hi) (lo := lo) (y := y) hs, Nat.div_add_mod']) h0 h2 hl hy rfl rfl hf w
    exact h
theorem bnd_top (span : Nat) (h : span < 18446744073709551616) : bndN span 18446744073709551615 = if span = 0 then 0 else if span ≤ 9223372036854775808 then span - 1 else span - 2 := by
  unfold bndN
  rw [if_neg (by omega)]
  split
  · omega
  · split <;> omega
def lease_Bound.f (a0 a1 : Int) : Option Int := if (0 ≤ a0 ∧ a0 < 18446744073709551616) ∧ (0 ≤ a1 ∧ a1 < 18446744073709551616) then some (bndN a0.toNat a1.toNat : Nat) else none
set_option maxHeartbeats 4000000 in
set_option maxRecDepth 100000 in
theorem gbound_calls (span d : Nat) (hs : span < 18446744073709551616) (hd : d < 18446744073709551616) (w : World) : Calls Try.prog 18 #[.int .u64 span, .int .u64 d] w fun e w' => e = .returned (.int .u64 (bndN span d : Nat)) ∧ Below w.heap.size w w' := by
  by_cases c : d < 2
  · have cz : (d : Int) < 2 := by omega
    have HV : Aside0 (bndN span d = 0) := ⟨by unfold bndN; rw [if_pos c]⟩
    clear hs hd c
    go_enter Try.func18, Try.ntmps18
    go_wp2
    go_ret
    exact ⟨ret_n HV.out.symm, Below.refl _ _⟩
  · have hz : ¬ (d : Int) < 2 := by omega
    by_cases ct : d = 18446744073709551615
    · subst ct
      have HT := Aside0.mk (bnd_top span hs)
      clear c hz hd
      rcases Nat.lt_or_ge 9223372036854775808 span with c1 | c1
      · have HV : Aside0 (bndN span 18446744073709551615 = span - 2) := ⟨by rw [HT.out, if_neg (by omega), if_neg (by omega)]⟩
        have hf : lease_below.f (span : Int) = some 1 := by unfold lease_below.f; rw [if_pos (by omega)]
        have HF := Aside0.mk hf
        have HC1 := Aside0.mk c1
        have hmin : min (span : Int) 1 = 1 := by omega
        have hw1 : IntKind.u64.wrap (IntKind.u64.wrap ((span : Int) - 1) - 1) = ((span - 2 : Nat) : Int) := by simp only [IntKind.wrap_u64]; omega
        have hw2 : IntKind.u64.wrap ((span : Int) - 1 - 1) = ((span - 2 : Nat) : Int) := by simp only [IntKind.wrap_u64]; omega
        clear hf HT
        generalize bndN span 18446744073709551615 = res at *
        go_enter Try.func18, Try.ntmps18
        go_wp2_with (go_at_call 47; refine (lease_below.calls _ _ _ HF.out).mono ?_; rintro e w1 ⟨rfl, hd1⟩; have hb1 := hd1.below; clear hd1)
        go_ret
        exact ⟨ret_n HV.out.symm, hb1⟩
      · have hf : lease_below.f (span : Int) = some 0 := by unfold lease_below.f; rw [if_neg (by omega)]
        have HF := Aside0.mk hf
        rcases Nat.eq_zero_or_pos span with c2 | c2
        · subst c2
          have HV : Aside0 (bndN 0 18446744073709551615 = 0) := ⟨by rw [HT.out, if_pos rfl]⟩
          clear hf HT c1 hs
          generalize bndN 0 18446744073709551615 = res at *
          go_enter Try.func18, Try.ntmps18
          go_wp2_with (go_at_call 47; refine (lease_below.calls _ _ _ HF.out).mono ?_; rintro e w1 ⟨rfl, hd1⟩; have hb1 := hd1.below; clear hd1)
          go_ret
          exact ⟨ret_n HV.out.symm, hb1⟩
        · rcases Nat.lt_or_ge 1 span with c3 | c3
          · have HV : Aside0 (bndN span 18446744073709551615 = span - 1) := ⟨by rw [HT.out, if_neg (by omega), if_pos c1]⟩
            have hmin : min (span : Int) 1 = 1 := by omega
            have hz1 : ¬ (span : Int) ≤ 1 := by omega
            have hw2 : IntKind.u64.wrap ((span : Int) - 1) = ((span - 1 : Nat) : Int) := by simp only [IntKind.wrap_u64]; omega
            have hw4 : IntKind.u64.wrap (((span - 1 : Nat) : Int)) = ((span - 1 : Nat) : Int) := by simp only [IntKind.wrap_u64]; omega
            clear hf HT c1 hs c2
            generalize bndN span 18446744073709551615 = res at *
            generalize span - 1 = sp1 at *
            go_enter Try.func18, Try.ntmps18
            go_wp2_with (go_at_call 47; refine (lease_below.calls _ _ _ HF.out).mono ?_; rintro e w1 ⟨rfl, hd1⟩; have hb1 := hd1.below; clear hd1)
            go_ret
            exact ⟨ret_n HV.out.symm, hb1⟩
          · obtain rfl : span = 1 := by omega
            have HV : Aside0 (bndN 1 18446744073709551615 = 0) := ⟨by rw [HT.out, if_neg (by omega), if_pos c1]⟩
            clear hf HT c1 hs c2 c3
            generalize bndN 1 18446744073709551615 = res at *
            go_enter Try.func18, Try.ntmps18
            go_wp2_with (go_at_call 47; refine (lease_below.calls _ _ _ HF.out).mono ?_; rintro e w1 ⟨rfl, hd1⟩; have hb1 := hd1.below; clear hd1)
            go_ret
            exact ⟨ret_n HV.out.symm, hb1⟩
    · have hw : IntKind.u64.wrap ((d : Int) - 1) = ((d - 1 : Nat) : Int) := by rw [IntKind.wrap_u64]; omega
      have hw2 : IntKind.u64.wrap ((d : Int) + 1) = ((d + 1 : Nat) : Int) := by rw [IntKind.wrap_u64]; omega
      have hne : ¬ (((d + 1 : Nat) : Int) = 0) := by omega
      have hne2 : ((((d + 1 : Nat) : Int)) == 0) = false := by simp; omega
      have HT := Aside0.mk (fun W => times_calls span (d - 1) hs (by omega) W)
      have hhi : span * (d - 1) / 18446744073709551616 < d + 1 := by
        refine (Nat.div_lt_iff_lt_mul (by decide)).2 ?_
        have h1 : span * (d - 1) ≤ 18446744073709551615 * (d - 1) := Nat.mul_le_mul_right _ (by omega)
        omega
      have HD := Aside0.mk (fun W => div64_calls (span * (d - 1) / 18446744073709551616) (span * (d - 1) % 18446744073709551616) (d + 1) hhi (Nat.mod_lt _ (by decide)) (by omega) W)
      have HV : Aside0 (bndN span d = (span * (d - 1) / 18446744073709551616 * 18446744073709551616 + span * (d - 1) % 18446744073709551616) / (d + 1)) := ⟨by unfold bndN; rw [if_neg c, Nat.div_add_mod']⟩
      generalize bndN span d = res at *
      generalize (span * (d - 1) / 18446744073709551616 * 18446744073709551616 + span * (d - 1) % 18446744073709551616) / (d + 1) = res2 at *
      generalize span * (d - 1) / 18446744073709551616 = hi at *
      generalize span * (d - 1) % 18446744073709551616 = lo at *
      clear hhi hs hd c ct
      generalize hd1 : d - 1 = dm at *
      generalize hd2 : d + 1 = dp at *
      clear hd1 hd2
      go_enter Try.func18, Try.ntmps18
      go_wp2_with (first
        | (go_at_call 48; refine (HT.out _).mono ?_; rintro e w1 ⟨rfl, hb1⟩; have HB1 := Aside0.mk hb1; clear hb1)
        | (go_at_call 49; refine (HD.out _).mono ?_; rintro e w2 ⟨⟨r, rfl⟩, hb2⟩; have HB2 := Aside0.mk hb2; clear hb2))
      go_ret
      exact ⟨ret_n HV.out.symm, (HB1.out.alloc HB1.out.size _).trans (HB2.out.mono (by simp; have := HB1.out.size; omega))⟩
theorem lease_Bound.calls (a0 a1 : Int) (r : Int) (w : World) (h : lease_Bound.f a0 a1 = some r) : Calls Try.prog 18 #[.int .u64 a0, .int .u64 a1] w fun e w' => e = .returned (.int .u64 r) ∧ Below w.heap.size w w' := by
  unfold lease_Bound.f at h
  split at h
  case isFalse => cases h
  rename_i hg
  obtain ⟨⟨h0, h1⟩, ⟨h2, h3⟩⟩ := hg
  obtain rfl := Option.some.inj h
  have := gbound_calls a0.toNat a1.toNat (by omega) (by omega) w
  rwa [Int.toNat_of_nonneg h0, Int.toNat_of_nonneg h2] at this
end Go.Proofs.Ytlmefnifhbcbcaa.PAll
end
