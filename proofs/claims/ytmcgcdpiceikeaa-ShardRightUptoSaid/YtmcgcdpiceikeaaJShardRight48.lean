/- Joined texts of the claim ShardRight (part 48): contracts of functions and plain laws. -/
import Derived.Test.YtmcgcdpiceikeaaJShardRight14
import Derived.Test.YtmcgcdpiceikeaaJShardRight19
import Derived.Test.YtmcgcdpiceikeaaJShardRight29
section
-- Printed by this session's pr.sh (the kit's print.py, several laws in one namespace). Not trusted: Lean checks it.
namespace Go.Proofs.Ytmcgcdpiceikeaa.PAll
open Go.RowKit Go.Proofs.YtmcgcdpiceikeaaW.PrintWords Go.Proofs.YtmcgcdpiceikeaaW.PrintLast Go.Proofs.YtmcgcdpiceikeaaW.PrintMore
attribute [local go_sem] max2_int min2_int max_two min_two max_three min_three max_four min_four   -- for this text's walks alone
set_option linter.unusedVariables false
set_option linter.unusedSimpArgs false

theorem eqA75 (d : Nat) (w : World) (x0 y0 : ByteArray) (x1 y1 : Int) (x2 y2 : Int) (x3 y3 : Bool) :
    (Op.equalIn (d + 3) 75 (.agg #[.string x0, .int .u64 x1, .int .u64 x2, .bool x3]) (.agg #[.string y0, .int .u64 y1, .int .u64 y2, .bool y3])).run Try.prog w = .ok (x0.toList == y0.toList && ((x1 == y1 && (x2 == y2)) && (x3 == y3))) w := by
  refine eqA_of Try.underlying75 (by kernel_rfl) ?_
  refine eqf_cons (by rfl) (by go_simp; rfl) (by go_simp; rfl) (by go_simp) ?_
  refine eqf_cons (by rfl) (by go_simp) (by go_simp) (eqA30 (d + 0) w _ _ _ _) ?_
  exact eqf_last (by rfl) (by go_simp; rfl) (by go_simp; rfl) (by go_simp)
end Go.Proofs.Ytmcgcdpiceikeaa.PAll
end
section
-- Printed by this session's pr.sh (the kit's print.py, several laws in one namespace). Not trusted: Lean checks it.
namespace Go.Proofs.Ytmcgcdpiceikeaa.PAll
open Go.RowKit Go.Proofs.YtmcgcdpiceikeaaW.PrintWords Go.Proofs.YtmcgcdpiceikeaaW.PrintLast Go.Proofs.YtmcgcdpiceikeaaW.PrintMore
attribute [local go_sem] max2_int min2_int max_two min_two max_three min_three max_four min_four   -- for this text's walks alone
set_option linter.unusedVariables false
set_option linter.unusedSimpArgs false

attribute [local go_sem high] eqA75
/-! ### ferruleref12_Same: function 29 -/
def ferruleref12_Same.l0 : Nat → List (S75) → List (S75) → Int → Option (Bool)
  | 0, _, _, _ => none
  | k + 1, x0, x1, x5 => if x5 < (x0.length : Int) then (if 0 ≤ x5 then (if x5 < (x1.length : Int) then (if (!((((rd_T75 x0 x5).f0).toList) == (((rd_T75 x1 x5).f0).toList)) || ((!(((rd_T75 x0 x5).f1.f0) == ((rd_T75 x1 x5).f1.f0)) || (!(((rd_T75 x0 x5).f1.f1) == ((rd_T75 x1 x5).f1.f1)))) || (!(((rd_T75 x0 x5).f2) == ((rd_T75 x1 x5).f2))))) = true then (some false) else (ferruleref12_Same.l0 k x0 x1 (wrap64 (x5 + 1)))) else (none)) else (none)) else (some true)
def ferruleref12_Same.f (k : Nat) (l0 : List (S75)) (l1 : List (S75)) : Option (Bool) := if (l0.length : Int) = (l1.length : Int) then (ferruleref12_Same.l0 k l0 l1 0) else (some false)
set_option maxHeartbeats 8000000 in
set_option maxRecDepth 100000 in
theorem ferruleref12_Same.calls (k : Nat) (A0 : Option Addr) (c0 : Nat) (l0 : List (S75)) (A1 : Option Addr) (c1 : Nat) (l1 : List (S75)) (r : Bool) (w : World) (hr0 : Kd.C k75 w A0 l0.length l0) (hc0 : l0.length ≤ c0) (hr1 : Kd.C k75 w A1 l1.length l1) (hc1 : l1.length ≤ c1) (h : ferruleref12_Same.f k l0 l1 = some r) :
    Calls Try.prog 29 #[.slice A0 l0.length c0, .slice A1 l1.length c1] w fun e w' => e = .returned (.bool r) ∧ Drawn0 w w' := by
  have hu75 := Try.underlying75
  have HR0 := Aside0.mk hr0
  have HC0 := Aside0.mk hc0
  clear hr0 hc0
  have HR1 := Aside0.mk hr1
  have HC1 := Aside0.mk hc1
  clear hr1 hc1
  have H : (if (l0.length : Int) = (l1.length : Int) then (ferruleref12_Same.l0 k l0 l1 0) else (some false)) = some r := h
  clear h
  by_cases c3 : (l0.length : Int) = (l1.length : Int)
  · rw [if_pos c3] at H
    have c3b0 : ((l0.length : Int) == (l1.length : Int)) = true := beq_iff_eq.mpr c3
    have c3b1 : ((l0.length : Int) != (l1.length : Int)) = false := bne_eq_false_iff_eq.mpr c3
    have c3b2 : (l0.length == l1.length) = true := by first | simpa using c3 | (simp at c3 ⊢; omega)
    clear c3
    have H' := Aside0.mk H
    clear H
    go_enter Try.func29, Try.ntmps29
    go_wp2
    repeat (go_quiet (fail); try go_wp2)
    go_loopg [5] k (fun kq v5 w' => ∃ (x5_1 : Int), v5 = .int .i64 x5_1 ∧ Aside0 (ferruleref12_Same.l0 kq l0 l1 x5_1 = some r) ∧ Aside0 (kq ≤ k) ∧ Drawn0 w w')
    case atStart => exact ⟨(0), (by first | rfl | (simp; done) | (simp [*]; done)), H', ⟨Nat.le_refl _⟩, by repeat (first | exact Drawn0.refl _ | apply Drawn0.step)⟩
    case round =>
      clear H'
      try clear c1
      try clear c2
      try clear p2
      try clear c3
      try clear c3b0
      try clear c3b1
      try clear c3b2
      obtain ⟨x5_1, rfl, HA, HK1, ⟨m1, rfl⟩⟩ := hrel
      cases gk with
      | zero => exact absurd HA.out (by simp [ferruleref12_Same.l0])
      | succ k1 =>
        have H := HA.out
        clear HA
        simp only [ferruleref12_Same.l0] at H
        by_cases c4 : x5_1 < (l0.length : Int)
        · rw [if_pos c4] at H
          have c4b0 : decide (x5_1 < (l0.length : Int)) = true := decide_eq_true c4
          clear c4
          by_cases c5 : 0 ≤ x5_1
          · rw [if_pos c5] at H
            have c5b0 : decide (0 ≤ x5_1) = true := decide_eq_true c5
            clear c5
            by_cases c6 : x5_1 < (l1.length : Int)
            · rw [if_pos c6] at H
              have c6b0 : decide (x5_1 < (l1.length : Int)) = true := decide_eq_true c6
              clear c6
              by_cases c7 : (!((((rd_T75 l0 x5_1).f0).toList) == (((rd_T75 l1 x5_1).f0).toList)) || ((!(((rd_T75 l0 x5_1).f1.f0) == ((rd_T75 l1 x5_1).f1.f0)) || (!(((rd_T75 l0 x5_1).f1.f1) == ((rd_T75 l1 x5_1).f1.f1)))) || (!(((rd_T75 l0 x5_1).f2) == ((rd_T75 l1 x5_1).f2))))) = true
              · rw [if_pos c7] at H
                have c7b0 : (!((((rd_T75 l0 x5_1).f0).toList) == (((rd_T75 l1 x5_1).f0).toList)) || ((!(((rd_T75 l0 x5_1).f1.f0) == ((rd_T75 l1 x5_1).f1.f0)) || (!(((rd_T75 l0 x5_1).f1.f1) == ((rd_T75 l1 x5_1).f1.f1)))) || (!(((rd_T75 l0 x5_1).f2) == ((rd_T75 l1 x5_1).f2))))) = true := c7
                clear c7
                obtain rfl := Option.some.inj H
                have p509 : 0 ≤ (x5_1 : Int) := of_decide_eq_true (by first | (with_reducible assumption) | assumption)
                have q509 : x5_1 < (l0.length : Int) := of_decide_eq_true (by first | (with_reducible assumption) | assumption)
                obtain ⟨ad509, e509, hx509_0, hx509_1, hx509_2, hx509_3⟩ := at_T75 HR0.out x5_1 p509 q509
                cases e509
                replace p509 := eq_true p509
                replace q509 := eq_true q509
                have p510 : 0 ≤ (x5_1 : Int) := of_decide_eq_true (by first | (with_reducible assumption) | assumption)
                have q510 : x5_1 < (l1.length : Int) := of_decide_eq_true (by first | (with_reducible assumption) | assumption)
                obtain ⟨ad510, e510, hx510_0, hx510_1, hx510_2, hx510_3⟩ := at_T75 HR1.out x5_1 p510 q510
                cases e510
                replace p510 := eq_true p510
                replace q510 := eq_true q510
                go_wp2
                repeat (go_quiet (fail); try go_wp2)
                go_ret
                exact ⟨by first | rfl | (simp; done) | (simp [*]; done), by repeat (first | exact Drawn0.refl _ | apply Drawn0.step)⟩
              · rw [if_neg c7] at H
                have c7b0 : (!((((rd_T75 l0 x5_1).f0).toList) == (((rd_T75 l1 x5_1).f0).toList)) || ((!(((rd_T75 l0 x5_1).f1.f0) == ((rd_T75 l1 x5_1).f1.f0)) || (!(((rd_T75 l0 x5_1).f1.f1) == ((rd_T75 l1 x5_1).f1.f1)))) || (!(((rd_T75 l0 x5_1).f2) == ((rd_T75 l1 x5_1).f2))))) = false := by simpa using c7
                clear c7
                have H' := Aside0.mk H
                clear H
                have p509 : 0 ≤ (x5_1 : Int) := of_decide_eq_true (by first | (with_reducible assumption) | assumption)
                have q509 : x5_1 < (l0.length : Int) := of_decide_eq_true (by first | (with_reducible assumption) | assumption)
                obtain ⟨ad509, e509, hx509_0, hx509_1, hx509_2, hx509_3⟩ := at_T75 HR0.out x5_1 p509 q509
                cases e509
                replace p509 := eq_true p509
                replace q509 := eq_true q509
                have p510 : 0 ≤ (x5_1 : Int) := of_decide_eq_true (by first | (with_reducible assumption) | assumption)
                have q510 : x5_1 < (l1.length : Int) := of_decide_eq_true (by first | (with_reducible assumption) | assumption)
                obtain ⟨ad510, e510, hx510_0, hx510_1, hx510_2, hx510_3⟩ := at_T75 HR1.out x5_1 p510 q510
                cases e510
                replace p510 := eq_true p510
                replace q510 := eq_true q510
                go_wp2
                repeat (go_quiet (fail); try go_wp2)
                go_roundg k1
                case measure => have := HK1.out; omega
                case rel => exact ⟨(wrap64 (x5_1 + 1)), (by first | rfl | (simp; done) | (simp [*]; done)), H', ⟨by have := HK1.out; omega⟩, by repeat (first | exact Drawn0.refl _ | apply Drawn0.step)⟩
            · rw [if_neg c6] at H
              exact absurd H (by simp)
          · rw [if_neg c5] at H
            exact absurd H (by simp)
        · rw [if_neg c4] at H
          have c4b0 : decide (x5_1 < (l0.length : Int)) = false := decide_eq_false c4
          clear c4
          obtain rfl := Option.some.inj H
          go_wp2
          repeat (go_quiet (fail); try go_wp2)
          go_ret
          exact ⟨by first | rfl | (simp; done) | (simp [*]; done), by repeat (first | exact Drawn0.refl _ | apply Drawn0.step)⟩
  · rw [if_neg c3] at H
    have c3b0 : ((l0.length : Int) == (l1.length : Int)) = false := beq_eq_false_iff_ne.mpr c3
    have c3b1 : ((l0.length : Int) != (l1.length : Int)) = true := bne_iff_ne.mpr c3
    have c3b2 : (l0.length == l1.length) = false := by first | simpa using c3 | (simp at c3 ⊢; omega)
    obtain rfl := Option.some.inj H
    go_enter Try.func29, Try.ntmps29
    go_wp2
    repeat (go_quiet (fail); try go_wp2)
    go_ret
    exact ⟨by first | rfl | (simp; done) | (simp [*]; done), by repeat (first | exact Drawn0.refl _ | apply Drawn0.step)⟩

end Go.Proofs.Ytmcgcdpiceikeaa.PAll
end
section
-- Printed by this session's pr.sh (the kit's print.py, several laws in one namespace). Not trusted: Lean checks it.
namespace Go.Proofs.Ytmcgcdpiceikeaa.PAll
open Go.RowKit Go.Proofs.YtmcgcdpiceikeaaW.PrintWords Go.Proofs.YtmcgcdpiceikeaaW.PrintLast Go.Proofs.YtmcgcdpiceikeaaW.PrintMore
attribute [local go_sem] max2_int min2_int max_two min_two max_three min_three max_four min_four   -- for this text's walks alone
set_option linter.unusedVariables false
set_option linter.unusedSimpArgs false

attribute [local go_sem high] eqA50
/-! ### api_Row_47: function 47 -/
def api_Row_47.l0 : Nat → List (S50) → List (S50) → Int → Int → Option (Bool)
  | 0, _, _, _, _ => none
  | k + 1, x0, x1, x12, x13 => if x13 < x12 then (if 0 ≤ x13 then (if x13 < (x0.length : Int) then (if x13 < (x1.length : Int) then (if (!((((rd_T50 x0 x13).f0).toList) == (((rd_T50 x1 x13).f0).toList)) || (!((((rd_T50 x0 x13).f1).toList) == (((rd_T50 x1 x13).f1).toList)) || (!(((rd_T50 x0 x13).f2) == ((rd_T50 x1 x13).f2))))) = true then (some false) else (api_Row_47.l0 k x0 x1 x12 (wrap64 (x13 + 1)))) else (none)) else (none)) else (none)) else (some true)
def api_Row_47.f (k : Nat) (l0 : List (S50)) (l1 : List (S50)) : Option (Bool) := if (l0.length : Int) = (l1.length : Int) then (api_Row_47.l0 k l0 l1 (l0.length : Int) 0) else (some false)
set_option maxHeartbeats 8000000 in
set_option maxRecDepth 100000 in
theorem api_Row_47.calls (k : Nat) (A0 : Option Addr) (c0 : Nat) (l0 : List (S50)) (A1 : Option Addr) (c1 : Nat) (l1 : List (S50)) (r : Bool) (w : World) (hr0 : Kd.C k50 w A0 l0.length l0) (hc0 : l0.length ≤ c0) (hr1 : Kd.C k50 w A1 l1.length l1) (hc1 : l1.length ≤ c1) (h : api_Row_47.f k l0 l1 = some r) :
    Calls Try.prog 47 #[.slice A0 l0.length c0, .slice A1 l1.length c1] w fun e w' => e = .returned (.bool r) ∧ Drawn0 w w' := by
  have hu50 := Try.underlying50
  have HR0 := Aside0.mk hr0
  have HC0 := Aside0.mk hc0
  clear hr0 hc0
  have HR1 := Aside0.mk hr1
  have HC1 := Aside0.mk hc1
  clear hr1 hc1
  have H : (if (l0.length : Int) = (l1.length : Int) then (api_Row_47.l0 k l0 l1 (l0.length : Int) 0) else (some false)) = some r := h
  clear h
  by_cases c3 : (l0.length : Int) = (l1.length : Int)
  · rw [if_pos c3] at H
    have c3b0 : ((l0.length : Int) == (l1.length : Int)) = true := beq_iff_eq.mpr c3
    have c3b1 : ((l0.length : Int) != (l1.length : Int)) = false := bne_eq_false_iff_eq.mpr c3
    have c3b2 : (l0.length == l1.length) = true := by first | simpa using c3 | (simp at c3 ⊢; omega)
    clear c3
    have H' := Aside0.mk H
    clear H
    go_enter Try.func47, Try.ntmps47
    go_wp2
    repeat (go_quiet (fail); try go_wp2)
    go_loopg [13] k (fun kq v13 w' => ∃ (x13_1 : Int), v13 = .int .i64 x13_1 ∧ Aside0 (api_Row_47.l0 kq l0 l1 (l0.length : Int) x13_1 = some r) ∧ Aside0 (kq ≤ k) ∧ Drawn0 w w')
    case atStart => exact ⟨(0), (by first | rfl | (simp; done) | (simp [*]; done)), H', ⟨Nat.le_refl _⟩, by repeat (first | exact Drawn0.refl _ | apply Drawn0.step)⟩
    case round =>
      clear H'
      try clear c1
      try clear p2
      try clear c3
      try clear c3b0
      try clear c3b1
      try clear c3b2
      obtain ⟨x13_1, rfl, HA, HK1, ⟨m1, rfl⟩⟩ := hrel
      cases gk with
      | zero => exact absurd HA.out (by simp [api_Row_47.l0])
      | succ k1 =>
        have H := HA.out
        clear HA
        simp only [api_Row_47.l0] at H
        by_cases c4 : x13_1 < (l0.length : Int)
        · rw [if_pos c4] at H
          have c4b0 : decide (x13_1 < (l0.length : Int)) = true := decide_eq_true c4
          clear c4
          by_cases c5 : 0 ≤ x13_1
          · rw [if_pos c5] at H
            have c5b0 : decide (0 ≤ x13_1) = true := decide_eq_true c5
            clear c5
            by_cases c6 : x13_1 < (l0.length : Int)
            · rw [if_pos c6] at H
              have c6b0 : decide (x13_1 < (l0.length : Int)) = true := decide_eq_true c6
              clear c6
              by_cases c7 : x13_1 < (l1.length : Int)
              · rw [if_pos c7] at H
                have c7b0 : decide (x13_1 < (l1.length : Int)) = true := decide_eq_true c7
                clear c7
                by_cases c8 : (!((((rd_T50 l0 x13_1).f0).toList) == (((rd_T50 l1 x13_1).f0).toList)) || (!((((rd_T50 l0 x13_1).f1).toList) == (((rd_T50 l1 x13_1).f1).toList)) || (!(((rd_T50 l0 x13_1).f2) == ((rd_T50 l1 x13_1).f2))))) = true
                · rw [if_pos c8] at H
                  have c8b0 : (!((((rd_T50 l0 x13_1).f0).toList) == (((rd_T50 l1 x13_1).f0).toList)) || (!((((rd_T50 l0 x13_1).f1).toList) == (((rd_T50 l1 x13_1).f1).toList)) || (!(((rd_T50 l0 x13_1).f2) == ((rd_T50 l1 x13_1).f2))))) = true := c8
                  clear c8
                  obtain rfl := Option.some.inj H
                  have p570 : 0 ≤ (x13_1 : Int) := of_decide_eq_true (by first | (with_reducible assumption) | assumption)
                  have q570 : x13_1 < (l0.length : Int) := of_decide_eq_true (by first | (with_reducible assumption) | assumption)
                  obtain ⟨ad570, e570, hx570_0, hx570_1, hx570_2⟩ := at_T50 HR0.out x13_1 p570 q570
                  cases e570
                  replace p570 := eq_true p570
                  replace q570 := eq_true q570
                  have p571 : 0 ≤ (x13_1 : Int) := of_decide_eq_true (by first | (with_reducible assumption) | assumption)
                  have q571 : x13_1 < (l1.length : Int) := of_decide_eq_true (by first | (with_reducible assumption) | assumption)
                  obtain ⟨ad571, e571, hx571_0, hx571_1, hx571_2⟩ := at_T50 HR1.out x13_1 p571 q571
                  cases e571
                  replace p571 := eq_true p571
                  replace q571 := eq_true q571
                  go_wp2
                  repeat (go_quiet (fail); try go_wp2)
                  go_ret
                  exact ⟨by first | rfl | (simp; done) | (simp [*]; done), by repeat (first | exact Drawn0.refl _ | apply Drawn0.step)⟩
                · rw [if_neg c8] at H
                  have c8b0 : (!((((rd_T50 l0 x13_1).f0).toList) == (((rd_T50 l1 x13_1).f0).toList)) || (!((((rd_T50 l0 x13_1).f1).toList) == (((rd_T50 l1 x13_1).f1).toList)) || (!(((rd_T50 l0 x13_1).f2) == ((rd_T50 l1 x13_1).f2))))) = false := by simpa using c8
                  clear c8
                  have H' := Aside0.mk H
                  clear H
                  have p570 : 0 ≤ (x13_1 : Int) := of_decide_eq_true (by first | (with_reducible assumption) | assumption)
                  have q570 : x13_1 < (l0.length : Int) := of_decide_eq_true (by first | (with_reducible assumption) | assumption)
                  obtain ⟨ad570, e570, hx570_0, hx570_1, hx570_2⟩ := at_T50 HR0.out x13_1 p570 q570
                  cases e570
                  replace p570 := eq_true p570
                  replace q570 := eq_true q570
                  have p571 : 0 ≤ (x13_1 : Int) := of_decide_eq_true (by first | (with_reducible assumption) | assumption)
                  have q571 : x13_1 < (l1.length : Int) := of_decide_eq_true (by first | (with_reducible assumption) | assumption)
                  obtain ⟨ad571, e571, hx571_0, hx571_1, hx571_2⟩ := at_T50 HR1.out x13_1 p571 q571
                  cases e571
                  replace p571 := eq_true p571
                  replace q571 := eq_true q571
                  go_wp2
                  repeat (go_quiet (fail); try go_wp2)
                  go_roundg k1
                  case measure => have := HK1.out; omega
                  case rel => exact ⟨(wrap64 (x13_1 + 1)), (by first | rfl | (simp; done) | (simp [*]; done)), H', ⟨by have := HK1.out; omega⟩, by repeat (first | exact Drawn0.refl _ | apply Drawn0.step)⟩
              · rw [if_neg c7] at H
                exact absurd H (by simp)
            · rw [if_neg c6] at H
              exact absurd H (by simp)
          · rw [if_neg c5] at H
            exact absurd H (by simp)
        · rw [if_neg c4] at H
          have c4b0 : decide (x13_1 < (l0.length : Int)) = false := decide_eq_false c4
          clear c4
          obtain rfl := Option.some.inj H
          go_wp2
          repeat (go_quiet (fail); try go_wp2)
          go_ret
          exact ⟨by first | rfl | (simp; done) | (simp [*]; done), by repeat (first | exact Drawn0.refl _ | apply Drawn0.step)⟩
  · rw [if_neg c3] at H
    have c3b0 : ((l0.length : Int) == (l1.length : Int)) = false := beq_eq_false_iff_ne.mpr c3
    have c3b1 : ((l0.length : Int) != (l1.length : Int)) = true := bne_iff_ne.mpr c3
    have c3b2 : (l0.length == l1.length) = false := by first | simpa using c3 | (simp at c3 ⊢; omega)
    obtain rfl := Option.some.inj H
    go_enter Try.func47, Try.ntmps47
    go_wp2
    repeat (go_quiet (fail); try go_wp2)
    go_ret
    exact ⟨by first | rfl | (simp; done) | (simp [*]; done), by repeat (first | exact Drawn0.refl _ | apply Drawn0.step)⟩

end Go.Proofs.Ytmcgcdpiceikeaa.PAll
end
section
-- Printed by this session's pr.sh (the kit's print.py, several laws in one namespace). Not trusted: Lean checks it.
namespace Go.Proofs.Ytmcgcdpiceikeaa.PAll
open Go.RowKit Go.Proofs.YtmcgcdpiceikeaaW.PrintWords Go.Proofs.YtmcgcdpiceikeaaW.PrintLast Go.Proofs.YtmcgcdpiceikeaaW.PrintMore
attribute [local go_sem] max2_int min2_int max_two min_two max_three min_three max_four min_four   -- for this text's walks alone
set_option linter.unusedVariables false
set_option linter.unusedSimpArgs false

attribute [local go_sem high] eqA75
/-! ### api_Hold_48: function 48 -/
def api_Hold_48.l0 : Nat → List (S75) → List (S75) → Int → Int → Option (Bool)
  | 0, _, _, _, _ => none
  | k + 1, x0, x1, x12, x13 => if x13 < x12 then (if 0 ≤ x13 then (if x13 < (x0.length : Int) then (if x13 < (x1.length : Int) then (if (!((((rd_T75 x0 x13).f0).toList) == (((rd_T75 x1 x13).f0).toList)) || ((!(((rd_T75 x0 x13).f1.f0) == ((rd_T75 x1 x13).f1.f0)) || (!(((rd_T75 x0 x13).f1.f1) == ((rd_T75 x1 x13).f1.f1)))) || (!(((rd_T75 x0 x13).f2) == ((rd_T75 x1 x13).f2))))) = true then (some false) else (api_Hold_48.l0 k x0 x1 x12 (wrap64 (x13 + 1)))) else (none)) else (none)) else (none)) else (some true)
def api_Hold_48.f (k : Nat) (l0 : List (S75)) (l1 : List (S75)) : Option (Bool) := if (l0.length : Int) = (l1.length : Int) then (api_Hold_48.l0 k l0 l1 (l0.length : Int) 0) else (some false)
set_option maxHeartbeats 8000000 in
set_option maxRecDepth 100000 in
theorem api_Hold_48.calls (k : Nat) (A0 : Option Addr) (c0 : Nat) (l0 : List (S75)) (A1 : Option Addr) (c1 : Nat) (l1 : List (S75)) (r : Bool) (w : World) (hr0 : Kd.C k75 w A0 l0.length l0) (hc0 : l0.length ≤ c0) (hr1 : Kd.C k75 w A1 l1.length l1) (hc1 : l1.length ≤ c1) (h : api_Hold_48.f k l0 l1 = some r) :
    Calls Try.prog 48 #[.slice A0 l0.length c0, .slice A1 l1.length c1] w fun e w' => e = .returned (.bool r) ∧ Drawn0 w w' := by
  have hu75 := Try.underlying75
  have HR0 := Aside0.mk hr0
  have HC0 := Aside0.mk hc0
  clear hr0 hc0
  have HR1 := Aside0.mk hr1
  have HC1 := Aside0.mk hc1
  clear hr1 hc1
  have H : (if (l0.length : Int) = (l1.length : Int) then (api_Hold_48.l0 k l0 l1 (l0.length : Int) 0) else (some false)) = some r := h
  clear h
  by_cases c3 : (l0.length : Int) = (l1.length : Int)
  · rw [if_pos c3] at H
    have c3b0 : ((l0.length : Int) == (l1.length : Int)) = true := beq_iff_eq.mpr c3
    have c3b1 : ((l0.length : Int) != (l1.length : Int)) = false := bne_eq_false_iff_eq.mpr c3
    have c3b2 : (l0.length == l1.length) = true := by first | simpa using c3 | (simp at c3 ⊢; omega)
    clear c3
    have H' := Aside0.mk H
    clear H
    go_enter Try.func48, Try.ntmps48
    go_wp2
    repeat (go_quiet (fail); try go_wp2)
    go_loopg [13] k (fun kq v13 w' => ∃ (x13_1 : Int), v13 = .int .i64 x13_1 ∧ Aside0 (api_Hold_48.l0 kq l0 l1 (l0.length : Int) x13_1 = some r) ∧ Aside0 (kq ≤ k) ∧ Drawn0 w w')
    case atStart => exact ⟨(0), (by first | rfl | (simp; done) | (simp [*]; done)), H', ⟨Nat.le_refl _⟩, by repeat (first | exact Drawn0.refl _ | apply Drawn0.step)⟩
    case round =>
      clear H'
      try clear c1
      try clear p2
      try clear c3
      try clear c3b0
      try clear c3b1
      try clear c3b2
      obtain ⟨x13_1, rfl, HA, HK1, ⟨m1, rfl⟩⟩ := hrel
      cases gk with
      | zero => exact absurd HA.out (by simp [api_Hold_48.l0])
      | succ k1 =>
        have H := HA.out
        clear HA
        simp only [api_Hold_48.l0] at H
        by_cases c4 : x13_1 < (l0.length : Int)
        · rw [if_pos c4] at H
          have c4b0 : decide (x13_1 < (l0.length : Int)) = true := decide_eq_true c4
          clear c4
          by_cases c5 : 0 ≤ x13_1
          · rw [if_pos c5] at H
            have c5b0 : decide (0 ≤ x13_1) = true := decide_eq_true c5
            clear c5
            by_cases c6 : x13_1 < (l0.length : Int)
            · rw [if_pos c6] at H
              have c6b0 : decide (x13_1 < (l0.length : Int)) = true := decide_eq_true c6
              clear c6
              by_cases c7 : x13_1 < (l1.length : Int)
              · rw [if_pos c7] at H
                have c7b0 : decide (x13_1 < (l1.length : Int)) = true := decide_eq_true c7
                clear c7
                by_cases c8 : (!((((rd_T75 l0 x13_1).f0).toList) == (((rd_T75 l1 x13_1).f0).toList)) || ((!(((rd_T75 l0 x13_1).f1.f0) == ((rd_T75 l1 x13_1).f1.f0)) || (!(((rd_T75 l0 x13_1).f1.f1) == ((rd_T75 l1 x13_1).f1.f1)))) || (!(((rd_T75 l0 x13_1).f2) == ((rd_T75 l1 x13_1).f2))))) = true
                · rw [if_pos c8] at H
                  have c8b0 : (!((((rd_T75 l0 x13_1).f0).toList) == (((rd_T75 l1 x13_1).f0).toList)) || ((!(((rd_T75 l0 x13_1).f1.f0) == ((rd_T75 l1 x13_1).f1.f0)) || (!(((rd_T75 l0 x13_1).f1.f1) == ((rd_T75 l1 x13_1).f1.f1)))) || (!(((rd_T75 l0 x13_1).f2) == ((rd_T75 l1 x13_1).f2))))) = true := c8
                  clear c8
                  obtain rfl := Option.some.inj H
                  have p572 : 0 ≤ (x13_1 : Int) := of_decide_eq_true (by first | (with_reducible assumption) | assumption)
                  have q572 : x13_1 < (l0.length : Int) := of_decide_eq_true (by first | (with_reducible assumption) | assumption)
                  obtain ⟨ad572, e572, hx572_0, hx572_1, hx572_2, hx572_3⟩ := at_T75 HR0.out x13_1 p572 q572
                  cases e572
                  replace p572 := eq_true p572
                  replace q572 := eq_true q572
                  have p573 : 0 ≤ (x13_1 : Int) := of_decide_eq_true (by first | (with_reducible assumption) | assumption)
                  have q573 : x13_1 < (l1.length : Int) := of_decide_eq_true (by first | (with_reducible assumption) | assumption)
                  obtain ⟨ad573, e573, hx573_0, hx573_1, hx573_2, hx573_3⟩ := at_T75 HR1.out x13_1 p573 q573
                  cases e573
                  replace p573 := eq_true p573
                  replace q573 := eq_true q573
                  go_wp2
                  repeat (go_quiet (fail); try go_wp2)
                  go_ret
                  exact ⟨by first | rfl | (simp; done) | (simp [*]; done), by repeat (first | exact Drawn0.refl _ | apply Drawn0.step)⟩
                · rw [if_neg c8] at H
                  have c8b0 : (!((((rd_T75 l0 x13_1).f0).toList) == (((rd_T75 l1 x13_1).f0).toList)) || ((!(((rd_T75 l0 x13_1).f1.f0) == ((rd_T75 l1 x13_1).f1.f0)) || (!(((rd_T75 l0 x13_1).f1.f1) == ((rd_T75 l1 x13_1).f1.f1)))) || (!(((rd_T75 l0 x13_1).f2) == ((rd_T75 l1 x13_1).f2))))) = false := by simpa using c8
                  clear c8
                  have H' := Aside0.mk H
                  clear H
                  have p572 : 0 ≤ (x13_1 : Int) := of_decide_eq_true (by first | (with_reducible assumption) | assumption)
                  have q572 : x13_1 < (l0.length : Int) := of_decide_eq_true (by first | (with_reducible assumption) | assumption)
                  obtain ⟨ad572, e572, hx572_0, hx572_1, hx572_2, hx572_3⟩ := at_T75 HR0.out x13_1 p572 q572
                  cases e572
                  replace p572 := eq_true p572
                  replace q572 := eq_true q572
                  have p573 : 0 ≤ (x13_1 : Int) := of_decide_eq_true (by first | (with_reducible assumption) | assumption)
                  have q573 : x13_1 < (l1.length : Int) := of_decide_eq_true (by first | (with_reducible assumption) | assumption)
                  obtain ⟨ad573, e573, hx573_0, hx573_1, hx573_2, hx573_3⟩ := at_T75 HR1.out x13_1 p573 q573
                  cases e573
                  replace p573 := eq_true p573
                  replace q573 := eq_true q573
                  go_wp2
                  repeat (go_quiet (fail); try go_wp2)
                  go_roundg k1
                  case measure => have := HK1.out; omega
                  case rel => exact ⟨(wrap64 (x13_1 + 1)), (by first | rfl | (simp; done) | (simp [*]; done)), H', ⟨by have := HK1.out; omega⟩, by repeat (first | exact Drawn0.refl _ | apply Drawn0.step)⟩
              · rw [if_neg c7] at H
                exact absurd H (by simp)
            · rw [if_neg c6] at H
              exact absurd H (by simp)
          · rw [if_neg c5] at H
            exact absurd H (by simp)
        · rw [if_neg c4] at H
          have c4b0 : decide (x13_1 < (l0.length : Int)) = false := decide_eq_false c4
          clear c4
          obtain rfl := Option.some.inj H
          go_wp2
          repeat (go_quiet (fail); try go_wp2)
          go_ret
          exact ⟨by first | rfl | (simp; done) | (simp [*]; done), by repeat (first | exact Drawn0.refl _ | apply Drawn0.step)⟩
  · rw [if_neg c3] at H
    have c3b0 : ((l0.length : Int) == (l1.length : Int)) = false := beq_eq_false_iff_ne.mpr c3
    have c3b1 : ((l0.length : Int) != (l1.length : Int)) = true := bne_iff_ne.mpr c3
    have c3b2 : (l0.length == l1.length) = false := by first | simpa using c3 | (simp at c3 ⊢; omega)
    obtain rfl := Option.some.inj H
    go_enter Try.func48, Try.ntmps48
    go_wp2
    repeat (go_quiet (fail); try go_wp2)
    go_ret
    exact ⟨by first | rfl | (simp; done) | (simp [*]; done), by repeat (first | exact Drawn0.refl _ | apply Drawn0.step)⟩

end Go.Proofs.Ytmcgcdpiceikeaa.PAll
end
section
-- Printed by this session's pr.sh (the kit's print.py, several laws in one namespace). Not trusted: Lean checks it.
namespace Go.Proofs.Ytmcgcdpiceikeaa.PAll
open Go.RowKit Go.Proofs.YtmcgcdpiceikeaaW.PrintWords Go.Proofs.YtmcgcdpiceikeaaW.PrintLast Go.Proofs.YtmcgcdpiceikeaaW.PrintMore
attribute [local go_sem] max2_int min2_int max_two min_two max_three min_three max_four min_four   -- for this text's walks alone
set_option linter.unusedVariables false
set_option linter.unusedSimpArgs false

theorem eqA68 (d : Nat) (w : World) (x0 y0 : Int) (x1 y1 : Int) (x2 y2 : Bool) :
    (Op.equalIn (d + 3) 68 (.agg #[.int .u64 x0, .int .u64 x1, .bool x2]) (.agg #[.int .u64 y0, .int .u64 y1, .bool y2])).run Try.prog w = .ok ((x0 == y0 && (x1 == y1)) && (x2 == y2)) w := by
  refine eqA_of Try.underlying68 (by kernel_rfl) ?_
  refine eqf_cons (by rfl) (by go_simp) (by go_simp) (eqA30 (d + 0) w _ _ _ _) ?_
  exact eqf_last (by rfl) (by go_simp; rfl) (by go_simp; rfl) (by go_simp)
end Go.Proofs.Ytmcgcdpiceikeaa.PAll
end
