/- Joined texts of the claim ShardRight (part 32): contracts of functions and plain laws. -/
import Derived.Test.YtmcgcdpiceikeaaJShardRight14
import Derived.Test.YtmcgcdpiceikeaaJShardRight23
import Derived.Test.YtmcgcdpiceikeaaJShardRight31
import Derived.BigRegion
import Derived.Test.YtmcgcdpiceikeaaJShardRight15
import Derived.Test.YtmcgcdpiceikeaaJShardRight25
section
-- Printed by this session's pr.sh (the kit's print.py, several laws in one namespace). Not trusted: Lean checks it.
namespace Go.Proofs.Ytmcgcdpiceikeaa.PAll
open Go.RowKit Go.Proofs.YtmcgcdpiceikeaaW.PrintWords Go.Proofs.YtmcgcdpiceikeaaW.PrintLast Go.Proofs.YtmcgcdpiceikeaaW.PrintMore
attribute [local go_sem] max2_int min2_int max_two min_two max_three min_three max_four min_four   -- for this text's walks alone
set_option linter.unusedVariables false
set_option linter.unusedSimpArgs false

theorem eqA54 (d : Nat) (w : World) (x0 y0 : ByteArray) (x1 y1 : ByteArray) (x2 y2 : Bool) :
    (Op.equalIn (d + 2) 54 (.agg #[.string x0, .string x1, .bool x2]) (.agg #[.string y0, .string y1, .bool y2])).run Try.prog w = .ok (x0.toList == y0.toList && (x1.toList == y1.toList && (x2 == y2))) w := by
  refine eqA_of Try.underlying54 (by kernel_rfl) ?_
  refine eqf_cons (by rfl) (by go_simp; rfl) (by go_simp; rfl) (by go_simp) ?_
  refine eqf_cons (by rfl) (by go_simp; rfl) (by go_simp; rfl) (by go_simp) ?_
  exact eqf_last (by rfl) (by go_simp; rfl) (by go_simp; rfl) (by go_simp)
end Go.Proofs.Ytmcgcdpiceikeaa.PAll
end
section
-- Printed by this session's pr.sh (the kit's print.py, several laws in one namespace). Not trusted: Lean checks it.
namespace Go.Proofs.Ytmcgcdpiceikeaa.PAll
open Go.RowKit Go.Proofs.YtmcgcdpiceikeaaW.PrintWords Go.Proofs.YtmcgcdpiceikeaaW.PrintLast Go.Proofs.YtmcgcdpiceikeaaW.PrintMore
attribute [local go_sem] max2_int min2_int max_two min_two max_three min_three max_four min_four   -- for this text's walks alone
set_option linter.unusedVariables false
set_option linter.unusedSimpArgs false

attribute [local go_sem high] eqA54
/-! ### api_Put_46: function 46 -/
def api_Put_46.l0 : Nat → List (S54) → List (S54) → Int → Int → Option (Bool)
  | 0, _, _, _, _ => none
  | k + 1, x0, x1, x12, x13 => if x13 < x12 then (if 0 ≤ x13 then (if x13 < (x0.length : Int) then (if x13 < (x1.length : Int) then (if (!((((rd_T54 x0 x13).f0).toList) == (((rd_T54 x1 x13).f0).toList)) || (!((((rd_T54 x0 x13).f1).toList) == (((rd_T54 x1 x13).f1).toList)) || (!(((rd_T54 x0 x13).f2) == ((rd_T54 x1 x13).f2))))) = true then (some false) else (api_Put_46.l0 k x0 x1 x12 (wrap64 (x13 + 1)))) else (none)) else (none)) else (none)) else (some true)
def api_Put_46.f (k : Nat) (l0 : List (S54)) (l1 : List (S54)) : Option (Bool) := if (l0.length : Int) = (l1.length : Int) then (api_Put_46.l0 k l0 l1 (l0.length : Int) 0) else (some false)
set_option maxHeartbeats 8000000 in
set_option maxRecDepth 100000 in
theorem api_Put_46.calls (k : Nat) (A0 : Option Addr) (c0 : Nat) (l0 : List (S54)) (A1 : Option Addr) (c1 : Nat) (l1 : List (S54)) (r : Bool) (w : World) (hr0 : Kd.C k54 w A0 l0.length l0) (hc0 : l0.length ≤ c0) (hr1 : Kd.C k54 w A1 l1.length l1) (hc1 : l1.length ≤ c1) (h : api_Put_46.f k l0 l1 = some r) :
    Calls Try.prog 46 #[.slice A0 l0.length c0, .slice A1 l1.length c1] w fun e w' => e = .returned (.bool r) ∧ Drawn0 w w' := by
  have hu54 := Try.underlying54
  have HR0 := Aside0.mk hr0
  have HC0 := Aside0.mk hc0
  clear hr0 hc0
  have HR1 := Aside0.mk hr1
  have HC1 := Aside0.mk hc1
  clear hr1 hc1
  have H : (if (l0.length : Int) = (l1.length : Int) then (api_Put_46.l0 k l0 l1 (l0.length : Int) 0) else (some false)) = some r := h
  clear h
  by_cases c3 : (l0.length : Int) = (l1.length : Int)
  · rw [if_pos c3] at H
    have c3b0 : ((l0.length : Int) == (l1.length : Int)) = true := beq_iff_eq.mpr c3
    have c3b1 : ((l0.length : Int) != (l1.length : Int)) = false := bne_eq_false_iff_eq.mpr c3
    have c3b2 : (l0.length == l1.length) = true := by first | simpa using c3 | (simp at c3 ⊢; omega)
    clear c3
    have H' := Aside0.mk H
    clear H
    go_enter Try.func46, Try.ntmps46
    go_wp2
    repeat (go_quiet (fail); try go_wp2)
    go_loopg [13] k (fun kq v13 w' => ∃ (x13_1 : Int), v13 = .int .i64 x13_1 ∧ Aside0 (api_Put_46.l0 kq l0 l1 (l0.length : Int) x13_1 = some r) ∧ Aside0 (kq ≤ k) ∧ Drawn0 w w')
    case atStart => exact ⟨(0), (by first | rfl | (simp; done) | (simp [*]; done)), H', ⟨Nat.le_refl _⟩, by repeat (first | exact Drawn0.refl _ | apply Drawn0.step)⟩
    case round =>
      clear H'
      try clear c1
      try clear p2
      try clear c3
      try clear c3b0
      try clear c3b1
      try clear c3b2
      obtain ⟨x13_1, rfl, HA, HK1, ⟨m1, rfl⟩⟩ := hrel
      cases gk with
      | zero => exact absurd HA.out (by simp [api_Put_46.l0])
      | succ k1 =>
        have H := HA.out
        clear HA
        simp only [api_Put_46.l0] at H
        by_cases c4 : x13_1 < (l0.length : Int)
        · rw [if_pos c4] at H
          have c4b0 : decide (x13_1 < (l0.length : Int)) = true := decide_eq_true c4
          clear c4
          by_cases c5 : 0 ≤ x13_1
          · rw [if_pos c5] at H
            have c5b0 : decide (0 ≤ x13_1) = true := decide_eq_true c5
            clear c5
            by_cases c6 : x13_1 < (l0.length : Int)
            · rw [if_pos c6] at H
              have c6b0 : decide (x13_1 < (l0.length : Int)) = true := decide_eq_true c6
              clear c6
              by_cases c7 : x13_1 < (l1.length : Int)
              · rw [if_pos c7] at H
                have c7b0 : decide (x13_1 < (l1.length : Int)) = true := decide_eq_true c7
                clear c7
                by_cases c8 : (!((((rd_T54 l0 x13_1).f0).toList) == (((rd_T54 l1 x13_1).f0).toList)) || (!((((rd_T54 l0 x13_1).f1).toList) == (((rd_T54 l1 x13_1).f1).toList)) || (!(((rd_T54 l0 x13_1).f2) == ((rd_T54 l1 x13_1).f2))))) = true
                · rw [if_pos c8] at H
                  have c8b0 : (!((((rd_T54 l0 x13_1).f0).toList) == (((rd_T54 l1 x13_1).f0).toList)) || (!((((rd_T54 l0 x13_1).f1).toList) == (((rd_T54 l1 x13_1).f1).toList)) || (!(((rd_T54 l0 x13_1).f2) == ((rd_T54 l1 x13_1).f2))))) = true := c8
                  clear c8
                  obtain rfl := Option.some.inj H
                  have p134 : 0 ≤ (x13_1 : Int) := of_decide_eq_true (by first | (with_reducible assumption) | assumption)
                  have q134 : x13_1 < (l0.length : Int) := of_decide_eq_true (by first | (with_reducible assumption) | assumption)
                  obtain ⟨ad134, e134, hx134_0, hx134_1, hx134_2⟩ := at_T54 HR0.out x13_1 p134 q134
                  cases e134
                  replace p134 := eq_true p134
                  replace q134 := eq_true q134
                  have p135 : 0 ≤ (x13_1 : Int) := of_decide_eq_true (by first | (with_reducible assumption) | assumption)
                  have q135 : x13_1 < (l1.length : Int) := of_decide_eq_true (by first | (with_reducible assumption) | assumption)
                  obtain ⟨ad135, e135, hx135_0, hx135_1, hx135_2⟩ := at_T54 HR1.out x13_1 p135 q135
                  cases e135
                  replace p135 := eq_true p135
                  replace q135 := eq_true q135
                  go_wp2
                  repeat (go_quiet (fail); try go_wp2)
                  go_ret
                  exact ⟨by first | rfl | (simp; done) | (simp [*]; done), by repeat (first | exact Drawn0.refl _ | apply Drawn0.step)⟩
                · rw [if_neg c8] at H
                  have c8b0 : (!((((rd_T54 l0 x13_1).f0).toList) == (((rd_T54 l1 x13_1).f0).toList)) || (!((((rd_T54 l0 x13_1).f1).toList) == (((rd_T54 l1 x13_1).f1).toList)) || (!(((rd_T54 l0 x13_1).f2) == ((rd_T54 l1 x13_1).f2))))) = false := by simpa using c8
                  clear c8
                  have H' := Aside0.mk H
                  clear H
                  have p134 : 0 ≤ (x13_1 : Int) := of_decide_eq_true (by first | (with_reducible assumption) | assumption)
                  have q134 : x13_1 < (l0.length : Int) := of_decide_eq_true (by first | (with_reducible assumption) | assumption)
                  obtain ⟨ad134, e134, hx134_0, hx134_1, hx134_2⟩ := at_T54 HR0.out x13_1 p134 q134
                  cases e134
                  replace p134 := eq_true p134
                  replace q134 := eq_true q134
                  have p135 : 0 ≤ (x13_1 : Int) := of_decide_eq_true (by first | (with_reducible assumption) | assumption)
                  have q135 : x13_1 < (l1.length : Int) := of_decide_eq_true (by first | (with_reducible assumption) | assumption)
                  obtain ⟨ad135, e135, hx135_0, hx135_1, hx135_2⟩ := at_T54 HR1.out x13_1 p135 q135
                  cases e135
                  replace p135 := eq_true p135
                  replace q135 := eq_true q135
                  go_wp2
                  repeat (go_quiet (fail); try go_wp2)
                  go_roundg k1
                  case measure => have := HK1.out; omega
                  case rel => exact ⟨(wrap64 (x13_1 + 1)), (by first | rfl | (simp; done) | (simp [*]; done)), H', ⟨by have := HK1.out; omega⟩, by repeat (first | exact Drawn0.refl _ | apply Drawn0.step)⟩
              · rw [if_neg c7] at H
                exact absurd H (by simp)
            · rw [if_neg c6] at H
              exact absurd H (by simp)
          · rw [if_neg c5] at H
            exact absurd H (by simp)
        · rw [if_neg c4] at H
          have c4b0 : decide (x13_1 < (l0.length : Int)) = false := decide_eq_false c4
          clear c4
          obtain rfl := Option.some.inj H
          go_wp2
          repeat (go_quiet (fail); try go_wp2)
          go_ret
          exact ⟨by first | rfl | (simp; done) | (simp [*]; done), by repeat (first | exact Drawn0.refl _ | apply Drawn0.step)⟩
  · rw [if_neg c3] at H
    have c3b0 : ((l0.length : Int) == (l1.length : Int)) = false := beq_eq_false_iff_ne.mpr c3
    have c3b1 : ((l0.length : Int) != (l1.length : Int)) = true := bne_iff_ne.mpr c3
    have c3b2 : (l0.length == l1.length) = false := by first | simpa using c3 | (simp at c3 ⊢; omega)
    obtain rfl := Option.some.inj H
    go_enter Try.func46, Try.ntmps46
    go_wp2
    repeat (go_quiet (fail); try go_wp2)
    go_ret
    exact ⟨by first | rfl | (simp; done) | (simp [*]; done), by repeat (first | exact Drawn0.refl _ | apply Drawn0.step)⟩

end Go.Proofs.Ytmcgcdpiceikeaa.PAll
end
section
-- Printed by this session's pr.sh (the kit's print.py, several laws in one namespace). Not trusted: Lean checks it.
namespace Go.Proofs.Ytmcgcdpiceikeaa.PAll
open Go.RowKit Go.Proofs.YtmcgcdpiceikeaaW.PrintWords Go.Proofs.YtmcgcdpiceikeaaW.PrintLast Go.Proofs.YtmcgcdpiceikeaaW.PrintMore
attribute [local go_sem] max2_int min2_int max_two min_two max_three min_three max_four min_four   -- for this text's walks alone
set_option linter.unusedVariables false
set_option linter.unusedSimpArgs false

attribute [local go_sem high] eqA54
/-! ### ferruleref13_SamePuts: function 30 -/
def ferruleref13_SamePuts.l0 : Nat → List (S54) → List (S54) → Int → Option (Bool)
  | 0, _, _, _ => none
  | k + 1, x0, x1, x5 => if x5 < (x0.length : Int) then (if 0 ≤ x5 then (if x5 < (x1.length : Int) then (if (!((((rd_T54 x0 x5).f0).toList) == (((rd_T54 x1 x5).f0).toList)) || (!((((rd_T54 x0 x5).f1).toList) == (((rd_T54 x1 x5).f1).toList)) || (!(((rd_T54 x0 x5).f2) == ((rd_T54 x1 x5).f2))))) = true then (some false) else (ferruleref13_SamePuts.l0 k x0 x1 (wrap64 (x5 + 1)))) else (none)) else (none)) else (some true)
def ferruleref13_SamePuts.f (k : Nat) (l0 : List (S54)) (l1 : List (S54)) : Option (Bool) := if (l0.length : Int) = (l1.length : Int) then (ferruleref13_SamePuts.l0 k l0 l1 0) else (some false)
set_option maxHeartbeats 8000000 in
set_option maxRecDepth 100000 in
theorem ferruleref13_SamePuts.calls (k : Nat) (A0 : Option Addr) (c0 : Nat) (l0 : List (S54)) (A1 : Option Addr) (c1 : Nat) (l1 : List (S54)) (r : Bool) (w : World) (hr0 : Kd.C k54 w A0 l0.length l0) (hc0 : l0.length ≤ c0) (hr1 : Kd.C k54 w A1 l1.length l1) (hc1 : l1.length ≤ c1) (h : ferruleref13_SamePuts.f k l0 l1 = some r) :
    Calls Try.prog 30 #[.slice A0 l0.length c0, .slice A1 l1.length c1] w fun e w' => e = .returned (.bool r) ∧ Drawn0 w w' := by
  have hu54 := Try.underlying54
  have HR0 := Aside0.mk hr0
  have HC0 := Aside0.mk hc0
  clear hr0 hc0
  have HR1 := Aside0.mk hr1
  have HC1 := Aside0.mk hc1
  clear hr1 hc1
  have H : (if (l0.length : Int) = (l1.length : Int) then (ferruleref13_SamePuts.l0 k l0 l1 0) else (some false)) = some r := h
  clear h
  by_cases c3 : (l0.length : Int) = (l1.length : Int)
  · rw [if_pos c3] at H
    have c3b0 : ((l0.length : Int) == (l1.length : Int)) = true := beq_iff_eq.mpr c3
    have c3b1 : ((l0.length : Int) != (l1.length : Int)) = false := bne_eq_false_iff_eq.mpr c3
    have c3b2 : (l0.length == l1.length) = true := by first | simpa using c3 | (simp at c3 ⊢; omega)
    clear c3
    have H' := Aside0.mk H
    clear H
    go_enter Try.func30, Try.ntmps30
    go_wp2
    repeat (go_quiet (fail); try go_wp2)
    go_loopg [5] k (fun kq v5 w' => ∃ (x5_1 : Int), v5 = .int .i64 x5_1 ∧ Aside0 (ferruleref13_SamePuts.l0 kq l0 l1 x5_1 = some r) ∧ Aside0 (kq ≤ k) ∧ Drawn0 w w')
    case atStart => exact ⟨(0), (by first | rfl | (simp; done) | (simp [*]; done)), H', ⟨Nat.le_refl _⟩, by repeat (first | exact Drawn0.refl _ | apply Drawn0.step)⟩
    case round =>
      clear H'
      try clear c1
      try clear p2
      try clear c3
      try clear c3b0
      try clear c3b1
      try clear c3b2
      obtain ⟨x5_1, rfl, HA, HK1, ⟨m1, rfl⟩⟩ := hrel
      cases gk with
      | zero => exact absurd HA.out (by simp [ferruleref13_SamePuts.l0])
      | succ k1 =>
        have H := HA.out
        clear HA
        simp only [ferruleref13_SamePuts.l0] at H
        by_cases c4 : x5_1 < (l0.length : Int)
        · rw [if_pos c4] at H
          have c4b0 : decide (x5_1 < (l0.length : Int)) = true := decide_eq_true c4
          clear c4
          by_cases c5 : 0 ≤ x5_1
          · rw [if_pos c5] at H
            have c5b0 : decide (0 ≤ x5_1) = true := decide_eq_true c5
            clear c5
            by_cases c6 : x5_1 < (l1.length : Int)
            · rw [if_pos c6] at H
              have c6b0 : decide (x5_1 < (l1.length : Int)) = true := decide_eq_true c6
              clear c6
              by_cases c7 : (!((((rd_T54 l0 x5_1).f0).toList) == (((rd_T54 l1 x5_1).f0).toList)) || (!((((rd_T54 l0 x5_1).f1).toList) == (((rd_T54 l1 x5_1).f1).toList)) || (!(((rd_T54 l0 x5_1).f2) == ((rd_T54 l1 x5_1).f2))))) = true
              · rw [if_pos c7] at H
                have c7b0 : (!((((rd_T54 l0 x5_1).f0).toList) == (((rd_T54 l1 x5_1).f0).toList)) || (!((((rd_T54 l0 x5_1).f1).toList) == (((rd_T54 l1 x5_1).f1).toList)) || (!(((rd_T54 l0 x5_1).f2) == ((rd_T54 l1 x5_1).f2))))) = true := c7
                clear c7
                obtain rfl := Option.some.inj H
                have p299 : 0 ≤ (x5_1 : Int) := of_decide_eq_true (by first | (with_reducible assumption) | assumption)
                have q299 : x5_1 < (l0.length : Int) := of_decide_eq_true (by first | (with_reducible assumption) | assumption)
                obtain ⟨ad299, e299, hx299_0, hx299_1, hx299_2⟩ := at_T54 HR0.out x5_1 p299 q299
                cases e299
                replace p299 := eq_true p299
                replace q299 := eq_true q299
                have p300 : 0 ≤ (x5_1 : Int) := of_decide_eq_true (by first | (with_reducible assumption) | assumption)
                have q300 : x5_1 < (l1.length : Int) := of_decide_eq_true (by first | (with_reducible assumption) | assumption)
                obtain ⟨ad300, e300, hx300_0, hx300_1, hx300_2⟩ := at_T54 HR1.out x5_1 p300 q300
                cases e300
                replace p300 := eq_true p300
                replace q300 := eq_true q300
                go_wp2
                repeat (go_quiet (fail); try go_wp2)
                go_ret
                exact ⟨by first | rfl | (simp; done) | (simp [*]; done), by repeat (first | exact Drawn0.refl _ | apply Drawn0.step)⟩
              · rw [if_neg c7] at H
                have c7b0 : (!((((rd_T54 l0 x5_1).f0).toList) == (((rd_T54 l1 x5_1).f0).toList)) || (!((((rd_T54 l0 x5_1).f1).toList) == (((rd_T54 l1 x5_1).f1).toList)) || (!(((rd_T54 l0 x5_1).f2) == ((rd_T54 l1 x5_1).f2))))) = false := by simpa using c7
                clear c7
                have H' := Aside0.mk H
                clear H
                have p299 : 0 ≤ (x5_1 : Int) := of_decide_eq_true (by first | (with_reducible assumption) | assumption)
                have q299 : x5_1 < (l0.length : Int) := of_decide_eq_true (by first | (with_reducible assumption) | assumption)
                obtain ⟨ad299, e299, hx299_0, hx299_1, hx299_2⟩ := at_T54 HR0.out x5_1 p299 q299
                cases e299
                replace p299 := eq_true p299
                replace q299 := eq_true q299
                have p300 : 0 ≤ (x5_1 : Int) := of_decide_eq_true (by first | (with_reducible assumption) | assumption)
                have q300 : x5_1 < (l1.length : Int) := of_decide_eq_true (by first | (with_reducible assumption) | assumption)
                obtain ⟨ad300, e300, hx300_0, hx300_1, hx300_2⟩ := at_T54 HR1.out x5_1 p300 q300
                cases e300
                replace p300 := eq_true p300
                replace q300 := eq_true q300
                go_wp2
                repeat (go_quiet (fail); try go_wp2)
                go_roundg k1
                case measure => have := HK1.out; omega
                case rel => exact ⟨(wrap64 (x5_1 + 1)), (by first | rfl | (simp; done) | (simp [*]; done)), H', ⟨by have := HK1.out; omega⟩, by repeat (first | exact Drawn0.refl _ | apply Drawn0.step)⟩
            · rw [if_neg c6] at H
              exact absurd H (by simp)
          · rw [if_neg c5] at H
            exact absurd H (by simp)
        · rw [if_neg c4] at H
          have c4b0 : decide (x5_1 < (l0.length : Int)) = false := decide_eq_false c4
          clear c4
          obtain rfl := Option.some.inj H
          go_wp2
          repeat (go_quiet (fail); try go_wp2)
          go_ret
          exact ⟨by first | rfl | (simp; done) | (simp [*]; done), by repeat (first | exact Drawn0.refl _ | apply Drawn0.step)⟩
  · rw [if_neg c3] at H
    have c3b0 : ((l0.length : Int) == (l1.length : Int)) = false := beq_eq_false_iff_ne.mpr c3
    have c3b1 : ((l0.length : Int) != (l1.length : Int)) = true := bne_iff_ne.mpr c3
    have c3b2 : (l0.length == l1.length) = false := by first | simpa using c3 | (simp at c3 ⊢; omega)
    obtain rfl := Option.some.inj H
    go_enter Try.func30, Try.ntmps30
    go_wp2
    repeat (go_quiet (fail); try go_wp2)
    go_ret
    exact ⟨by first | rfl | (simp; done) | (simp [*]; done), by repeat (first | exact Drawn0.refl _ | apply Drawn0.step)⟩

end Go.Proofs.Ytmcgcdpiceikeaa.PAll
end
section
/- Equality of lists of puts: slices.Equal, ferruleref13.SamePuts. -/
namespace Go.Proofs.Ytmcgcdpiceikeaa.PAll
open Go.RowKit Go.Proofs.YtmcgcdpiceikeaaW.PrintWords Go.Proofs.YtmcgcdpiceikeaaW.PrintMore Go.Proofs.Ytmcgcdpiceikeaa
set_option linter.unusedVariables false
def neP (x y : S54) : Bool := !(x.f0.toList == y.f0.toList) || (!(x.f1.toList == y.f1.toList) || !(x.f2 == y.f2))
def eqGo : List S54 → List S54 → Bool
  | x :: a, y :: b => if neP x y = true then false else eqGo a b
  | _, _ => true
def samePutsV (a b : List S54) : Bool := decide (a.length = b.length) && eqGo a b
theorem eqPut_l0 (a b : List S54) (he : a.length = b.length) (hl : a.length ≤ 9223372036854775807) : ∀ (d j : Nat), d = a.length - j → j ≤ a.length → Ev (fun q => api_Put_46.l0 q a b (a.length : Int) (j : Int)) (eqGo (a.drop j) (b.drop j)) := by
  intro d
  induction d with
  | zero =>
    intro j hd hj
    obtain rfl : j = a.length := by omega
    rw [List.drop_length]
    exact Ev.step (fun q => by simp only [api_Put_46.l0]; exact if_neg (by omega)) (Ev.now true)
  | succ d ih =>
    intro j hd hj
    have hlt : j < a.length := by omega
    have hlt2 : j < b.length := by omega
    rw [dropBang a j hlt, dropBang b j hlt2]
    unfold eqGo
    refine Ev.step (fun q => by simp only [api_Put_46.l0]; rw [if_pos (by omega), if_pos (by omega), if_pos (by omega), if_pos (by omega), rd_put a j hlt, rd_put b j hlt2, wrapInc j (by omega)]) ?_
    have hn : (!((a[j]!).f0.toList == (b[j]!).f0.toList) || (!((a[j]!).f1.toList == (b[j]!).f1.toList) || (!((a[j]!).f2 == (b[j]!).f2)))) = neP (a[j]!) (b[j]!) := rfl
    rw [hn]
    cases c : neP (a[j]!) (b[j]!) with
    | true => exact Ev.congr (fun _ => if_pos rfl) (Ev.now false)
    | false =>
      refine Ev.congr (fun _ => if_neg (by decide)) ?_
      exact ih (j + 1) (by omega) (by omega)
theorem eqPut_calls (A B : Option Addr) (c c' : Nat) (a b : List S54) (w : World) (hr : Kd.C k54 w A a.length a) (hc : a.length ≤ c) (hr' : Kd.C k54 w B b.length b) (hc' : b.length ≤ c') : Calls Try.prog 46 #[.slice A a.length c, .slice B b.length c'] w fun e w' => e = .returned (.bool (samePutsV a b)) ∧ Drawn0 w w' := by
  have h : Ev (fun q => api_Put_46.f q a b) (samePutsV a b) := by
    unfold samePutsV
    by_cases e : a.length = b.length
    · rw [decide_eq_true e, Bool.true_and]
      exact Ev.congr (fun _ => if_pos (by omega)) (eqPut_l0 a b e hr.2.1 a.length 0 (by omega) (by omega))
    · rw [decide_eq_false e, Bool.false_and]
      exact Ev.congr (fun _ => if_neg (by omega)) (Ev.now false)
  obtain ⟨k, hk⟩ := h.rounds
  exact api_Put_46.calls k A c a B c' b _ w hr hc hr' hc' hk
theorem samePuts_l0 (a b : List S54) (he : a.length = b.length) (hl : a.length ≤ 9223372036854775807) : ∀ (d j : Nat), d = a.length - j → j ≤ a.length → Ev (fun q => ferruleref13_SamePuts.l0 q a b (j : Int)) (eqGo (a.drop j) (b.drop j)) := by
  intro d
  induction d with
  | zero =>
    intro j hd hj
    obtain rfl : j = a.length := by omega
    rw [List.drop_length]
    exact Ev.step (fun q => by simp only [ferruleref13_SamePuts.l0]; exact if_neg (by omega)) (Ev.now true)
  | succ d ih =>
    intro j hd hj
    have hlt : j < a.length := by omega
    have hlt2 : j < b.length := by omega
    rw [dropBang a j hlt, dropBang b j hlt2]
    unfold eqGo
    refine Ev.step (fun q => by simp only [ferruleref13_SamePuts.l0]; rw [if_pos (by omega), if_pos (by omega), if_pos (by omega), rd_put a j hlt, rd_put b j hlt2, wrapInc j (by omega)]) ?_
    have hn : (!((a[j]!).f0.toList == (b[j]!).f0.toList) || (!((a[j]!).f1.toList == (b[j]!).f1.toList) || (!((a[j]!).f2 == (b[j]!).f2)))) = neP (a[j]!) (b[j]!) := rfl
    rw [hn]
    cases c : neP (a[j]!) (b[j]!) with
    | true => exact Ev.congr (fun _ => if_pos rfl) (Ev.now false)
    | false =>
      refine Ev.congr (fun _ => if_neg (by decide)) ?_
      exact ih (j + 1) (by omega) (by omega)
theorem samePuts_ev (a b : List S54) (hl : a.length ≤ 9223372036854775807) : Ev (fun q => ferruleref13_SamePuts.f q a b) (samePutsV a b) := by
  unfold samePutsV
  by_cases e : a.length = b.length
  · rw [decide_eq_true e, Bool.true_and]
    exact Ev.congr (fun _ => if_pos (by omega)) (samePuts_l0 a b e hl a.length 0 (by omega) (by omega))
  · rw [decide_eq_false e, Bool.false_and]
    exact Ev.congr (fun _ => if_neg (by omega)) (Ev.now false)
end Go.Proofs.Ytmcgcdpiceikeaa.PAll
end
section
/- shard.prepares, of one that is firm already. -/
namespace Go.Proofs.Ytmcgcdpiceikeaa.PAll
open Go.RowKit Go.Proofs.YtmcgcdpiceikeaaW.PrintWords Go.Proofs.YtmcgcdpiceikeaaW.PrintMore Go.Proofs.Ytmcgcdpiceikeaa
set_option linter.unusedVariables false
theorem keepS2 {w0 : World} {n : Nat} {a b : Addr} {v0 v1 v2 v3 v4 u0 u1 u2 u3 u4 u5 u6 x y : Value} {q w1 : World} (h : q.cell? a = some x ∧ q.cell? b = some y ∧ q.cell? ⟨n, 0, none⟩ = some v0 ∧ q.cell? ⟨n, 1, none⟩ = some v1 ∧ q.cell? ⟨n, 2, none⟩ = some v2 ∧ q.cell? ⟨n, 3, none⟩ = some v3 ∧ q.cell? ⟨n, 4, none⟩ = some v4 ∧ q.cell? ⟨n + 1, 0, none⟩ = some u0 ∧ q.cell? ⟨n + 1, 1, none⟩ = some u1 ∧ q.cell? ⟨n + 1, 2, none⟩ = some u2 ∧ q.cell? ⟨n + 1, 3, none⟩ = some u3 ∧ q.cell? ⟨n + 1, 4, none⟩ = some u4 ∧ q.cell? ⟨n + 1, 5, none⟩ = some u5 ∧ q.cell? ⟨n + 1, 6, none⟩ = some u6 ∧ Below w0.heap.size w0 q) (hb : Below q.heap.size q w1) :
    w1.cell? a = some x ∧ w1.cell? b = some y ∧ w1.cell? ⟨n, 0, none⟩ = some v0 ∧ w1.cell? ⟨n, 1, none⟩ = some v1 ∧ w1.cell? ⟨n, 2, none⟩ = some v2 ∧ w1.cell? ⟨n, 3, none⟩ = some v3 ∧ w1.cell? ⟨n, 4, none⟩ = some v4 ∧ w1.cell? ⟨n + 1, 0, none⟩ = some u0 ∧ w1.cell? ⟨n + 1, 1, none⟩ = some u1 ∧ w1.cell? ⟨n + 1, 2, none⟩ = some u2 ∧ w1.cell? ⟨n + 1, 3, none⟩ = some u3 ∧ w1.cell? ⟨n + 1, 4, none⟩ = some u4 ∧ w1.cell? ⟨n + 1, 5, none⟩ = some u5 ∧ w1.cell? ⟨n + 1, 6, none⟩ = some u6 ∧ Below w0.heap.size w0 w1 := by
  obtain ⟨ha, hb', h⟩ := h
  have c {a : Addr} {v : Value} (e : q.cell? a = some v) : w1.cell? a = some v := (hb.cell (World.block_lt_of_cell? _ _ e)).trans e
  exact ⟨c ha, c hb', keepS h hb⟩
end Go.Proofs.Ytmcgcdpiceikeaa.PAll
end
section
/- shard.prepares$1. -/
namespace Go.Proofs.Ytmcgcdpiceikeaa.PAll
open Go.RowKit Go.Proofs.YtmcgcdpiceikeaaW.PrintWords Go.Proofs.YtmcgcdpiceikeaaW.PrintMore Go.Proofs.Ytmcgcdpiceikeaa
set_option linter.unusedVariables false
set_option maxHeartbeats 1000000 in
theorem shardPrepares1 (Bs Bo : Nat) (A : Option Addr) (c : Nat) (hs : List S75) (t : S30) (x : S54) (W : World) (h1 : W.cell? ⟨Bs, 1, none⟩ = some (.slice A hs.length c)) (hr : Kd.C k75 W A hs.length hs) (hc : hs.length ≤ c) (h2 : W.cell? ⟨Bo, 1, none⟩ = some (.int .u64 t.f0)) (h3 : W.cell? ⟨Bo, 2, none⟩ = some (.int .u64 t.f1)) :
    Calls Try.prog 59 #[.agg (enc54 x).toArray, .pointer (some ⟨Bs, 0, none⟩), .pointer (some ⟨Bo, 0, none⟩)] W fun e W' => e = .returned (.bool (!hasV hs t x.f0 true)) ∧ Below W.heap.size W W' := by
  obtain ⟨xk, xv, xg⟩ := x
  unfold enc54
  dsimp only
  have hb := (Below.refl W.heap.size W).alloc (Nat.le_refl _) (.cells #[.string xk, .string xv, .bool xg] 54)
  have c1 := cellOld (o := .cells #[.string xk, .string xv, .bool xg] 54) h1
  have c2 := cellOld (o := .cells #[.string xk, .string xv, .bool xg] 54) h2
  have c3 := cellOld (o := .cells #[.string xk, .string xv, .bool xg] 54) h3
  have HH := Aside0.mk (lockHas_sl (.slice A hs.length c) hs t xk true _ ⟨A, c, rfl, hc, Kd.C_below hr hb⟩)
  have HB := Aside0.mk hb
  clear hb h1 h2 h3 hr hc
  obtain ⟨ta, ti⟩ := t
  dsimp only at *
  go_enter Try.func59, Try.ntmps59
  go_wp2_with (go_at_call 41; refine HH.out.mono ?_; rintro e w2 ⟨rfl, hb2⟩; have HB2 := Aside0.mk hb2; clear hb2)
  go_ret
  exact ⟨rfl, HB.out.trans (HB2.out.mono HB.out.size)⟩
end Go.Proofs.Ytmcgcdpiceikeaa.PAll
end
section
/- shard.prepares, of one that is not firm. -/
namespace Go.Proofs.Ytmcgcdpiceikeaa.PAll
open Go.RowKit Go.Proofs.YtmcgcdpiceikeaaW.PrintWords Go.Proofs.YtmcgcdpiceikeaaW.PrintMore Go.Proofs.Ytmcgcdpiceikeaa
set_option linter.unusedVariables false
set_option linter.unusedSimpArgs false
def lacksV (hs : List S75) (t : S30) (ps : List S54) : Bool := ps.any (fun p => !hasV hs t p.f0 true)
theorem prepLacks {n : Nat} {A0 : Option Addr} {n0 c0 : Nat} {A1 : Option Addr} {c1 : Nat} {A2 : Option Addr} {n2 c2 : Nat} {A3 : Option Addr} {n3 c3 : Nat} {ver kind : Int} {key : ByteArray} {A4 : Option Addr} {c4 : Nat} {cm : Bool} {A5 : Option Addr} {n5 c5 : Nat} (hs : List S75) (t : S30) (ps : List S54) (W : World)
    (hS : W.heap[n]? = some (.cells #[.slice A0 n0 c0, .slice A1 hs.length c1, .slice A2 n2 c2, .slice A3 n3 c3, .int .u64 ver] 28 (0, 0)))
    (hO : W.heap[n + 1]? = some (.cells #[.int .i64 kind, .int .u64 t.f0, .int .u64 t.f1, .string key, .slice A4 ps.length c4, .bool cm, .slice A5 n5 c5] 34 (0, 0)))
    (hr1 : Kd.C k75 W A1 hs.length hs) (hc1 : hs.length ≤ c1) (hr4 : Kd.C k54 W A4 ps.length ps) (hc4 : ps.length ≤ c4) :
    Calls Try.prog 43 #[.slice A4 ps.length c4, .func (.func 59) #[] #[.pointer (some ⟨n, 0, none⟩), .pointer (some ⟨n + 1, 0, none⟩)]] W fun e w' => e = .returned (.bool (lacksV hs t ps)) ∧ Below W.heap.size W w' := by
  obtain ⟨_, s1, _⟩ := cells_5 hS
  obtain ⟨_, o1, o2, _⟩ := cells_7 hO
  have hlt := World.block_lt_of_cell? _ _ s1
  have hlo := World.block_lt_of_cell? _ _ o1
  have hlo2 := World.block_lt_of_cell? _ _ o2
  exact ContainsFuncPut k54 rfl (fun p => !hasV hs t p.f0 true) 59 #[.pointer (some ⟨n, 0, none⟩), .pointer (some ⟨n + 1, 0, none⟩)] (enters_of Try.func59 (by kernel_rfl) rfl) (.slice A4 ps.length c4) ps W ⟨A4, c4, rfl, hc4, hr4⟩ (fun W' x cs hb _ hK => by
    obtain rfl := flat54.openK _ _ _ hK
    exact shardPrepares1 n (n + 1) A1 c1 hs t x W' ((hb.cell hlt).trans s1) (Kd.C_below hr1 hb) hc1 ((hb.cell hlo).trans o1) ((hb.cell hlo2).trans o2))
end Go.Proofs.Ytmcgcdpiceikeaa.PAll
end
section
/- Rows of opens: what is left when a transaction's are struck. -/
namespace Go.Proofs.Ytmcgcdpiceikeaa.PAll
open Go.RowKit Go.Proofs.YtmcgcdpiceikeaaW.PrintWords Go.Proofs.YtmcgcdpiceikeaaW.PrintMore Go.Proofs.Ytmcgcdpiceikeaa
set_option linter.unusedVariables false
theorem OpenRow.uncons {w : World} {x : S48} {l : List S48} {c : List Value} {cs : List (List Value)} (h : OpenRow w (x :: l) (c :: cs)) : k48.K w x c ∧ OpenRow w l cs := by
  refine ⟨by have := h.2 0 (by simp); simpa using this, by have := h.1; simpa using this, fun j hj => ?_⟩
  have := h.2 (j + 1) (by simp; omega)
  simpa using this
theorem OpenRow.cons {w : World} {x : S48} {l : List S48} {c : List Value} {cs : List (List Value)} (hx : k48.K w x c) (h : OpenRow w l cs) : OpenRow w (x :: l) (c :: cs) := by
  refine ⟨by simp [h.1], fun j hj => ?_⟩
  cases j with
  | zero => simpa using hx
  | succ j =>
    have := h.2 j (by simp at hj; omega)
    simpa using this
def isTxC (t : S30) (c : List Value) : Bool := match c with
  | .int .u64 a :: .int .u64 b :: _ => a == t.f0 && b == t.f1
  | _ => false
theorem OpenRow.struck {w : World} (t : S30) : ∀ {l : List S48} {css : List (List Value)}, OpenRow w l css → OpenRow w (l.filter (fun x => !sameTx x.f0 t)) (css.filter (fun c => !isTxC t c))
  | [], [], h => h
  | [], _ :: _, h => by have := h.1; simp at this
  | _ :: _, [], h => by have := h.1; simp at this
  | x :: l, c :: cs, h => by
    obtain ⟨h1, h2⟩ := h.uncons
    have ih := OpenRow.struck t h2
    obtain ⟨B, n, rfl, _, _⟩ := openCells h1
    have e : isTxC t (openC x B n) = sameTx x.f0 t := rfl
    unfold openC at e
    rw [List.filter_cons, List.filter_cons, e]
    cases sameTx x.f0 t with
    | true => exact ih
    | false => exact OpenRow.cons h1 ih
end Go.Proofs.Ytmcgcdpiceikeaa.PAll
end
