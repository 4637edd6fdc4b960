/- Joined texts of the claim DriveSteps (part 43): contracts of functions and plain laws. -/
import Derived.Test.YtkennobdoldlkaaJDriveSteps15
import Derived.Test.YtkennobdoldlkaaJDriveSteps42
set_option linter.unusedVariables false
set_option linter.unusedSimpArgs false
section
namespace Go.Proofs.Ytkennobdoldlkaa.PAll
open Go.RowKit Go.Proofs.YtkennobdoldlkaaW.PrintWords Go.Proofs.YtkennobdoldlkaaW.PrintLast Go.Proofs.YtkennobdoldlkaaW.PrintMore
attribute [local go_sem] qz51 qz52 max_two min_two qz45 qz46 qz53 qz54
attribute [local go_sem high] eqA53
def ferruleref20_SameSteps.l0 : Nat → List (S53) → List (S53) → Int → Option (Bool)
  | 0, _, _, _ => none
  | k + 1, x0, x1, x5 => if x5 < (x0.length : Int) then (if 0 ≤ x5 then (if x5 < (x1.length : Int) then (if (!(((qz7 x0 x5).f0) == ((qz7 x1 x5).f0)) || (!((((qz7 x0 x5).f1).toList) == (((qz7 x1 x5).f1).toList)) || (!((((qz7 x0 x5).f2).toList) == (((qz7 x1 x5).f2).toList)) || (!(((qz7 x0 x5).f3) == ((qz7 x1 x5).f3)) || (!(((qz7 x0 x5).f4) == ((qz7 x1 x5).f4))))))) = true then (some false) else (ferruleref20_SameSteps.l0 k x0 x1 (wrap64 (x5 + 1)))) else (none)) else (none)) else (some true)
def ferruleref20_SameSteps.f (k : Nat) (l0 : List (S53)) (l1 : List (S53)) : Option (Bool) := if (l0.length : Int) = (l1.length : Int) then (ferruleref20_SameSteps.l0 k l0 l1 0) else (some false)
set_option maxHeartbeats 8000000 in
set_option maxRecDepth 100000 in
theorem ferruleref20_SameSteps.calls (k : Nat) (A0 : Option Addr) (c0 : Nat) (l0 : List (S53)) (A1 : Option Addr) (c1 : Nat) (l1 : List (S53)) (r : Bool) (w : World) (hr0 : Kd.C k53 w A0 l0.length l0) (hc0 : l0.length ≤ c0) (hr1 : Kd.C k53 w A1 l1.length l1) (hc1 : l1.length ≤ c1) (h : ferruleref20_SameSteps.f k l0 l1 = some r) :
    Calls Try.prog 31 #[.slice A0 l0.length c0, .slice A1 l1.length c1] w fun e w' => e = .returned (.bool r) ∧ Drawn0 w w' := by
  have hu53 := Try.underlying53
  have HR0 := qza.mk hr0
  have HC0 := qza.mk hc0
  clear hr0 hc0
  have HR1 := qza.mk hr1
  have HC1 := qza.mk hc1
  clear hr1 hc1
  have H : (if (l0.length : Int) = (l1.length : Int) then (ferruleref20_SameSteps.l0 k l0 l1 0) else (some false)) = some r := h
  clear h
  by_cases c3 : (l0.length : Int) = (l1.length : Int)
  · rw [if_pos c3] at H
    have c3b0 : ((l0.length : Int) == (l1.length : Int)) = true := beq_iff_eq.mpr c3
    have c3b1 : ((l0.length : Int) != (l1.length : Int)) = false := bne_eq_false_iff_eq.mpr c3
    have c3b2 : (l0.length == l1.length) = true := by first | simpa using c3 | (simp at c3 ⊢; omega)
    clear c3
    have H' := qza.mk H
    clear H
    go_enter Try.func31, Try.ntmps31
    go_wp2
    repeat (go_quiet (fail); try go_wp2)
    go_loopg [5] k (fun kq v5 w' => ∃ (x5_1 : Int), v5 = .int .i64 x5_1 ∧ qza (ferruleref20_SameSteps.l0 kq l0 l1 x5_1 = some r) ∧ qza (kq ≤ k) ∧ Drawn0 w w')
    case atStart => exact ⟨(0), (by first | rfl | (simp; done) | (simp [*]; done)), H', ⟨Nat.le_refl _⟩, by repeat (first | exact Drawn0.refl _ | apply Drawn0.step)⟩
    case round =>
      clear H'
      try clear c1
      try clear p2
      try clear c3
      try clear c3b0
      try clear c3b1
      try clear c3b2
      obtain ⟨x5_1, rfl, HA, HK1, ⟨m1, rfl⟩⟩ := hrel
      cases gk with
      | zero => exact absurd HA.out (by simp [ferruleref20_SameSteps.l0])
      | succ k1 =>
        have H := HA.out
        clear HA
        simp only [ferruleref20_SameSteps.l0] at H
        by_cases c4 : x5_1 < (l0.length : Int)
        · rw [if_pos c4] at H
          have c4b0 : decide (x5_1 < (l0.length : Int)) = true := decide_eq_true c4
          clear c4
          by_cases c5 : 0 ≤ x5_1
          · rw [if_pos c5] at H
            have c5b0 : decide (0 ≤ x5_1) = true := decide_eq_true c5
            clear c5
            by_cases c6 : x5_1 < (l1.length : Int)
            · rw [if_pos c6] at H
              have c6b0 : decide (x5_1 < (l1.length : Int)) = true := decide_eq_true c6
              clear c6
              by_cases c7 : (!(((qz7 l0 x5_1).f0) == ((qz7 l1 x5_1).f0)) || (!((((qz7 l0 x5_1).f1).toList) == (((qz7 l1 x5_1).f1).toList)) || (!((((qz7 l0 x5_1).f2).toList) == (((qz7 l1 x5_1).f2).toList)) || (!(((qz7 l0 x5_1).f3) == ((qz7 l1 x5_1).f3)) || (!(((qz7 l0 x5_1).f4) == ((qz7 l1 x5_1).f4))))))) = true
              · rw [if_pos c7] at H
                have c7b0 : (!(((qz7 l0 x5_1).f0) == ((qz7 l1 x5_1).f0)) || (!((((qz7 l0 x5_1).f1).toList) == (((qz7 l1 x5_1).f1).toList)) || (!((((qz7 l0 x5_1).f2).toList) == (((qz7 l1 x5_1).f2).toList)) || (!(((qz7 l0 x5_1).f3) == ((qz7 l1 x5_1).f3)) || (!(((qz7 l0 x5_1).f4) == ((qz7 l1 x5_1).f4))))))) = true := c7
                clear c7
                obtain rfl := Option.some.inj H
                have p578 : 0 ≤ (x5_1 : Int) := of_decide_eq_true (by first | (with_reducible assumption) | assumption)
                have q578 : x5_1 < (l0.length : Int) := of_decide_eq_true (by first | (with_reducible assumption) | assumption)
                obtain ⟨ad578, e578, hx578_0, hx578_1, hx578_2, hx578_3, hx578_4⟩ := at_T53 HR0.out x5_1 p578 q578
                cases e578
                replace p578 := eq_true p578
                replace q578 := eq_true q578
                have p579 : 0 ≤ (x5_1 : Int) := of_decide_eq_true (by first | (with_reducible assumption) | assumption)
                have q579 : x5_1 < (l1.length : Int) := of_decide_eq_true (by first | (with_reducible assumption) | assumption)
                obtain ⟨ad579, e579, hx579_0, hx579_1, hx579_2, hx579_3, hx579_4⟩ := at_T53 HR1.out x5_1 p579 q579
                cases e579
                replace p579 := eq_true p579
                replace q579 := eq_true q579
                go_wp2
                repeat (go_quiet (fail); try go_wp2)
                go_ret
                exact ⟨by first | rfl | (simp; done) | (simp [*]; done), by repeat (first | exact Drawn0.refl _ | apply Drawn0.step)⟩
              · rw [if_neg c7] at H
                have c7b0 : (!(((qz7 l0 x5_1).f0) == ((qz7 l1 x5_1).f0)) || (!((((qz7 l0 x5_1).f1).toList) == (((qz7 l1 x5_1).f1).toList)) || (!((((qz7 l0 x5_1).f2).toList) == (((qz7 l1 x5_1).f2).toList)) || (!(((qz7 l0 x5_1).f3) == ((qz7 l1 x5_1).f3)) || (!(((qz7 l0 x5_1).f4) == ((qz7 l1 x5_1).f4))))))) = false := by simpa using c7
                clear c7
                have H' := qza.mk H
                clear H
                have p578 : 0 ≤ (x5_1 : Int) := of_decide_eq_true (by first | (with_reducible assumption) | assumption)
                have q578 : x5_1 < (l0.length : Int) := of_decide_eq_true (by first | (with_reducible assumption) | assumption)
                obtain ⟨ad578, e578, hx578_0, hx578_1, hx578_2, hx578_3, hx578_4⟩ := at_T53 HR0.out x5_1 p578 q578
                cases e578
                replace p578 := eq_true p578
                replace q578 := eq_true q578
                have p579 : 0 ≤ (x5_1 : Int) := of_decide_eq_true (by first | (with_reducible assumption) | assumption)
                have q579 : x5_1 < (l1.length : Int) := of_decide_eq_true (by first | (with_reducible assumption) | assumption)
                obtain ⟨ad579, e579, hx579_0, hx579_1, hx579_2, hx579_3, hx579_4⟩ := at_T53 HR1.out x5_1 p579 q579
                cases e579
                replace p579 := eq_true p579
                replace q579 := eq_true q579
                go_wp2
                repeat (go_quiet (fail); try go_wp2)
                go_roundg k1
                case measure => have := HK1.out; omega
                case rel => exact ⟨(wrap64 (x5_1 + 1)), (by first | rfl | (simp; done) | (simp [*]; done)), H', ⟨by have := HK1.out; omega⟩, by repeat (first | exact Drawn0.refl _ | apply Drawn0.step)⟩
            · rw [if_neg c6] at H
              exact absurd H (by simp)
          · rw [if_neg c5] at H
            exact absurd H (by simp)
        · rw [if_neg c4] at H
          have c4b0 : decide (x5_1 < (l0.length : Int)) = false := decide_eq_false c4
          clear c4
          obtain rfl := Option.some.inj H
          go_wp2
          repeat (go_quiet (fail); try go_wp2)
          go_ret
          exact ⟨by first | rfl | (simp; done) | (simp [*]; done), by repeat (first | exact Drawn0.refl _ | apply Drawn0.step)⟩
  · rw [if_neg c3] at H
    have c3b0 : ((l0.length : Int) == (l1.length : Int)) = false := beq_eq_false_iff_ne.mpr c3
    have c3b1 : ((l0.length : Int) != (l1.length : Int)) = true := bne_iff_ne.mpr c3
    have c3b2 : (l0.length == l1.length) = false := by first | simpa using c3 | (simp at c3 ⊢; omega)
    obtain rfl := Option.some.inj H
    go_enter Try.func31, Try.ntmps31
    go_wp2
    repeat (go_quiet (fail); try go_wp2)
    go_ret
    exact ⟨by first | rfl | (simp; done) | (simp [*]; done), by repeat (first | exact Drawn0.refl _ | apply Drawn0.step)⟩
end Go.Proofs.Ytkennobdoldlkaa.PAll
end
