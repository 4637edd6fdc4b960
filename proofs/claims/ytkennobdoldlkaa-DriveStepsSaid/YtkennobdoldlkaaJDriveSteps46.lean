/- Joined texts of the claim DriveSteps (part 46): contracts of functions and plain laws. -/
import Derived.Test.YtkennobdoldlkaaJDriveSteps15
import Derived.Test.YtkennobdoldlkaaJDriveSteps45
import Derived.BigQuiet
import Derived.ChangeAlike
import Derived.Deep.QuietTactic
import Derived.RegionTactic
import Derived.Test.YtkennobdoldlkaaJDriveSteps14
import Derived.Test.YtkennobdoldlkaaJDriveSteps31
import Derived.Test.YtkennobdoldlkaaJDriveSteps40
import Derived.Test.YtkennobdoldlkaaJDriveSteps41
import Derived.Test.YtkennobdoldlkaaJDriveSteps42
set_option linter.unusedVariables false
set_option linter.unusedSimpArgs false
section
namespace Go.Proofs.Ytkennobdoldlkaa.PAll
open Go.RowKit Go.Proofs.YtkennobdoldlkaaW.PrintWords Go.Proofs.YtkennobdoldlkaaW.PrintLast Go.Proofs.YtkennobdoldlkaaW.PrintMore
attribute [local go_sem] qz51 qz52 max_two min_two qz45 qz46 qz53 qz54
attribute [local go_sem high] eqA74
def ferruleref13_SamePuts.l0 : Nat → List (S74) → List (S74) → Int → Option (Bool)
  | 0, _, _, _ => none
  | k + 1, x0, x1, x5 => if x5 < (x0.length : Int) then (if 0 ≤ x5 then (if x5 < (x1.length : Int) then (if (!((((qz18 x0 x5).f0).toList) == (((qz18 x1 x5).f0).toList)) || (!((((qz18 x0 x5).f1).toList) == (((qz18 x1 x5).f1).toList)) || (!(((qz18 x0 x5).f2) == ((qz18 x1 x5).f2))))) = true then (some false) else (ferruleref13_SamePuts.l0 k x0 x1 (wrap64 (x5 + 1)))) else (none)) else (none)) else (some true)
def ferruleref13_SamePuts.f (k : Nat) (l0 : List (S74)) (l1 : List (S74)) : Option (Bool) := if (l0.length : Int) = (l1.length : Int) then (ferruleref13_SamePuts.l0 k l0 l1 0) else (some false)
set_option maxHeartbeats 8000000 in
set_option maxRecDepth 100000 in
theorem ferruleref13_SamePuts.calls (k : Nat) (A0 : Option Addr) (c0 : Nat) (l0 : List (S74)) (A1 : Option Addr) (c1 : Nat) (l1 : List (S74)) (r : Bool) (w : World) (hr0 : Kd.C k74 w A0 l0.length l0) (hc0 : l0.length ≤ c0) (hr1 : Kd.C k74 w A1 l1.length l1) (hc1 : l1.length ≤ c1) (h : ferruleref13_SamePuts.f k l0 l1 = some r) :
    Calls Try.prog 20 #[.slice A0 l0.length c0, .slice A1 l1.length c1] w fun e w' => e = .returned (.bool r) ∧ Drawn0 w w' := by
  have hu74 := Try.underlying74
  have HR0 := qza.mk hr0
  have HC0 := qza.mk hc0
  clear hr0 hc0
  have HR1 := qza.mk hr1
  have HC1 := qza.mk hc1
  clear hr1 hc1
  have H : (if (l0.length : Int) = (l1.length : Int) then (ferruleref13_SamePuts.l0 k l0 l1 0) else (some false)) = some r := h
  clear h
  by_cases c3 : (l0.length : Int) = (l1.length : Int)
  · rw [if_pos c3] at H
    have c3b0 : ((l0.length : Int) == (l1.length : Int)) = true := beq_iff_eq.mpr c3
    have c3b1 : ((l0.length : Int) != (l1.length : Int)) = false := bne_eq_false_iff_eq.mpr c3
    have c3b2 : (l0.length == l1.length) = true := by first | simpa using c3 | (simp at c3 ⊢; omega)
    clear c3
    have H' := qza.mk H
    clear H
    go_enter Try.func20, Try.ntmps20
    go_wp2
    repeat (go_quiet (fail); try go_wp2)
    go_loopg [5] k (fun kq v5 w' => ∃ (x5_1 : Int), v5 = .int .i64 x5_1 ∧ qza (ferruleref13_SamePuts.l0 kq l0 l1 x5_1 = some r) ∧ qza (kq ≤ k) ∧ Drawn0 w w')
    case atStart => exact ⟨(0), (by first | rfl | (simp; done) | (simp [*]; done)), H', ⟨Nat.le_refl _⟩, by repeat (first | exact Drawn0.refl _ | apply Drawn0.step)⟩
    case round =>
      clear H'
      try clear c1
      try clear c2
      try clear p2
      try clear c3
      try clear c3b0
      try clear c3b1
      try clear c3b2
      obtain ⟨x5_1, rfl, HA, HK1, ⟨m1, rfl⟩⟩ := hrel
      cases gk with
      | zero => exact absurd HA.out (by simp [ferruleref13_SamePuts.l0])
      | succ k1 =>
        have H := HA.out
        clear HA
        simp only [ferruleref13_SamePuts.l0] at H
        by_cases c4 : x5_1 < (l0.length : Int)
        · rw [if_pos c4] at H
          have c4b0 : decide (x5_1 < (l0.length : Int)) = true := decide_eq_true c4
          clear c4
          by_cases c5 : 0 ≤ x5_1
          · rw [if_pos c5] at H
            have c5b0 : decide (0 ≤ x5_1) = true := decide_eq_true c5
            clear c5
            by_cases c6 : x5_1 < (l1.length : Int)
            · rw [if_pos c6] at H
              have c6b0 : decide (x5_1 < (l1.length : Int)) = true := decide_eq_true c6
              clear c6
              by_cases c7 : (!((((qz18 l0 x5_1).f0).toList) == (((qz18 l1 x5_1).f0).toList)) || (!((((qz18 l0 x5_1).f1).toList) == (((qz18 l1 x5_1).f1).toList)) || (!(((qz18 l0 x5_1).f2) == ((qz18 l1 x5_1).f2))))) = true
              · rw [if_pos c7] at H
                have c7b0 : (!((((qz18 l0 x5_1).f0).toList) == (((qz18 l1 x5_1).f0).toList)) || (!((((qz18 l0 x5_1).f1).toList) == (((qz18 l1 x5_1).f1).toList)) || (!(((qz18 l0 x5_1).f2) == ((qz18 l1 x5_1).f2))))) = true := c7
                clear c7
                obtain rfl := Option.some.inj H
                have p572 : 0 ≤ (x5_1 : Int) := of_decide_eq_true (by first | (with_reducible assumption) | assumption)
                have q572 : x5_1 < (l0.length : Int) := of_decide_eq_true (by first | (with_reducible assumption) | assumption)
                obtain ⟨ad572, e572, hx572_0, hx572_1, hx572_2⟩ := at_T74 HR0.out x5_1 p572 q572
                cases e572
                replace p572 := eq_true p572
                replace q572 := eq_true q572
                have p573 : 0 ≤ (x5_1 : Int) := of_decide_eq_true (by first | (with_reducible assumption) | assumption)
                have q573 : x5_1 < (l1.length : Int) := of_decide_eq_true (by first | (with_reducible assumption) | assumption)
                obtain ⟨ad573, e573, hx573_0, hx573_1, hx573_2⟩ := at_T74 HR1.out x5_1 p573 q573
                cases e573
                replace p573 := eq_true p573
                replace q573 := eq_true q573
                go_wp2
                repeat (go_quiet (fail); try go_wp2)
                go_ret
                exact ⟨by first | rfl | (simp; done) | (simp [*]; done), by repeat (first | exact Drawn0.refl _ | apply Drawn0.step)⟩
              · rw [if_neg c7] at H
                have c7b0 : (!((((qz18 l0 x5_1).f0).toList) == (((qz18 l1 x5_1).f0).toList)) || (!((((qz18 l0 x5_1).f1).toList) == (((qz18 l1 x5_1).f1).toList)) || (!(((qz18 l0 x5_1).f2) == ((qz18 l1 x5_1).f2))))) = false := by simpa using c7
                clear c7
                have H' := qza.mk H
                clear H
                have p572 : 0 ≤ (x5_1 : Int) := of_decide_eq_true (by first | (with_reducible assumption) | assumption)
                have q572 : x5_1 < (l0.length : Int) := of_decide_eq_true (by first | (with_reducible assumption) | assumption)
                obtain ⟨ad572, e572, hx572_0, hx572_1, hx572_2⟩ := at_T74 HR0.out x5_1 p572 q572
                cases e572
                replace p572 := eq_true p572
                replace q572 := eq_true q572
                have p573 : 0 ≤ (x5_1 : Int) := of_decide_eq_true (by first | (with_reducible assumption) | assumption)
                have q573 : x5_1 < (l1.length : Int) := of_decide_eq_true (by first | (with_reducible assumption) | assumption)
                obtain ⟨ad573, e573, hx573_0, hx573_1, hx573_2⟩ := at_T74 HR1.out x5_1 p573 q573
                cases e573
                replace p573 := eq_true p573
                replace q573 := eq_true q573
                go_wp2
                repeat (go_quiet (fail); try go_wp2)
                go_roundg k1
                case measure => have := HK1.out; omega
                case rel => exact ⟨(wrap64 (x5_1 + 1)), (by first | rfl | (simp; done) | (simp [*]; done)), H', ⟨by have := HK1.out; omega⟩, by repeat (first | exact Drawn0.refl _ | apply Drawn0.step)⟩
            · rw [if_neg c6] at H
              exact absurd H (by simp)
          · rw [if_neg c5] at H
            exact absurd H (by simp)
        · rw [if_neg c4] at H
          have c4b0 : decide (x5_1 < (l0.length : Int)) = false := decide_eq_false c4
          clear c4
          obtain rfl := Option.some.inj H
          go_wp2
          repeat (go_quiet (fail); try go_wp2)
          go_ret
          exact ⟨by first | rfl | (simp; done) | (simp [*]; done), by repeat (first | exact Drawn0.refl _ | apply Drawn0.step)⟩
  · rw [if_neg c3] at H
    have c3b0 : ((l0.length : Int) == (l1.length : Int)) = false := beq_eq_false_iff_ne.mpr c3
    have c3b1 : ((l0.length : Int) != (l1.length : Int)) = true := bne_iff_ne.mpr c3
    have c3b2 : (l0.length == l1.length) = false := by first | simpa using c3 | (simp at c3 ⊢; omega)
    obtain rfl := Option.some.inj H
    go_enter Try.func20, Try.ntmps20
    go_wp2
    repeat (go_quiet (fail); try go_wp2)
    go_ret
    exact ⟨by first | rfl | (simp; done) | (simp [*]; done), by repeat (first | exact Drawn0.refl _ | apply Drawn0.step)⟩
end Go.Proofs.Ytkennobdoldlkaa.PAll
end
section
namespace Go.Proofs.Ytkennobdoldlkaa.PAll
open Go.RowKit Go.Proofs.YtkennobdoldlkaaW.PrintWords Go.Proofs.Ytkennobdoldlkaa
theorem qz57 (ta ti : Int) (A : Option Addr) (c : Nat) (st : List S53) (w : World) (hr : Kd.C k53 w A st.length st) (hc : st.length ≤ c) (hl : st.length ≤ 3000000000000) :
    Calls Try.prog 19 #[.agg #[.int .u64 ta, .int .u64 ti, .slice A st.length c]] w fun e w' => ∃ B d, e = .returned (.slice B (qz20 st).length d) ∧ (qz20 st).length ≤ d ∧ Kd.C (Kd.int .u64) w' B (qz20 st).length (qz20 st) ∧ Below w.heap.size w w' := by
  obtain ⟨q, hq⟩ := (refParts_ev ta ti st hl).rounds
  refine (ferruleref20_Parts.calls q ta ti A c st _ w hr hc hq).mono ?_
  rintro e w' ⟨v, rfl, hR, hb⟩
  obtain ⟨B, d, rfl, hd, hC⟩ := Sl.of_R hR
  exact ⟨B, d, rfl, hd, hC, hb⟩
theorem nums_self (a : List Int) (hl : a.length ≤ 9223372036854775800) : ∀ (d j : Nat), d = a.length - j → j ≤ a.length → Ev (fun q => ferruleref01_Same.l0 q a a (j : Int)) true := by
  intro d
  induction d with
  | zero =>
    intro j hd hj
    exact Ev.step (f := fun _ => some true) (fun k => by simp only [ferruleref01_Same.l0]; rw [if_neg (show ¬ (j : Int) < a.length by omega)]) (Ev.now true)
  | succ d ih =>
    intro j hd hj
    have hlt : j < a.length := by omega
    refine Ev.step (fun k => ?_) (ih (j + 1) (by omega) (by omega))
    simp only [ferruleref01_Same.l0]
    rw [if_pos (show (j : Int) < a.length by omega), if_pos (show (0 : Int) ≤ j by omega), if_pos trivial, wrapUpP j (by omega), if_pos (show (j : Int) < a.length by omega)]
theorem puts_self (a : List S74) (hl : a.length ≤ 9223372036854775800) : ∀ (d j : Nat), d = a.length - j → j ≤ a.length → Ev (fun q => ferruleref13_SamePuts.l0 q a a (j : Int)) true := by
  intro d
  induction d with
  | zero =>
    intro j hd hj
    exact Ev.step (f := fun _ => some true) (fun k => by simp only [ferruleref13_SamePuts.l0]; rw [if_neg (show ¬ (j : Int) < a.length by omega)]) (Ev.now true)
  | succ d ih =>
    intro j hd hj
    have hlt : j < a.length := by omega
    refine Ev.step (fun k => ?_) (ih (j + 1) (by omega) (by omega))
    simp only [ferruleref13_SamePuts.l0]
    rw [if_pos (show (j : Int) < a.length by omega), if_pos (show (0 : Int) ≤ j by omega), if_pos (show (j : Int) < a.length by omega), if_neg (by simp), wrapUpP j (by omega)]
theorem nums_self_ev (a : List Int) (hl : a.length ≤ 9223372036854775800) : Ev (fun q => ferruleref01_Same.f q a a) true := by
  unfold ferruleref01_Same.f
  exact Ev.congr (fun q => if_pos rfl) (nums_self a hl _ 0 rfl (Nat.zero_le _))
theorem puts_self_ev (a : List S74) (hl : a.length ≤ 9223372036854775800) : Ev (fun q => ferruleref13_SamePuts.f q a a) true := by
  unfold ferruleref13_SamePuts.f
  exact Ev.congr (fun q => if_pos rfl) (puts_self a hl _ 0 rfl (Nat.zero_le _))
theorem parts_len20 (st : List S53) (hl : st.length ≤ 3000000000000) : (qz20 st).length ≤ 9223372036854775800 := by
  have := partsV_len st st.length (Nat.le_refl _)
  rw [List.take_length] at this
  omega
theorem puts_len20 (st : List S53) (g : Int) (hl : st.length ≤ 3000000000000) : (putsV st g).length ≤ 9223372036854775800 := by
  have := putsV_len20 st g st.length (Nat.le_refl _)
  rw [List.take_length] at this
  omega
end Go.Proofs.Ytkennobdoldlkaa.PAll
end
