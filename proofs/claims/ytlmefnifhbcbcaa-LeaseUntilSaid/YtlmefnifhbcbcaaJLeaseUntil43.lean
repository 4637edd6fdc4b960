/- Joined texts of the claim LeaseUntil (part 43): contracts of functions and plain laws. -/
import Derived.Test.YtlmefnifhbcbcaaJLeaseUntil35
import Derived.Test.YtlmefnifhbcbcaaJLeaseUntil42
import Derived.Test.YtlmefnifhbcbcaaJLeaseUntil11
section
/- Plain laws of groups: the document's May. -/
namespace Go.Proofs.Ytlmefnifhbcbcaa.PAll
open Go.RowKit Go.Proofs.YtlmefnifhbcbcaaW.PrintWords Go.Proofs.YtlmefnifhbcbcaaW.PrintMore Go.Proofs.Ytlmefnifhbcbcaa
set_option linter.unusedVariables false
/-! May -/
theorem rMay_l0 (v l : List Int) (hv : v.length ≤ 9223372036854775806) (hl : l.length ≤ 9223372036854775806) : ∀ (d j : Nat), d = l.length - j → j ≤ l.length → Ev (fun q => ferruleref06_May.l0 q (j : Int) v l) ((l.drop j).all (fun x => !hasI v x)) := by
  intro d
  induction d with
  | zero =>
    intro j hd hj
    rw [List.drop_eq_nil_of_le (by omega)]
    exact Ev.step (f := fun _ => some true) (fun q => by simp only [ferruleref06_May.l0]; rw [if_neg (show ¬ (j : Int) < l.length by omega)]) (Ev.now true)
  | succ d ih =>
    intro j hd hj
    have hlt : j < l.length := by omega
    rw [dropGet l j hlt, List.all_cons]
    refine Ev.step (f := fun q => (ferruleref06_Has.f q v l[j]!).bind fun t => if t = true then some false else ferruleref06_May.l0 q ((j + 1 : Nat) : Int) v l) (fun q => by simp only [ferruleref06_May.l0]; rw [if_pos (show (j : Int) < l.length by omega), if_pos (show (0 : Int) ≤ j by omega), rd_int l j hlt, wrapUp j (by omega)]) ?_
    refine Ev.bind (Has_ev v _ hv) ?_
    cases hasI v l[j]! with
    | true => exact Ev.congr (fun q => if_pos rfl) (Ev.now false)
    | false => exact Ev.congr (fun q => if_neg (by decide)) (ih (j + 1) (by omega) (by omega))
theorem rMay_j0 (v l : List Int) (hv : v.length ≤ 9223372036854775806) (hl : l.length ≤ 9223372036854775806) (b : Bool) : Ev (fun q => ferruleref06_May.j0 q b v l) (!b && l.all (fun x => !hasI v x)) := by
  cases b with
  | true => exact Ev.step (f := fun _ => some false) (fun q => by simp only [ferruleref06_May.j0]; exact if_pos trivial) (Ev.now false)
  | false => exact Ev.step (f := fun q => ferruleref06_May.l0 q 0 v l) (fun q => by simp only [ferruleref06_May.j0]; exact if_neg (by decide)) (rMay_l0 v l hv hl l.length 0 (by omega) (by omega))
theorem rMay_ev (v l : List Int) (hv : v.length ≤ 9223372036854775806) (hl : l.length ≤ 9223372036854775806) : Ev (fun q => ferruleref06_May.f q v l) (mayV v l) := by
  unfold ferruleref06_May.f
  refine Ev.bind (rrises_ev v hv) ?_
  refine Ev.bind (rrises_ev l hl) ?_
  unfold mayV
  have h0 := rMay_j0 v l hv hl
  generalize risesB v = a
  generalize risesB l = b
  cases a with
  | false => exact Ev.congr (fun q => if_neg (by decide)) (ev_to (h0 true) (by simp))
  | true =>
    cases b with
    | false => exact Ev.congr (fun q => (if_pos rfl).trans (if_neg (by decide))) (ev_to (h0 true) (by simp))
    | true =>
      by_cases c1 : v.length < 1
      · exact Ev.congr (fun q => (if_pos rfl).trans ((if_pos rfl).trans (if_pos (by omega)))) (ev_to (h0 true) (by rw [decide_eq_false (show ¬ 1 ≤ v.length by omega)]; simp))
      · by_cases c2 : v.length > 7
        · exact Ev.congr (fun q => (if_pos rfl).trans ((if_pos rfl).trans ((if_neg (by omega)).trans (if_pos (by omega))))) (ev_to (h0 true) (by rw [decide_eq_false (show ¬ v.length ≤ 7 by omega)]; simp))
        · refine Ev.congr (fun q => (if_pos rfl).trans ((if_pos rfl).trans ((if_neg (by omega)).trans (if_neg (by omega))))) (ev_to (h0 (decide ((l.length : Int) > 3))) ?_)
          rw [decide_eq_true (show 1 ≤ v.length by omega), decide_eq_true (show v.length ≤ 7 by omega)]
          by_cases c3 : l.length ≤ 3
          · rw [decide_eq_true c3, decide_eq_false (show ¬ (l.length : Int) > 3 by omega)]; simp
          · rw [decide_eq_false c3, decide_eq_true (show (l.length : Int) > 3 by omega)]; simp
end Go.Proofs.Ytlmefnifhbcbcaa.PAll
end
section
-- Printed by this session's pr.sh (the kit's print.py, several laws in one namespace). Not trusted: Lean checks it.
namespace Go.Proofs.Ytlmefnifhbcbcaa.PAll
open Go.RowKit Go.Proofs.YtlmefnifhbcbcaaW.PrintWords Go.Proofs.YtlmefnifhbcbcaaW.PrintLast Go.Proofs.YtlmefnifhbcbcaaW.PrintMore
attribute [local go_sem] max2_int min2_int max_two min_two max_three min_three max_four min_four   -- for this text's walks alone
set_option linter.unusedVariables false
set_option linter.unusedSimpArgs false

/-! ### ferruleref06_Mark: function 33 -/
def ferruleref06_Mark.l0 : Nat → List (S39) → Int → Int → Option (Int × Bool)
  | 0, _, _, _ => none
  | k + 1, x0, x1, x6 => if x6 < (x0.length : Int) then (if 0 ≤ x6 then (if ((rd_T39 x0 x6).f0) = x1 then (some ((rd_T39 x0 x6).f1, true)) else (ferruleref06_Mark.l0 k x0 x1 (wrap64 (x6 + 1)))) else (none)) else (some (0, false))
def ferruleref06_Mark.f (k : Nat) (l0 : List (S39)) (a1 : Int) : Option (Int × Bool) := ferruleref06_Mark.l0 k l0 a1 0
set_option maxHeartbeats 8000000 in
set_option maxRecDepth 100000 in
theorem ferruleref06_Mark.calls (k : Nat) (A0 : Option Addr) (c0 : Nat) (l0 : List (S39)) (a1 : Int) (r1 : Int) (r2 : Bool) (w : World) (hr0 : Kd.C k39 w A0 l0.length l0) (hc0 : l0.length ≤ c0) (h : ferruleref06_Mark.f k l0 a1 = some (r1, r2)) :
    Calls Try.prog 33 #[.slice A0 l0.length c0, .int .u64 a1] w fun e w' => e = .returned (.tuple #[.int .u64 r1, .bool r2]) ∧ Drawn0 w w' := by
  have HR0 := Aside0.mk hr0
  have HC0 := Aside0.mk hc0
  clear hr0 hc0
  have H : (ferruleref06_Mark.l0 k l0 a1 0) = some (r1, r2) := h
  clear h
  have H' := Aside0.mk H
  clear H
  go_enter Try.func33, Try.ntmps33
  go_wp2
  go_loopg [6] k (fun kq v6 w' => ∃ (x6_1 : Int), v6 = .int .i64 x6_1 ∧ Aside0 (ferruleref06_Mark.l0 kq l0 a1 x6_1 = some (r1, r2)) ∧ Aside0 (kq ≤ k) ∧ Drawn0 w w')
  case atStart => exact ⟨(0), (by first | rfl | (simp; done) | (simp [*]; done)), H', ⟨Nat.le_refl _⟩, by repeat (first | exact Drawn0.refl _ | apply Drawn0.step)⟩
  case round =>
    clear H'
    try clear p2
    obtain ⟨x6_1, rfl, HA, HK1, ⟨m1, rfl⟩⟩ := hrel
    cases gk with
    | zero => exact absurd HA.out (by simp [ferruleref06_Mark.l0])
    | succ k1 =>
      have H := HA.out
      clear HA
      simp only [ferruleref06_Mark.l0] at H
      by_cases c3 : x6_1 < (l0.length : Int)
      · rw [if_pos c3] at H
        have c3b0 : decide (x6_1 < (l0.length : Int)) = true := decide_eq_true c3
        clear c3
        by_cases c4 : 0 ≤ x6_1
        · rw [if_pos c4] at H
          have c4b0 : decide (0 ≤ x6_1) = true := decide_eq_true c4
          clear c4
          by_cases c5 : ((rd_T39 l0 x6_1).f0) = a1
          · rw [if_pos c5] at H
            have c5b0 : (((rd_T39 l0 x6_1).f0) == a1) = true := beq_iff_eq.mpr c5
            have c5b1 : (((rd_T39 l0 x6_1).f0) != a1) = false := bne_eq_false_iff_eq.mpr c5
            clear c5
            simp only [Option.some.injEq, Prod.mk.injEq] at H
            obtain ⟨rfl, rfl⟩ := H
            have p120 : 0 ≤ (x6_1 : Int) := of_decide_eq_true (by first | (with_reducible assumption) | assumption)
            have q120 : x6_1 < (l0.length : Int) := of_decide_eq_true (by first | (with_reducible assumption) | assumption)
            obtain ⟨ad120, e120, hx120_0, hx120_1⟩ := at_T39 HR0.out x6_1 p120 q120
            cases e120
            replace p120 := eq_true p120
            replace q120 := eq_true q120
            have p121 : 0 ≤ (x6_1 : Int) := of_decide_eq_true (by first | (with_reducible assumption) | assumption)
            have q121 : x6_1 < (l0.length : Int) := of_decide_eq_true (by first | (with_reducible assumption) | assumption)
            obtain ⟨ad121, e121, hx121_0, hx121_1⟩ := at_T39 HR0.out x6_1 p121 q121
            obtain rfl : ad120 = ad121 := (by injection e121)
            replace p121 := eq_true p121
            replace q121 := eq_true q121
            go_wp2
            go_ret2
            exact ⟨by first | rfl | (simp; done) | (simp [*]; done), by repeat (first | exact Drawn0.refl _ | apply Drawn0.step)⟩
          · rw [if_neg c5] at H
            have c5b0 : (((rd_T39 l0 x6_1).f0) == a1) = false := beq_eq_false_iff_ne.mpr c5
            have c5b1 : (((rd_T39 l0 x6_1).f0) != a1) = true := bne_iff_ne.mpr c5
            have H' := Aside0.mk H
            clear H
            have p120 : 0 ≤ (x6_1 : Int) := of_decide_eq_true (by first | (with_reducible assumption) | assumption)
            have q120 : x6_1 < (l0.length : Int) := of_decide_eq_true (by first | (with_reducible assumption) | assumption)
            obtain ⟨ad120, e120, hx120_0, hx120_1⟩ := at_T39 HR0.out x6_1 p120 q120
            cases e120
            replace p120 := eq_true p120
            replace q120 := eq_true q120
            go_wp2
            go_roundg k1
            case measure => have := HK1.out; omega
            case rel => exact ⟨(wrap64 (x6_1 + 1)), (by first | rfl | (simp; done) | (simp [*]; done)), H', ⟨by have := HK1.out; omega⟩, by repeat (first | exact Drawn0.refl _ | apply Drawn0.step)⟩
        · rw [if_neg c4] at H
          exact absurd H (by simp)
      · rw [if_neg c3] at H
        have c3b0 : decide (x6_1 < (l0.length : Int)) = false := decide_eq_false c3
        clear c3
        simp only [Option.some.injEq, Prod.mk.injEq] at H
        obtain ⟨rfl, rfl⟩ := H
        go_wp2
        go_ret2
        exact ⟨by first | rfl | (simp; done) | (simp [*]; done), by repeat (first | exact Drawn0.refl _ | apply Drawn0.step)⟩

end Go.Proofs.Ytlmefnifhbcbcaa.PAll
end
