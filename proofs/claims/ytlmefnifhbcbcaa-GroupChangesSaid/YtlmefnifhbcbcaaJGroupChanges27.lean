/- Joined texts of the claim GroupChanges (part 27): contracts of functions and plain laws. -/
import Derived.Test.YtlmefnifhbcbcaaJGroupChanges20
import Derived.Test.YtlmefnifhbcbcaaJGroupChanges26
section
/- Plain laws of groups: the document's May. -/
namespace Go.Proofs.Ytlmefnifhbcbcaa.PAll
open Go.RowKit Go.Proofs.YtlmefnifhbcbcaaW.PrintWords Go.Proofs.YtlmefnifhbcbcaaW.PrintMore Go.Proofs.Ytlmefnifhbcbcaa
set_option linter.unusedVariables false
/-! May -/
theorem rMay_l0 (v l : List Int) (hv : v.length ≤ 9223372036854775806) (hl : l.length ≤ 9223372036854775806) : ∀ (d j : Nat), d = l.length - j → j ≤ l.length → Ev (fun q => ferruleref06_May.l0 q (j : Int) v l) ((l.drop j).all (fun x => !hasI v x)) := by
  intro d
  induction d with
  | zero =>
    intro j hd hj
    rw [List.drop_eq_nil_of_le (by omega)]
    exact Ev.step (f := fun _ => some true) (fun q => by simp only [ferruleref06_May.l0]; rw [if_neg (show ¬ (j : Int) < l.length by omega)]) (Ev.now true)
  | succ d ih =>
    intro j hd hj
    have hlt : j < l.length := by omega
    rw [dropGet l j hlt, List.all_cons]
    refine Ev.step (f := fun q => (ferruleref06_Has.f q v l[j]!).bind fun t => if t = true then some false else ferruleref06_May.l0 q ((j + 1 : Nat) : Int) v l) (fun q => by simp only [ferruleref06_May.l0]; rw [if_pos (show (j : Int) < l.length by omega), if_pos (show (0 : Int) ≤ j by omega), rd_int l j hlt, wrapUp j (by omega)]) ?_
    refine Ev.bind (Has_ev v _ hv) ?_
    cases hasI v l[j]! with
    | true => exact Ev.congr (fun q => if_pos rfl) (Ev.now false)
    | false => exact Ev.congr (fun q => if_neg (by decide)) (ih (j + 1) (by omega) (by omega))
theorem rMay_j0 (v l : List Int) (hv : v.length ≤ 9223372036854775806) (hl : l.length ≤ 9223372036854775806) (b : Bool) : Ev (fun q => ferruleref06_May.j0 q b v l) (!b && l.all (fun x => !hasI v x)) := by
  cases b with
  | true => exact Ev.step (f := fun _ => some false) (fun q => by simp only [ferruleref06_May.j0]; exact if_pos trivial) (Ev.now false)
  | false => exact Ev.step (f := fun q => ferruleref06_May.l0 q 0 v l) (fun q => by simp only [ferruleref06_May.j0]; exact if_neg (by decide)) (rMay_l0 v l hv hl l.length 0 (by omega) (by omega))
theorem rMay_ev (v l : List Int) (hv : v.length ≤ 9223372036854775806) (hl : l.length ≤ 9223372036854775806) : Ev (fun q => ferruleref06_May.f q v l) (mayV v l) := by
  unfold ferruleref06_May.f
  refine Ev.bind (rrises_ev v hv) ?_
  refine Ev.bind (rrises_ev l hl) ?_
  unfold mayV
  have h0 := rMay_j0 v l hv hl
  generalize risesB v = a
  generalize risesB l = b
  cases a with
  | false => exact Ev.congr (fun q => if_neg (by decide)) (ev_to (h0 true) (by simp))
  | true =>
    cases b with
    | false => exact Ev.congr (fun q => (if_pos rfl).trans (if_neg (by decide))) (ev_to (h0 true) (by simp))
    | true =>
      by_cases c1 : v.length < 1
      · exact Ev.congr (fun q => (if_pos rfl).trans ((if_pos rfl).trans (if_pos (by omega)))) (ev_to (h0 true) (by rw [decide_eq_false (show ¬ 1 ≤ v.length by omega)]; simp))
      · by_cases c2 : v.length > 7
        · exact Ev.congr (fun q => (if_pos rfl).trans ((if_pos rfl).trans ((if_neg (by omega)).trans (if_pos (by omega))))) (ev_to (h0 true) (by rw [decide_eq_false (show ¬ v.length ≤ 7 by omega)]; simp))
        · refine Ev.congr (fun q => (if_pos rfl).trans ((if_pos rfl).trans ((if_neg (by omega)).trans (if_neg (by omega))))) (ev_to (h0 (decide ((l.length : Int) > 3))) ?_)
          rw [decide_eq_true (show 1 ≤ v.length by omega), decide_eq_true (show v.length ≤ 7 by omega)]
          by_cases c3 : l.length ≤ 3
          · rw [decide_eq_true c3, decide_eq_false (show ¬ (l.length : Int) > 3 by omega)]; simp
          · rw [decide_eq_false c3, decide_eq_true (show (l.length : Int) > 3 by omega)]; simp
end Go.Proofs.Ytlmefnifhbcbcaa.PAll
end
