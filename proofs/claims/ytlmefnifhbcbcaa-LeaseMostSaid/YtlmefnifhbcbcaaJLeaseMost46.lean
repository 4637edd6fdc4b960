/- Joined texts of the claim LeaseMost (part 46): contracts of functions and plain laws. -/
import Derived.LoopTactic
import Derived.Outline
import Derived.Test.YtlmefnifhbcbcaaJLeaseMost12
import Derived.Test.YtlmefnifhbcbcaaJLeaseMost16
import Derived.Test.YtlmefnifhbcbcaaJLeaseMost27
import Derived.Test.YtlmefnifhbcbcaaJLeaseMost29
import Derived.Test.YtlmefnifhbcbcaaJLeaseMost38
import Derived.Test.YtlmefnifhbcbcaaJLeaseMost26
import Derived.Test.YtlmefnifhbcbcaaJLeaseMost36
section
/- Plain laws of groups: lists that rise; a node put into one, or taken out of it. -/
namespace Go.Proofs.Ytlmefnifhbcbcaa.PAll
open Go.RowKit Go.Proofs.YtlmefnifhbcbcaaW.PrintWords Go.Proofs.YtlmefnifhbcbcaaW.PrintMore Go.Proofs.Ytlmefnifhbcbcaa
set_option linter.unusedVariables false
/-! lists that rise -/
theorem rises_adj {l : List Int} (h : risesB l = true) : ∀ j, 0 < j → j < l.length → l[j - 1]! < l[j]! := by
  intro j h0 hj
  have := (allN_iff l l.length 0).1 h j (Nat.zero_le _) (by omega)
  unfold okN at this
  simp only [Bool.and_eq_true, Bool.or_eq_true, decide_eq_true_eq] at this
  omega
theorem rises_lt {l : List Int} (h : risesB l = true) : ∀ (j i : Nat), i < j → j < l.length → l[i]! < l[j]! := by
  intro j
  induction j with
  | zero => intro i hi; omega
  | succ j ih =>
    intro i hi hj
    have h1 := rises_adj h (j + 1) (by omega) hj
    rw [Nat.add_sub_cancel] at h1
    by_cases e : i = j
    · subst e; exact h1
    · have := ih i (by omega) (by omega)
      omega
theorem rises_pw {l : List Int} (h : risesB l = true) : l.Pairwise (· < ·) := by
  rw [List.pairwise_iff_getElem]
  intro i j hi hj hij
  have := rises_lt h j i hij hj
  rwa [getElem!_pos l i hi, getElem!_pos l j hj] at this
/-! the code's put: sorted -/
end Go.Proofs.Ytlmefnifhbcbcaa.PAll
end
section
/- Plain laws of groups: a configuration behind a change, as the code tells it. -/
namespace Go.Proofs.Ytlmefnifhbcbcaa.PAll
open Go.RowKit Go.Proofs.YtlmefnifhbcbcaaW.PrintWords Go.Proofs.YtlmefnifhbcbcaaW.PrintMore Go.Proofs.Ytlmefnifhbcbcaa
set_option linter.unusedVariables false
theorem mayV_ok {v l : List Int} (h : mayV v l = true) : 1 ≤ v.length ∧ v.length ≤ 7 ∧ l.length ≤ 3 ∧ risesB v = true ∧ risesB l = true ∧ ∀ x ∈ l, hasI v x = false := by
  unfold mayV at h
  simp only [Bool.and_eq_true, decide_eq_true_eq, List.all_eq_true, Bool.not_eq_true'] at h
  obtain ⟨⟨⟨⟨⟨h1, h2⟩, h3⟩, h4⟩, h5⟩, h6⟩ := h
  exact ⟨h1, h2, h3, h4, h5, h6⟩
end Go.Proofs.Ytlmefnifhbcbcaa.PAll
end
section
/- Plain laws of groups: two majorities have a node in common. -/
namespace Go.Proofs.Ytlmefnifhbcbcaa.PAll
open Go.RowKit Go.Proofs.YtlmefnifhbcbcaaW.PrintWords Go.Proofs.YtlmefnifhbcbcaaW.PrintMore Go.Proofs.Ytlmefnifhbcbcaa
set_option linter.unusedVariables false
/-- How many of a list are in another. -/
def cntH (v a : List Int) : Nat := (v.filter (hasI a)).length
theorem mostGo_cnt : ∀ (v : List Int) (S : Int → Bool), v.Pairwise (· < ·) → mostGo S v = ((v.filter S).length : Nat)
  | [], S, _ => rfl
  | x :: r, S, h => by
    rw [List.pairwise_cons] at h
    unfold mostGo
    by_cases c : S x = true
    · rw [if_pos c, List.filter_cons_of_pos c, mostGo_cnt r _ h.2, List.length_cons]
      have : r.filter (fun y => if y = x then false else S y) = r.filter S := by
        apply List.filter_congr
        intro y hy
        have := h.1 y hy
        rw [if_neg (by omega)]
      rw [this]
      omega
    · rw [if_neg c, List.filter_cons_of_neg c, mostGo_cnt r _ h.2]
theorem most_cnt {v a : List Int} (h : risesB v = true) : mostV v a = decide (cntH v a ≥ v.length / 2 + 1) := by
  unfold mostV
  rw [mostGo_cnt v _ (rises_pw h)]
  exact decide_eq_decide.2 (by unfold cntH; omega)
end Go.Proofs.Ytlmefnifhbcbcaa.PAll
end
