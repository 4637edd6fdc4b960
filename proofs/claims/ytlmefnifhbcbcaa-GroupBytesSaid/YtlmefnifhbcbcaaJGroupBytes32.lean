/- Joined texts of the claim GroupBytes (part 32): contracts of functions and plain laws. -/
import Derived.Test.YtlmefnifhbcbcaaJGroupBytes17
import Derived.Test.YtlmefnifhbcbcaaJGroupBytes30
import Derived.Test.YtlmefnifhbcbcaaJGroupBytes31
import Derived.Test.YtlmefnifhbcbcaaJGroupBytes23
import Derived.Test.YtlmefnifhbcbcaaJGroupBytes18
import Derived.Test.YtlmefnifhbcbcaaJGroupBytes25
import Derived.Test.YtlmefnifhbcbcaaJGroupBytes26
import Derived.Test.YtlmefnifhbcbcaaJGroupBytes27
import Derived.Test.YtlmefnifhbcbcaaJGroupBytes16
import Derived.Test.YtlmefnifhbcbcaaJGroupBytes28
section
/- Plain laws of groups: a configuration is the same as itself. -/
namespace Go.Proofs.Ytlmefnifhbcbcaa.PAll
open Go.RowKit Go.Proofs.YtlmefnifhbcbcaaW.PrintWords Go.Proofs.YtlmefnifhbcbcaaW.PrintMore Go.Proofs.Ytlmefnifhbcbcaa
set_option linter.unusedVariables false
theorem rSame1_l0 (l : List Int) (hl : l.length ≤ 9223372036854775806) : ∀ (d j : Nat), d = l.length - j → j ≤ l.length → Ev (fun q => ferruleref01_Same.l0 q l l (j : Int)) true := by
  intro d
  induction d with
  | zero =>
    intro j hd hj
    exact Ev.step (f := fun _ => some true) (fun q => by simp only [ferruleref01_Same.l0]; rw [if_neg (show ¬ (j : Int) < l.length by omega)]) (Ev.now true)
  | succ d ih =>
    intro j hd hj
    exact Ev.step (f := fun q => ferruleref01_Same.l0 q l l ((j + 1 : Nat) : Int)) (fun q => by simp only [ferruleref01_Same.l0]; rw [if_pos (show (j : Int) < l.length by omega), if_pos (show (0 : Int) ≤ j by omega), if_pos (show (j : Int) < l.length by omega), if_pos trivial, wrapUp j (by omega)]) (ih (j + 1) (by omega) (by omega))
theorem rSame1_ev (l : List Int) (hl : l.length ≤ 9223372036854775806) : Ev (fun q => ferruleref01_Same.f q l l) true := by
  unfold ferruleref01_Same.f
  exact Ev.congr (fun _ => if_pos rfl) (rSame1_l0 l hl l.length 0 (by omega) (by omega))
theorem rSame_ev (v l : List Int) (hv : v.length ≤ 9223372036854775806) (hl : l.length ≤ 9223372036854775806) : Ev (fun q => ferruleref06_Same.f q v l v l) true := by
  unfold ferruleref06_Same.f
  refine Ev.bind (rSame1_ev v hv) ?_
  refine Ev.congr (fun _ => if_pos rfl) ?_
  exact Ev.bind (rSame1_ev l hl) (Ev.now true)
end Go.Proofs.Ytlmefnifhbcbcaa.PAll
end
section
/- Plain laws of groups: May, as the code tells it. -/
namespace Go.Proofs.Ytlmefnifhbcbcaa.PAll
open Go.RowKit Go.Proofs.YtlmefnifhbcbcaaW.PrintWords Go.Proofs.YtlmefnifhbcbcaaW.PrintMore Go.Proofs.Ytlmefnifhbcbcaa
set_option linter.unusedVariables false
theorem ev_to {α : Type} {f : Nat → Option α} {a b : α} (h : Ev f a) (e : a = b) : Ev f b := e ▸ h
theorem gMay_eq (v l : List Int) (hv : v.length ≤ 9223372036854775806) (hl : l.length ≤ 9223372036854775806) : group_May.f v l = some (mayV v l) := by unfold group_May.f; rw [if_pos ⟨hv, hl⟩]
end Go.Proofs.Ytlmefnifhbcbcaa.PAll
end
section
/- Plain laws of groups: lists that rise; a node put into one, or taken out of it. -/
namespace Go.Proofs.Ytlmefnifhbcbcaa.PAll
open Go.RowKit Go.Proofs.YtlmefnifhbcbcaaW.PrintWords Go.Proofs.YtlmefnifhbcbcaaW.PrintMore Go.Proofs.Ytlmefnifhbcbcaa
set_option linter.unusedVariables false
/-! lists that rise -/
theorem rises_val {l : List Int} (h : risesB l = true) : ∀ x ∈ l, 1 ≤ x ∧ x ≤ 63 := by
  intro x hx
  obtain ⟨j, hj, rfl⟩ := List.getElem_of_mem hx
  have := (allN_iff l l.length 0).1 h j (Nat.zero_le _) (by omega)
  unfold okN at this
  simp only [Bool.and_eq_true, Bool.or_eq_true, decide_eq_true_eq] at this
  rw [getElem!_pos l j hj] at this
  omega
/-! the code's put: sorted -/
end Go.Proofs.Ytlmefnifhbcbcaa.PAll
end
section
/- Plain laws of groups: a configuration behind a change, as the code tells it. -/
namespace Go.Proofs.Ytlmefnifhbcbcaa.PAll
open Go.RowKit Go.Proofs.YtlmefnifhbcbcaaW.PrintWords Go.Proofs.YtlmefnifhbcbcaaW.PrintMore Go.Proofs.Ytlmefnifhbcbcaa
set_option linter.unusedVariables false
theorem mayV_ok {v l : List Int} (h : mayV v l = true) : 1 ≤ v.length ∧ v.length ≤ 7 ∧ l.length ≤ 3 ∧ risesB v = true ∧ risesB l = true ∧ ∀ x ∈ l, hasI v x = false := by
  unfold mayV at h
  simp only [Bool.and_eq_true, decide_eq_true_eq, List.all_eq_true, Bool.not_eq_true'] at h
  obtain ⟨⟨⟨⟨⟨h1, h2⟩, h3⟩, h4⟩, h5⟩, h6⟩ := h
  exact ⟨h1, h2, h3, h4, h5, h6⟩
end Go.Proofs.Ytlmefnifhbcbcaa.PAll
end
