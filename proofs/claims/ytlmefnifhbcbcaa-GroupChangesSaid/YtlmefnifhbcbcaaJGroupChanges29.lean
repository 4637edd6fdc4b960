/- Joined texts of the claim GroupChanges (part 29): contracts of functions and plain laws. -/
import Derived.Test.YtlmefnifhbcbcaaJGroupChanges22
import Derived.Test.YtlmefnifhbcbcaaJGroupChanges23
import Derived.Test.YtlmefnifhbcbcaaJGroupChanges25
import Derived.Test.YtlmefnifhbcbcaaJGroupChanges27
import Derived.Test.YtlmefnifhbcbcaaJGroupChanges28
section
/- Plain laws of groups: a configuration behind a change, as the document tells it. -/
namespace Go.Proofs.Ytlmefnifhbcbcaa.PAll
open Go.RowKit Go.Proofs.YtlmefnifhbcbcaaW.PrintWords Go.Proofs.YtlmefnifhbcbcaaW.PrintMore Go.Proofs.Ytlmefnifhbcbcaa
set_option linter.unusedVariables false
theorem rNext_bad (v l : List Int) (kd id : Int) (a b : Bool) : Ev (fun q => ferruleref06_Next.j0 q a b true v l kd id) ([], [], 1) :=
  Ev.step (f := fun _ => some ([], [], 1)) (fun q => by simp only [ferruleref06_Next.j0]; exact if_pos trivial) (Ev.now _)
theorem rNext_ev (v l : List Int) (kd id : Int) (hv : v.length ≤ 9223372036854775806) (hl : l.length ≤ 9223372036854775806) : Ev (fun q => ferruleref06_Next.f q v l kd id) (nextV v l kd id) := by
  unfold ferruleref06_Next.f
  refine Ev.bind (rMay_ev v l hv hl) ?_
  refine Ev.bind (Has_ev v id hv) ?_
  refine Ev.bind (Has_ev l id hl) ?_
  have hbad := rNext_bad v l kd id (hasI v id) (hasI l id)
  unfold nextV
  by_cases hm : mayV v l = true
  case neg => rw [if_neg (fun h => hm h.1)]; exact Ev.congr (fun _ => if_neg hm) hbad
  by_cases h1 : id < 1
  · rw [if_neg (fun h => by have := h.2.1; omega)]; exact Ev.congr (fun _ => (if_pos hm).trans (if_pos h1)) hbad
  by_cases h2 : id > 63
  · rw [if_neg (fun h => by have := h.2.2.1; omega)]; exact Ev.congr (fun _ => (if_pos hm).trans ((if_neg h1).trans (if_pos h2))) hbad
  by_cases h3 : kd < 1
  · rw [if_neg (fun h => by have := h.2.2.2.1; omega)]; exact Ev.congr (fun _ => (if_pos hm).trans ((if_neg h1).trans ((if_neg h2).trans (if_pos h3)))) hbad
  by_cases h4 : kd > 3
  · rw [if_neg (fun h => by have := h.2.2.2.2; omega)]; exact Ev.congr (fun _ => (if_pos hm).trans ((if_neg h1).trans ((if_neg h2).trans ((if_neg h3).trans (by rw [decide_eq_true h4]))))) hbad
  refine Ev.congr (fun _ => (if_pos hm).trans ((if_neg h1).trans ((if_neg h2).trans ((if_neg h3).trans (by rw [decide_eq_false h4]))))) ?_
  obtain ⟨m1, m2, m3, m4, m5, m6⟩ := mayV_ok hm
  rw [if_pos ⟨hm, by omega, by omega, by omega, by omega⟩]
  refine Ev.step (fun q => by simp only [ferruleref06_Next.j0]; exact if_neg (by decide)) ?_
  by_cases k1 : kd = 1
  · rw [if_pos k1]
    refine Ev.congr (fun _ => if_pos k1) ?_
    have hbad : Ev (fun q => ferruleref06_Next.j1 q true v l kd id) ([], [], 8) := Ev.step (f := fun _ => some ([], [], 8)) (fun q => by simp only [ferruleref06_Next.j1]; exact if_pos trivial) (Ev.now _)
    by_cases c1 : hasI v id = true
    · rw [if_pos (by rw [c1]; rfl)]
      exact Ev.congr (fun _ => if_pos c1) hbad
    · refine Ev.congr (fun _ => if_neg c1) ?_
      by_cases c2 : hasI l id = true
      · rw [if_pos (by rw [c2, Bool.or_true]), c2]
        exact hbad
      · rw [Bool.not_eq_true] at c1 c2
        rw [if_neg (by rw [c1, c2]; decide), c2]
        refine Ev.step (fun q => by simp only [ferruleref06_Next.j1]; exact if_neg (by decide)) ?_
        by_cases c3 : 3 ≤ l.length
        · rw [if_pos c3]; exact Ev.congr (fun _ => if_pos (by omega)) (Ev.now _)
        · rw [if_neg c3]
          refine Ev.congr (fun _ => if_neg (by omega)) ?_
          refine Ev.congr (fun _ => if_pos (show 0 + v.length < 17592186044416 by omega)) ?_
          exact Ev.bind (rput_ev l id (by omega)) (Ev.now _)
  · rw [if_neg k1]
    refine Ev.congr (fun _ => if_neg k1) ?_
    by_cases k2 : kd = 2
    · rw [if_pos k2]
      refine Ev.congr (fun _ => if_pos k2) ?_
      by_cases c2 : hasI l id = true
      · rw [if_pos c2]
        refine Ev.congr (fun _ => if_pos c2) ?_
        by_cases c3 : 7 ≤ v.length
        · rw [if_pos c3]; exact Ev.congr (fun _ => if_pos (by omega)) (Ev.now _)
        · rw [if_neg c3]
          refine Ev.congr (fun _ => if_neg (by omega)) ?_
          refine Ev.bind (rput_ev v id (by omega)) ?_
          exact Ev.bind (rless_ev l id (by omega)) (Ev.now _)
      · rw [if_neg c2]
        exact Ev.congr (fun _ => if_neg c2) (Ev.now _)
    · rw [if_neg k2]
      refine Ev.congr (fun _ => if_neg k2) ?_
      have hgo : ∀ b, b = (hasI v id && decide (v.length = 1)) → Ev (fun q => ferruleref06_Next.j3 q b v l kd id) (if (hasI v id && decide (v.length = 1)) = true then ([], [], 5) else (delV v id, delV l id, 0)) := by
        intro b hb
        rw [← hb]
        cases b with
        | true => exact Ev.step (f := fun _ => some ([], [], 5)) (fun q => by simp only [ferruleref06_Next.j3]; exact if_pos trivial) (Ev.now _)
        | false =>
          refine Ev.step (fun q => by simp only [ferruleref06_Next.j3]; exact if_neg (by decide)) ?_
          refine Ev.bind (rless_ev v id (by omega)) ?_
          exact Ev.bind (rless_ev l id (by omega)) (Ev.now _)
      by_cases c1 : hasI v id = true
      · rw [if_pos (by rw [c1]; rfl)]
        refine Ev.congr (fun _ => if_pos c1) ?_
        refine Ev.step (fun q => by simp only [ferruleref06_Next.j2]; exact (if_neg (by decide)).trans (if_pos c1)) (hgo _ ?_)
        rw [c1, Bool.true_and]
        by_cases c3 : v.length = 1
        · rw [decide_eq_true c3, c3]; rfl
        · rw [decide_eq_false c3]; exact beq_eq_false_iff_ne.2 (by omega)
      · refine Ev.congr (fun _ => if_neg c1) ?_
        by_cases c2 : hasI l id = true
        · rw [if_pos (by rw [c2, Bool.or_true]), c2]
          refine Ev.step (fun q => by simp only [ferruleref06_Next.j2]; exact (if_neg (by decide)).trans (if_neg c1)) (hgo _ ?_)
          rw [Bool.not_eq_true] at c1
          rw [c1]; rfl
        · rw [Bool.not_eq_true] at c1 c2
          rw [if_neg (by rw [c1, c2]; decide), c2]
          exact Ev.step (f := fun _ => some ([], [], 7)) (fun q => by simp only [ferruleref06_Next.j2]; exact if_pos (by decide)) (Ev.now _)
end Go.Proofs.Ytlmefnifhbcbcaa.PAll
end
