/- Joined texts of the claim GroupRises (part 24): contracts of functions and plain laws. -/
import Derived.Test.YtlmefnifhbcbcaaJGroupRises23
import Derived.Test.YtlmefnifhbcbcaaJGroupRises16
import Derived.Test.YtlmefnifhbcbcaaJGroupRises7
import Derived.Test.YtlmefnifhbcbcaaJGroupRises21
section
/- Plain laws of groups: a configuration behind a change, as the code tells it. -/
namespace Go.Proofs.Ytlmefnifhbcbcaa.PAll
open Go.RowKit Go.Proofs.YtlmefnifhbcbcaaW.PrintWords Go.Proofs.YtlmefnifhbcbcaaW.PrintMore Go.Proofs.Ytlmefnifhbcbcaa
set_option linter.unusedVariables false
theorem mayV_ok {v l : List Int} (h : mayV v l = true) : 1 ≤ v.length ∧ v.length ≤ 7 ∧ l.length ≤ 3 ∧ risesB v = true ∧ risesB l = true ∧ ∀ x ∈ l, hasI v x = false := by
  unfold mayV at h
  simp only [Bool.and_eq_true, decide_eq_true_eq, List.all_eq_true, Bool.not_eq_true'] at h
  obtain ⟨⟨⟨⟨⟨h1, h2⟩, h3⟩, h4⟩, h5⟩, h6⟩ := h
  exact ⟨h1, h2, h3, h4, h5, h6⟩
theorem mayV_of {v l : List Int} (h1 : 1 ≤ v.length) (h2 : v.length ≤ 7) (h3 : l.length ≤ 3) (h4 : risesB v = true) (h5 : risesB l = true) (h6 : ∀ x ∈ l, hasI v x = false) : mayV v l = true := by
  unfold mayV
  simp only [Bool.and_eq_true, decide_eq_true_eq, List.all_eq_true, Bool.not_eq_true']
  exact ⟨⟨⟨⟨⟨h1, h2⟩, h3⟩, h4⟩, h5⟩, h6⟩
/-- Behind a change. -/
def nextV (v l : List Int) (kd id : Int) : List Int × List Int × Int :=
  if mayV v l = true ∧ 1 ≤ id ∧ id ≤ 63 ∧ 1 ≤ kd ∧ kd ≤ 3 then
    if kd = 1 then (if (hasI v id || hasI l id) = true then ([], [], 8) else if 3 ≤ l.length then ([], [], 5) else (v, insV l id, 0))
    else if kd = 2 then (if hasI l id = true then (if 7 ≤ v.length then ([], [], 5) else (insV v id, delV l id, 0)) else ([], [], 7))
    else (if (hasI v id || hasI l id) = true then (if (hasI v id && decide (v.length = 1)) = true then ([], [], 5) else (delV v id, delV l id, 0)) else ([], [], 7))
  else ([], [], 1)
theorem gNext_bad (v l : List Int) (kd id : Int) : Ev (fun q => group_Next.j0 q true v l kd id) ([], [], 1) :=
  Ev.step (f := fun _ => some ([], [], 1)) (fun q => by simp only [group_Next.j0]; exact if_pos trivial) (Ev.now _)
theorem gNext_ev (v l : List Int) (kd id : Int) (hv : v.length ≤ 9223372036854775806) (hl : l.length ≤ 9223372036854775806) : Ev (fun q => group_Next.f q v l kd id) (nextV v l kd id) := by
  unfold group_Next.f
  refine Ev.bind (show Ev (fun _ => group_May.f v l) _ from ⟨0, fun _ _ => gMay_eq v l hv hl⟩) ?_
  unfold nextV
  by_cases hm : mayV v l = true
  case neg => rw [if_neg (fun h => hm h.1)]; exact Ev.congr (fun _ => if_neg hm) (gNext_bad v l kd id)
  by_cases h1 : id < 1
  · rw [if_neg (fun h => by have := h.2.1; omega)]; exact Ev.congr (fun _ => (if_pos hm).trans (if_pos h1)) (gNext_bad v l kd id)
  by_cases h2 : id > 63
  · rw [if_neg (fun h => by have := h.2.2.1; omega)]; exact Ev.congr (fun _ => (if_pos hm).trans ((if_neg h1).trans (by rw [decide_eq_true h2]))) (gNext_bad v l kd id)
  refine Ev.congr (fun _ => (if_pos hm).trans ((if_neg h1).trans (by rw [decide_eq_false h2]))) ?_
  obtain ⟨m1, m2, m3, m4, m5, m6⟩ := mayV_ok hm
  refine Ev.step (fun q => by simp only [group_Next.j0]; exact if_neg (by decide)) ?_
  refine Ev.bind (Contains_ev v id hv) ?_
  refine Ev.bind (Contains_ev l id hl) ?_
  by_cases k1 : kd = 1
  · rw [if_pos ⟨hm, by omega, by omega, by omega, by omega⟩, if_pos k1]
    refine Ev.congr (fun _ => if_pos k1) ?_
    have hbad : Ev (fun q => group_Next.j1 q true v l kd id) ([], [], 8) := Ev.step (f := fun _ => some ([], [], 8)) (fun q => by simp only [group_Next.j1]; exact if_pos trivial) (Ev.now _)
    by_cases c1 : hasI v id = true
    · rw [if_pos (by rw [c1]; rfl)]
      exact Ev.congr (fun _ => if_pos c1) hbad
    · refine Ev.congr (fun _ => if_neg c1) ?_
      by_cases c2 : hasI l id = true
      · rw [if_pos (by rw [c2, Bool.or_true]), c2]
        exact hbad
      · rw [Bool.not_eq_true] at c1 c2
        rw [if_neg (by rw [c1, c2]; decide), c2]
        refine Ev.step (fun q => by simp only [group_Next.j1]; exact if_neg (by decide)) ?_
        by_cases c3 : 3 ≤ l.length
        · rw [if_pos c3]; exact Ev.congr (fun _ => if_pos (by omega)) (Ev.now _)
        · rw [if_neg c3]
          refine Ev.congr (fun _ => if_neg (by omega)) ?_
          refine Ev.bind (show Ev (fun _ => slices_Clone_uint64_uint64.f v) v from ⟨0, fun _ _ => by unfold slices_Clone_uint64_uint64.f; rw [if_pos (by omega)]⟩) ?_
          exact Ev.bind (gput_ev l id m5 (by omega)) (Ev.now _)
  · refine Ev.congr (fun _ => if_neg k1) ?_
    by_cases k2 : kd = 2
    · rw [if_pos ⟨hm, by omega, by omega, by omega, by omega⟩, if_neg k1, if_pos k2]
      refine Ev.congr (fun _ => if_pos k2) ?_
      by_cases c2 : hasI l id = true
      · rw [if_pos c2]
        refine Ev.congr (fun _ => if_pos c2) ?_
        by_cases c3 : 7 ≤ v.length
        · rw [if_pos c3]; exact Ev.congr (fun _ => if_pos (by omega)) (Ev.now _)
        · rw [if_neg c3]
          refine Ev.congr (fun _ => if_neg (by omega)) ?_
          refine Ev.bind (gput_ev v id m4 (by omega)) ?_
          exact Ev.bind (show Ev (fun _ => group_less.f l id) _ from ⟨0, fun _ _ => gless_eq l id (by omega)⟩) (Ev.now _)
      · rw [if_neg c2]
        exact Ev.congr (fun _ => if_neg c2) (Ev.now _)
    · refine Ev.congr (fun _ => if_neg k2) ?_
      by_cases k3 : kd = 3
      · rw [if_pos ⟨hm, by omega, by omega, by omega, by omega⟩, if_neg k1, if_neg k2]
        refine Ev.congr (fun _ => if_pos k3) ?_
        have hgo : ∀ b, b = (hasI v id && decide (v.length = 1)) → Ev (fun q => group_Next.j3 q b v l kd id) (if (hasI v id && decide (v.length = 1)) = true then ([], [], 5) else (delV v id, delV l id, 0)) := by
          intro b hb
          rw [← hb]
          cases b with
          | true => exact Ev.step (f := fun _ => some ([], [], 5)) (fun q => by simp only [group_Next.j3]; exact if_pos trivial) (Ev.now _)
          | false =>
            refine Ev.step (fun q => by simp only [group_Next.j3]; exact if_neg (by decide)) ?_
            refine Ev.bind (show Ev (fun _ => group_less.f v id) _ from ⟨0, fun _ _ => gless_eq v id (by omega)⟩) ?_
            exact Ev.bind (show Ev (fun _ => group_less.f l id) _ from ⟨0, fun _ _ => gless_eq l id (by omega)⟩) (Ev.now _)
        by_cases c1 : hasI v id = true
        · rw [if_pos (by rw [c1]; rfl)]
          refine Ev.congr (fun _ => if_pos c1) ?_
          refine Ev.step (fun q => by simp only [group_Next.j2]; exact (if_neg (by decide)).trans (if_pos c1)) (hgo _ ?_)
          rw [c1, Bool.true_and]
          by_cases c3 : v.length = 1
          · rw [decide_eq_true c3, c3]; rfl
          · rw [decide_eq_false c3]; exact beq_eq_false_iff_ne.2 (by omega)
        · refine Ev.congr (fun _ => if_neg c1) ?_
          by_cases c2 : hasI l id = true
          · rw [if_pos (by rw [c2, Bool.or_true]), c2]
            refine Ev.step (fun q => by simp only [group_Next.j2]; exact (if_neg (by decide)).trans (if_neg c1)) (hgo _ ?_)
            rw [Bool.not_eq_true] at c1
            rw [c1]; rfl
          · rw [Bool.not_eq_true] at c1 c2
            rw [if_neg (by rw [c1, c2]; decide), c2]
            exact Ev.step (f := fun _ => some ([], [], 7)) (fun q => by simp only [group_Next.j2]; exact if_pos (by decide)) (Ev.now _)
      · rw [if_neg (fun h => by have h4 := h.2.2.2.1; have h5 := h.2.2.2.2; omega)]
        exact Ev.congr (fun _ => if_neg k3) (Ev.now _)
theorem insV_len (id : Int) : ∀ l : List Int, (insV l id).length = l.length + 1
  | [] => rfl
  | x :: r => by
    unfold insV
    split
    · simp
    · simp [insV_len id r]
theorem delV_len (l : List Int) (id : Int) : (delV l id).length ≤ l.length := List.length_filter_le _ _
theorem nextV_len (v l : List Int) (kd id : Int) : (nextV v l kd id).1.length ≤ v.length + 1 ∧ (nextV v l kd id).2.1.length ≤ l.length + 1 := by
  have h1 := insV_len id v
  have h2 := insV_len id l
  have h3 := delV_len v id
  have h4 := delV_len l id
  unfold nextV
  repeat' split
  all_goals simp
  all_goals omega
end Go.Proofs.Ytlmefnifhbcbcaa.PAll
end
