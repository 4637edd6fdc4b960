/- Joined texts of the claim GroupChanges (part 22): contracts of functions and plain laws. -/
import Derived.Test.YtlmefnifhbcbcaaJGroupChanges21
import Derived.Test.YtlmefnifhbcbcaaJGroupChanges14
import Derived.Test.YtlmefnifhbcbcaaJGroupChanges6
import Derived.Test.YtlmefnifhbcbcaaJGroupChanges19
import Derived.Test.YtlmefnifhbcbcaaJGroupChanges2
section
/- Plain laws of groups: a configuration behind a change, as the code tells it. -/
namespace Go.Proofs.Ytlmefnifhbcbcaa.PAll
open Go.RowKit Go.Proofs.YtlmefnifhbcbcaaW.PrintWords Go.Proofs.YtlmefnifhbcbcaaW.PrintMore Go.Proofs.Ytlmefnifhbcbcaa
set_option linter.unusedVariables false
theorem mayV_ok {v l : List Int} (h : mayV v l = true) : 1 ≤ v.length ∧ v.length ≤ 7 ∧ l.length ≤ 3 ∧ risesB v = true ∧ risesB l = true ∧ ∀ x ∈ l, hasI v x = false := by
  unfold mayV at h
  simp only [Bool.and_eq_true, decide_eq_true_eq, List.all_eq_true, Bool.not_eq_true'] at h
  obtain ⟨⟨⟨⟨⟨h1, h2⟩, h3⟩, h4⟩, h5⟩, h6⟩ := h
  exact ⟨h1, h2, h3, h4, h5, h6⟩
theorem mayV_of {v l : List Int} (h1 : 1 ≤ v.length) (h2 : v.length ≤ 7) (h3 : l.length ≤ 3) (h4 : risesB v = true) (h5 : risesB l = true) (h6 : ∀ x ∈ l, hasI v x = false) : mayV v l = true := by
  unfold mayV
  simp only [Bool.and_eq_true, decide_eq_true_eq, List.all_eq_true, Bool.not_eq_true']
  exact ⟨⟨⟨⟨⟨h1, h2⟩, h3⟩, h4⟩, h5⟩, h6⟩
/-- Behind a change. -/
def nextV (v l : List Int) (kd id : Int) : List Int × List Int × Int :=
  if mayV v l = true ∧ 1 ≤ id ∧ id ≤ 63 ∧ 1 ≤ kd ∧ kd ≤ 3 then
    if kd = 1 then (if (hasI v id || hasI l id) = true then ([], [], 8) else if 3 ≤ l.length then ([], [], 5) else (v, insV l id, 0))
    else if kd = 2 then (if hasI l id = true then (if 7 ≤ v.length then ([], [], 5) else (insV v id, delV l id, 0)) else ([], [], 7))
    else (if (hasI v id || hasI l id) = true then (if (hasI v id && decide (v.length = 1)) = true then ([], [], 5) else (delV v id, delV l id, 0)) else ([], [], 7))
  else ([], [], 1)
theorem gNext_bad (v l : List Int) (kd id : Int) : Ev (fun q => group_Next.j0 q true v l kd id) ([], [], 1) :=
  Ev.step (f := fun _ => some ([], [], 1)) (fun q => by simp only [group_Next.j0]; exact if_pos trivial) (Ev.now _)
theorem gNext_ev (v l : List Int) (kd id : Int) (hv : v.length ≤ 9223372036854775806) (hl : l.length ≤ 9223372036854775806) : Ev (fun q => group_Next.f q v l kd id) (nextV v l kd id) := by
  unfold group_Next.f
  refine Ev.bind (show Ev (fun _ => group_May.f v l) _ from ⟨0, fun _ _ => gMay_eq v l hv hl⟩) ?_
  unfold nextV
  by_cases hm : mayV v l = true
  case neg => rw [if_neg (fun h => hm h.1)]; exact Ev.congr (fun _ => if_neg hm) (gNext_bad v l kd id)
  by_cases h1 : id < 1
  · rw [if_neg (fun h => by have := h.2.1; omega)]; exact Ev.congr (fun _ => (if_pos hm).trans (if_pos h1)) (gNext_bad v l kd id)
  by_cases h2 : id > 63
  · rw [if_neg (fun h => by have := h.2.2.1; omega)]; exact Ev.congr (fun _ => (if_pos hm).trans ((if_neg h1).trans (by rw [decide_eq_true h2]))) (gNext_bad v l kd id)
  refine Ev.congr (fun _ => (if_pos hm).trans ((if_neg h1).trans (by rw [decide_eq_false h2]))) ?_
  obtain ⟨m1, m2, m3, m4, m5, m6⟩ := mayV_ok hm
  refine Ev.step (fun q => by simp only [group_Next.j0]; exact if_neg (by decide)) ?_
  refine Ev.bind (Contains_ev v id hv) ?_
  refine Ev.bind (Contains_ev l id hl) ?_
  by_cases k1 : kd = 1
  · rw [if_pos ⟨hm, by omega, by omega, by omega, by omega⟩, if_pos k1]
    refine Ev.congr (fun _ => if_pos k1) ?_
    have hbad : Ev (fun q => group_Next.j1 q true v l kd id) ([], [], 8) := Ev.step (f := fun _ => some ([], [], 8)) (fun q => by simp only [group_Next.j1]; exact if_pos trivial) (Ev.now _)
    by_cases c1 : hasI v id = true
    · rw [if_pos (by rw [c1]; rfl)]
      exact Ev.congr (fun _ => if_pos c1) hbad
    · refine Ev.congr (fun _ => if_neg c1) ?_
      by_cases c2 : hasI l id = true
      · rw [if_pos (by rw [c2, Bool.or_true]), c2]
        exact hbad
      · rw [Bool.not_eq_true] at c1 c2
        rw [if_neg (by rw [c1, c2]; decide), c2]
        refine Ev.step (fun q => by simp only [group_Next.j1]; exact if_neg (by decide)) ?_
        by_cases c3 : 3 ≤ l.length
        · rw [if_pos c3]; exact Ev.congr (fun _ => if_pos (by omega)) (Ev.now _)
        · rw [if_neg c3]
          refine Ev.congr (fun _ => if_neg (by omega)) ?_
          refine Ev.bind (show Ev (fun _ => slices_Clone_uint64_uint64.f v) v from ⟨0, fun _ _ => by unfold slices_Clone_uint64_uint64.f; rw [if_pos (by omega)]⟩) ?_
          exact Ev.bind (gput_ev l id m5 (by omega)) (Ev.now _)
  · refine Ev.congr (fun _ => if_neg k1) ?_
    by_cases k2 : kd = 2
    · rw [if_pos ⟨hm, by omega, by omega, by omega, by omega⟩, if_neg k1, if_pos k2]
      refine Ev.congr (fun _ => if_pos k2) ?_
      by_cases c2 : hasI l id = true
      · rw [if_pos c2]
        refine Ev.congr (fun _ => if_pos c2) ?_
        by_cases c3 : 7 ≤ v.length
        · rw [if_pos c3]; exact Ev.congr (fun _ => if_pos (by omega)) (Ev.now _)
        · rw [if_neg c3]
          refine Ev.congr (fun _ => if_neg (by omega)) ?_
          refine Ev.bind (gput_ev v id m4 (by omega)) ?_
          exact Ev.bind (show Ev (fun _ => group_less.f l id) _ from ⟨0, fun _ _ => gless_eq l id (by omega)⟩) (Ev.now _)
      · rw [if_neg c2]
        exact Ev.congr (fun _ => if_neg c2) (Ev.now _)
    · refine Ev.congr (fun _ => if_neg k2) ?_
      by_cases k3 : kd = 3
      · rw [if_pos ⟨hm, by omega, by omega, by omega, by omega⟩, if_neg k1, if_neg k2]
        refine Ev.congr (fun _ => if_pos k3) ?_
        have hgo : ∀ b, b = (hasI v id && decide (v.length = 1)) → Ev (fun q => group_Next.j3 q b v l kd id) (if (hasI v id && decide (v.length = 1)) = true then ([], [], 5) else (delV v id, delV l id, 0)) := by
          intro b hb
          rw [← hb]
          cases b with
          | true => exact Ev.step (f := fun _ => some ([], [], 5)) (fun q => by simp only [group_Next.j3]; exact if_pos trivial) (Ev.now _)
          | false =>
            refine Ev.step (fun q => by simp only [group_Next.j3]; exact if_neg (by decide)) ?_
            refine Ev.bind (show Ev (fun _ => group_less.f v id) _ from ⟨0, fun _ _ => gless_eq v id (by omega)⟩) ?_
            exact Ev.bind (show Ev (fun _ => group_less.f l id) _ from ⟨0, fun _ _ => gless_eq l id (by omega)⟩) (Ev.now _)
        by_cases c1 : hasI v id = true
        · rw [if_pos (by rw [c1]; rfl)]
          refine Ev.congr (fun _ => if_pos c1) ?_
          refine Ev.step (fun q => by simp only [group_Next.j2]; exact (if_neg (by decide)).trans (if_pos c1)) (hgo _ ?_)
          rw [c1, Bool.true_and]
          by_cases c3 : v.length = 1
          · rw [decide_eq_true c3, c3]; rfl
          · rw [decide_eq_false c3]; exact beq_eq_false_iff_ne.2 (by omega)
        · refine Ev.congr (fun _ => if_neg c1) ?_
          by_cases c2 : hasI l id = true
          · rw [if_pos (by rw [c2, Bool.or_true]), c2]
            refine Ev.step (fun q => by simp only [group_Next.j2]; exact (if_neg (by decide)).trans (if_neg c1)) (hgo _ ?_)
            rw [Bool.not_eq_true] at c1
            rw [c1]; rfl
          · rw [Bool.not_eq_true] at c1 c2
            rw [if_neg (by rw [c1, c2]; decide), c2]
            exact Ev.step (f := fun _ => some ([], [], 7)) (fun q => by simp only [group_Next.j2]; exact if_pos (by decide)) (Ev.now _)
      · rw [if_neg (fun h => by have h4 := h.2.2.2.1; have h5 := h.2.2.2.2; omega)]
        exact Ev.congr (fun _ => if_neg k3) (Ev.now _)
theorem insV_len (id : Int) : ∀ l : List Int, (insV l id).length = l.length + 1
  | [] => rfl
  | x :: r => by
    unfold insV
    split
    · simp
    · simp [insV_len id r]
theorem delV_len (l : List Int) (id : Int) : (delV l id).length ≤ l.length := List.length_filter_le _ _
theorem nextV_len (v l : List Int) (kd id : Int) : (nextV v l kd id).1.length ≤ v.length + 1 ∧ (nextV v l kd id).2.1.length ≤ l.length + 1 := by
  have h1 := insV_len id v
  have h2 := insV_len id l
  have h3 := delV_len v id
  have h4 := delV_len l id
  unfold nextV
  repeat' split
  all_goals simp
  all_goals omega
end Go.Proofs.Ytlmefnifhbcbcaa.PAll
end
section
-- Printed by this session's pr.sh (the kit's print.py, several laws in one namespace). Not trusted: Lean checks it.
namespace Go.Proofs.Ytlmefnifhbcbcaa.PAll
open Go.RowKit Go.Proofs.YtlmefnifhbcbcaaW.PrintWords Go.Proofs.YtlmefnifhbcbcaaW.PrintLast Go.Proofs.YtlmefnifhbcbcaaW.PrintMore
attribute [local go_sem] max2_int min2_int max_two min_two max_three min_three max_four min_four   -- for this text's walks alone
set_option linter.unusedVariables false
set_option linter.unusedSimpArgs false

/-! ### ferruleref01_Same: function 66 -/
def ferruleref01_Same.l0 : Nat → List Int → List Int → Int → Option (Bool)
  | 0, _, _, _ => none
  | k + 1, x0, x1, x5 => if x5 < (x0.length : Int) then (if 0 ≤ x5 then (if x5 < (x1.length : Int) then (if (rd x0 x5) = (rd x1 x5) then (ferruleref01_Same.l0 k x0 x1 (wrap64 (x5 + 1))) else (some false)) else (none)) else (none)) else (some true)
def ferruleref01_Same.f (k : Nat) (l0 : List Int) (l1 : List Int) : Option (Bool) := if (l0.length : Int) = (l1.length : Int) then (ferruleref01_Same.l0 k l0 l1 0) else (some false)
theorem ferruleref01_Same.mono_l : ∀ k, (∀ y0 y1 y2, LeO (ferruleref01_Same.l0 k y0 y1 y2) (ferruleref01_Same.l0 (k + 1) y0 y1 y2))
  | 0 => fun _ _ _ r h => by simp [ferruleref01_Same.l0] at h
  | k + 1 => by
    have ih0 := ferruleref01_Same.mono_l k
    · intro y0 y1 y2
      unfold ferruleref01_Same.l0
      repeat' first
      | (with_reducible exact ih0 _ _ _)
      | (with_reducible exact LeO.refl _)
      | (with_reducible exact LeO.none _)
      | (with_reducible refine LeO.ite ?_ ?_)
      | (with_reducible refine LeO.bind ?_ (fun _ => ?_))
      | exact ih0 _ _ _
      | exact LeO.none _
      | refine LeO.ite ?_ ?_
      | refine LeO.bind ?_ (fun _ => ?_)
theorem ferruleref01_Same.mono : ∀ a0 a1 k, LeO (ferruleref01_Same.f k a0 a1) (ferruleref01_Same.f (k + 1) a0 a1) := by
  intro a0 a1 k
  have ih0 := ferruleref01_Same.mono_l k
  unfold ferruleref01_Same.f
  repeat' first
      | (with_reducible exact ih0 _ _ _)
      | (with_reducible exact LeO.refl _)
      | (with_reducible exact LeO.none _)
      | (with_reducible refine LeO.ite ?_ ?_)
      | (with_reducible refine LeO.bind ?_ (fun _ => ?_))
      | exact ih0 _ _ _
      | exact LeO.none _
      | refine LeO.ite ?_ ?_
      | refine LeO.bind ?_ (fun _ => ?_)
set_option maxHeartbeats 8000000 in
set_option maxRecDepth 100000 in
theorem ferruleref01_Same.calls (k : Nat) (A0 : Option Addr) (c0 : Nat) (l0 : List Int) (A1 : Option Addr) (c1 : Nat) (l1 : List Int) (r : Bool) (w : World) (hr0 : Kd.C (Kd.int .u64) w A0 l0.length l0) (hc0 : l0.length ≤ c0) (hr1 : Kd.C (Kd.int .u64) w A1 l1.length l1) (hc1 : l1.length ≤ c1) (h : ferruleref01_Same.f k l0 l1 = some r) :
    Calls Try.prog 66 #[.slice A0 l0.length c0, .slice A1 l1.length c1] w fun e w' => e = .returned (.bool r) ∧ Drawn0 w w' := by
  have HR0 := Aside0.mk hr0
  have HC0 := Aside0.mk hc0
  clear hr0 hc0
  have HR1 := Aside0.mk hr1
  have HC1 := Aside0.mk hc1
  clear hr1 hc1
  have H : (if (l0.length : Int) = (l1.length : Int) then (ferruleref01_Same.l0 k l0 l1 0) else (some false)) = some r := h
  clear h
  by_cases c3 : (l0.length : Int) = (l1.length : Int)
  · rw [if_pos c3] at H
    have c3b0 : ((l0.length : Int) == (l1.length : Int)) = true := beq_iff_eq.mpr c3
    have c3b1 : ((l0.length : Int) != (l1.length : Int)) = false := bne_eq_false_iff_eq.mpr c3
    have c3b2 : (l0.length == l1.length) = true := by first | simpa using c3 | (simp at c3 ⊢; omega)
    clear c3
    have H' := Aside0.mk H
    clear H
    go_enter Try.func66, Try.ntmps66
    go_wp2
    repeat (go_quiet (fail); try go_wp2)
    go_loopg [5] k (fun kq v5 w' => ∃ (x5_1 : Int), v5 = .int .i64 x5_1 ∧ Aside0 (ferruleref01_Same.l0 kq l0 l1 x5_1 = some r) ∧ Aside0 (kq ≤ k) ∧ Drawn0 w w')
    case atStart => exact ⟨(0), (by first | rfl | (simp; done) | (simp [*]; done)), H', ⟨Nat.le_refl _⟩, by repeat (first | exact Drawn0.refl _ | apply Drawn0.step)⟩
    case round =>
      clear H'
      try clear c1
      try clear p2
      try clear c3
      try clear c3b0
      try clear c3b1
      try clear c3b2
      obtain ⟨x5_1, rfl, HA, HK1, ⟨m1, rfl⟩⟩ := hrel
      cases gk with
      | zero => exact absurd HA.out (by simp [ferruleref01_Same.l0])
      | succ k1 =>
        have H := HA.out
        clear HA
        simp only [ferruleref01_Same.l0] at H
        by_cases c4 : x5_1 < (l0.length : Int)
        · rw [if_pos c4] at H
          have c4b0 : decide (x5_1 < (l0.length : Int)) = true := decide_eq_true c4
          clear c4
          by_cases c5 : 0 ≤ x5_1
          · rw [if_pos c5] at H
            have c5b0 : decide (0 ≤ x5_1) = true := decide_eq_true c5
            clear c5
            by_cases c6 : x5_1 < (l1.length : Int)
            · rw [if_pos c6] at H
              have c6b0 : decide (x5_1 < (l1.length : Int)) = true := decide_eq_true c6
              clear c6
              by_cases c7 : (rd l0 x5_1) = (rd l1 x5_1)
              · rw [if_pos c7] at H
                have c7b0 : ((rd l0 x5_1) == (rd l1 x5_1)) = true := beq_iff_eq.mpr c7
                have c7b1 : ((rd l0 x5_1) != (rd l1 x5_1)) = false := bne_eq_false_iff_eq.mpr c7
                clear c7
                have H' := Aside0.mk H
                clear H
                have p410 : 0 ≤ (x5_1 : Int) := of_decide_eq_true (by first | (with_reducible assumption) | assumption)
                have q410 : x5_1 < (l0.length : Int) := of_decide_eq_true (by first | (with_reducible assumption) | assumption)
                obtain ⟨ad410, e410, hx410_0⟩ := Kd.at_int HR0.out x5_1 p410 q410
                cases e410
                replace p410 := eq_true p410
                replace q410 := eq_true q410
                have p411 : 0 ≤ (x5_1 : Int) := of_decide_eq_true (by first | (with_reducible assumption) | assumption)
                have q411 : x5_1 < (l1.length : Int) := of_decide_eq_true (by first | (with_reducible assumption) | assumption)
                obtain ⟨ad411, e411, hx411_0⟩ := Kd.at_int HR1.out x5_1 p411 q411
                cases e411
                replace p411 := eq_true p411
                replace q411 := eq_true q411
                go_wp2
                repeat (go_quiet (fail); try go_wp2)
                go_roundg k1
                case measure => have := HK1.out; omega
                case rel => exact ⟨(wrap64 (x5_1 + 1)), (by first | rfl | (simp; done) | (simp [*]; done)), H', ⟨by have := HK1.out; omega⟩, by repeat (first | exact Drawn0.refl _ | apply Drawn0.step)⟩
              · rw [if_neg c7] at H
                have c7b0 : ((rd l0 x5_1) == (rd l1 x5_1)) = false := beq_eq_false_iff_ne.mpr c7
                have c7b1 : ((rd l0 x5_1) != (rd l1 x5_1)) = true := bne_iff_ne.mpr c7
                obtain rfl := Option.some.inj H
                have p410 : 0 ≤ (x5_1 : Int) := of_decide_eq_true (by first | (with_reducible assumption) | assumption)
                have q410 : x5_1 < (l0.length : Int) := of_decide_eq_true (by first | (with_reducible assumption) | assumption)
                obtain ⟨ad410, e410, hx410_0⟩ := Kd.at_int HR0.out x5_1 p410 q410
                cases e410
                replace p410 := eq_true p410
                replace q410 := eq_true q410
                have p411 : 0 ≤ (x5_1 : Int) := of_decide_eq_true (by first | (with_reducible assumption) | assumption)
                have q411 : x5_1 < (l1.length : Int) := of_decide_eq_true (by first | (with_reducible assumption) | assumption)
                obtain ⟨ad411, e411, hx411_0⟩ := Kd.at_int HR1.out x5_1 p411 q411
                cases e411
                replace p411 := eq_true p411
                replace q411 := eq_true q411
                go_wp2
                repeat (go_quiet (fail); try go_wp2)
                go_ret
                exact ⟨by first | rfl | (simp; done) | (simp [*]; done), by repeat (first | exact Drawn0.refl _ | apply Drawn0.step)⟩
            · rw [if_neg c6] at H
              exact absurd H (by simp)
          · rw [if_neg c5] at H
            exact absurd H (by simp)
        · rw [if_neg c4] at H
          have c4b0 : decide (x5_1 < (l0.length : Int)) = false := decide_eq_false c4
          clear c4
          obtain rfl := Option.some.inj H
          go_wp2
          repeat (go_quiet (fail); try go_wp2)
          go_ret
          exact ⟨by first | rfl | (simp; done) | (simp [*]; done), by repeat (first | exact Drawn0.refl _ | apply Drawn0.step)⟩
  · rw [if_neg c3] at H
    have c3b0 : ((l0.length : Int) == (l1.length : Int)) = false := beq_eq_false_iff_ne.mpr c3
    have c3b1 : ((l0.length : Int) != (l1.length : Int)) = true := bne_iff_ne.mpr c3
    have c3b2 : (l0.length == l1.length) = false := by first | simpa using c3 | (simp at c3 ⊢; omega)
    obtain rfl := Option.some.inj H
    go_enter Try.func66, Try.ntmps66
    go_wp2
    repeat (go_quiet (fail); try go_wp2)
    go_ret
    exact ⟨by first | rfl | (simp; done) | (simp [*]; done), by repeat (first | exact Drawn0.refl _ | apply Drawn0.step)⟩

end Go.Proofs.Ytlmefnifhbcbcaa.PAll
end
