/- Joined texts of the claim DriveSame (part 50): contracts of functions and plain laws. -/
import Derived.Test.YtkennobdoldlkaaJDriveSame44
import Derived.Test.YtkennobdoldlkaaJDriveSame46
import Derived.Test.YtkennobdoldlkaaJDriveSame49
section
/- Which drives are the same: the code's answer and the document's are one. -/
namespace Go.Proofs.Ytkennobdoldlkaa.PAll
open Go.RowKit Go.Proofs.YtkennobdoldlkaaW.PrintWords Go.Proofs.Ytkennobdoldlkaa
set_option linter.unusedVariables false
set_option linter.unusedSimpArgs false
theorem wrap_upQ (j : Nat) (h : j < 9223372036854775807) : wrap64 ((j : Int) + 1) = ((j + 1 : Nat) : Int) := by unfold wrap64; omega
theorem rd_stepQ (l : List S53) (j : Nat) (hj : j < l.length) : rd_T53 l (j : Int) = l[j]! := by
  simp [rd_T53, List.getD_eq_getElem?_getD, List.getElem?_eq_getElem hj, getElem!_pos l j hj]
theorem rd_sawQ (l : List S51) (j : Nat) (hj : j < l.length) : rd_T51 l (j : Int) = l[j]! := by
  simp [rd_T51, List.getD_eq_getElem?_getD, List.getElem?_eq_getElem hj, getElem!_pos l j hj]
def neStep (x y : S53) : Bool := !(x.f0 == y.f0) || (!(x.f1.toList == y.f1.toList) || (!(x.f2.toList == y.f2.toList) || (!(x.f3 == y.f3) || (!(x.f4 == y.f4)))))
def neSaw (x y : S51) : Bool := !(x.f0 == y.f0) || (!(x.f1.toList == y.f1.toList) || (!(x.f2.toList == y.f2.toList) || (!(x.f3 == y.f3) || (!(x.f4 == y.f4)))))
theorem neStep_self (x : S53) : neStep x x = false := by simp [neStep]
theorem neSaw_self (x : S51) : neSaw x x = false := by simp [neSaw]
def eqStepsF (a b : List S53) : Nat → Nat → Bool
  | 0, _ => true
  | d + 1, j => !neStep (a[j]!) (b[j]!) && eqStepsF a b d (j + 1)
def eqSawsF (a b : List S51) : Nat → Nat → Bool
  | 0, _ => true
  | d + 1, j => !neSaw (a[j]!) (b[j]!) && eqSawsF a b d (j + 1)
theorem eqStepsF_self (a : List S53) : ∀ d j, eqStepsF a a d j = true
  | 0, _ => rfl
  | d + 1, j => by rw [eqStepsF, neStep_self, eqStepsF_self a d]; rfl
theorem eqSawsF_self (a : List S51) : ∀ d j, eqSawsF a a d j = true
  | 0, _ => rfl
  | d + 1, j => by rw [eqSawsF, neSaw_self, eqSawsF_self a d]; rfl
def eqSteps (a b : List S53) : Bool := decide (a.length = b.length) && eqStepsF a b a.length 0
def eqSaws (a b : List S51) : Bool := decide (a.length = b.length) && eqSawsF a b a.length 0
theorem eqSteps_self (a : List S53) : eqSteps a a = true := by unfold eqSteps; rw [eqStepsF_self]; simp
theorem eqSaws_self (a : List S51) : eqSaws a a = true := by unfold eqSaws; rw [eqSawsF_self]; simp
theorem refSteps_l0 (a b : List S53) (he : a.length = b.length) (hl : a.length ≤ 9223372036854775800) : ∀ (d j : Nat), d = a.length - j → j ≤ a.length → Ev (fun q => ferruleref20_SameSteps.l0 q a b (j : Int)) (eqStepsF a b d j) := by
  intro d
  induction d with
  | zero =>
    intro j hd hj
    exact Ev.step (f := fun _ => some true) (fun k => by simp only [ferruleref20_SameSteps.l0]; rw [if_neg (show ¬ (j : Int) < a.length by omega)]) (Ev.now true)
  | succ d ih =>
    intro j hd hj
    have hlt : j < a.length := by omega
    have hw := wrap_upQ j (by omega)
    refine Ev.step (f := fun q => if neStep (a[j]!) (b[j]!) = true then some false else ferruleref20_SameSteps.l0 q a b ((j + 1 : Nat) : Int)) (fun k => ?_) ?_
    · simp only [ferruleref20_SameSteps.l0]
      rw [if_pos (show (j : Int) < a.length by omega), if_pos (show (0 : Int) ≤ j by omega), if_pos (show (j : Int) < b.length by omega), rd_stepQ a j hlt, rd_stepQ b j (by omega), hw]
      rfl
    · rw [eqStepsF]
      cases neStep (a[j]!) (b[j]!) with
      | true => exact Ev.congr (fun k => if_pos rfl) (Ev.now false)
      | false => exact Ev.congr (fun k => if_neg (by simp)) (by rw [Bool.not_false, Bool.true_and]; exact ih (j + 1) (by omega) (by omega))
theorem codSteps_l0 (a b : List S53) (he : a.length = b.length) (hl : a.length ≤ 9223372036854775800) : ∀ (d j : Nat), d = a.length - j → j ≤ a.length → Ev (fun q => api_Step_47.l0 q a b (a.length : Int) (j : Int)) (eqStepsF a b d j) := by
  intro d
  induction d with
  | zero =>
    intro j hd hj
    exact Ev.step (f := fun _ => some true) (fun k => by simp only [api_Step_47.l0]; rw [if_neg (show ¬ (j : Int) < a.length by omega)]) (Ev.now true)
  | succ d ih =>
    intro j hd hj
    have hlt : j < a.length := by omega
    have hw := wrap_upQ j (by omega)
    refine Ev.step (f := fun q => if neStep (a[j]!) (b[j]!) = true then some false else api_Step_47.l0 q a b (a.length : Int) ((j + 1 : Nat) : Int)) (fun k => ?_) ?_
    · simp only [api_Step_47.l0]
      rw [if_pos (show (j : Int) < a.length by omega), if_pos (show (0 : Int) ≤ j by omega), if_pos (show (j : Int) < a.length by omega), if_pos (show (j : Int) < b.length by omega), rd_stepQ a j hlt, rd_stepQ b j (by omega), hw]
      rfl
    · rw [eqStepsF]
      cases neStep (a[j]!) (b[j]!) with
      | true => exact Ev.congr (fun k => if_pos rfl) (Ev.now false)
      | false => exact Ev.congr (fun k => if_neg (by simp)) (by rw [Bool.not_false, Bool.true_and]; exact ih (j + 1) (by omega) (by omega))
theorem codSaws_l0 (a b : List S51) (he : a.length = b.length) (hl : a.length ≤ 9223372036854775800) : ∀ (d j : Nat), d = a.length - j → j ≤ a.length → Ev (fun q => api_Saw_48.l0 q a b (a.length : Int) (j : Int)) (eqSawsF a b d j) := by
  intro d
  induction d with
  | zero =>
    intro j hd hj
    exact Ev.step (f := fun _ => some true) (fun k => by simp only [api_Saw_48.l0]; rw [if_neg (show ¬ (j : Int) < a.length by omega)]) (Ev.now true)
  | succ d ih =>
    intro j hd hj
    have hlt : j < a.length := by omega
    have hw := wrap_upQ j (by omega)
    refine Ev.step (f := fun q => if neSaw (a[j]!) (b[j]!) = true then some false else api_Saw_48.l0 q a b (a.length : Int) ((j + 1 : Nat) : Int)) (fun k => ?_) ?_
    · simp only [api_Saw_48.l0]
      rw [if_pos (show (j : Int) < a.length by omega), if_pos (show (0 : Int) ≤ j by omega), if_pos (show (j : Int) < a.length by omega), if_pos (show (j : Int) < b.length by omega), rd_sawQ a j hlt, rd_sawQ b j (by omega), hw]
      rfl
    · rw [eqSawsF]
      cases neSaw (a[j]!) (b[j]!) with
      | true => exact Ev.congr (fun k => if_pos rfl) (Ev.now false)
      | false => exact Ev.congr (fun k => if_neg (by simp)) (by rw [Bool.not_false, Bool.true_and]; exact ih (j + 1) (by omega) (by omega))
theorem refSame_l0 (p q : Drv) (he : p.sw.length = q.sw.length) (hl : p.sw.length ≤ 9223372036854775800) : ∀ (d j : Nat), d = p.sw.length - j → j ≤ p.sw.length → Ev (fun k => ferruleref20_Same.l0 k (j : Int) p.ta p.ti p.st p.ph p.ap p.fa p.og p.cm p.sw q.ta q.ti q.st q.ph q.ap q.fa q.og q.cm q.sw) (eqSawsF p.sw q.sw d j) := by
  intro d
  induction d with
  | zero =>
    intro j hd hj
    exact Ev.step (f := fun _ => some true) (fun k => by simp only [ferruleref20_Same.l0]; rw [if_neg (show ¬ (j : Int) < p.sw.length by omega)]) (Ev.now true)
  | succ d ih =>
    intro j hd hj
    have hlt : j < p.sw.length := by omega
    have hw := wrap_upQ j (by omega)
    refine Ev.step (f := fun k => if neSaw (p.sw[j]!) (q.sw[j]!) = true then some false else ferruleref20_Same.l0 k ((j + 1 : Nat) : Int) p.ta p.ti p.st p.ph p.ap p.fa p.og p.cm p.sw q.ta q.ti q.st q.ph q.ap q.fa q.og q.cm q.sw) (fun k => ?_) ?_
    · simp only [ferruleref20_Same.l0]
      rw [if_pos (show (j : Int) < p.sw.length by omega), if_pos (show (0 : Int) ≤ j by omega), if_pos (show (j : Int) < q.sw.length by omega), rd_sawQ p.sw j hlt, rd_sawQ q.sw j (by omega), hw]
      rfl
    · rw [eqSawsF]
      cases neSaw (p.sw[j]!) (q.sw[j]!) with
      | true => exact Ev.congr (fun k => if_pos rfl) (Ev.now false)
      | false => exact Ev.congr (fun k => if_neg (by simp)) (by rw [Bool.not_false, Bool.true_and]; exact ih (j + 1) (by omega) (by omega))
def sameD (p q : Drv) : Bool := (p.ta == q.ta && (p.ti == q.ti)) && (eqSteps p.st q.st && (decide (p.ph = q.ph) && (decide (p.ap = q.ap) && ((p.fa == q.fa) && ((p.og == q.og) && ((p.cm == q.cm) && eqSaws p.sw q.sw))))))
theorem sameD_self (p : Drv) : sameD p p = true := by
  unfold sameD
  rw [eqSteps_self, eqSaws_self]
  simp
theorem refSteps_ev (a b : List S53) (hl : a.length ≤ 9223372036854775800) : Ev (fun k => ferruleref20_SameSteps.f k a b) (eqSteps a b) := by
  unfold eqSteps
  by_cases he : a.length = b.length
  · rw [decide_eq_true he, Bool.true_and]
    exact Ev.congr (fun k => by unfold ferruleref20_SameSteps.f; rw [if_pos (by omega)]; rfl) (refSteps_l0 a b he hl a.length 0 (by omega) (Nat.zero_le _))
  · rw [decide_eq_false he, Bool.false_and]
    exact Ev.congr (fun k => by unfold ferruleref20_SameSteps.f; rw [if_neg (by omega)]) (Ev.now false)
theorem codSteps_ev (a b : List S53) (hl : a.length ≤ 9223372036854775800) : Ev (fun k => api_Step_47.f k a b) (eqSteps a b) := by
  unfold eqSteps
  by_cases he : a.length = b.length
  · rw [decide_eq_true he, Bool.true_and]
    exact Ev.congr (fun k => by unfold api_Step_47.f; rw [if_pos (by omega)]; rfl) (codSteps_l0 a b he hl a.length 0 (by omega) (Nat.zero_le _))
  · rw [decide_eq_false he, Bool.false_and]
    exact Ev.congr (fun k => by unfold api_Step_47.f; rw [if_neg (by omega)]) (Ev.now false)
theorem codSaws_ev (a b : List S51) (hl : a.length ≤ 9223372036854775800) : Ev (fun k => api_Saw_48.f k a b) (eqSaws a b) := by
  unfold eqSaws
  by_cases he : a.length = b.length
  · rw [decide_eq_true he, Bool.true_and]
    exact Ev.congr (fun k => by unfold api_Saw_48.f; rw [if_pos (by omega)]; rfl) (codSaws_l0 a b he hl a.length 0 (by omega) (Nat.zero_le _))
  · rw [decide_eq_false he, Bool.false_and]
    exact Ev.congr (fun k => by unfold api_Saw_48.f; rw [if_neg (by omega)]) (Ev.now false)
theorem codSame_ev (p q : Drv) (hl : p.st.length ≤ 9223372036854775800) (hs : p.sw.length ≤ 9223372036854775800) : Ev (fun k => drive_Same.f k p.ta p.ti p.st p.ph p.ap p.fa p.og p.cm p.sw q.ta q.ti q.st q.ph q.ap q.fa q.og q.cm q.sw) (sameD p q) := by
  unfold sameD drive_Same.f
  by_cases c1 : (p.ta == q.ta && (p.ti == q.ti)) = true
  · rw [c1, Bool.true_and]
    refine Ev.congr (fun k => if_pos rfl) ?_
    refine Ev.bind (codSteps_ev p.st q.st hl) ?_
    cases eqSteps p.st q.st with
    | false => exact Ev.congr (fun k => if_neg (by simp)) (Ev.now false)
    | true =>
      refine Ev.congr (fun k => if_pos rfl) ?_
      rw [Bool.true_and]
      by_cases c2 : p.ph = q.ph
      · refine Ev.congr (fun k => if_pos c2) ?_
        rw [decide_eq_true c2, Bool.true_and]
        by_cases c3 : p.ap = q.ap
        · refine Ev.congr (fun k => if_pos c3) ?_
          rw [decide_eq_true c3, Bool.true_and]
          cases c4 : (p.fa == q.fa) with
          | false => exact Ev.congr (fun k => if_neg (by simp)) (Ev.now false)
          | true =>
            refine Ev.congr (fun k => if_pos rfl) ?_
            cases c5 : (p.og == q.og) with
            | false => exact Ev.congr (fun k => if_neg (by simp)) (Ev.now false)
            | true =>
              refine Ev.congr (fun k => if_pos rfl) ?_
              cases c6 : (p.cm == q.cm) with
              | false => exact Ev.congr (fun k => if_neg (by simp)) (Ev.now false)
              | true =>
                refine Ev.congr (fun k => if_pos rfl) ?_
                exact Ev.bind (codSaws_ev p.sw q.sw hs) (Ev.now _)
        · refine Ev.congr (fun k => if_neg c3) ?_
          rw [decide_eq_false c3]
          exact Ev.now false
      · refine Ev.congr (fun k => if_neg c2) ?_
        rw [decide_eq_false c2]
        exact Ev.now false
  · rw [Bool.not_eq_true] at c1
    rw [c1]
    exact Ev.congr (fun k => if_neg (by simp)) (Ev.now false)
theorem refSame_ev (p q : Drv) (hl : p.st.length ≤ 9223372036854775800) (hs : p.sw.length ≤ 9223372036854775800) : Ev (fun k => ferruleref20_Same.f k p.ta p.ti p.st p.ph p.ap p.fa p.og p.cm p.sw q.ta q.ti q.st q.ph q.ap q.fa q.og q.cm q.sw) (sameD p q) := by
  have hj1 : Ev (fun k => ferruleref20_Same.j0 k true p.ta p.ti p.st p.ph p.ap p.fa p.og p.cm p.sw q.ta q.ti q.st q.ph q.ap q.fa q.og q.cm q.sw) false :=
    Ev.step (f := fun _ => some false) (fun k => by simp only [ferruleref20_Same.j0]; rw [if_pos trivial]) (Ev.now false)
  unfold sameD ferruleref20_Same.f
  refine Ev.bind (refSteps_ev p.st q.st hl) ?_
  cases eqSteps p.st q.st with
  | false =>
    rw [Bool.false_and, Bool.and_false]
    exact Ev.congr (fun k => if_neg (by simp)) hj1
  | true =>
    refine Ev.congr (fun k => if_pos rfl) ?_
    rw [Bool.true_and]
    by_cases c1 : (p.ta == q.ta && (p.ti == q.ti)) = true
    · have c1' : ¬ (!(p.ta == q.ta) || (!(p.ti == q.ti))) = true := by
        rw [← Bool.not_and, c1]; decide
      refine Ev.congr (fun k => if_neg c1') ?_
      rw [c1, Bool.true_and]
      by_cases c2 : p.ph = q.ph
      · refine Ev.congr (fun k => if_pos c2) ?_
        rw [decide_eq_true c2, Bool.true_and]
        by_cases c3 : p.ap = q.ap
        · refine Ev.congr (fun k => if_pos c3) ?_
          rw [decide_eq_true c3, Bool.true_and]
          have hne : ∀ a b : Bool, (a != b) = !(a == b) := fun _ _ => rfl
          simp only [hne]
          cases c4 : (p.fa == q.fa) with
          | false => exact Ev.congr (fun k => if_pos rfl) hj1
          | true =>
            refine Ev.congr (fun k => if_neg (by decide)) ?_
            cases c5 : (p.og == q.og) with
            | false => exact Ev.congr (fun k => if_pos rfl) hj1
            | true =>
              refine Ev.congr (fun k => if_neg (by decide)) ?_
              cases c6 : (p.cm == q.cm) with
              | false => exact Ev.congr (fun k => if_pos rfl) hj1
              | true =>
                refine Ev.congr (fun k => if_neg (by decide)) ?_
                simp only [Bool.true_and]
                unfold eqSaws
                by_cases he : p.sw.length = q.sw.length
                · rw [decide_eq_true he, Bool.true_and]
                  have hb : ((p.sw.length : Int) != (q.sw.length : Int)) = false := by rw [he]; simp
                  rw [hb]
                  refine Ev.step (fun k => ?_) (refSame_l0 p q he hs p.sw.length 0 (by omega) (Nat.zero_le _))
                  simp only [ferruleref20_Same.j0]
                  rw [if_neg (by simp)]
                  rfl
                · rw [decide_eq_false he, Bool.false_and]
                  have hb : ((p.sw.length : Int) != (q.sw.length : Int)) = true := by
                    rw [bne_iff_ne]; omega
                  rw [hb]
                  exact hj1
        · refine Ev.congr (fun k => if_neg c3) ?_
          rw [decide_eq_false c3]
          exact hj1
      · refine Ev.congr (fun k => if_neg c2) ?_
        rw [decide_eq_false c2]
        exact hj1
    · have c1' : (!(p.ta == q.ta) || (!(p.ti == q.ti))) = true := by
        rw [Bool.not_eq_true] at c1
        rw [← Bool.not_and, c1]; rfl
      refine Ev.congr (fun k => if_pos c1') ?_
      rw [Bool.not_eq_true] at c1
      rw [c1]
      exact hj1
/-- A drive's cells, as a call is handed them. -/
def dargs (d : Drv) (A : Option Addr) (c : Nat) (B : Option Addr) (e9 : Nat) : Value := .agg #[.int .u64 d.ta, .int .u64 d.ti, .slice A d.st.length c, .int .i64 d.ph, .int .i64 d.ap, .bool d.fa, .bool d.og, .bool d.cm, .slice B d.sw.length e9]
/-- A drive's rows lie at a world. -/
structure DRows (w : World) (d : Drv) (A : Option Addr) (c : Nat) (B : Option Addr) (e9 : Nat) : Prop where
  st : Kd.C k53 w A d.st.length d.st
  stc : d.st.length ≤ c
  sw : Kd.C k51 w B d.sw.length d.sw
  swc : d.sw.length ≤ e9
theorem DRows.below {w w' : World} {d : Drv} {A : Option Addr} {c : Nat} {B : Option Addr} {e9 : Nat} (h : DRows w d A c B e9) (hb : Below w.heap.size w w') : DRows w' d A c B e9 := ⟨Kd.C_below h.st hb, h.stc, Kd.C_below h.sw hb, h.swc⟩
theorem codSame_calls {w : World} {p q : Drv} {A A2 : Option Addr} {c c2 : Nat} {B B2 : Option Addr} {e9 e2 : Nat} (hp : DRows w p A c B e9) (hq : DRows w q A2 c2 B2 e2) (hl : p.st.length ≤ 9223372036854775800) (hs : p.sw.length ≤ 9223372036854775800) :
    Calls Try.prog 28 #[dargs p A c B e9, dargs q A2 c2 B2 e2] w fun e w' => e = .returned (.bool (sameD p q)) ∧ Below w.heap.size w w' := by
  obtain ⟨k, hk⟩ := (codSame_ev p q hl hs).rounds
  exact drive_Same.calls k p.ta p.ti A c p.st p.ph p.ap p.fa p.og p.cm B e9 p.sw q.ta q.ti A2 c2 q.st q.ph q.ap q.fa q.og q.cm B2 e2 q.sw (sameD p q) w hp.st hp.stc hp.sw hp.swc hq.st hq.stc hq.sw hq.swc hk
theorem refSame_calls {w : World} {p q : Drv} {A A2 : Option Addr} {c c2 : Nat} {B B2 : Option Addr} {e9 e2 : Nat} (hp : DRows w p A c B e9) (hq : DRows w q A2 c2 B2 e2) (hl : p.st.length ≤ 9223372036854775800) (hs : p.sw.length ≤ 9223372036854775800) :
    Calls Try.prog 13 #[dargs p A c B e9, dargs q A2 c2 B2 e2] w fun e w' => e = .returned (.bool (sameD p q)) ∧ Below w.heap.size w w' := by
  obtain ⟨k, hk⟩ := (refSame_ev p q hl hs).rounds
  exact ferruleref20_Same.calls k p.ta p.ti A c p.st p.ph p.ap p.fa p.og p.cm B e9 p.sw q.ta q.ti A2 c2 q.st q.ph q.ap q.fa q.og q.cm B2 e2 q.sw (sameD p q) w hp.st hp.stc hp.sw hp.swc hq.st hq.stc hq.sw hq.swc hk
end Go.Proofs.Ytkennobdoldlkaa.PAll
end
