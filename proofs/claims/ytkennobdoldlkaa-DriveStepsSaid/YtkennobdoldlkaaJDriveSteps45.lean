/- Joined texts of the claim DriveSteps (part 45): contracts of functions and plain laws. -/
import Derived.Test.YtkennobdoldlkaaJDriveSteps15
import Derived.Test.YtkennobdoldlkaaJDriveSteps38
import Derived.Test.YtkennobdoldlkaaJDriveSteps42
import Derived.Test.YtkennobdoldlkaaJDriveSteps44
import Derived.Test.YtkennobdoldlkaaJDriveSteps39
set_option linter.unusedVariables false
set_option linter.unusedSimpArgs false
section
namespace Go.Proofs.Ytkennobdoldlkaa.PAll
open Go.RowKit Go.Proofs.YtkennobdoldlkaaW.PrintWords Go.Proofs.Ytkennobdoldlkaa
theorem wrap_upQ (j : Nat) (h : j < 9223372036854775807) : wrap64 ((j : Int) + 1) = ((j + 1 : Nat) : Int) := by unfold wrap64; omega
theorem rd_stepQ (l : List S53) (j : Nat) (hj : j < l.length) : qz7 l (j : Int) = l[j]! := by
  simp [qz7, List.getD_eq_getElem?_getD, List.getElem?_eq_getElem hj, getElem!_pos l j hj]
theorem rd_sawQ (l : List S51) (j : Nat) (hj : j < l.length) : qz33 l (j : Int) = l[j]! := by
  simp [qz33, List.getD_eq_getElem?_getD, List.getElem?_eq_getElem hj, getElem!_pos l j hj]
def neStep (x y : S53) : Bool := !(x.f0 == y.f0) || (!(x.f1.toList == y.f1.toList) || (!(x.f2.toList == y.f2.toList) || (!(x.f3 == y.f3) || (!(x.f4 == y.f4)))))
def neSaw (x y : S51) : Bool := !(x.f0 == y.f0) || (!(x.f1.toList == y.f1.toList) || (!(x.f2.toList == y.f2.toList) || (!(x.f3 == y.f3) || (!(x.f4 == y.f4)))))
theorem neStep_self (x : S53) : neStep x x = false := by simp [neStep]
theorem neSaw_self (x : S51) : neSaw x x = false := by simp [neSaw]
def eqStepsF (a b : List S53) : Nat → Nat → Bool
  | 0, _ => true
  | d + 1, j => !neStep (a[j]!) (b[j]!) && eqStepsF a b d (j + 1)
def eqSawsF (a b : List S51) : Nat → Nat → Bool
  | 0, _ => true
  | d + 1, j => !neSaw (a[j]!) (b[j]!) && eqSawsF a b d (j + 1)
theorem eqStepsF_self (a : List S53) : ∀ d j, eqStepsF a a d j = true
  | 0, _ => rfl
  | d + 1, j => by rw [eqStepsF, neStep_self, eqStepsF_self a d]; rfl
theorem eqSawsF_self (a : List S51) : ∀ d j, eqSawsF a a d j = true
  | 0, _ => rfl
  | d + 1, j => by rw [eqSawsF, neSaw_self, eqSawsF_self a d]; rfl
def eqSteps (a b : List S53) : Bool := decide (a.length = b.length) && eqStepsF a b a.length 0
def eqSaws (a b : List S51) : Bool := decide (a.length = b.length) && eqSawsF a b a.length 0
theorem eqSteps_self (a : List S53) : eqSteps a a = true := by unfold eqSteps; rw [eqStepsF_self]; simp
theorem eqSaws_self (a : List S51) : eqSaws a a = true := by unfold eqSaws; rw [eqSawsF_self]; simp
theorem refSteps_l0 (a b : List S53) (he : a.length = b.length) (hl : a.length ≤ 9223372036854775800) : ∀ (d j : Nat), d = a.length - j → j ≤ a.length → Ev (fun q => ferruleref20_SameSteps.l0 q a b (j : Int)) (eqStepsF a b d j) := by
  intro d
  induction d with
  | zero =>
    intro j hd hj
    exact Ev.step (f := fun _ => some true) (fun k => by simp only [ferruleref20_SameSteps.l0]; rw [if_neg (show ¬ (j : Int) < a.length by omega)]) (Ev.now true)
  | succ d ih =>
    intro j hd hj
    have hlt : j < a.length := by omega
    have hw := wrap_upQ j (by omega)
    refine Ev.step (f := fun q => if neStep (a[j]!) (b[j]!) = true then some false else ferruleref20_SameSteps.l0 q a b ((j + 1 : Nat) : Int)) (fun k => ?_) ?_
    · simp only [ferruleref20_SameSteps.l0]
      rw [if_pos (show (j : Int) < a.length by omega), if_pos (show (0 : Int) ≤ j by omega), if_pos (show (j : Int) < b.length by omega), rd_stepQ a j hlt, rd_stepQ b j (by omega), hw]
      rfl
    · rw [eqStepsF]
      cases neStep (a[j]!) (b[j]!) with
      | true => exact Ev.congr (fun k => if_pos rfl) (Ev.now false)
      | false => exact Ev.congr (fun k => if_neg (by simp)) (by rw [Bool.not_false, Bool.true_and]; exact ih (j + 1) (by omega) (by omega))
theorem refSame_l0 (p q : Drv) (he : p.sw.length = q.sw.length) (hl : p.sw.length ≤ 9223372036854775800) : ∀ (d j : Nat), d = p.sw.length - j → j ≤ p.sw.length → Ev (fun k => ferruleref20_Same.l0 k (j : Int) p.ta p.ti p.st p.ph p.ap p.fa p.og p.cm p.sw q.ta q.ti q.st q.ph q.ap q.fa q.og q.cm q.sw) (eqSawsF p.sw q.sw d j) := by
  intro d
  induction d with
  | zero =>
    intro j hd hj
    exact Ev.step (f := fun _ => some true) (fun k => by simp only [ferruleref20_Same.l0]; rw [if_neg (show ¬ (j : Int) < p.sw.length by omega)]) (Ev.now true)
  | succ d ih =>
    intro j hd hj
    have hlt : j < p.sw.length := by omega
    have hw := wrap_upQ j (by omega)
    refine Ev.step (f := fun k => if neSaw (p.sw[j]!) (q.sw[j]!) = true then some false else ferruleref20_Same.l0 k ((j + 1 : Nat) : Int) p.ta p.ti p.st p.ph p.ap p.fa p.og p.cm p.sw q.ta q.ti q.st q.ph q.ap q.fa q.og q.cm q.sw) (fun k => ?_) ?_
    · simp only [ferruleref20_Same.l0]
      rw [if_pos (show (j : Int) < p.sw.length by omega), if_pos (show (0 : Int) ≤ j by omega), if_pos (show (j : Int) < q.sw.length by omega), rd_sawQ p.sw j hlt, rd_sawQ q.sw j (by omega), hw]
      rfl
    · rw [eqSawsF]
      cases neSaw (p.sw[j]!) (q.sw[j]!) with
      | true => exact Ev.congr (fun k => if_pos rfl) (Ev.now false)
      | false => exact Ev.congr (fun k => if_neg (by simp)) (by rw [Bool.not_false, Bool.true_and]; exact ih (j + 1) (by omega) (by omega))
def sameD (p q : Drv) : Bool := (p.ta == q.ta && (p.ti == q.ti)) && (eqSteps p.st q.st && (decide (p.ph = q.ph) && (decide (p.ap = q.ap) && ((p.fa == q.fa) && ((p.og == q.og) && ((p.cm == q.cm) && eqSaws p.sw q.sw))))))
theorem sameD_self (p : Drv) : sameD p p = true := by
  unfold sameD
  rw [eqSteps_self, eqSaws_self]
  simp
theorem refSteps_ev (a b : List S53) (hl : a.length ≤ 9223372036854775800) : Ev (fun k => ferruleref20_SameSteps.f k a b) (eqSteps a b) := by
  unfold eqSteps
  by_cases he : a.length = b.length
  · rw [decide_eq_true he, Bool.true_and]
    exact Ev.congr (fun k => by unfold ferruleref20_SameSteps.f; rw [if_pos (by omega)]; rfl) (refSteps_l0 a b he hl a.length 0 (by omega) (Nat.zero_le _))
  · rw [decide_eq_false he, Bool.false_and]
    exact Ev.congr (fun k => by unfold ferruleref20_SameSteps.f; rw [if_neg (by omega)]) (Ev.now false)
theorem refSame_ev (p q : Drv) (hl : p.st.length ≤ 9223372036854775800) (hs : p.sw.length ≤ 9223372036854775800) : Ev (fun k => ferruleref20_Same.f k p.ta p.ti p.st p.ph p.ap p.fa p.og p.cm p.sw q.ta q.ti q.st q.ph q.ap q.fa q.og q.cm q.sw) (sameD p q) := by
  have hj1 : Ev (fun k => ferruleref20_Same.j0 k true p.ta p.ti p.st p.ph p.ap p.fa p.og p.cm p.sw q.ta q.ti q.st q.ph q.ap q.fa q.og q.cm q.sw) false :=
    Ev.step (f := fun _ => some false) (fun k => by simp only [ferruleref20_Same.j0]; rw [if_pos trivial]) (Ev.now false)
  unfold sameD ferruleref20_Same.f
  refine Ev.bind (refSteps_ev p.st q.st hl) ?_
  cases eqSteps p.st q.st with
  | false =>
    rw [Bool.false_and, Bool.and_false]
    exact Ev.congr (fun k => if_neg (by simp)) hj1
  | true =>
    refine Ev.congr (fun k => if_pos rfl) ?_
    rw [Bool.true_and]
    by_cases c1 : (p.ta == q.ta && (p.ti == q.ti)) = true
    · have c1' : ¬ (!(p.ta == q.ta) || (!(p.ti == q.ti))) = true := by
        rw [← Bool.not_and, c1]; decide
      refine Ev.congr (fun k => if_neg c1') ?_
      rw [c1, Bool.true_and]
      by_cases c2 : p.ph = q.ph
      · refine Ev.congr (fun k => if_pos c2) ?_
        rw [decide_eq_true c2, Bool.true_and]
        by_cases c3 : p.ap = q.ap
        · refine Ev.congr (fun k => if_pos c3) ?_
          rw [decide_eq_true c3, Bool.true_and]
          have hne : ∀ a b : Bool, (a != b) = !(a == b) := fun _ _ => rfl
          simp only [hne]
          cases c4 : (p.fa == q.fa) with
          | false => exact Ev.congr (fun k => if_pos rfl) hj1
          | true =>
            refine Ev.congr (fun k => if_neg (by decide)) ?_
            cases c5 : (p.og == q.og) with
            | false => exact Ev.congr (fun k => if_pos rfl) hj1
            | true =>
              refine Ev.congr (fun k => if_neg (by decide)) ?_
              cases c6 : (p.cm == q.cm) with
              | false => exact Ev.congr (fun k => if_pos rfl) hj1
              | true =>
                refine Ev.congr (fun k => if_neg (by decide)) ?_
                simp only [Bool.true_and]
                unfold eqSaws
                by_cases he : p.sw.length = q.sw.length
                · rw [decide_eq_true he, Bool.true_and]
                  have hb : ((p.sw.length : Int) != (q.sw.length : Int)) = false := by rw [he]; simp
                  rw [hb]
                  refine Ev.step (fun k => ?_) (refSame_l0 p q he hs p.sw.length 0 (by omega) (Nat.zero_le _))
                  simp only [ferruleref20_Same.j0]
                  rw [if_neg (by simp)]
                  rfl
                · rw [decide_eq_false he, Bool.false_and]
                  have hb : ((p.sw.length : Int) != (q.sw.length : Int)) = true := by
                    rw [bne_iff_ne]; omega
                  rw [hb]
                  exact hj1
        · refine Ev.congr (fun k => if_neg c3) ?_
          rw [decide_eq_false c3]
          exact hj1
      · refine Ev.congr (fun k => if_neg c2) ?_
        rw [decide_eq_false c2]
        exact hj1
    · have c1' : (!(p.ta == q.ta) || (!(p.ti == q.ti))) = true := by
        rw [Bool.not_eq_true] at c1
        rw [← Bool.not_and, c1]; rfl
      refine Ev.congr (fun k => if_pos c1') ?_
      rw [Bool.not_eq_true] at c1
      rw [c1]
      exact hj1
def dargs (d : Drv) (A : Option Addr) (c : Nat) (B : Option Addr) (e9 : Nat) : Value := .agg #[.int .u64 d.ta, .int .u64 d.ti, .slice A d.st.length c, .int .i64 d.ph, .int .i64 d.ap, .bool d.fa, .bool d.og, .bool d.cm, .slice B d.sw.length e9]
structure DRows (w : World) (d : Drv) (A : Option Addr) (c : Nat) (B : Option Addr) (e9 : Nat) : Prop where
  st : Kd.C k53 w A d.st.length d.st
  stc : d.st.length ≤ c
  sw : Kd.C k51 w B d.sw.length d.sw
  swc : d.sw.length ≤ e9
theorem DRows.below {w w' : World} {d : Drv} {A : Option Addr} {c : Nat} {B : Option Addr} {e9 : Nat} (h : DRows w d A c B e9) (hb : Below w.heap.size w w') : DRows w' d A c B e9 := ⟨Kd.C_below h.st hb, h.stc, Kd.C_below h.sw hb, h.swc⟩
theorem refSame_calls {w : World} {p q : Drv} {A A2 : Option Addr} {c c2 : Nat} {B B2 : Option Addr} {e9 e2 : Nat} (hp : DRows w p A c B e9) (hq : DRows w q A2 c2 B2 e2) (hl : p.st.length ≤ 9223372036854775800) (hs : p.sw.length ≤ 9223372036854775800) :
    Calls Try.prog 13 #[dargs p A c B e9, dargs q A2 c2 B2 e2] w fun e w' => e = .returned (.bool (sameD p q)) ∧ Below w.heap.size w w' := by
  obtain ⟨k, hk⟩ := (refSame_ev p q hl hs).rounds
  exact ferruleref20_Same.calls k p.ta p.ti A c p.st p.ph p.ap p.fa p.og p.cm B e9 p.sw q.ta q.ti A2 c2 q.st q.ph q.ap q.fa q.og q.cm B2 e2 q.sw (sameD p q) w hp.st hp.stc hp.sw hp.swc hq.st hq.stc hq.sw hq.swc hk
theorem sawBytes : Try.prog.bytesOf 51 = 56 := by kernel_rfl
theorem drvOpen {w : World} {cs : List Value} {x : S30} (hx : k30.K w x cs) : ∃ A c B e9, cs = [.int .u64 x.f0.f0.f0, .int .u64 x.f0.f0.f1, .slice A x.f0.f1.length c, .int .i64 x.f1, .int .i64 x.f2, .bool x.f3, .bool x.f4, .bool x.f5, .slice B x.f6.length e9] ∧ x.f0.f1.length ≤ c ∧ k53.C w A x.f0.f1.length x.f0.f1 ∧ x.f6.length ≤ e9 ∧ k51.C w B x.f6.length x.f6 := by
  obtain ⟨l0, r0, rfl, h0, ⟨l1, r1, rfl, rfl, ⟨l2, r2, rfl, rfl, ⟨l3, r3, rfl, rfl, ⟨l4, r4, rfl, rfl, ⟨l5, r5, rfl, rfl, h6⟩⟩⟩⟩⟩⟩ := hx
  obtain ⟨A, c, rfl, hc, hA⟩ := k27_open h0
  obtain ⟨B, e9, rfl, he, hB⟩ := h6
  exact ⟨A, c, B, e9, rfl, hc, hA, he, hB⟩
theorem drvArg {w : World} {cs : Array Value} {x : S30} (hx : k30.K w x cs.toList) (hs : ok30 x) : ∃ d A c B e9, cs = #[.int .u64 d.ta, .int .u64 d.ti, .slice A d.st.length c, .int .i64 d.ph, .int .i64 d.ap, .bool d.fa, .bool d.og, .bool d.cm, .slice B d.sw.length e9] ∧ DRows w d A c B e9 ∧ d.st.length ≤ 3000000000000 ∧ d.sw.length ≤ 2513169434843 ∧ (∀ x ∈ d.st, 0 ≤ x.f0 ∧ x.f0 ≤ 18446744073709551615) ∧ (-9223372036854775808 ≤ d.ap ∧ d.ap ≤ 9223372036854775807) := by
  obtain ⟨A, c, B, e9, h, h1, h2, h3, h4⟩ := drvOpen hx
  obtain ⟨hp, _, hap, _, _, _, hsw⟩ := hs
  obtain ⟨p1, p2⟩ := planOk hp
  have hb := hsw.1
  rw [sawBytes] at hb
  refine ⟨⟨x.f0.f0.f0, x.f0.f0.f1, x.f0.f1, x.f1, x.f2, x.f3, x.f4, x.f5, x.f6⟩, A, c, B, e9, Array.toList_inj.1 h, ⟨h2, h1, h4, h3⟩, p1, ?_, p2, ?_⟩
  · show x.f6.length ≤ 2513169434843
    omega
  · simp [Lit.wf, IntKind.min, IntKind.max, IntKind.signed, IntKind.bits] at hap
    show -9223372036854775808 ≤ x.f2 ∧ x.f2 ≤ 9223372036854775807
    omega
end Go.Proofs.Ytkennobdoldlkaa.PAll
end
section
namespace Go.Proofs.Ytkennobdoldlkaa.PAll
open Go.RowKit Go.Proofs.YtkennobdoldlkaaW.PrintWords Go.Proofs.YtkennobdoldlkaaW.PrintLast Go.Proofs.YtkennobdoldlkaaW.PrintMore
attribute [local go_sem] qz51 qz52 max_two min_two qz45 qz46 qz53 qz54
def ferruleref01_Same.l0 : Nat → List Int → List Int → Int → Option (Bool)
  | 0, _, _, _ => none
  | k + 1, x0, x1, x5 => if x5 < (x0.length : Int) then (if 0 ≤ x5 then (if x5 < (x1.length : Int) then (if (rd x0 x5) = (rd x1 x5) then (ferruleref01_Same.l0 k x0 x1 (wrap64 (x5 + 1))) else (some false)) else (none)) else (none)) else (some true)
def ferruleref01_Same.f (k : Nat) (l0 : List Int) (l1 : List Int) : Option (Bool) := if (l0.length : Int) = (l1.length : Int) then (ferruleref01_Same.l0 k l0 l1 0) else (some false)
set_option maxHeartbeats 8000000 in
set_option maxRecDepth 100000 in
theorem ferruleref01_Same.calls (k : Nat) (A0 : Option Addr) (c0 : Nat) (l0 : List Int) (A1 : Option Addr) (c1 : Nat) (l1 : List Int) (r : Bool) (w : World) (hr0 : Kd.C (Kd.int .u64) w A0 l0.length l0) (hc0 : l0.length ≤ c0) (hr1 : Kd.C (Kd.int .u64) w A1 l1.length l1) (hc1 : l1.length ≤ c1) (h : ferruleref01_Same.f k l0 l1 = some r) :
    Calls Try.prog 18 #[.slice A0 l0.length c0, .slice A1 l1.length c1] w fun e w' => e = .returned (.bool r) ∧ Drawn0 w w' := by
  have HR0 := qza.mk hr0
  have HC0 := qza.mk hc0
  clear hr0 hc0
  have HR1 := qza.mk hr1
  have HC1 := qza.mk hc1
  clear hr1 hc1
  have H : (if (l0.length : Int) = (l1.length : Int) then (ferruleref01_Same.l0 k l0 l1 0) else (some false)) = some r := h
  clear h
  by_cases c3 : (l0.length : Int) = (l1.length : Int)
  · rw [if_pos c3] at H
    have c3b0 : ((l0.length : Int) == (l1.length : Int)) = true := beq_iff_eq.mpr c3
    have c3b1 : ((l0.length : Int) != (l1.length : Int)) = false := bne_eq_false_iff_eq.mpr c3
    have c3b2 : (l0.length == l1.length) = true := by first | simpa using c3 | (simp at c3 ⊢; omega)
    clear c3
    have H' := qza.mk H
    clear H
    go_enter Try.func18, Try.ntmps18
    go_wp2
    repeat (go_quiet (fail); try go_wp2)
    go_loopg [5] k (fun kq v5 w' => ∃ (x5_1 : Int), v5 = .int .i64 x5_1 ∧ qza (ferruleref01_Same.l0 kq l0 l1 x5_1 = some r) ∧ qza (kq ≤ k) ∧ Drawn0 w w')
    case atStart => exact ⟨(0), (by first | rfl | (simp; done) | (simp [*]; done)), H', ⟨Nat.le_refl _⟩, by repeat (first | exact Drawn0.refl _ | apply Drawn0.step)⟩
    case round =>
      clear H'
      try clear c1
      try clear p2
      try clear c3
      try clear c3b0
      try clear c3b1
      try clear c3b2
      obtain ⟨x5_1, rfl, HA, HK1, ⟨m1, rfl⟩⟩ := hrel
      cases gk with
      | zero => exact absurd HA.out (by simp [ferruleref01_Same.l0])
      | succ k1 =>
        have H := HA.out
        clear HA
        simp only [ferruleref01_Same.l0] at H
        by_cases c4 : x5_1 < (l0.length : Int)
        · rw [if_pos c4] at H
          have c4b0 : decide (x5_1 < (l0.length : Int)) = true := decide_eq_true c4
          clear c4
          by_cases c5 : 0 ≤ x5_1
          · rw [if_pos c5] at H
            have c5b0 : decide (0 ≤ x5_1) = true := decide_eq_true c5
            clear c5
            by_cases c6 : x5_1 < (l1.length : Int)
            · rw [if_pos c6] at H
              have c6b0 : decide (x5_1 < (l1.length : Int)) = true := decide_eq_true c6
              clear c6
              by_cases c7 : (rd l0 x5_1) = (rd l1 x5_1)
              · rw [if_pos c7] at H
                have c7b0 : ((rd l0 x5_1) == (rd l1 x5_1)) = true := beq_iff_eq.mpr c7
                have c7b1 : ((rd l0 x5_1) != (rd l1 x5_1)) = false := bne_eq_false_iff_eq.mpr c7
                clear c7
                have H' := qza.mk H
                clear H
                have p570 : 0 ≤ (x5_1 : Int) := of_decide_eq_true (by first | (with_reducible assumption) | assumption)
                have q570 : x5_1 < (l0.length : Int) := of_decide_eq_true (by first | (with_reducible assumption) | assumption)
                obtain ⟨ad570, e570, hx570_0⟩ := Kd.at_int HR0.out x5_1 p570 q570
                cases e570
                replace p570 := eq_true p570
                replace q570 := eq_true q570
                have p571 : 0 ≤ (x5_1 : Int) := of_decide_eq_true (by first | (with_reducible assumption) | assumption)
                have q571 : x5_1 < (l1.length : Int) := of_decide_eq_true (by first | (with_reducible assumption) | assumption)
                obtain ⟨ad571, e571, hx571_0⟩ := Kd.at_int HR1.out x5_1 p571 q571
                cases e571
                replace p571 := eq_true p571
                replace q571 := eq_true q571
                go_wp2
                repeat (go_quiet (fail); try go_wp2)
                go_roundg k1
                case measure => have := HK1.out; omega
                case rel => exact ⟨(wrap64 (x5_1 + 1)), (by first | rfl | (simp; done) | (simp [*]; done)), H', ⟨by have := HK1.out; omega⟩, by repeat (first | exact Drawn0.refl _ | apply Drawn0.step)⟩
              · rw [if_neg c7] at H
                have c7b0 : ((rd l0 x5_1) == (rd l1 x5_1)) = false := beq_eq_false_iff_ne.mpr c7
                have c7b1 : ((rd l0 x5_1) != (rd l1 x5_1)) = true := bne_iff_ne.mpr c7
                obtain rfl := Option.some.inj H
                have p570 : 0 ≤ (x5_1 : Int) := of_decide_eq_true (by first | (with_reducible assumption) | assumption)
                have q570 : x5_1 < (l0.length : Int) := of_decide_eq_true (by first | (with_reducible assumption) | assumption)
                obtain ⟨ad570, e570, hx570_0⟩ := Kd.at_int HR0.out x5_1 p570 q570
                cases e570
                replace p570 := eq_true p570
                replace q570 := eq_true q570
                have p571 : 0 ≤ (x5_1 : Int) := of_decide_eq_true (by first | (with_reducible assumption) | assumption)
                have q571 : x5_1 < (l1.length : Int) := of_decide_eq_true (by first | (with_reducible assumption) | assumption)
                obtain ⟨ad571, e571, hx571_0⟩ := Kd.at_int HR1.out x5_1 p571 q571
                cases e571
                replace p571 := eq_true p571
                replace q571 := eq_true q571
                go_wp2
                repeat (go_quiet (fail); try go_wp2)
                go_ret
                exact ⟨by first | rfl | (simp; done) | (simp [*]; done), by repeat (first | exact Drawn0.refl _ | apply Drawn0.step)⟩
            · rw [if_neg c6] at H
              exact absurd H (by simp)
          · rw [if_neg c5] at H
            exact absurd H (by simp)
        · rw [if_neg c4] at H
          have c4b0 : decide (x5_1 < (l0.length : Int)) = false := decide_eq_false c4
          clear c4
          obtain rfl := Option.some.inj H
          go_wp2
          repeat (go_quiet (fail); try go_wp2)
          go_ret
          exact ⟨by first | rfl | (simp; done) | (simp [*]; done), by repeat (first | exact Drawn0.refl _ | apply Drawn0.step)⟩
  · rw [if_neg c3] at H
    have c3b0 : ((l0.length : Int) == (l1.length : Int)) = false := beq_eq_false_iff_ne.mpr c3
    have c3b1 : ((l0.length : Int) != (l1.length : Int)) = true := bne_iff_ne.mpr c3
    have c3b2 : (l0.length == l1.length) = false := by first | simpa using c3 | (simp at c3 ⊢; omega)
    obtain rfl := Option.some.inj H
    go_enter Try.func18, Try.ntmps18
    go_wp2
    repeat (go_quiet (fail); try go_wp2)
    go_ret
    exact ⟨by first | rfl | (simp; done) | (simp [*]; done), by repeat (first | exact Drawn0.refl _ | apply Drawn0.step)⟩
attribute [local go_sem] qz51 qz52 max_two min_two qz45 qz46 qz53 qz54
theorem eqA74 (d : Nat) (w : World) (x0 y0 : ByteArray) (x1 y1 : ByteArray) (x2 y2 : Bool) :
    (Op.equalIn (d + 2) 74 (.agg #[.string x0, .string x1, .bool x2]) (.agg #[.string y0, .string y1, .bool y2])).run Try.prog w = .ok (x0.toList == y0.toList && (x1.toList == y1.toList && (x2 == y2))) w := by
  refine eqA_of Try.underlying74 (by kernel_rfl) ?_
  refine eqf_cons (by rfl) (by go_simp; rfl) (by go_simp; rfl) (by go_simp) ?_
  refine eqf_cons (by rfl) (by go_simp; rfl) (by go_simp; rfl) (by go_simp) ?_
  exact eqf_last (by rfl) (by go_simp; rfl) (by go_simp; rfl) (by go_simp)
end Go.Proofs.Ytkennobdoldlkaa.PAll
end
