/- Joined texts of the claim ShardRight (part 49): contracts of functions and plain laws. -/
import Derived.Test.YtmcgcdpiceikeaaJShardRight14
import Derived.Test.YtmcgcdpiceikeaaJShardRight48
import Derived.BigQuiet
import Derived.BigRegion
import Derived.Deep.QuietTactic
import Derived.Test.YtmcgcdpiceikeaaJShardRight29
import Derived.Test.YtmcgcdpiceikeaaJShardRight32
import Derived.Test.YtmcgcdpiceikeaaJShardRight46
section
-- Printed by this session's pr.sh (the kit's print.py, several laws in one namespace). Not trusted: Lean checks it.
namespace Go.Proofs.Ytmcgcdpiceikeaa.PAll
open Go.RowKit Go.Proofs.YtmcgcdpiceikeaaW.PrintWords Go.Proofs.YtmcgcdpiceikeaaW.PrintLast Go.Proofs.YtmcgcdpiceikeaaW.PrintMore
attribute [local go_sem] max2_int min2_int max_two min_two max_three min_three max_four min_four   -- for this text's walks alone
set_option linter.unusedVariables false
set_option linter.unusedSimpArgs false

attribute [local go_sem high] eqA68
/-! ### api_Done_50: function 50 -/
def api_Done_50.l0 : Nat → List (S68) → List (S68) → Int → Int → Option (Bool)
  | 0, _, _, _, _ => none
  | k + 1, x0, x1, x12, x13 => if x13 < x12 then (if 0 ≤ x13 then (if x13 < (x0.length : Int) then (if x13 < (x1.length : Int) then (if ((!(((rd_T68 x0 x13).f0.f0) == ((rd_T68 x1 x13).f0.f0)) || (!(((rd_T68 x0 x13).f0.f1) == ((rd_T68 x1 x13).f0.f1)))) || (!(((rd_T68 x0 x13).f1) == ((rd_T68 x1 x13).f1)))) = true then (some false) else (api_Done_50.l0 k x0 x1 x12 (wrap64 (x13 + 1)))) else (none)) else (none)) else (none)) else (some true)
def api_Done_50.f (k : Nat) (l0 : List (S68)) (l1 : List (S68)) : Option (Bool) := if (l0.length : Int) = (l1.length : Int) then (api_Done_50.l0 k l0 l1 (l0.length : Int) 0) else (some false)
set_option maxHeartbeats 8000000 in
set_option maxRecDepth 100000 in
theorem api_Done_50.calls (k : Nat) (A0 : Option Addr) (c0 : Nat) (l0 : List (S68)) (A1 : Option Addr) (c1 : Nat) (l1 : List (S68)) (r : Bool) (w : World) (hr0 : Kd.C k68 w A0 l0.length l0) (hc0 : l0.length ≤ c0) (hr1 : Kd.C k68 w A1 l1.length l1) (hc1 : l1.length ≤ c1) (h : api_Done_50.f k l0 l1 = some r) :
    Calls Try.prog 50 #[.slice A0 l0.length c0, .slice A1 l1.length c1] w fun e w' => e = .returned (.bool r) ∧ Drawn0 w w' := by
  have hu68 := Try.underlying68
  have HR0 := Aside0.mk hr0
  have HC0 := Aside0.mk hc0
  clear hr0 hc0
  have HR1 := Aside0.mk hr1
  have HC1 := Aside0.mk hc1
  clear hr1 hc1
  have H : (if (l0.length : Int) = (l1.length : Int) then (api_Done_50.l0 k l0 l1 (l0.length : Int) 0) else (some false)) = some r := h
  clear h
  by_cases c3 : (l0.length : Int) = (l1.length : Int)
  · rw [if_pos c3] at H
    have c3b0 : ((l0.length : Int) == (l1.length : Int)) = true := beq_iff_eq.mpr c3
    have c3b1 : ((l0.length : Int) != (l1.length : Int)) = false := bne_eq_false_iff_eq.mpr c3
    have c3b2 : (l0.length == l1.length) = true := by first | simpa using c3 | (simp at c3 ⊢; omega)
    clear c3
    have H' := Aside0.mk H
    clear H
    go_enter Try.func50, Try.ntmps50
    go_wp2
    repeat (go_quiet (fail); try go_wp2)
    go_loopg [13] k (fun kq v13 w' => ∃ (x13_1 : Int), v13 = .int .i64 x13_1 ∧ Aside0 (api_Done_50.l0 kq l0 l1 (l0.length : Int) x13_1 = some r) ∧ Aside0 (kq ≤ k) ∧ Drawn0 w w')
    case atStart => exact ⟨(0), (by first | rfl | (simp; done) | (simp [*]; done)), H', ⟨Nat.le_refl _⟩, by repeat (first | exact Drawn0.refl _ | apply Drawn0.step)⟩
    case round =>
      clear H'
      try clear c1
      try clear p2
      try clear c3
      try clear c3b0
      try clear c3b1
      try clear c3b2
      obtain ⟨x13_1, rfl, HA, HK1, ⟨m1, rfl⟩⟩ := hrel
      cases gk with
      | zero => exact absurd HA.out (by simp [api_Done_50.l0])
      | succ k1 =>
        have H := HA.out
        clear HA
        simp only [api_Done_50.l0] at H
        by_cases c4 : x13_1 < (l0.length : Int)
        · rw [if_pos c4] at H
          have c4b0 : decide (x13_1 < (l0.length : Int)) = true := decide_eq_true c4
          clear c4
          by_cases c5 : 0 ≤ x13_1
          · rw [if_pos c5] at H
            have c5b0 : decide (0 ≤ x13_1) = true := decide_eq_true c5
            clear c5
            by_cases c6 : x13_1 < (l0.length : Int)
            · rw [if_pos c6] at H
              have c6b0 : decide (x13_1 < (l0.length : Int)) = true := decide_eq_true c6
              clear c6
              by_cases c7 : x13_1 < (l1.length : Int)
              · rw [if_pos c7] at H
                have c7b0 : decide (x13_1 < (l1.length : Int)) = true := decide_eq_true c7
                clear c7
                by_cases c8 : ((!(((rd_T68 l0 x13_1).f0.f0) == ((rd_T68 l1 x13_1).f0.f0)) || (!(((rd_T68 l0 x13_1).f0.f1) == ((rd_T68 l1 x13_1).f0.f1)))) || (!(((rd_T68 l0 x13_1).f1) == ((rd_T68 l1 x13_1).f1)))) = true
                · rw [if_pos c8] at H
                  have c8b0 : ((!(((rd_T68 l0 x13_1).f0.f0) == ((rd_T68 l1 x13_1).f0.f0)) || (!(((rd_T68 l0 x13_1).f0.f1) == ((rd_T68 l1 x13_1).f0.f1)))) || (!(((rd_T68 l0 x13_1).f1) == ((rd_T68 l1 x13_1).f1)))) = true := c8
                  clear c8
                  obtain rfl := Option.some.inj H
                  have p574 : 0 ≤ (x13_1 : Int) := of_decide_eq_true (by first | (with_reducible assumption) | assumption)
                  have q574 : x13_1 < (l0.length : Int) := of_decide_eq_true (by first | (with_reducible assumption) | assumption)
                  obtain ⟨ad574, e574, hx574_0, hx574_1, hx574_2⟩ := at_T68 HR0.out x13_1 p574 q574
                  cases e574
                  replace p574 := eq_true p574
                  replace q574 := eq_true q574
                  have p575 : 0 ≤ (x13_1 : Int) := of_decide_eq_true (by first | (with_reducible assumption) | assumption)
                  have q575 : x13_1 < (l1.length : Int) := of_decide_eq_true (by first | (with_reducible assumption) | assumption)
                  obtain ⟨ad575, e575, hx575_0, hx575_1, hx575_2⟩ := at_T68 HR1.out x13_1 p575 q575
                  cases e575
                  replace p575 := eq_true p575
                  replace q575 := eq_true q575
                  go_wp2
                  repeat (go_quiet (fail); try go_wp2)
                  go_ret
                  exact ⟨by first | rfl | (simp; done) | (simp [*]; done), by repeat (first | exact Drawn0.refl _ | apply Drawn0.step)⟩
                · rw [if_neg c8] at H
                  have c8b0 : ((!(((rd_T68 l0 x13_1).f0.f0) == ((rd_T68 l1 x13_1).f0.f0)) || (!(((rd_T68 l0 x13_1).f0.f1) == ((rd_T68 l1 x13_1).f0.f1)))) || (!(((rd_T68 l0 x13_1).f1) == ((rd_T68 l1 x13_1).f1)))) = false := by simpa using c8
                  clear c8
                  have H' := Aside0.mk H
                  clear H
                  have p574 : 0 ≤ (x13_1 : Int) := of_decide_eq_true (by first | (with_reducible assumption) | assumption)
                  have q574 : x13_1 < (l0.length : Int) := of_decide_eq_true (by first | (with_reducible assumption) | assumption)
                  obtain ⟨ad574, e574, hx574_0, hx574_1, hx574_2⟩ := at_T68 HR0.out x13_1 p574 q574
                  cases e574
                  replace p574 := eq_true p574
                  replace q574 := eq_true q574
                  have p575 : 0 ≤ (x13_1 : Int) := of_decide_eq_true (by first | (with_reducible assumption) | assumption)
                  have q575 : x13_1 < (l1.length : Int) := of_decide_eq_true (by first | (with_reducible assumption) | assumption)
                  obtain ⟨ad575, e575, hx575_0, hx575_1, hx575_2⟩ := at_T68 HR1.out x13_1 p575 q575
                  cases e575
                  replace p575 := eq_true p575
                  replace q575 := eq_true q575
                  go_wp2
                  repeat (go_quiet (fail); try go_wp2)
                  go_roundg k1
                  case measure => have := HK1.out; omega
                  case rel => exact ⟨(wrap64 (x13_1 + 1)), (by first | rfl | (simp; done) | (simp [*]; done)), H', ⟨by have := HK1.out; omega⟩, by repeat (first | exact Drawn0.refl _ | apply Drawn0.step)⟩
              · rw [if_neg c7] at H
                exact absurd H (by simp)
            · rw [if_neg c6] at H
              exact absurd H (by simp)
          · rw [if_neg c5] at H
            exact absurd H (by simp)
        · rw [if_neg c4] at H
          have c4b0 : decide (x13_1 < (l0.length : Int)) = false := decide_eq_false c4
          clear c4
          obtain rfl := Option.some.inj H
          go_wp2
          repeat (go_quiet (fail); try go_wp2)
          go_ret
          exact ⟨by first | rfl | (simp; done) | (simp [*]; done), by repeat (first | exact Drawn0.refl _ | apply Drawn0.step)⟩
  · rw [if_neg c3] at H
    have c3b0 : ((l0.length : Int) == (l1.length : Int)) = false := beq_eq_false_iff_ne.mpr c3
    have c3b1 : ((l0.length : Int) != (l1.length : Int)) = true := bne_iff_ne.mpr c3
    have c3b2 : (l0.length == l1.length) = false := by first | simpa using c3 | (simp at c3 ⊢; omega)
    obtain rfl := Option.some.inj H
    go_enter Try.func50, Try.ntmps50
    go_wp2
    repeat (go_quiet (fail); try go_wp2)
    go_ret
    exact ⟨by first | rfl | (simp; done) | (simp [*]; done), by repeat (first | exact Drawn0.refl _ | apply Drawn0.step)⟩

end Go.Proofs.Ytmcgcdpiceikeaa.PAll
end
section
/- Which shards are the same, as the code and as the document tell it. -/
namespace Go.Proofs.Ytmcgcdpiceikeaa.PAll
open Go.RowKit Go.Proofs.YtmcgcdpiceikeaaW.PrintWords Go.Proofs.YtmcgcdpiceikeaaW.PrintMore Go.Proofs.Ytmcgcdpiceikeaa
set_option linter.unusedVariables false
set_option linter.unusedSimpArgs false
def eqG {α : Type} [Inhabited α] (ne : α → α → Bool) (a b : List α) : Nat → Nat → Bool
  | 0, _ => true
  | d + 1, j => !ne a[j]! b[j]! && eqG ne a b d (j + 1)
def eqL {α : Type} [Inhabited α] (ne : α → α → Bool) (a b : List α) : Bool := decide (a.length = b.length) && eqG ne a b a.length 0
theorem wrapUpS (j : Nat) (h : j < 9223372036854775807) : wrap64 ((j : Int) + 1) = ((j + 1 : Nat) : Int) := by unfold wrap64; omega
def neRow (x y : S50) : Bool := !(x.f0.toList == y.f0.toList) || (!(x.f1.toList == y.f1.toList) || (!(x.f2 == y.f2)))
theorem rdSRow (l : List S50) (j : Nat) (hj : j < l.length) : rd_T50 l (j : Int) = l[j]! := by
  simp [rd_T50, List.getD_eq_getElem?_getD, List.getElem?_eq_getElem hj, getElem!_pos l j hj]
theorem codRow_l0 (a b : List S50) (he : a.length = b.length) (hl : a.length ≤ 9223372036854775800) : ∀ (d j : Nat), d = a.length - j → j ≤ a.length → Ev (fun q => api_Row_47.l0 q a b (a.length : Int) (j : Int)) (eqG neRow a b d j) := by
  intro d
  induction d with
  | zero =>
    intro j hd hj
    exact Ev.step (f := fun _ => some true) (fun k => by simp only [api_Row_47.l0]; rw [if_neg (show ¬ (j : Int) < a.length by omega)]) (Ev.now true)
  | succ d ih =>
    intro j hd hj
    have hlt : j < a.length := by omega
    refine Ev.step (f := fun q => if neRow (a[j]!) (b[j]!) = true then some false else api_Row_47.l0 q a b (a.length : Int) ((j + 1 : Nat) : Int)) (fun k => ?_) ?_
    · simp only [api_Row_47.l0]
      rw [if_pos (show (j : Int) < a.length by omega), if_pos (show (0 : Int) ≤ j by omega), if_pos (show (j : Int) < a.length by omega), if_pos (show (j : Int) < b.length by omega), rdSRow a j hlt, rdSRow b j (by omega), wrapUpS j (by omega)]
      rfl
    · rw [eqG]
      cases neRow (a[j]!) (b[j]!) with
      | true => exact Ev.congr (fun k => if_pos rfl) (Ev.now false)
      | false => exact Ev.congr (fun k => if_neg (by simp)) (by rw [Bool.not_false, Bool.true_and]; exact ih (j + 1) (by omega) (by omega))
theorem codRow_calls (A B : Option Addr) (c d : Nat) (a b : List S50) (w : World) (hl : a.length ≤ 9223372036854775800) (hr : Kd.C k50 w A a.length a) (hc : a.length ≤ c) (hr' : Kd.C k50 w B b.length b) (hc' : b.length ≤ d) :
    Calls Try.prog 47 #[.slice A a.length c, .slice B b.length d] w fun e w' => e = .returned (.bool (eqL neRow a b)) ∧ Below w.heap.size w w' := by
  have hev : Ev (fun q => api_Row_47.f q a b) (eqL neRow a b) := by
    unfold eqL api_Row_47.f
    by_cases he : a.length = b.length
    · rw [decide_eq_true he, Bool.true_and]
      exact Ev.congr (fun k => if_pos (by omega)) (codRow_l0 a b he hl a.length 0 (by omega) (Nat.zero_le _))
    · rw [decide_eq_false he, Bool.false_and]
      exact Ev.congr (fun k => if_neg (by omega)) (Ev.now false)
  obtain ⟨q, hq⟩ := hev.rounds
  refine (api_Row_47.calls q A c a B d b _ w hr hc hr' hc' hq).mono ?_
  rintro e w' ⟨rfl, hd⟩
  exact ⟨rfl, by first | exact hd | exact hd.below⟩
theorem refRow_l0 (a b : List S50) (he : a.length = b.length) (hl : a.length ≤ 9223372036854775800) : ∀ (d j : Nat), d = a.length - j → j ≤ a.length → Ev (fun q => ferruleref11_Same.l0 q a b (j : Int)) (eqG neRow a b d j) := by
  intro d
  induction d with
  | zero =>
    intro j hd hj
    exact Ev.step (f := fun _ => some true) (fun k => by simp only [ferruleref11_Same.l0]; rw [if_neg (show ¬ (j : Int) < a.length by omega)]) (Ev.now true)
  | succ d ih =>
    intro j hd hj
    have hlt : j < a.length := by omega
    refine Ev.step (f := fun q => if neRow (a[j]!) (b[j]!) = true then some false else ferruleref11_Same.l0 q a b ((j + 1 : Nat) : Int)) (fun k => ?_) ?_
    · simp only [ferruleref11_Same.l0]
      rw [if_pos (show (j : Int) < a.length by omega), if_pos (show (0 : Int) ≤ j by omega), if_pos (show (j : Int) < b.length by omega), rdSRow a j hlt, rdSRow b j (by omega), wrapUpS j (by omega)]
      rfl
    · rw [eqG]
      cases neRow (a[j]!) (b[j]!) with
      | true => exact Ev.congr (fun k => if_pos rfl) (Ev.now false)
      | false => exact Ev.congr (fun k => if_neg (by simp)) (by rw [Bool.not_false, Bool.true_and]; exact ih (j + 1) (by omega) (by omega))
theorem refRow_calls (A B : Option Addr) (c d : Nat) (a b : List S50) (w : World) (hl : a.length ≤ 9223372036854775800) (hr : Kd.C k50 w A a.length a) (hc : a.length ≤ c) (hr' : Kd.C k50 w B b.length b) (hc' : b.length ≤ d) :
    Calls Try.prog 17 #[.slice A a.length c, .slice B b.length d] w fun e w' => e = .returned (.bool (eqL neRow a b)) ∧ Below w.heap.size w w' := by
  have hev : Ev (fun q => ferruleref11_Same.f q a b) (eqL neRow a b) := by
    unfold eqL ferruleref11_Same.f
    by_cases he : a.length = b.length
    · rw [decide_eq_true he, Bool.true_and]
      exact Ev.congr (fun k => if_pos (by omega)) (refRow_l0 a b he hl a.length 0 (by omega) (Nat.zero_le _))
    · rw [decide_eq_false he, Bool.false_and]
      exact Ev.congr (fun k => if_neg (by omega)) (Ev.now false)
  obtain ⟨q, hq⟩ := hev.rounds
  refine (ferruleref11_Same.calls q A c a B d b _ w hr hc hr' hc' hq).mono ?_
  rintro e w' ⟨rfl, hd⟩
  exact ⟨rfl, by first | exact hd | exact hd.below⟩
def neHold (x y : S75) : Bool := !(x.f0.toList == y.f0.toList) || ((!(x.f1.f0 == y.f1.f0) || (!(x.f1.f1 == y.f1.f1))) || (!(x.f2 == y.f2)))
theorem rdSHold (l : List S75) (j : Nat) (hj : j < l.length) : rd_T75 l (j : Int) = l[j]! := by
  simp [rd_T75, List.getD_eq_getElem?_getD, List.getElem?_eq_getElem hj, getElem!_pos l j hj]
theorem codHold_l0 (a b : List S75) (he : a.length = b.length) (hl : a.length ≤ 9223372036854775800) : ∀ (d j : Nat), d = a.length - j → j ≤ a.length → Ev (fun q => api_Hold_48.l0 q a b (a.length : Int) (j : Int)) (eqG neHold a b d j) := by
  intro d
  induction d with
  | zero =>
    intro j hd hj
    exact Ev.step (f := fun _ => some true) (fun k => by simp only [api_Hold_48.l0]; rw [if_neg (show ¬ (j : Int) < a.length by omega)]) (Ev.now true)
  | succ d ih =>
    intro j hd hj
    have hlt : j < a.length := by omega
    refine Ev.step (f := fun q => if neHold (a[j]!) (b[j]!) = true then some false else api_Hold_48.l0 q a b (a.length : Int) ((j + 1 : Nat) : Int)) (fun k => ?_) ?_
    · simp only [api_Hold_48.l0]
      rw [if_pos (show (j : Int) < a.length by omega), if_pos (show (0 : Int) ≤ j by omega), if_pos (show (j : Int) < a.length by omega), if_pos (show (j : Int) < b.length by omega), rdSHold a j hlt, rdSHold b j (by omega), wrapUpS j (by omega)]
      rfl
    · rw [eqG]
      cases neHold (a[j]!) (b[j]!) with
      | true => exact Ev.congr (fun k => if_pos rfl) (Ev.now false)
      | false => exact Ev.congr (fun k => if_neg (by simp)) (by rw [Bool.not_false, Bool.true_and]; exact ih (j + 1) (by omega) (by omega))
theorem codHold_calls (A B : Option Addr) (c d : Nat) (a b : List S75) (w : World) (hl : a.length ≤ 9223372036854775800) (hr : Kd.C k75 w A a.length a) (hc : a.length ≤ c) (hr' : Kd.C k75 w B b.length b) (hc' : b.length ≤ d) :
    Calls Try.prog 48 #[.slice A a.length c, .slice B b.length d] w fun e w' => e = .returned (.bool (eqL neHold a b)) ∧ Below w.heap.size w w' := by
  have hev : Ev (fun q => api_Hold_48.f q a b) (eqL neHold a b) := by
    unfold eqL api_Hold_48.f
    by_cases he : a.length = b.length
    · rw [decide_eq_true he, Bool.true_and]
      exact Ev.congr (fun k => if_pos (by omega)) (codHold_l0 a b he hl a.length 0 (by omega) (Nat.zero_le _))
    · rw [decide_eq_false he, Bool.false_and]
      exact Ev.congr (fun k => if_neg (by omega)) (Ev.now false)
  obtain ⟨q, hq⟩ := hev.rounds
  refine (api_Hold_48.calls q A c a B d b _ w hr hc hr' hc' hq).mono ?_
  rintro e w' ⟨rfl, hd⟩
  exact ⟨rfl, by first | exact hd | exact hd.below⟩
theorem refHold_l0 (a b : List S75) (he : a.length = b.length) (hl : a.length ≤ 9223372036854775800) : ∀ (d j : Nat), d = a.length - j → j ≤ a.length → Ev (fun q => ferruleref12_Same.l0 q a b (j : Int)) (eqG neHold a b d j) := by
  intro d
  induction d with
  | zero =>
    intro j hd hj
    exact Ev.step (f := fun _ => some true) (fun k => by simp only [ferruleref12_Same.l0]; rw [if_neg (show ¬ (j : Int) < a.length by omega)]) (Ev.now true)
  | succ d ih =>
    intro j hd hj
    have hlt : j < a.length := by omega
    refine Ev.step (f := fun q => if neHold (a[j]!) (b[j]!) = true then some false else ferruleref12_Same.l0 q a b ((j + 1 : Nat) : Int)) (fun k => ?_) ?_
    · simp only [ferruleref12_Same.l0]
      rw [if_pos (show (j : Int) < a.length by omega), if_pos (show (0 : Int) ≤ j by omega), if_pos (show (j : Int) < b.length by omega), rdSHold a j hlt, rdSHold b j (by omega), wrapUpS j (by omega)]
      rfl
    · rw [eqG]
      cases neHold (a[j]!) (b[j]!) with
      | true => exact Ev.congr (fun k => if_pos rfl) (Ev.now false)
      | false => exact Ev.congr (fun k => if_neg (by simp)) (by rw [Bool.not_false, Bool.true_and]; exact ih (j + 1) (by omega) (by omega))
theorem refHold_calls (A B : Option Addr) (c d : Nat) (a b : List S75) (w : World) (hl : a.length ≤ 9223372036854775800) (hr : Kd.C k75 w A a.length a) (hc : a.length ≤ c) (hr' : Kd.C k75 w B b.length b) (hc' : b.length ≤ d) :
    Calls Try.prog 29 #[.slice A a.length c, .slice B b.length d] w fun e w' => e = .returned (.bool (eqL neHold a b)) ∧ Below w.heap.size w w' := by
  have hev : Ev (fun q => ferruleref12_Same.f q a b) (eqL neHold a b) := by
    unfold eqL ferruleref12_Same.f
    by_cases he : a.length = b.length
    · rw [decide_eq_true he, Bool.true_and]
      exact Ev.congr (fun k => if_pos (by omega)) (refHold_l0 a b he hl a.length 0 (by omega) (Nat.zero_le _))
    · rw [decide_eq_false he, Bool.false_and]
      exact Ev.congr (fun k => if_neg (by omega)) (Ev.now false)
  obtain ⟨q, hq⟩ := hev.rounds
  refine (ferruleref12_Same.calls q A c a B d b _ w hr hc hr' hc' hq).mono ?_
  rintro e w' ⟨rfl, hd⟩
  exact ⟨rfl, by first | exact hd | exact hd.below⟩
def neDone (x y : S68) : Bool := (!(x.f0.f0 == y.f0.f0) || (!(x.f0.f1 == y.f0.f1))) || (!(x.f1 == y.f1))
theorem rdSDone (l : List S68) (j : Nat) (hj : j < l.length) : rd_T68 l (j : Int) = l[j]! := by
  simp [rd_T68, List.getD_eq_getElem?_getD, List.getElem?_eq_getElem hj, getElem!_pos l j hj]
theorem codDone_l0 (a b : List S68) (he : a.length = b.length) (hl : a.length ≤ 9223372036854775800) : ∀ (d j : Nat), d = a.length - j → j ≤ a.length → Ev (fun q => api_Done_50.l0 q a b (a.length : Int) (j : Int)) (eqG neDone a b d j) := by
  intro d
  induction d with
  | zero =>
    intro j hd hj
    exact Ev.step (f := fun _ => some true) (fun k => by simp only [api_Done_50.l0]; rw [if_neg (show ¬ (j : Int) < a.length by omega)]) (Ev.now true)
  | succ d ih =>
    intro j hd hj
    have hlt : j < a.length := by omega
    refine Ev.step (f := fun q => if neDone (a[j]!) (b[j]!) = true then some false else api_Done_50.l0 q a b (a.length : Int) ((j + 1 : Nat) : Int)) (fun k => ?_) ?_
    · simp only [api_Done_50.l0]
      rw [if_pos (show (j : Int) < a.length by omega), if_pos (show (0 : Int) ≤ j by omega), if_pos (show (j : Int) < a.length by omega), if_pos (show (j : Int) < b.length by omega), rdSDone a j hlt, rdSDone b j (by omega), wrapUpS j (by omega)]
      rfl
    · rw [eqG]
      cases neDone (a[j]!) (b[j]!) with
      | true => exact Ev.congr (fun k => if_pos rfl) (Ev.now false)
      | false => exact Ev.congr (fun k => if_neg (by simp)) (by rw [Bool.not_false, Bool.true_and]; exact ih (j + 1) (by omega) (by omega))
theorem codDone_calls (A B : Option Addr) (c d : Nat) (a b : List S68) (w : World) (hl : a.length ≤ 9223372036854775800) (hr : Kd.C k68 w A a.length a) (hc : a.length ≤ c) (hr' : Kd.C k68 w B b.length b) (hc' : b.length ≤ d) :
    Calls Try.prog 50 #[.slice A a.length c, .slice B b.length d] w fun e w' => e = .returned (.bool (eqL neDone a b)) ∧ Below w.heap.size w w' := by
  have hev : Ev (fun q => api_Done_50.f q a b) (eqL neDone a b) := by
    unfold eqL api_Done_50.f
    by_cases he : a.length = b.length
    · rw [decide_eq_true he, Bool.true_and]
      exact Ev.congr (fun k => if_pos (by omega)) (codDone_l0 a b he hl a.length 0 (by omega) (Nat.zero_le _))
    · rw [decide_eq_false he, Bool.false_and]
      exact Ev.congr (fun k => if_neg (by omega)) (Ev.now false)
  obtain ⟨q, hq⟩ := hev.rounds
  refine (api_Done_50.calls q A c a B d b _ w hr hc hr' hc' hq).mono ?_
  rintro e w' ⟨rfl, hd⟩
  exact ⟨rfl, by first | exact hd | exact hd.below⟩
def sameOpenV (x y : S48) : Bool := sameTx x.f0 y.f0 && ((x.f1 == y.f1) && ((x.f2 == y.f2) && samePutsV x.f3 y.f3))
def neOpen (x y : S48) : Bool := !sameOpenV x y
/-- Which shards are the same. -/
def same13V (rs : List S50) (hs : List S75) (os : List S48) (ds : List S68) (ver : Int) (rs' : List S50) (hs' : List S75) (os' : List S48) (ds' : List S68) (ver' : Int) : Bool := (ver == ver') && (eqL neRow rs rs' && (eqL neHold hs hs' && (eqL neOpen os os' && eqL neDone ds ds')))
def oagg13 (x : S48) (P : Option Addr) (pc : Nat) : Value := .agg #[.int .u64 x.f0.f0, .int .u64 x.f0.f1, .bool x.f1, .bool x.f2, .slice P x.f3.length pc]
set_option maxHeartbeats 2000000 in
theorem sameOpen1 (x y : S48) (P Q : Option Addr) (pc qc : Nat) (w : World) (hp : Kd.C k54 w P x.f3.length x.f3) (hpc : x.f3.length ≤ pc) (hq : Kd.C k54 w Q y.f3.length y.f3) (hqc : y.f3.length ≤ qc) :
    Calls Try.prog 45 #[oagg13 x P pc, oagg13 y Q qc] w fun e w' => e = .returned (.bool (sameOpenV x y)) ∧ Below w.heap.size w w' := by
  obtain ⟨⟨xa, xi⟩, xf, xw, xp⟩ := x
  obtain ⟨⟨ya, yi⟩, yf, yw, yp⟩ := y
  unfold oagg13 sameOpenV sameTx
  dsimp only at *
  have hx := stayA (heap_alloc_new w (.cells #[.int .u64 xa, .int .u64 xi, .bool xf, .bool xw, .slice P xp.length pc] 48)) (.cells #[.int .u64 ya, .int .u64 yi, .bool yf, .bool yw, .slice Q yp.length qc] 48)
  have hy := heap_alloc_new (w.alloc (.cells #[.int .u64 xa, .int .u64 xi, .bool xf, .bool xw, .slice P xp.length pc] 48)) (.cells #[.int .u64 ya, .int .u64 yi, .bool yf, .bool yw, .slice Q yp.length qc] 48)
  rw [World.size_alloc] at hy
  have hB := ((Below.refl w.heap.size w).alloc (Nat.le_refl _) (.cells #[.int .u64 xa, .int .u64 xi, .bool xf, .bool xw, .slice P xp.length pc] 48)).alloc (by simp) (.cells #[.int .u64 ya, .int .u64 yi, .bool yf, .bool yw, .slice Q yp.length qc] 48)
  have HE := Aside0.mk (eqPut_calls P Q pc qc xp yp _ (Kd.C_below hp hB) hpc (Kd.C_below hq hB) hqc)
  have HB := Aside0.mk hB
  clear hp hq hB
  go_enter Try.func45, Try.ntmps45
  have HX := Aside0.mk hx
  have HY := Aside0.mk hy
  clear hx hy
  go_upto_region 1 with (fail)
  change Code.wp _ _ _ _ ((w.alloc (.cells #[.int .u64 xa, .int .u64 xi, .bool xf, .bool xw, .slice P xp.length pc] 48)).alloc (.cells #[.int .u64 ya, .int .u64 yi, .bool yf, .bool yw, .slice Q yp.length qc] 48))
  generalize (w.alloc (.cells #[.int .u64 xa, .int .u64 xi, .bool xf, .bool xw, .slice P xp.length pc] 48)).alloc (.cells #[.int .u64 ya, .int .u64 yi, .bool yf, .bool yw, .slice Q yp.length qc] 48) = w1 at *
  obtain ⟨hx0, hx1, hx2, hx3, hx4⟩ := cells_5 HX.out
  obtain ⟨hy0, hy1, hy2, hy3, hy4⟩ := cells_5 HY.out
  by_cases ha : xa = ya
  · subst ha
    by_cases hi : xi = yi
    · subst hi
      by_cases hf : xf = yf
      · subst hf
        by_cases hw : xw = yw
        · subst hw
          go_wp2_with (go_at_call 46; refine (HE.out).mono ?_; rintro e w2 ⟨rfl, hb2⟩; have HB2 := Aside0.mk (show Below w1.heap.size w1 w2 from by first | exact hb2 | exact hb2.below))
          go_ret
          exact ⟨by simp, HB.out.trans (HB2.out.mono HB.out.size)⟩
        · have hwb : (xw == yw) = false := beq_eq_false_iff_ne.2 hw
          clear hw
          go_wp2
          go_ret
          exact ⟨by simp [hwb], HB.out⟩
      · have hfb : (xf == yf) = false := beq_eq_false_iff_ne.2 hf
        clear hf
        go_wp2
        go_ret
        exact ⟨by simp [hfb], HB.out⟩
    · have hib : (xi == yi) = false := beq_eq_false_iff_ne.2 hi
      go_wp2
      go_ret
      exact ⟨by simp [hib], HB.out⟩
  · have hab : (xa == ya) = false := beq_eq_false_iff_ne.2 ha
    go_wp2
    go_ret
    exact ⟨by simp [hab], HB.out⟩
theorem equalFuncOpen (A B : Option Addr) (c d : Nat) (a b : List S48) (w : World) (hr : Kd.C k48 w A a.length a) (hc : a.length ≤ c) (hr' : Kd.C k48 w B b.length b) (hc' : b.length ≤ d) :
    Calls Try.prog 49 #[.slice A a.length c, .slice B b.length d, .func (.func 45) #[] #[]] w fun e w' => e = .returned (.bool (eqL neOpen a b)) ∧ Below w.heap.size w w' := by
  have ha63 : a.length ≤ 9223372036854775807 := hr.2.1
  have hb63 : b.length ≤ 9223372036854775807 := hr'.2.1
  have HR := Aside0.mk hr
  have HS := Aside0.mk hr'
  clear hr hr'
  go_enter Try.func49, Try.ntmps49
  by_cases hne : a.length = b.length
  · have hnz : (a.length : Int) = (b.length : Int) := by omega
    have hnb : ((a.length : Int) != (b.length : Int)) = false := by rw [hnz]; simp
    have hnb2 : ((b.length : Int) != (b.length : Int)) = false := by simp
    have HV : Aside0 (eqL neOpen a b = eqG neOpen a b a.length 0) := ⟨by unfold eqL; rw [decide_eq_true hne, Bool.true_and]⟩
    have HNE := Aside0.mk hne
    clear hne hnz hnb2
    go_wp2
    go_loopg [17] a.length (fun gg s17 wv => ∃ kk : Nat, kk ≤ a.length ∧ a.length - kk ≤ gg ∧ s17 = .int .i64 kk ∧ Aside0 (Below w.heap.size w wv) ∧ Aside0 (eqL neOpen a b = eqG neOpen a b (a.length - kk) kk))
    case atStart => exact ⟨0, Nat.zero_le _, by omega, rfl, ⟨Below.refl _ _⟩, HV⟩
    case round =>
      clear HV
      obtain ⟨kk, hkk, hgk, rfl, HB, HV⟩ := hrel
      by_cases hlt : kk < a.length
      · have hltz : (kk : Int) < (a.length : Int) := by omega
        have hltb : (kk : Int) < (b.length : Int) := by have := HNE.out; omega
        have hkz : (0 : Int) ≤ (kk : Int) := by omega
        have hstep : eqG neOpen a b (a.length - kk) kk = (!neOpen a[kk]! b[kk]! && eqG neOpen a b (a.length - (kk + 1)) (kk + 1)) := by
          rw [show a.length - kk = (a.length - (kk + 1)) + 1 by omega]
          rfl
        have HST := Aside0.mk (HV.out.trans hstep)
        clear hstep
        obtain ⟨ab, ao, rfl, P, pc, hpc, hpr, ha0, ha1, ha2, ha3, ha4⟩ := openRow (Kd.C_below HR.out HB.out) kk hlt
        obtain ⟨bb, bo, rfl, Q, qc, hqc, hqr, hb0, hb1, hb2, hb3, hb4⟩ := openRow (Kd.C_below HS.out HB.out) kk (by have := HNE.out; omega)
        have hal : ab < wr.heap.size := World.block_lt_of_cell? _ _ ha0
        have hbl : bb < wr.heap.size := World.block_lt_of_cell? _ _ hb0
        have HC := Aside0.mk (fun (W : World) (h : Below wr.heap.size wr W) => sameOpen1 a[kk]! b[kk]! P Q pc qc W (Kd.C_below hpr h) hpc (Kd.C_below hqr h) hqc)
        unfold oagg13 at HC
        rw [show neOpen a[kk]! b[kk]! = !sameOpenV a[kk]! b[kk]! from rfl] at HST
        generalize sameOpenV a[kk]! b[kk]! = sv at *
        clear hpr hqr
        generalize a[kk]! = x at *
        generalize b[kk]! = y at *
        obtain ⟨⟨xa, xi⟩, xf, xw, xp⟩ := x
        obtain ⟨⟨ya, yi⟩, yf, yw, yp⟩ := y
        dsimp only at *
        have HB2 := Aside0.mk (((Below.refl wr.heap.size wr).alloc (Nat.le_refl _) (.cells #[.int .u64 xa, .int .u64 xi, .bool xf, .bool xw, .slice P xp.length pc] 48)).alloc (by simp) (.cells #[.int .u64 ya, .int .u64 yi, .bool yf, .bool yw, .slice Q yp.length qc] 48))
        cases sv with
        | true =>
          go_wp2_with (go_at_call 45; refine (HC.out _ HB2.out).mono ?_; rintro e w3 ⟨rfl, hb3⟩; have HB3 := Aside0.mk hb3; clear hb3)
          go_roundg (a.length - (kk + 1))
          case measure => omega
          case rel => exact ⟨kk + 1, by omega, by omega, by go_num, ⟨HB.out.trans ((HB2.out.trans (HB3.out.mono HB2.out.size)).mono HB.out.size)⟩, ⟨HST.out⟩⟩
        | false =>
          go_wp2_with (go_at_call 45; refine (HC.out _ HB2.out).mono ?_; rintro e w3 ⟨rfl, hb3⟩; have HB3 := Aside0.mk hb3; clear hb3)
          go_ret
          exact ⟨by rw [HST.out]; rfl, HB.out.trans ((HB2.out.trans (HB3.out.mono HB2.out.size)).mono HB.out.size)⟩
      · have hltz : ¬ (kk : Int) < (a.length : Int) := by omega
        have hk0 : a.length - kk = 0 := by omega
        rw [hk0] at HV
        go_wp2
        go_ret
        exact ⟨by rw [HV.out]; first | done | rfl, HB.out⟩
  · have hnz : ¬ (a.length : Int) = (b.length : Int) := by omega
    have hnb : ((a.length : Int) != (b.length : Int)) = true := bne_iff_ne.2 hnz
    have HV : Aside0 (eqL neOpen a b = false) := ⟨by unfold eqL; rw [decide_eq_false hne, Bool.false_and]⟩
    go_wp2
    go_ret
    exact ⟨by rw [HV.out]; first | done | rfl, Below.refl _ _⟩
end Go.Proofs.Ytmcgcdpiceikeaa.PAll
end
