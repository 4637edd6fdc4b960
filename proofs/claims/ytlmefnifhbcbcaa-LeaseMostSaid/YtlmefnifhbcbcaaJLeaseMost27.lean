/- Joined texts of the claim LeaseMost (part 27): contracts of functions and plain laws. -/
import Derived.Test.YtlmefnifhbcbcaaJLeaseMost12
import Derived.Test.YtlmefnifhbcbcaaJLeaseMost23
import Derived.Test.YtlmefnifhbcbcaaJLeaseMost24
import Derived.Test.YtlmefnifhbcbcaaJLeaseMost26
section
/- Plain laws of groups: lists that rise, and what is in a list. -/
namespace Go.Proofs.Ytlmefnifhbcbcaa.PAll
open Go.RowKit Go.Proofs.YtlmefnifhbcbcaaW.PrintWords Go.Proofs.YtlmefnifhbcbcaaW.PrintMore Go.Proofs.Ytlmefnifhbcbcaa
set_option linter.unusedVariables false
theorem wrapUp (j : Nat) (h : j < 9223372036854775807) : wrap64 ((j : Int) + 1) = ((j + 1 : Nat) : Int) := by unfold wrap64; omega
theorem wrapDown (j : Nat) (h : 0 < j) (h2 : j < 9223372036854775807) : wrap64 ((j : Int) - 1) = ((j - 1 : Nat) : Int) := by unfold wrap64; omega
theorem getMem {α : Type} [Inhabited α] (l : List α) (j : Nat) (hj : j < l.length) : l[j]! ∈ l := by rw [getElem!_pos l j hj]; exact List.getElem_mem hj
theorem dropGet {α : Type} [Inhabited α] (l : List α) (j : Nat) (hj : j < l.length) : l.drop j = l[j]! :: l.drop (j + 1) := by rw [List.drop_eq_getElem_cons hj, getElem!_pos l j hj]
theorem takeGet {α : Type} [Inhabited α] (l : List α) (j : Nat) (hj : j < l.length) : l.take (j + 1) = l.take j ++ [l[j]!] := by rw [List.take_succ_eq_append_getElem hj, getElem!_pos l j hj]
theorem rd_int (l : List Int) (j : Nat) (hj : j < l.length) : rd l (j : Int) = l[j]! := by
  simp [rd, List.getD_eq_getElem?_getD, List.getElem?_eq_getElem hj, getElem!_pos l j hj]
def hasI (l : List Int) (x : Int) : Bool := l.any (fun y => y == x)
theorem hasI_iff {l : List Int} {x : Int} : hasI l x = true ↔ x ∈ l := by unfold hasI; simp
def okN (l : List Int) (j : Nat) : Bool := decide (1 ≤ l[j]!) && decide (l[j]! ≤ 63) && (decide (j = 0) || decide (l[j - 1]! < l[j]!))
def allN (l : List Int) : Nat → Nat → Bool
  | 0, _ => true
  | d + 1, j => okN l j && allN l d (j + 1)
def risesB (l : List Int) : Bool := allN l l.length 0
theorem allN_iff (l : List Int) : ∀ (d j : Nat), allN l d j = true ↔ ∀ i, j ≤ i → i < j + d → okN l i = true
  | 0, j => by simp [allN]; omega
  | d + 1, j => by
    rw [allN, Bool.and_eq_true, allN_iff l d (j + 1)]
    constructor
    · rintro ⟨h1, h2⟩ i hi1 hi2
      by_cases e : i = j
      · subst e; exact h1
      · exact h2 i (by omega) (by omega)
    · exact fun h => ⟨h j (Nat.le_refl _) (by omega), fun i h1 h2 => h i (by omega) (by omega)⟩
theorem rises_l0 (l : List Int) (hl : l.length ≤ 9223372036854775806) : ∀ (d j : Nat), d = l.length - j → j ≤ l.length → Ev (fun q => group_rises.l0 q l l (l.length : Int) (j : Int)) (allN l d j) := by
  intro d
  induction d with
  | zero =>
    intro j hd hj
    exact Ev.step (f := fun _ => some true) (fun q => by simp only [group_rises.l0]; rw [if_neg (show ¬ (j : Int) < l.length by omega)]) (Ev.now true)
  | succ d ih =>
    intro j hd hj
    have hlt : j < l.length := by omega
    have ih' := ih (j + 1) (by omega) (by omega)
    rw [allN]
    refine Ev.step (f := fun q => if okN l j = true then group_rises.l0 q l l (l.length : Int) ((j + 1 : Nat) : Int) else some false) (fun q => ?_) ?_
    · simp only [group_rises.l0]
      rw [if_pos (show (j : Int) < l.length by omega), if_pos (show (0 : Int) ≤ j by omega), if_pos (show (j : Int) < l.length by omega), rd_int l j hlt, wrapUp j (by omega)]
      unfold okN
      by_cases c1 : l[j]! < 1
      · rw [if_pos c1, decide_eq_false (show ¬ 1 ≤ l[j]! by omega)]; rfl
      · rw [if_neg c1, decide_eq_true (show 1 ≤ l[j]! by omega)]
        by_cases c2 : l[j]! > 63
        · rw [if_pos c2, decide_eq_false (show ¬ l[j]! ≤ 63 by omega)]; rfl
        · rw [if_neg c2, decide_eq_true (show l[j]! ≤ 63 by omega)]
          by_cases c3 : j = 0
          · rw [if_neg (show ¬ (j : Int) > 0 by omega), decide_eq_true c3]; rfl
          · rw [if_pos (show (j : Int) > 0 by omega), wrapDown j (by omega) (by omega), if_pos (show (0 : Int) ≤ ((j - 1 : Nat) : Int) by omega), if_pos (show ((j - 1 : Nat) : Int) < l.length by omega), rd_int l (j - 1) (by omega), decide_eq_false c3]
            by_cases c4 : l[j - 1]! < l[j]!
            · rw [if_neg (show ¬ l[j - 1]! ≥ l[j]! by omega), decide_eq_true c4]; rfl
            · rw [if_pos (show l[j - 1]! ≥ l[j]! by omega), decide_eq_false c4]; rfl
    · cases okN l j with
      | true => exact Ev.congr (fun q => if_pos rfl) (by rw [Bool.true_and]; exact ih')
      | false => exact Ev.congr (fun q => if_neg (by decide)) (Ev.now false)
theorem rises_ev (l : List Int) (hl : l.length ≤ 9223372036854775806) : Ev (fun q => group_rises.f q l) (risesB l) := rises_l0 l hl l.length 0 (by omega) (by omega)
theorem Contains_l0 (l : List Int) (x : Int) (hl : l.length ≤ 9223372036854775806) : ∀ (d j : Nat), d = l.length - j → j ≤ l.length → ∃ r, Ev (fun q => slices_Index_uint64_uint64.l0 q l x (l.length : Int) (j : Int)) r ∧ decide (r ≥ 0) = hasI (l.drop j) x := by
  intro d
  induction d with
  | zero =>
    intro j hd hj
    rw [List.drop_eq_nil_of_le (by omega)]
    exact ⟨-1, Ev.step (f := fun _ => some (-1)) (fun q => by simp only [slices_Index_uint64_uint64.l0]; rw [if_neg (show ¬ (j : Int) < l.length by omega)]) (Ev.now _), rfl⟩
  | succ d ih =>
    intro j hd hj
    have hlt : j < l.length := by omega
    rw [dropGet l j hlt]
    unfold hasI
    rw [List.any_cons]
    by_cases c : x = l[j]!
    · rw [beq_iff_eq.2 c.symm, Bool.true_or]
      exact ⟨j, Ev.step (f := fun _ => some (j : Int)) (fun q => by simp only [slices_Index_uint64_uint64.l0]; rw [if_pos (show (j : Int) < l.length by omega), if_pos (show (0 : Int) ≤ j by omega), if_pos (show (j : Int) < l.length by omega), rd_int l j hlt, if_pos c]) (Ev.now _), decide_eq_true (by omega)⟩
    · rw [beq_eq_false_iff_ne.2 (fun e => c e.symm), Bool.false_or]
      obtain ⟨r, h1, h2⟩ := ih (j + 1) (by omega) (by omega)
      exact ⟨r, Ev.step (fun q => by simp only [slices_Index_uint64_uint64.l0]; rw [if_pos (show (j : Int) < l.length by omega), if_pos (show (0 : Int) ≤ j by omega), if_pos (show (j : Int) < l.length by omega), rd_int l j hlt, if_neg c, wrapUp j (by omega)]) h1, h2⟩
theorem Contains_ev (l : List Int) (x : Int) (hl : l.length ≤ 9223372036854775806) : Ev (fun q => slices_Contains_uint64_uint64.f q l x) (hasI l x) := by
  obtain ⟨r, h1, h2⟩ := Contains_l0 l x hl l.length 0 (by omega) (by omega)
  unfold slices_Contains_uint64_uint64.f
  refine Ev.bind h1 ?_
  rw [h2]
  exact Ev.now _
def mayV (v l : List Int) : Bool := decide (1 ≤ v.length) && decide (v.length ≤ 7) && decide (l.length ≤ 3) && risesB v && risesB l && l.all (fun x => !hasI v x)
end Go.Proofs.Ytlmefnifhbcbcaa.PAll
end
