/- Joined texts of the claim LeaseMost (part 31): contracts of functions and plain laws. -/
import Derived.Test.YtlmefnifhbcbcaaJLeaseMost27
import Derived.Test.YtlmefnifhbcbcaaJLeaseMost29
import Derived.Test.YtlmefnifhbcbcaaJLeaseMost30
section
/- Groups: what a majority has, in plain words. -/
namespace Go.Proofs.Ytlmefnifhbcbcaa.PAll
open Go.RowKit Go.Proofs.YtlmefnifhbcbcaaW.PrintWords Go.Proofs.YtlmefnifhbcbcaaW.PrintMore Go.Proofs.Ytlmefnifhbcbcaa
set_option linter.unusedVariables false
def markV (m : List S39) (id : Int) : Int := if findI (fun x : S39 => x.f0 == id) m < 0 then 0 else (m[(findI (fun x : S39 => x.f0 == id) m).toNat]!).f1
theorem rd_mark (l : List S39) (j : Nat) (hj : j < l.length) : rd_T39 l (j : Int) = l[j]! := by
  simp [rd_T39, List.getD_eq_getElem?_getD, List.getElem?_eq_getElem hj, getElem!_pos l j hj]
theorem findI_two {α : Type} (p : α → Bool) (l : List α) : findI p l = -1 ∨ ∃ i : Nat, i < l.length ∧ findI p l = i := by
  unfold findI
  by_cases h : l.findIdx p < l.length
  · rw [if_pos h]; exact .inr ⟨_, h, rfl⟩
  · rw [if_neg h]; exact .inl rfl
theorem Mark_eq (m : List S39) (id : Int) : group_Mark.f m id = some (markV m id, decide (0 ≤ findI (fun x : S39 => x.f0 == id) m)) := by
  unfold group_Mark.f group_of.f markV
  simp only [Option.bind_some]
  rcases findI_two (fun x : S39 => x.f0 == id) m with h | ⟨i, hi, h⟩
  · rw [h]; rfl
  · rw [h, if_neg (by omega), if_pos (by omega), if_pos (by omega), if_neg (by omega), rd_mark m i hi, decide_eq_true (by omega)]; rfl
def valsV (l : List Int) (m : List S39) : List Int := l.map (markV m)
def cntGe (l : List Int) (x : Int) : Nat := (l.filter (fun y => decide (x ≤ y))).length
def bestV (all : List Int) : List Int → Int → Int
  | [], b => b
  | x :: r, b => bestV all r (if (cntGe all x : Int) ≥ (all.length : Int) / 2 + 1 then (if x > b then x else b) else b)
def agrV (l : List Int) (m : List S39) : Int := bestV (valsV l m) (valsV l m) 0
def natM (m : List S39) : Bool := m.all (fun x => decide (0 ≤ x.f1))
end Go.Proofs.Ytlmefnifhbcbcaa.PAll
end
