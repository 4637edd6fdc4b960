/- Joined texts of the claim LeaseUntil (part 47): contracts of functions and plain laws. -/
import Derived.LoopTactic
import Derived.Outline
import Derived.Test.YtlmefnifhbcbcaaJLeaseUntil11
import Derived.Test.YtlmefnifhbcbcaaJLeaseUntil14
import Derived.Test.YtlmefnifhbcbcaaJLeaseUntil25
import Derived.Test.YtlmefnifhbcbcaaJLeaseUntil27
import Derived.Test.YtlmefnifhbcbcaaJLeaseUntil30
import Derived.Test.YtlmefnifhbcbcaaJLeaseUntil31
import Derived.Test.YtlmefnifhbcbcaaJLeaseUntil33
import Derived.Test.YtlmefnifhbcbcaaJLeaseUntil35
import Derived.Test.YtlmefnifhbcbcaaJLeaseUntil37
section
/- Plain laws of groups: what is agreed is had by a majority, and rises with the numbers. -/
namespace Go.Proofs.Ytlmefnifhbcbcaa.PAll
open Go.RowKit Go.Proofs.YtlmefnifhbcbcaaW.PrintWords Go.Proofs.YtlmefnifhbcbcaaW.PrintMore Go.Proofs.Ytlmefnifhbcbcaa
set_option linter.unusedVariables false
theorem findI_cons {α : Type} (p : α → Bool) (x : α) (r : List α) : findI p (x :: r) = if p x = true then 0 else if findI p r < 0 then -1 else findI p r + 1 := by
  unfold findI
  rw [List.findIdx_cons]
  cases h : p x with
  | true => rw [if_pos rfl]; simp
  | false =>
    show (if r.findIdx p + 1 < (x :: r).length then ((r.findIdx p + 1 : Nat) : Int) else -1) = (if (if r.findIdx p < r.length then ((r.findIdx p : Nat) : Int) else -1) < 0 then -1 else (if r.findIdx p < r.length then ((r.findIdx p : Nat) : Int) else -1) + 1)
    by_cases c : r.findIdx p < r.length
    · rw [if_pos c, if_pos (show r.findIdx p + 1 < (x :: r).length by rw [List.length_cons]; omega), if_neg (show ¬ ((r.findIdx p : Nat) : Int) < 0 by omega)]
      omega
    · rw [if_neg c, if_neg (show ¬ r.findIdx p + 1 < (x :: r).length by rw [List.length_cons]; omega), if_pos (show (-1 : Int) < 0 by omega)]
theorem setV_cons (x : S39) (r : List S39) (id w : Int) : setV (x :: r) id w = if x.f0 = id then ⟨x.f0, w⟩ :: r else x :: setV r id w := by
  unfold setV
  rw [findI_cons]
  by_cases c : x.f0 = id
  · rw [if_pos c, if_pos (isM_t c)]
    rfl
  · rw [if_neg c, if_neg (show ¬ isM id x = true from fun h => c (beq_iff_eq.1 h))]
    rcases findI_two (isM id) r with h | ⟨i, hi, h⟩
    · rw [h]; rfl
    · rw [h, if_neg (show ¬ (i : Int) < 0 by omega), if_neg (show ¬ (i : Int) + 1 < 0 by omega), if_neg (show ¬ (i : Int) < 0 by omega), Int.toNat_natCast, show ((i : Int) + 1).toNat = i + 1 by omega, getElem!_pos (x :: r) (i + 1) (by simp; omega), getElem!_pos r i hi, List.getElem_cons_succ, List.set_cons_succ]
theorem setV_nil (id w : Int) : setV [] id w = [⟨id, w⟩] := rfl
theorem setV_nat (id w : Int) (hw : 0 ≤ w) : ∀ m : List S39, natM m = true → natM (setV m id w) = true
  | [], _ => by rw [setV_nil]; unfold natM; simpa using hw
  | x :: r, h => by
    unfold natM at h
    rw [List.all_cons, Bool.and_eq_true] at h
    rw [setV_cons]
    split
    · unfold natM
      rw [List.all_cons, Bool.and_eq_true]
      exact ⟨decide_eq_true hw, h.2⟩
    · unfold natM
      rw [List.all_cons, Bool.and_eq_true]
      exact ⟨h.1, setV_nat id w hw r h.2⟩
theorem agr_nat (v : List Int) (m : List S39) : 0 ≤ agrV v m := (bestV_spec (valsV v m) (valsV v m) 0).1
end Go.Proofs.Ytlmefnifhbcbcaa.PAll
end
