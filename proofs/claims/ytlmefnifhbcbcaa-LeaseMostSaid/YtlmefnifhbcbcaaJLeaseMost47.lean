/- Joined texts of the claim LeaseMost (part 47): contracts of functions and plain laws. -/
import Derived.Test.YtlmefnifhbcbcaaJLeaseMost32
import Derived.Test.YtlmefnifhbcbcaaJLeaseMost40
import Derived.Test.YtlmefnifhbcbcaaJLeaseMost46
section
/- Plain laws of groups: what is agreed is had by a majority, and rises with the numbers. -/
namespace Go.Proofs.Ytlmefnifhbcbcaa.PAll
open Go.RowKit Go.Proofs.YtlmefnifhbcbcaaW.PrintWords Go.Proofs.YtlmefnifhbcbcaaW.PrintMore Go.Proofs.Ytlmefnifhbcbcaa
set_option linter.unusedVariables false
theorem findI_cons {α : Type} (p : α → Bool) (x : α) (r : List α) : findI p (x :: r) = if p x = true then 0 else if findI p r < 0 then -1 else findI p r + 1 := by
  unfold findI
  rw [List.findIdx_cons]
  cases h : p x with
  | true => rw [if_pos rfl]; simp
  | false =>
    show (if r.findIdx p + 1 < (x :: r).length then ((r.findIdx p + 1 : Nat) : Int) else -1) = (if (if r.findIdx p < r.length then ((r.findIdx p : Nat) : Int) else -1) < 0 then -1 else (if r.findIdx p < r.length then ((r.findIdx p : Nat) : Int) else -1) + 1)
    by_cases c : r.findIdx p < r.length
    · rw [if_pos c, if_pos (show r.findIdx p + 1 < (x :: r).length by rw [List.length_cons]; omega), if_neg (show ¬ ((r.findIdx p : Nat) : Int) < 0 by omega)]
      omega
    · rw [if_neg c, if_neg (show ¬ r.findIdx p + 1 < (x :: r).length by rw [List.length_cons]; omega), if_pos (show (-1 : Int) < 0 by omega)]
theorem markV_cons (x : S39) (r : List S39) (id : Int) : markV (x :: r) id = if x.f0 = id then x.f1 else markV r id := by
  unfold markV
  rw [findI_cons]
  by_cases c : x.f0 = id
  · rw [if_pos c, if_pos (show (x.f0 == id) = true from beq_iff_eq.2 c)]
    rfl
  · rw [if_neg c, if_neg (fun h => c (beq_iff_eq.1 h))]
    rcases findI_two (fun x : S39 => x.f0 == id) r with h | ⟨i, hi, h⟩
    · rw [h]; rfl
    · rw [h, if_neg (show ¬ (i : Int) < 0 by omega), if_neg (show ¬ (i : Int) + 1 < 0 by omega), if_neg (show ¬ (i : Int) < 0 by omega), Int.toNat_natCast, show ((i : Int) + 1).toNat = i + 1 by omega, getElem!_pos (x :: r) (i + 1) (by simp; omega), getElem!_pos r i hi, List.getElem_cons_succ]
theorem setV_cons (x : S39) (r : List S39) (id w : Int) : setV (x :: r) id w = if x.f0 = id then ⟨x.f0, w⟩ :: r else x :: setV r id w := by
  unfold setV
  rw [findI_cons]
  by_cases c : x.f0 = id
  · rw [if_pos c, if_pos (isM_t c)]
    rfl
  · rw [if_neg c, if_neg (show ¬ isM id x = true from fun h => c (beq_iff_eq.1 h))]
    rcases findI_two (isM id) r with h | ⟨i, hi, h⟩
    · rw [h]; rfl
    · rw [h, if_neg (show ¬ (i : Int) < 0 by omega), if_neg (show ¬ (i : Int) + 1 < 0 by omega), if_neg (show ¬ (i : Int) < 0 by omega), Int.toNat_natCast, show ((i : Int) + 1).toNat = i + 1 by omega, getElem!_pos (x :: r) (i + 1) (by simp; omega), getElem!_pos r i hi, List.getElem_cons_succ, List.set_cons_succ]
theorem setV_nil (id w : Int) : setV [] id w = [⟨id, w⟩] := rfl
theorem markV_nil (id : Int) : markV [] id = 0 := rfl
theorem markV_set (id w y : Int) : ∀ m : List S39, markV (setV m id w) y = if y = id then w else markV m y
  | [] => by
    rw [setV_nil, markV_cons, markV_nil]
    by_cases c : y = id
    · rw [if_pos c, if_pos c.symm]
    · rw [if_neg c, if_neg (fun e => c e.symm)]
  | x :: r => by
    rw [setV_cons, markV_cons x r y]
    by_cases c : x.f0 = id
    · rw [if_pos c, markV_cons]
      by_cases d : y = id
      · rw [if_pos d, if_pos (show x.f0 = y by rw [c, d])]
      · rw [if_neg d]
        have : ¬ x.f0 = y := fun e => d (by rw [← e, c])
        rw [if_neg this, if_neg this]
    · rw [if_neg c, markV_cons, markV_set id w y r]
      by_cases d : x.f0 = y
      · rw [if_pos d, if_pos d, if_neg (fun e => c (by rw [d, e]))]
      · rw [if_neg d, if_neg d]
theorem setV_nat (id w : Int) (hw : 0 ≤ w) : ∀ m : List S39, natM m = true → natM (setV m id w) = true
  | [], _ => by rw [setV_nil]; unfold natM; simpa using hw
  | x :: r, h => by
    unfold natM at h
    rw [List.all_cons, Bool.and_eq_true] at h
    rw [setV_cons]
    split
    · unfold natM
      rw [List.all_cons, Bool.and_eq_true]
      exact ⟨decide_eq_true hw, h.2⟩
    · unfold natM
      rw [List.all_cons, Bool.and_eq_true]
      exact ⟨h.1, setV_nat id w hw r h.2⟩
theorem markV_nat (id : Int) : ∀ m : List S39, natM m = true → 0 ≤ markV m id
  | [], _ => by rw [markV_nil]; omega
  | x :: r, h => by
    unfold natM at h
    rw [List.all_cons, Bool.and_eq_true, decide_eq_true_eq] at h
    rw [markV_cons]
    split
    · exact h.1
    · exact markV_nat id r h.2
theorem cntGe_map (f : Int → Int) (n : Int) : ∀ v : List Int, cntGe (v.map f) n = (v.filter (fun x => decide (n ≤ f x))).length
  | [] => rfl
  | x :: r => by
    have := cntGe_map f n r
    unfold cntGe at *
    rw [List.map_cons, List.filter_cons, List.filter_cons]
    split
    · rw [List.length_cons, List.length_cons, this]
    · exact this
theorem agr_nat (v : List Int) (m : List S39) : 0 ≤ agrV v m := (bestV_spec (valsV v m) (valsV v m) 0).1
/-- The nodes that have what is agreed. -/
def havV (v : List Int) (m : List S39) : List Int := v.filter (fun x => decide (agrV v m ≤ markV m x))
theorem hav_most {v l : List Int} {m : List S39} (hm : mayV v l = true) (hn : natM m = true) : mostV v (havV v m) = true := by
  obtain ⟨m1, m2, m3, m4, m5, m6⟩ := mayV_ok hm
  rw [most_cnt m4]
  have hl : (valsV v m).length = v.length := by unfold valsV; rw [List.length_map]
  have e1 : cntH v (havV v m) = (v.filter (fun x => decide (agrV v m ≤ markV m x))).length := by
    unfold cntH
    congr 1
    apply List.filter_congr
    intro x hx
    rw [Bool.eq_iff_iff, hasI_iff]
    unfold havV
    rw [List.mem_filter]
    exact ⟨fun h => h.2, fun h => ⟨hx, h⟩⟩
  have e2 : (v.filter (fun x => decide (agrV v m ≤ markV m x))).length = cntGe (valsV v m) (agrV v m) := (cntGe_map (markV m) (agrV v m) v).symm
  apply decide_eq_true
  rw [e1, e2]
  have hs := bestV_spec (valsV v m) (valsV v m) 0
  rcases hs.2.1 with e | ⟨hq, hcand⟩
  · have : cntGe (valsV v m) (agrV v m) = v.length := by
      rw [← e2, List.filter_eq_self.2 (fun x hx => decide_eq_true (by rw [show agrV v m = 0 from e]; exact markV_nat x m hn))]
    omega
  · have hc : cand (valsV v m) (agrV v m) := hcand
    unfold cand at hc
    rw [hl] at hc
    omega
end Go.Proofs.Ytlmefnifhbcbcaa.PAll
end
