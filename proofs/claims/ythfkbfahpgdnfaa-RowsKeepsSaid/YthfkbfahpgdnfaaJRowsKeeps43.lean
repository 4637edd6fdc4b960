/- Joined texts of the claim RowsKeeps (part 43): contracts of functions and plain laws. -/
import Derived.BigQuiet
import Derived.ChangeAlike
import Derived.Deep.QuietTactic
import Derived.RegionTactic
import Derived.Test.YthfkbfahpgdnfaaJRowsKeeps15
import Derived.Test.YthfkbfahpgdnfaaJRowsKeeps20
import Derived.Test.YthfkbfahpgdnfaaJRowsKeeps21
import Derived.Test.YthfkbfahpgdnfaaJRowsKeeps24
import Derived.Test.YthfkbfahpgdnfaaJRowsKeeps27
import Derived.Test.YthfkbfahpgdnfaaJRowsKeeps40
import Derived.Test.YthfkbfahpgdnfaaJRowsKeeps41
import Derived.Test.YthfkbfahpgdnfaaJRowsKeeps42
section
/- Plain laws of rows: Right, Get, Same, Do as the document tells them. -/
namespace Go.Proofs.Ythfkbfahpgdnfaa.PAll
open Go.RowKit Go.Proofs.YthfkbfahpgdnfaaW.PrintWords Go.Proofs.YthfkbfahpgdnfaaW.PrintMore Go.Proofs.Ythfkbfahpgdnfaa
set_option linter.unusedVariables false
theorem rd_row (l : List S64) (j : Nat) (hj : j < l.length) : rd_T64 l (j : Int) = l[j]! := by
  simp [rd_T64, List.getD_eq_getElem?_getD, List.getElem?_eq_getElem hj, getElem!_pos l j hj]
theorem rd_put (l : List S52) (j : Nat) (hj : j < l.length) : rd_T52 l (j : Int) = l[j]! := by
  simp [rd_T52, List.getD_eq_getElem?_getD, List.getElem?_eq_getElem hj, getElem!_pos l j hj]
/-! Right -/
def allR (l : List S64) : Nat → Nat → Bool
  | 0, _ => true
  | d + 1, j => okR l j && allR l d (j + 1)
theorem allR_iff (l : List S64) : ∀ (d j : Nat), allR l d j = true ↔ ∀ i, j ≤ i → i < j + d → okR l i = true
  | 0, j => by simp [allR]; omega
  | d + 1, j => by
    rw [allR, Bool.and_eq_true, allR_iff l d (j + 1)]
    constructor
    · rintro ⟨h1, h2⟩ i hi1 hi2
      by_cases e : i = j
      · subst e; exact h1
      · exact h2 i (by omega) (by omega)
    · exact fun h => ⟨h j (Nat.le_refl _) (by omega), fun i h1 h2 => h i (by omega) (by omega)⟩
theorem rightR_from (l : List S64) : rightR l = (allR l l.length 0 && decide (l.length ≤ 32)) := by
  unfold rightR
  congr 1
  rw [Bool.eq_iff_iff, allR_iff, List.all_eq_true]
  exact ⟨fun h i _ hi => h i (List.mem_range.2 (by omega)), fun h i hi => h i (Nat.zero_le _) (by have := List.mem_range.1 hi; omega)⟩
def badRow (x : S64) : Bool := decide ((x.f0.size : Int) < 1) || decide ((x.f0.size : Int) > 16) || decide ((x.f1.size : Int) > 32) || decide (x.f2 > 4611686018427387903)
theorem okR_bad (l : List S64) (j : Nat) : okR l j = (!badRow (l[j]!) && (decide (j = 0) || Op.bytesLess (l[j - 1]!).f0.toList (l[j]!).f0.toList)) := by
  unfold okR badRow
  congr 1
  rw [Bool.eq_iff_iff]
  simp only [Bool.and_eq_true, decide_eq_true_eq, Bool.not_eq_true', Bool.or_eq_false_iff, decide_eq_false_iff_not]
  omega
theorem rRight_l0 (l : List S64) (hl : l.length ≤ 32) (hs : ∀ x ∈ l, x.f0.size ≤ 9223372036854775806) : ∀ (d j : Nat), d = l.length - j → j ≤ l.length → Ev (fun q => ferruleref11_Right.l0 q l (j : Int)) (allR l d j) := by
  intro d
  induction d with
  | zero =>
    intro j hd hj
    exact Ev.step (f := fun _ => some true) (fun k => by simp only [ferruleref11_Right.l0]; rw [if_neg (show ¬ (j : Int) < l.length by omega)]) (Ev.now true)
  | succ d ih =>
    intro j hd hj
    have hlt : j < l.length := by omega
    have hw := wrap_up j (by omega)
    refine Ev.step (f := fun k => ferruleref11_Right.j1 k l j (badRow (l[j]!)) (l[j]!).f0 (l[j]!).f1 (l[j]!).f2) (fun k => ?_) ?_
    · simp only [ferruleref11_Right.l0]
      rw [if_pos (show (j : Int) < l.length by omega), if_pos (show (0 : Int) ≤ j by omega), rd_row l j hlt]
      unfold badRow
      by_cases c1 : ((l[j]!).f0.size : Int) < 1
      · rw [if_pos c1, decide_eq_true c1]; rfl
      · rw [if_neg c1, decide_eq_false c1]
        by_cases c2 : ((l[j]!).f0.size : Int) > 16
        · rw [if_pos c2, decide_eq_true c2]; rfl
        · rw [if_neg c2, decide_eq_false c2]
          by_cases c3 : ((l[j]!).f1.size : Int) > 32
          · rw [if_pos c3, decide_eq_true c3]; rfl
          · rw [if_neg c3, decide_eq_false c3]; rfl
    · rw [allR, okR_bad]
      cases hb : badRow (l[j]!) with
      | true => exact Ev.step (f := fun _ => some false) (fun k => by simp only [ferruleref11_Right.j1]; rw [if_pos trivial]) (Ev.now false)
      | false =>
        rw [Bool.not_false, Bool.true_and]
        by_cases c3 : j = 0
        · rw [decide_eq_true c3, Bool.true_or, Bool.true_and]
          refine Ev.step (fun k => ?_) (ih (j + 1) (by omega) (by omega))
          simp only [ferruleref11_Right.j1]
          rw [if_neg (by decide), if_neg (show ¬ (j : Int) > 0 by omega), hw]
        · rw [decide_eq_false c3, Bool.false_or]
          have hj1 : j - 1 < l.length := by omega
          have hw2 := wrap_down j (by omega) (by omega)
          refine Ev.step (f := fun k => (ferruleref11_Less.f k (l[j - 1]!).f0 (l[j]!).f0).bind fun t => if t = true then ferruleref11_Right.l0 k l ((j + 1 : Nat) : Int) else some false) (fun k => ?_) (Ev.bind (Less_ev _ _ (hs _ (get_mem l _ hj1))) ?_)
          · simp only [ferruleref11_Right.j1]
            rw [if_neg (by decide), if_pos (show (j : Int) > 0 by omega), hw2, if_pos (show (0 : Int) ≤ ((j - 1 : Nat) : Int) by omega), if_pos (show ((j - 1 : Nat) : Int) < l.length by omega), rd_row l _ hj1, hw]
          · cases Op.bytesLess (l[j - 1]!).f0.toList (l[j]!).f0.toList with
            | true => exact Ev.congr (fun k => if_pos rfl) (by rw [Bool.true_and]; exact ih (j + 1) (by omega) (by omega))
            | false => exact Ev.congr (fun k => if_neg (by decide)) (Ev.now false)
theorem rRight_ev (l : List S64) (hs : ∀ x ∈ l, x.f0.size ≤ 9223372036854775806) : Ev (fun k => ferruleref11_Right.f k l) (rightR l) := by
  unfold ferruleref11_Right.f
  by_cases h : l.length ≤ 32
  · refine Ev.congr (fun k => if_neg (by omega)) ?_
    rw [rightR_from, decide_eq_true h, Bool.and_true]
    exact rRight_l0 l h hs l.length 0 (by omega) (by omega)
  · refine Ev.congr (fun k => if_pos (by omega)) ?_
    unfold rightR
    rw [decide_eq_false h, Bool.and_false]
    exact Ev.now false
/-! Get -/
def getV (l : List S64) (key : ByteArray) : ByteArray × ByteArray × Int × Bool := if findI (keyIs key) l < 0 then (⟨#[]⟩, ⟨#[]⟩, 0, false) else ((l[(findI (keyIs key) l).toNat]!).f0, (l[(findI (keyIs key) l).toNat]!).f1, (l[(findI (keyIs key) l).toNat]!).f2, true)
theorem Get_eq (l : List S64) (key : ByteArray) : rows_Get.f l key = some (getV l key) := by
  unfold rows_Get.f rows_at.f getV
  simp only [Option.bind_some]
  have e : (fun x : S64 => x.f0.toList == key.toList) = keyIs key := rfl
  rw [e]
  rcases findI_ways (keyIs key) l with h | ⟨i, hi, h⟩
  · rw [h]; rfl
  · rw [h, if_neg (by omega), if_pos (by omega), if_pos (by omega), if_neg (by omega), rd_row l i hi]; rfl
/-! Same -/
end Go.Proofs.Ythfkbfahpgdnfaa.PAll
end
