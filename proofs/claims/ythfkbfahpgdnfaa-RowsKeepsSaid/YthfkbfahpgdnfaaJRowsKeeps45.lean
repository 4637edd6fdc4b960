/- Joined texts of the claim RowsKeeps (part 45): contracts of functions and plain laws. -/
import Derived.BigQuiet
import Derived.ChangeAlike
import Derived.Deep.QuietTactic
import Derived.RegionTactic
import Derived.Test.YthfkbfahpgdnfaaJRowsKeeps15
import Derived.Test.YthfkbfahpgdnfaaJRowsKeeps24
import Derived.Test.YthfkbfahpgdnfaaJRowsKeeps28
import Derived.Test.YthfkbfahpgdnfaaJRowsKeeps39
import Derived.Test.YthfkbfahpgdnfaaJRowsKeeps44
section
/- Plain laws of rows: All as the document tells it. -/
namespace Go.Proofs.Ythfkbfahpgdnfaa.PAll
open Go.RowKit Go.Proofs.YthfkbfahpgdnfaaW.PrintWords Go.Proofs.YthfkbfahpgdnfaaW.PrintMore Go.Proofs.Ythfkbfahpgdnfaa
set_option linter.unusedVariables false
def putsV (ver : Int) (gone : Bool) : List S52 → List S64 → List S64 × Int
  | [], m => (m, 0)
  | x :: r, m => if x.f2 = gone then (if (doV m x ver).2 = 0 then putsV ver gone r (doV m x ver).1 else ([], (doV m x ver).2)) else putsV ver gone r m
def allV (l : List S64) (p : List S52) (ver : Int) : List S64 × Int :=
  if fitsV p ≠ 0 then ([], fitsV p) else
  if (putsV ver true p l).2 = 0 then putsV ver false p (putsV ver true p l).1 else ([], (putsV ver true p l).2)
theorem doV_len (l : List S64) (x : S52) (ver : Int) : (doV l x ver).1.length ≤ l.length + 1 := by
  unfold doV
  split
  · simp
  · split
    · exact Nat.le_trans (List.length_filter_le _ _) (by omega)
    · split
      · simp
      · split
        · simp
        · simp only [List.length_append, List.length_cons, List.length_take, List.length_drop]
          omega
theorem putsV_len (ver : Int) (gone : Bool) : ∀ (p : List S52) (m : List S64), (putsV ver gone p m).1.length ≤ m.length + p.length
  | [], m => by simp [putsV]
  | x :: r, m => by
    unfold putsV
    have h1 := putsV_len ver gone r m
    have h2 := putsV_len ver gone r (doV m x ver).1
    have h3 := doV_len m x ver
    simp only [List.length_cons]
    split
    · split
      · omega
      · simp
    · omega
theorem putsV_err (ver : Int) (gone : Bool) : ∀ (p : List S52) (m : List S64), (putsV ver gone p m).2 ≠ 0 → putsV ver gone p m = ([], (putsV ver gone p m).2)
  | [], m, h => absurd rfl h
  | x :: r, m, h => by
    unfold putsV at h ⊢
    split
    · rename_i h1
      rw [if_pos h1] at h
      split
      · rename_i h2
        rw [if_pos h2] at h
        exact putsV_err ver gone r _ h
      · rfl
    · rename_i h1
      rw [if_neg h1] at h
      exact putsV_err ver gone r _ h
theorem All_l1 (p : List S52) (ver : Int) (gone : Bool) (t : Int) (tb : List Bool) (tl : Int) (hp : p.length ≤ 8) (R : List S64 × Int) : ∀ (d j : Nat) (m : List S64), d = p.length - j → j ≤ p.length → m.length + d < 3518437208880 →
    ((putsV ver gone (p.drop j) m).2 = 0 → Ev (fun q => rows_All.l0 q p ver (putsV ver gone (p.drop j) m).1 tb tl (wrap64 (t + 1))) R) → ((putsV ver gone (p.drop j) m).2 ≠ 0 → R = ([], (putsV ver gone (p.drop j) m).2)) →
    Ev (fun q => rows_All.l1 q p ver m gone tb tl t p (p.length : Int) (j : Int)) R := by
  intro d
  induction d with
  | zero =>
    intro j m hd hj hm h0 h1
    rw [List.drop_eq_nil_of_le (by omega)] at h0 h1
    refine Ev.step (fun q => ?_) (h0 rfl)
    simp only [rows_All.l1]
    rw [if_neg (show ¬ (j : Int) < p.length by omega)]
    rfl
  | succ d ih =>
    intro j m hd hj hm h0 h1
    have hlt : j < p.length := by omega
    have hw := wrap_up j (by omega)
    rw [drop_get p j hlt, putsV] at h0 h1
    by_cases hg : (p[j]!).f2 = gone
    · rw [if_pos hg] at h0 h1
      refine Ev.step (f := fun q => if (doV m (p[j]!) ver).2 = 0 then rows_All.l1 q p ver (doV m (p[j]!) ver).1 gone tb tl t p (p.length : Int) ((j + 1 : Nat) : Int) else some ([], (doV m (p[j]!) ver).2)) (fun q => ?_) ?_
      · simp only [rows_All.l1]
        rw [if_pos (show (j : Int) < p.length by omega), if_pos (show (0 : Int) ≤ j by omega), if_pos (show (j : Int) < p.length by omega), rd_put p j hlt, if_neg (by rw [hg]; simp), hw]
        have : rows_Do.f m (p[j]!).f0 (p[j]!).f1 (p[j]!).f2 ver = some (doV m (p[j]!) ver) := by unfold rows_Do.f; rw [if_pos (by omega)]
        rw [this]; rfl
      · by_cases he : (doV m (p[j]!) ver).2 = 0
        · rw [if_pos he] at h0 h1
          exact Ev.congr (fun q => if_pos he) (ih (j + 1) _ (by omega) (by omega) (by have := doV_len m (p[j]!) ver; omega) h0 h1)
        · rw [if_neg he] at h0 h1
          rw [h1 he]
          exact Ev.congr (fun q => if_neg he) (Ev.now _)
    · rw [if_neg hg] at h0 h1
      refine Ev.step (fun q => ?_) (ih (j + 1) m (by omega) (by omega) (by omega) h0 h1)
      simp only [rows_All.l1]
      rw [if_pos (show (j : Int) < p.length by omega), if_pos (show (0 : Int) ≤ j by omega), if_pos (show (j : Int) < p.length by omega), rd_put p j hlt, if_pos (by simpa using hg), hw]
theorem fits_len {p : List S52} (h : fitsV p = 0) : p.length ≤ 8 := by
  unfold fitsV at h
  split at h
  · omega
  · omega
theorem All_ev (l : List S64) (p : List S52) (ver : Int) (hl : l.length < 3518437208800) : Ev (fun q => rows_All.f q l p ver) (allV l p ver) := by
  unfold rows_All.f allV
  refine Ev.bind (show Ev (fun _ => rows_Fits.f p) (fitsV p) from Ev.now _) ?_
  by_cases hf : fitsV p = 0
  · have hp := fits_len hf
    rw [if_neg (fun h => h hf)]
    refine Ev.congr (fun q => if_pos hf) ?_
    refine Ev.bind (show Ev (fun _ => api_Row_57.f l) l from ⟨0, fun _ _ => by unfold api_Row_57.f; rw [if_pos (by omega)]⟩) ?_
    refine Ev.bind (Ev.now _) ?_
    have hlen1 := putsV_len ver true p l
    have s1 : ∀ m q, rows_All.l0 (q + 1) p ver m [true, false] 2 0 = rows_All.l1 q p ver m true [true, false] 2 0 p (p.length : Int) ((0 : Nat) : Int) := fun m q => by
      simp only [rows_All.l0]
      rw [if_pos (by decide), if_pos (by decide), if_pos (by decide)]; rfl
    have s2 : ∀ m q, rows_All.l0 (q + 1) p ver m [true, false] 2 (wrap64 (0 + 1)) = rows_All.l1 q p ver m false [true, false] 2 1 p (p.length : Int) ((0 : Nat) : Int) := fun m q => by
      rw [show wrap64 (0 + 1) = 1 by unfold wrap64; omega]
      simp only [rows_All.l0]
      rw [if_pos (by decide), if_pos (by decide), if_pos (by decide)]; rfl
    have s3 : ∀ m q, rows_All.l0 (q + 1) p ver m [true, false] 2 (wrap64 (1 + 1)) = some (m, 0) := fun m q => by
      rw [show wrap64 (1 + 1) = 2 by unfold wrap64; omega]
      simp only [rows_All.l0]
      rw [if_neg (by decide)]
    refine Ev.step (fun q => s1 l q) (All_l1 p ver true 0 [true, false] 2 hp _ p.length 0 l (by omega) (by omega) (by omega) ?_ ?_)
    · intro h0
      rw [List.drop_zero] at h0 ⊢
      rw [if_pos h0]
      refine Ev.step (fun q => s2 _ q) (All_l1 p ver false 1 [true, false] 2 hp _ p.length 0 _ (by omega) (by omega) (by omega) ?_ ?_)
      · intro h2
        rw [List.drop_zero] at h2 ⊢
        refine Ev.step (f := fun _ => some _) (fun q => ?_) (Ev.now _)
        rw [s3]
        exact congrArg some (Prod.ext rfl h2.symm)
      · intro h2
        rw [List.drop_zero] at h2 ⊢
        exact putsV_err ver false p _ h2
    · intro h0
      rw [List.drop_zero] at h0 ⊢
      rw [if_neg h0]
  · rw [if_pos hf]
    exact Ev.congr (fun q => if_neg hf) (Ev.now _)
end Go.Proofs.Ythfkbfahpgdnfaa.PAll
end
