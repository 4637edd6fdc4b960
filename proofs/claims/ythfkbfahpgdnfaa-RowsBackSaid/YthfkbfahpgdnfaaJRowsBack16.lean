/- Joined texts of the claim RowsBack (part 16): contracts of functions and plain laws. -/
import Derived.Test.YthfkbfahpgdnfaaJRowsBack13
import Derived.Test.YthfkbfahpgdnfaaJRowsBack14
import Derived.Test.YthfkbfahpgdnfaaJRowsBack15
import Derived.Test.YthfkbfahpgdnfaaJRowsBack2
import Derived.WalkKit
import Derived.WalkLawsBesides
import Derived.Test.YthfkbfahpgdnfaaJRowsBack1
import Derived.Lib.ConvBytes
import Derived.Laws.Slices
section
/- Plain laws of rows: All as the document tells it. -/
namespace Go.Proofs.Ythfkbfahpgdnfaa.PAll
open Go.RowKit Go.Proofs.YthfkbfahpgdnfaaW.PrintWords Go.Proofs.YthfkbfahpgdnfaaW.PrintMore Go.Proofs.Ythfkbfahpgdnfaa
set_option linter.unusedVariables false
def putsV (ver : Int) (gone : Bool) : List S52 → List S64 → List S64 × Int
  | [], m => (m, 0)
  | x :: r, m => if x.f2 = gone then (if (doV m x ver).2 = 0 then putsV ver gone r (doV m x ver).1 else ([], (doV m x ver).2)) else putsV ver gone r m
def allV (l : List S64) (p : List S52) (ver : Int) : List S64 × Int :=
  if fitsV p ≠ 0 then ([], fitsV p) else
  if (putsV ver true p l).2 = 0 then putsV ver false p (putsV ver true p l).1 else ([], (putsV ver true p l).2)
theorem doV_len (l : List S64) (x : S52) (ver : Int) : (doV l x ver).1.length ≤ l.length + 1 := by
  unfold doV
  split
  · simp
  · split
    · exact Nat.le_trans (List.length_filter_le _ _) (by omega)
    · split
      · simp
      · split
        · simp
        · simp only [List.length_append, List.length_cons, List.length_take, List.length_drop]
          omega
theorem putsV_len (ver : Int) (gone : Bool) : ∀ (p : List S52) (m : List S64), (putsV ver gone p m).1.length ≤ m.length + p.length
  | [], m => by simp [putsV]
  | x :: r, m => by
    unfold putsV
    have h1 := putsV_len ver gone r m
    have h2 := putsV_len ver gone r (doV m x ver).1
    have h3 := doV_len m x ver
    simp only [List.length_cons]
    split
    · split
      · omega
      · simp
    · omega
theorem putsV_err (ver : Int) (gone : Bool) : ∀ (p : List S52) (m : List S64), (putsV ver gone p m).2 ≠ 0 → putsV ver gone p m = ([], (putsV ver gone p m).2)
  | [], m, h => absurd rfl h
  | x :: r, m, h => by
    unfold putsV at h ⊢
    split
    · rename_i h1
      rw [if_pos h1] at h
      split
      · rename_i h2
        rw [if_pos h2] at h
        exact putsV_err ver gone r _ h
      · rfl
    · rename_i h1
      rw [if_neg h1] at h
      exact putsV_err ver gone r _ h
theorem All_l1 (p : List S52) (ver : Int) (gone : Bool) (t : Int) (tb : List Bool) (tl : Int) (hp : p.length ≤ 8) (R : List S64 × Int) : ∀ (d j : Nat) (m : List S64), d = p.length - j → j ≤ p.length → m.length + d < 3518437208880 →
    ((putsV ver gone (p.drop j) m).2 = 0 → Ev (fun q => rows_All.l0 q p ver (putsV ver gone (p.drop j) m).1 tb tl (wrap64 (t + 1))) R) → ((putsV ver gone (p.drop j) m).2 ≠ 0 → R = ([], (putsV ver gone (p.drop j) m).2)) →
    Ev (fun q => rows_All.l1 q p ver m gone tb tl t p (p.length : Int) (j : Int)) R := by
  intro d
  induction d with
  | zero =>
    intro j m hd hj hm h0 h1
    rw [List.drop_eq_nil_of_le (by omega)] at h0 h1
    refine Ev.step (fun q => ?_) (h0 rfl)
    simp only [rows_All.l1]
    rw [if_neg (show ¬ (j : Int) < p.length by omega)]
    rfl
  | succ d ih =>
    intro j m hd hj hm h0 h1
    have hlt : j < p.length := by omega
    have hw := wrap_up j (by omega)
    rw [drop_get p j hlt, putsV] at h0 h1
    by_cases hg : (p[j]!).f2 = gone
    · rw [if_pos hg] at h0 h1
      refine Ev.step (f := fun q => if (doV m (p[j]!) ver).2 = 0 then rows_All.l1 q p ver (doV m (p[j]!) ver).1 gone tb tl t p (p.length : Int) ((j + 1 : Nat) : Int) else some ([], (doV m (p[j]!) ver).2)) (fun q => ?_) ?_
      · simp only [rows_All.l1]
        rw [if_pos (show (j : Int) < p.length by omega), if_pos (show (0 : Int) ≤ j by omega), if_pos (show (j : Int) < p.length by omega), rd_put p j hlt, if_neg (by rw [hg]; simp), hw]
        have : rows_Do.f m (p[j]!).f0 (p[j]!).f1 (p[j]!).f2 ver = some (doV m (p[j]!) ver) := by unfold rows_Do.f; rw [if_pos (by omega)]
        rw [this]; rfl
      · by_cases he : (doV m (p[j]!) ver).2 = 0
        · rw [if_pos he] at h0 h1
          exact Ev.congr (fun q => if_pos he) (ih (j + 1) _ (by omega) (by omega) (by have := doV_len m (p[j]!) ver; omega) h0 h1)
        · rw [if_neg he] at h0 h1
          rw [h1 he]
          exact Ev.congr (fun q => if_neg he) (Ev.now _)
    · rw [if_neg hg] at h0 h1
      refine Ev.step (fun q => ?_) (ih (j + 1) m (by omega) (by omega) (by omega) h0 h1)
      simp only [rows_All.l1]
      rw [if_pos (show (j : Int) < p.length by omega), if_pos (show (0 : Int) ≤ j by omega), if_pos (show (j : Int) < p.length by omega), rd_put p j hlt, if_pos (by simpa using hg), hw]
theorem fits_len {p : List S52} (h : fitsV p = 0) : p.length ≤ 8 := by
  unfold fitsV at h
  split at h
  · omega
  · omega
theorem All_ev (l : List S64) (p : List S52) (ver : Int) (hl : l.length < 3518437208800) : Ev (fun q => rows_All.f q l p ver) (allV l p ver) := by
  unfold rows_All.f allV
  refine Ev.bind (show Ev (fun _ => rows_Fits.f p) (fitsV p) from Ev.now _) ?_
  by_cases hf : fitsV p = 0
  · have hp := fits_len hf
    rw [if_neg (fun h => h hf)]
    refine Ev.congr (fun q => if_pos hf) ?_
    refine Ev.bind (show Ev (fun _ => api_Row_57.f l) l from ⟨0, fun _ _ => by unfold api_Row_57.f; rw [if_pos (by omega)]⟩) ?_
    refine Ev.bind (Ev.now _) ?_
    have hlen1 := putsV_len ver true p l
    have s1 : ∀ m q, rows_All.l0 (q + 1) p ver m [true, false] 2 0 = rows_All.l1 q p ver m true [true, false] 2 0 p (p.length : Int) ((0 : Nat) : Int) := fun m q => by
      simp only [rows_All.l0]
      rw [if_pos (by decide), if_pos (by decide), if_pos (by decide)]; rfl
    have s2 : ∀ m q, rows_All.l0 (q + 1) p ver m [true, false] 2 (wrap64 (0 + 1)) = rows_All.l1 q p ver m false [true, false] 2 1 p (p.length : Int) ((0 : Nat) : Int) := fun m q => by
      rw [show wrap64 (0 + 1) = 1 by unfold wrap64; omega]
      simp only [rows_All.l0]
      rw [if_pos (by decide), if_pos (by decide), if_pos (by decide)]; rfl
    have s3 : ∀ m q, rows_All.l0 (q + 1) p ver m [true, false] 2 (wrap64 (1 + 1)) = some (m, 0) := fun m q => by
      rw [show wrap64 (1 + 1) = 2 by unfold wrap64; omega]
      simp only [rows_All.l0]
      rw [if_neg (by decide)]
    refine Ev.step (fun q => s1 l q) (All_l1 p ver true 0 [true, false] 2 hp _ p.length 0 l (by omega) (by omega) (by omega) ?_ ?_)
    · intro h0
      rw [List.drop_zero] at h0 ⊢
      rw [if_pos h0]
      refine Ev.step (fun q => s2 _ q) (All_l1 p ver false 1 [true, false] 2 hp _ p.length 0 _ (by omega) (by omega) (by omega) ?_ ?_)
      · intro h2
        rw [List.drop_zero] at h2 ⊢
        refine Ev.step (f := fun _ => some _) (fun q => ?_) (Ev.now _)
        rw [s3]
        exact congrArg some (Prod.ext rfl h2.symm)
      · intro h2
        rw [List.drop_zero] at h2 ⊢
        exact putsV_err ver false p _ h2
    · intro h0
      rw [List.drop_zero] at h0 ⊢
      rw [if_neg h0]
  · rw [if_pos hf]
    exact Ev.congr (fun q => if_neg hf) (Ev.now _)
theorem rAll_l1 (p : List S52) (ver : Int) (t : Int) (hp : p.length ≤ 8) (hk : ∀ x ∈ p, x.f0.size ≤ 9223372036854775806) (R : List S64 × Int) : ∀ (d j : Nat) (m : List S64), d = p.length - j → j ≤ p.length → m.length + d < 3518437208880 →
    ((putsV ver (t == 0) (p.drop j) m).2 = 0 → Ev (fun q => ferruleref11_All.l0 q (putsV ver (t == 0) (p.drop j) m).1 p ver (wrap64 (t + 1))) R) → ((putsV ver (t == 0) (p.drop j) m).2 ≠ 0 → R = ([], (putsV ver (t == 0) (p.drop j) m).2)) →
    Ev (fun q => ferruleref11_All.l1 q m p ver t (j : Int)) R := by
  intro d
  induction d with
  | zero =>
    intro j m hd hj hm h0 h1
    rw [List.drop_eq_nil_of_le (by omega)] at h0 h1
    refine Ev.step (fun q => ?_) (h0 rfl)
    simp only [ferruleref11_All.l1]
    rw [if_neg (show ¬ (j : Int) < p.length by omega)]
    rfl
  | succ d ih =>
    intro j m hd hj hm h0 h1
    have hlt : j < p.length := by omega
    have hw := wrap_up j (by omega)
    rw [drop_get p j hlt, putsV] at h0 h1
    by_cases hg : (p[j]!).f2 = (t == 0)
    · rw [if_pos hg] at h0 h1
      refine Ev.step (f := fun q => (ferruleref11_Do.f q m (p[j]!).f0 (p[j]!).f1 (p[j]!).f2 ver).bind fun b => if b.2 = 0 then ferruleref11_All.l1 q b.1 p ver t ((j + 1 : Nat) : Int) else some ([], b.2)) (fun q => ?_) (Ev.bind (rDo_ev m (p[j]!) ver (by omega) (hk _ (get_mem p j hlt))) ?_)
      · simp only [ferruleref11_All.l1]
        rw [if_pos (show (j : Int) < p.length by omega), if_pos (show (0 : Int) ≤ j by omega), rd_put p j hlt, if_neg (by rw [hg]; simp), hw]
      · by_cases he : (doV m (p[j]!) ver).2 = 0
        · rw [if_pos he] at h0 h1
          exact Ev.congr (fun q => if_pos he) (ih (j + 1) _ (by omega) (by omega) (by have := doV_len m (p[j]!) ver; omega) h0 h1)
        · rw [if_neg he] at h0 h1
          rw [h1 he]
          exact Ev.congr (fun q => if_neg he) (Ev.now _)
    · rw [if_neg hg] at h0 h1
      refine Ev.step (fun q => ?_) (ih (j + 1) m (by omega) (by omega) (by omega) h0 h1)
      simp only [ferruleref11_All.l1]
      rw [if_pos (show (j : Int) < p.length by omega), if_pos (show (0 : Int) ≤ j by omega), rd_put p j hlt, if_pos (by simpa using hg), hw]
theorem rAll_ev (l : List S64) (p : List S52) (ver : Int) (hl : l.length < 3518437208800) (hk : ∀ x ∈ p, x.f0.size ≤ 9223372036854775806) : Ev (fun q => ferruleref11_All.f q l p ver) (allV l p ver) := by
  unfold ferruleref11_All.f allV
  refine Ev.bind (show Ev (fun _ => ferruleref11_Fits.f p) (fitsV p) from Ev.now _) ?_
  by_cases hf : fitsV p = 0
  · have hp := fits_len hf
    rw [if_neg (fun h => h hf)]
    refine Ev.congr (fun q => if_pos hf) ?_
    have hlen1 := putsV_len ver true p l
    have s1 : ∀ m q, ferruleref11_All.l0 (q + 1) m p ver 0 = ferruleref11_All.l1 q m p ver 0 ((0 : Nat) : Int) := fun m q => by
      simp only [ferruleref11_All.l0]
      rw [if_pos (by decide)]; rfl
    have s2 : ∀ m q, ferruleref11_All.l0 (q + 1) m p ver (wrap64 (0 + 1)) = ferruleref11_All.l1 q m p ver 1 ((0 : Nat) : Int) := fun m q => by
      rw [show wrap64 (0 + 1) = 1 by unfold wrap64; omega]
      simp only [ferruleref11_All.l0]
      rw [if_pos (by decide)]; rfl
    have s3 : ∀ m q, ferruleref11_All.l0 (q + 1) m p ver (wrap64 (1 + 1)) = some (m, 0) := fun m q => by
      rw [show wrap64 (1 + 1) = 2 by unfold wrap64; omega]
      simp only [ferruleref11_All.l0]
      rw [if_neg (by decide)]
    refine Ev.step (fun q => s1 l q) (rAll_l1 p ver 0 hp hk _ p.length 0 l (by omega) (by omega) (by omega) ?_ ?_)
    · intro h0
      rw [List.drop_zero, show ((0 : Int) == 0) = true from rfl] at h0 ⊢
      rw [if_pos h0]
      refine Ev.step (fun q => s2 _ q) (rAll_l1 p ver 1 hp hk _ p.length 0 _ (by omega) (by omega) (by omega) ?_ ?_)
      · intro h2
        rw [List.drop_zero, show ((1 : Int) == 0) = false from rfl] at h2 ⊢
        refine Ev.step (f := fun _ => some _) (fun q => ?_) (Ev.now _)
        rw [s3]
        exact congrArg some (Prod.ext rfl h2.symm)
      · intro h2
        rw [List.drop_zero, show ((1 : Int) == 0) = false from rfl] at h2 ⊢
        exact putsV_err ver false p _ h2
    · intro h0
      rw [List.drop_zero, show ((0 : Int) == 0) = true from rfl] at h0 ⊢
      rw [if_neg h0]
  · rw [if_pos hf]
    exact Ev.congr (fun q => if_neg hf) (Ev.now _)
end Go.Proofs.Ythfkbfahpgdnfaa.PAll
end
section
/- math/bits.Len64, as the printed texts call it. -/
namespace Go.Proofs.Ythfkbfahpgdnfaa.PAll
open Go.RowKit Go.Proofs.YthfkbfahpgdnfaaW.PrintWords
set_option linter.unusedVariables false
def lenT (t : Int) : Int := if 128 ≤ t then 8 else if 64 ≤ t then 7 else if 32 ≤ t then 6 else if 16 ≤ t then 5 else if 8 ≤ t then 4 else if 4 ≤ t then 3 else if 2 ≤ t then 2 else if 1 ≤ t then 1 else 0
def len3 (x n : Int) : Int := if 256 ≤ x then n + 8 + lenT (x / 256) else n + lenT x
def len2 (x n : Int) : Int := if 65536 ≤ x then len3 (x / 65536) (n + 16) else len3 x n
def len64 (x : Int) : Int := if 4294967296 ≤ x then len2 (x / 4294967296) 32 else len2 x 0
def bits_Len64.f (a0 : Int) : Option Int := if 0 ≤ a0 ∧ a0 < 18446744073709551616 then some (len64 a0) else none
set_option maxRecDepth 100000 in
theorem tab_ok : ∀ t : Fin 256, ((((⟨#[0, 1, 2, 2, 3, 3, 3, 3, 4, 4, 4, 4, 4, 4, 4, 4, 5, 5, 5, 5, 5, 5, 5, 5, 5, 5, 5, 5, 5, 5, 5, 5, 6, 6, 6, 6, 6, 6, 6, 6, 6, 6, 6, 6, 6, 6, 6, 6, 6, 6, 6, 6, 6, 6, 6, 6, 6, 6, 6, 6, 6, 6, 6, 6, 7, 7, 7, 7, 7, 7, 7, 7, 7, 7, 7, 7, 7, 7, 7, 7, 7, 7, 7, 7, 7, 7, 7, 7, 7, 7, 7, 7, 7, 7, 7, 7, 7, 7, 7, 7, 7, 7, 7, 7, 7, 7, 7, 7, 7, 7, 7, 7, 7, 7, 7, 7, 7, 7, 7, 7, 7, 7, 7, 7, 7, 7, 7, 7, 8, 8, 8, 8, 8, 8, 8, 8, 8, 8, 8, 8, 8, 8, 8, 8, 8, 8, 8, 8, 8, 8, 8, 8, 8, 8, 8, 8, 8, 8, 8, 8, 8, 8, 8, 8, 8, 8, 8, 8, 8, 8, 8, 8, 8, 8, 8, 8, 8, 8, 8, 8, 8, 8, 8, 8, 8, 8, 8, 8, 8, 8, 8, 8, 8, 8, 8, 8, 8, 8, 8, 8, 8, 8, 8, 8, 8, 8, 8, 8, 8, 8, 8, 8, 8, 8, 8, 8, 8, 8, 8, 8, 8, 8, 8, 8, 8, 8, 8, 8, 8, 8, 8, 8, 8, 8, 8, 8, 8, 8, 8, 8, 8, 8, 8, 8, 8, 8, 8, 8, 8, 8, 8, 8, 8, 8, 8, 8]⟩ : ByteArray)[t.1]'(by show t.1 < 256; exact t.2)).toNat : Nat) : Int) = lenT (t.1 : Int) := by decide +kernel
theorem lenT_range (t : Int) : 0 ≤ lenT t ∧ lenT t ≤ 8 := by unfold lenT; repeat' split <;> omega
theorem fin_len (n : Int) (b : Int) (t : Int) (hb : b = lenT t) (hn : 0 ≤ n ∧ n ≤ 56) : wrap64 (n + wrap64 b) = n + lenT t := by
  have := lenT_range t
  subst hb
  unfold wrap64
  omega
theorem fin_len0 (b : Int) (t : Int) (hb : b = lenT t) : wrap64 (wrap64 b) = lenT t := by
  have := lenT_range t
  subst hb
  unfold wrap64
  omega
set_option maxHeartbeats 2000000 in
set_option maxRecDepth 100000 in
theorem bits_Len64.calls (a0 : Int) (r : Int) (w : World) (h : bits_Len64.f a0 = some r) :
    Calls Try.prog 85 #[.int .u64 a0] w fun e w' => e = .returned (.int .i64 r) ∧ Below w.heap.size w w' := by
  unfold bits_Len64.f at h
  split at h
  · rename_i hb
    obtain ⟨hb0, hb1⟩ := hb
    obtain rfl := Option.some.inj h
    clear h
    by_cases h1 : 4294967296 ≤ a0
    · by_cases h2 : 65536 ≤ a0 / 4294967296
      · by_cases h3 : 256 ≤ a0 / 4294967296 / 65536
        · have d1 : decide (4294967296 ≤ a0) = true := decide_eq_true h1
          have d2 : decide (65536 ≤ a0 / 4294967296) = true := decide_eq_true h2
          have d3 : decide (256 ≤ a0 / 4294967296 / 65536) = true := decide_eq_true h3
          have e : len64 a0 = 56 + lenT (a0 / 4294967296 / 65536 / 256) := by unfold len64 len2 len3; rw [if_pos h1, if_pos h2, if_pos h3]; try omega
          have ht : ((a0 / 4294967296 / 65536 / 256).toNat : Int) = a0 / 4294967296 / 65536 / 256 := by omega
          have hlt : (a0 / 4294967296 / 65536 / 256).toNat < 256 := by omega
          have hk := tab_ok ⟨(a0 / 4294967296 / 65536 / 256).toNat, hlt⟩
          dsimp only at hk
          rw [ht] at hk
          have HK := Aside0.mk hk
          have HE := Aside0.mk e
          clear hk e
          go_enter Try.func85, Try.ntmps85
          go_wp2
          go_ret
          refine ⟨congrArg (fun q => Ending.returned (Value.int .i64 q)) ?_, Below.refl _ _⟩
          rw [HE.out]
          exact fin_len 56 _ _ HK.out (by omega)
        · have d1 : decide (4294967296 ≤ a0) = true := decide_eq_true h1
          have d2 : decide (65536 ≤ a0 / 4294967296) = true := decide_eq_true h2
          have d3 : decide (256 ≤ a0 / 4294967296 / 65536) = false := decide_eq_false h3
          have e : len64 a0 = 48 + lenT (a0 / 4294967296 / 65536) := by unfold len64 len2 len3; rw [if_pos h1, if_pos h2, if_neg h3]; try omega
          have ht : ((a0 / 4294967296 / 65536).toNat : Int) = a0 / 4294967296 / 65536 := by omega
          have hlt : (a0 / 4294967296 / 65536).toNat < 256 := by omega
          have hk := tab_ok ⟨(a0 / 4294967296 / 65536).toNat, hlt⟩
          dsimp only at hk
          rw [ht] at hk
          have HK := Aside0.mk hk
          have HE := Aside0.mk e
          clear hk e
          go_enter Try.func85, Try.ntmps85
          go_wp2
          go_ret
          refine ⟨congrArg (fun q => Ending.returned (Value.int .i64 q)) ?_, Below.refl _ _⟩
          rw [HE.out]
          exact fin_len 48 _ _ HK.out (by omega)
      · by_cases h3 : 256 ≤ a0 / 4294967296
        · have d1 : decide (4294967296 ≤ a0) = true := decide_eq_true h1
          have d2 : decide (65536 ≤ a0 / 4294967296) = false := decide_eq_false h2
          have d3 : decide (256 ≤ a0 / 4294967296) = true := decide_eq_true h3
          have e : len64 a0 = 40 + lenT (a0 / 4294967296 / 256) := by unfold len64 len2 len3; rw [if_pos h1, if_neg h2, if_pos h3]; try omega
          have ht : ((a0 / 4294967296 / 256).toNat : Int) = a0 / 4294967296 / 256 := by omega
          have hlt : (a0 / 4294967296 / 256).toNat < 256 := by omega
          have hk := tab_ok ⟨(a0 / 4294967296 / 256).toNat, hlt⟩
          dsimp only at hk
          rw [ht] at hk
          have HK := Aside0.mk hk
          have HE := Aside0.mk e
          clear hk e
          go_enter Try.func85, Try.ntmps85
          go_wp2
          go_ret
          refine ⟨congrArg (fun q => Ending.returned (Value.int .i64 q)) ?_, Below.refl _ _⟩
          rw [HE.out]
          exact fin_len 40 _ _ HK.out (by omega)
        · have d1 : decide (4294967296 ≤ a0) = true := decide_eq_true h1
          have d2 : decide (65536 ≤ a0 / 4294967296) = false := decide_eq_false h2
          have d3 : decide (256 ≤ a0 / 4294967296) = false := decide_eq_false h3
          have e : len64 a0 = 32 + lenT (a0 / 4294967296) := by unfold len64 len2 len3; rw [if_pos h1, if_neg h2, if_neg h3]; try omega
          have ht : ((a0 / 4294967296).toNat : Int) = a0 / 4294967296 := by omega
          have hlt : (a0 / 4294967296).toNat < 256 := by omega
          have hk := tab_ok ⟨(a0 / 4294967296).toNat, hlt⟩
          dsimp only at hk
          rw [ht] at hk
          have HK := Aside0.mk hk
          have HE := Aside0.mk e
          clear hk e
          go_enter Try.func85, Try.ntmps85
          go_wp2
          go_ret
          refine ⟨congrArg (fun q => Ending.returned (Value.int .i64 q)) ?_, Below.refl _ _⟩
          rw [HE.out]
          exact fin_len 32 _ _ HK.out (by omega)
    · by_cases h2 : 65536 ≤ a0
      · by_cases h3 : 256 ≤ a0 / 65536
        · have d1 : decide (4294967296 ≤ a0) = false := decide_eq_false h1
          have d2 : decide (65536 ≤ a0) = true := decide_eq_true h2
          have d3 : decide (256 ≤ a0 / 65536) = true := decide_eq_true h3
          have e : len64 a0 = 24 + lenT (a0 / 65536 / 256) := by unfold len64 len2 len3; rw [if_neg h1, if_pos h2, if_pos h3]; try omega
          have ht : ((a0 / 65536 / 256).toNat : Int) = a0 / 65536 / 256 := by omega
          have hlt : (a0 / 65536 / 256).toNat < 256 := by omega
          have hk := tab_ok ⟨(a0 / 65536 / 256).toNat, hlt⟩
          dsimp only at hk
          rw [ht] at hk
          have HK := Aside0.mk hk
          have HE := Aside0.mk e
          clear hk e
          go_enter Try.func85, Try.ntmps85
          go_wp2
          go_ret
          refine ⟨congrArg (fun q => Ending.returned (Value.int .i64 q)) ?_, Below.refl _ _⟩
          rw [HE.out]
          exact fin_len 24 _ _ HK.out (by omega)
        · have d1 : decide (4294967296 ≤ a0) = false := decide_eq_false h1
          have d2 : decide (65536 ≤ a0) = true := decide_eq_true h2
          have d3 : decide (256 ≤ a0 / 65536) = false := decide_eq_false h3
          have e : len64 a0 = 16 + lenT (a0 / 65536) := by unfold len64 len2 len3; rw [if_neg h1, if_pos h2, if_neg h3]; try omega
          have ht : ((a0 / 65536).toNat : Int) = a0 / 65536 := by omega
          have hlt : (a0 / 65536).toNat < 256 := by omega
          have hk := tab_ok ⟨(a0 / 65536).toNat, hlt⟩
          dsimp only at hk
          rw [ht] at hk
          have HK := Aside0.mk hk
          have HE := Aside0.mk e
          clear hk e
          go_enter Try.func85, Try.ntmps85
          go_wp2
          go_ret
          refine ⟨congrArg (fun q => Ending.returned (Value.int .i64 q)) ?_, Below.refl _ _⟩
          rw [HE.out]
          exact fin_len 16 _ _ HK.out (by omega)
      · by_cases h3 : 256 ≤ a0
        · have d1 : decide (4294967296 ≤ a0) = false := decide_eq_false h1
          have d2 : decide (65536 ≤ a0) = false := decide_eq_false h2
          have d3 : decide (256 ≤ a0) = true := decide_eq_true h3
          have e : len64 a0 = 8 + lenT (a0 / 256) := by unfold len64 len2 len3; rw [if_neg h1, if_neg h2, if_pos h3]; try omega
          have ht : ((a0 / 256).toNat : Int) = a0 / 256 := by omega
          have hlt : (a0 / 256).toNat < 256 := by omega
          have hk := tab_ok ⟨(a0 / 256).toNat, hlt⟩
          dsimp only at hk
          rw [ht] at hk
          have HK := Aside0.mk hk
          have HE := Aside0.mk e
          clear hk e
          go_enter Try.func85, Try.ntmps85
          go_wp2
          go_ret
          refine ⟨congrArg (fun q => Ending.returned (Value.int .i64 q)) ?_, Below.refl _ _⟩
          rw [HE.out]
          exact fin_len 8 _ _ HK.out (by omega)
        · have d1 : decide (4294967296 ≤ a0) = false := decide_eq_false h1
          have d2 : decide (65536 ≤ a0) = false := decide_eq_false h2
          have d3 : decide (256 ≤ a0) = false := decide_eq_false h3
          have e : len64 a0 = 0 + lenT (a0) := by unfold len64 len2 len3; rw [if_neg h1, if_neg h2, if_neg h3]; try omega
          have ht : ((a0).toNat : Int) = a0 := by omega
          have hlt : (a0).toNat < 256 := by omega
          have hk := tab_ok ⟨(a0).toNat, hlt⟩
          dsimp only at hk
          rw [ht] at hk
          have HK := Aside0.mk hk
          have HE := Aside0.mk e
          clear hk e
          go_enter Try.func85, Try.ntmps85
          go_wp2
          go_ret
          refine ⟨congrArg (fun q => Ending.returned (Value.int .i64 q)) ?_, Below.refl _ _⟩
          rw [HE.out]
          rw [Int.zero_add]; exact fin_len0 _ _ HK.out
  · cases h
end Go.Proofs.Ythfkbfahpgdnfaa.PAll
end
section
/- copy into a row of bytes that the call has made, and the string of it. -/
namespace Go.Proofs.Ythfkbfahpgdnfaa.PAll
open Go.RowKit Go.Proofs.YthfkbfahpgdnfaaW.PrintWords Go.Proofs.Ythfkbfahpgdnfaa
set_option linter.unusedVariables false
theorem copy_str (W : World) (s d n t : Nat) (xs rest : List Int) (hn : xs.length = n) (h8 : n ≤ 8) (hs : W.heap[s]? = some (.cells ((xs ++ rest).map (Value.int .u8)).toArray t (0, 0))) (hd : W.heap[d]? = some (.cells (List.replicate n (Value.int .u8 0)).toArray 5 (0, 0))) :
    ∃ W', (Builtin.copy_ #[99, 99] 3 #[.slice (some ⟨d, 0, none⟩) n n, .slice (some ⟨s, 0, none⟩) n 8]).run Try.prog W = .ok (goInt n) W' ∧ (convert 99 9 (.slice (some ⟨d, 0, none⟩) n n)).run Try.prog W' = .ok (.string (strOfNums xs)) W' ∧ W.grownBy W' (some d) := by
  have hi : (Try.prog.info? 5).map (·.size) = some 1 := by kernel_rfl
  have hc := run_copy_k (P := Try.prog) W 99 99 3 5 1 n d 0 n n ⟨s, 0, none⟩ n 8 (List.replicate n (Value.int .u8 0)) (xs.map (Value.int .u8)) 5 Try.underlying99 hi (by simp) (by simp [hn]) hd (by simp [hn])
    (fun j v hj => by
      rw [Addr.add_lit, Nat.zero_add, cell_row hs, List.map_append, List.getElem?_append_left (by have := (List.getElem?_eq_some_iff.1 hj).1; exact this)]
      exact hj)
    (fun v hv => by obtain ⟨x, _, rfl⟩ := List.mem_map.1 hv; rfl)
  have hsp : splice (List.replicate n (Value.int .u8 0)) 0 (xs.map (Value.int .u8)) = xs.map (Value.int .u8) := by
    unfold splice
    simp [hn]
  rw [hsp] at hc
  refine ⟨_, hc, ?_, grownBy_setRow _ _ _⟩
  have hh := setRow_heap W d _ (xs.map (Value.int .u8)).toArray 5 (0, 0) hd
  refine Kd.C_string (xs := xs) Try.underlying99 Try.underlying5 Try.underlying9 ⟨hn, by omega, fun _ => ⟨_, rfl, fun j p hj => ⟨[Value.int .u8 p], rfl, ?_, fun i u hu => ?_⟩⟩⟩
  · exact rfl
  · have hi0 : i = 0 := by have := (List.getElem?_eq_some_iff.1 hu).1; simp at this; omega
    subst hi0
    obtain rfl : Value.int .u8 p = u := by simpa using hu
    rw [Addr.add_lit, cell_row hh]
    show (xs.map (Value.int .u8))[0 + (j * 1 + 0)]? = _
    rw [show 0 + (j * 1 + 0) = j by omega, List.getElem?_map, hj]
    rfl
theorem wpList_copy_str (w : World) {ops : Array Oper} {rest : List Oper} {o : Oper} {a : Act} {Q : Exit → Act → World → Prop} (hgd : o.guard = none) (x y : Operand)
    (ho : o.op = .call { callee := .builtin .copy, args := #[x, y], argTypes := #[99, 99] }) (hty : o.type = 3) (s d n t : Nat) (xs ys : List Int) (hx : a.eval x = .slice (some ⟨d, 0, none⟩) n n) (hy : a.eval y = .slice (some ⟨s, 0, none⟩) n 8)
    (hn : xs.length = n) (h8 : n ≤ 8) (hs : w.heap[s]? = some (.cells ((xs ++ ys).map (Value.int .u8)).toArray t (0, 0))) (hd : w.heap[d]? = some (.cells (List.replicate n (Value.int .u8 0)).toArray 5 (0, 0)))
    (h : ∀ W', (convert 99 9 (.slice (some ⟨d, 0, none⟩) n n)).run Try.prog W' = .ok (.string (strOfNums xs)) W' → w.grownBy W' (some d) → wpList Try.prog ops Q rest (a.put o.dst (goInt n)) W') : wpList Try.prog ops Q (o :: rest) a w := by
  obtain ⟨W', h1, h2, h3⟩ := copy_str w s d n t xs ys hn h8 hs hd
  exact wpList_copy_run w hgd x y 99 99 ho _ _ hx hy (by rw [hty]; exact h1) (h W' h2 h3)
end Go.Proofs.Ythfkbfahpgdnfaa.PAll
end
