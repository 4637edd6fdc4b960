/- The plain laws of bags, first part: order of texts, Len, Right; the document's example. -/
import Derived.Test.YthfkbfahpgdnfaaG6
import Derived.Test.YthfkbfahpgdnfaaPAllx3
import Derived.Test.YthfkbfahpgdnfaaPAllx12
import Derived.Test.YthfkbfahpgdnfaaPAllx13
import Derived.Test.YthfkbfahpgdnfaaPAllx14
import Derived.Test.YthfkbfahpgdnfaaPAllx15
namespace Go.Proofs.Ythfkbfahpgdnfaa.PAll
open Go.RowKit Go.Proofs.YthfkbfahpgdnfaaW.PrintWords Go.Proofs.YthfkbfahpgdnfaaW.PrintMore Go.Proofs.Ythfkbfahpgdnfaa
set_option linter.unusedVariables false
theorem rd_drop (l : List S79) (j : Nat) (hj : j < l.length) : l.drop j = rd_T79 l (j : Int) :: l.drop (j + 1) := by
  rw [List.drop_eq_getElem_cons hj]
  simp [rd_T79, List.getD_eq_getElem?_getD, List.getElem?_eq_getElem hj]
theorem rd_get (l : List S79) (j : Nat) (hj : j < l.length) : rd_T79 l (j : Int) = l[j]! := by
  simp [rd_T79, List.getD_eq_getElem?_getD, List.getElem?_eq_getElem hj, getElem!_pos l j hj]
theorem bt_get (s : ByteArray) (j : Nat) (hj : j < s.size) : ∃ b : UInt8, bt s (j : Int) = (b.toNat : Int) ∧ s.toList.drop j = b :: s.toList.drop (j + 1) := by
  have hl : s.toList.length = s.size := by rw [ByteArray.toList_eq, Array.length_toList]; rfl
  refine ⟨s[j], by simp [bt, hj], ?_⟩
  rw [List.drop_eq_getElem_cons (by omega)]
  congr 1
  simp only [ByteArray.toList_eq]
  rfl
theorem toList_len (s : ByteArray) : s.toList.length = s.size := by rw [ByteArray.toList_eq, Array.length_toList]; rfl
theorem shown_ok : ∃ k, ferrulelaw18_shown.f k = some true := ⟨20, by kernel_rfl⟩
def lenGo : Int → List S79 → Int
  | n, [] => n
  | n, x :: r => lenGo (wrap64 (n + max x.f1 0)) r
theorem Len_l0 (l : List S79) (hl : l.length < 5864062014806) : ∀ (d j : Nat) (n : Int), d = l.length - j → j ≤ l.length → ∀ q, d < q → bag_Len.l0 q n l l.length j = some (lenGo n (l.drop j)) := by
  intro d
  induction d with
  | zero =>
    intro j n hd hj q hq
    obtain ⟨q, rfl⟩ : ∃ m, q = m + 1 := ⟨q - 1, by omega⟩
    simp only [bag_Len.l0]
    rw [if_neg (show ¬ (j : Int) < l.length by omega), List.drop_eq_nil_of_le (by omega)]
    rfl
  | succ d ih =>
    intro j n hd hj q hq
    obtain ⟨q, rfl⟩ : ∃ m, q = m + 1 := ⟨q - 1, by omega⟩
    have hlt : j < l.length := by omega
    simp only [bag_Len.l0]
    rw [if_pos (show (j : Int) < l.length by omega), if_pos (show (0 : Int) ≤ j by omega), if_pos (show (j : Int) < l.length by omega), show wrap64 ((j : Int) + 1) = ((j + 1 : Nat) : Int) by unfold wrap64; omega, ih (j + 1) _ (by omega) (by omega) q (by omega), rd_drop l j hlt]
    simp only [lenGo]
    rw [show mx (rd_T79 l j).f1 0 = max (rd_T79 l j).f1 0 by unfold mx; omega]
theorem rLen_l0 (l : List S79) (hl : l.length < 5864062014806) : ∀ (d j : Nat) (n : Int), d = l.length - j → j ≤ l.length → wrap64 n = n → ∀ q, d < q → ferruleref18_Len.l0 q l n j = some (lenGo n (l.drop j)) := by
  intro d
  induction d with
  | zero =>
    intro j n hd hj hn q hq
    obtain ⟨q, rfl⟩ : ∃ m, q = m + 1 := ⟨q - 1, by omega⟩
    simp only [ferruleref18_Len.l0]
    rw [if_neg (show ¬ (j : Int) < l.length by omega), List.drop_eq_nil_of_le (by omega)]
    rfl
  | succ d ih =>
    intro j n hd hj hn q hq
    obtain ⟨q, rfl⟩ : ∃ m, q = m + 1 := ⟨q - 1, by omega⟩
    have hlt : j < l.length := by omega
    have hw : ∀ z, wrap64 (wrap64 z) = wrap64 z := fun z => by unfold wrap64; omega
    simp only [ferruleref18_Len.l0]
    rw [if_pos (show (j : Int) < l.length by omega), if_pos (show (0 : Int) ≤ j by omega), rd_drop l j hlt, show wrap64 ((j : Int) + 1) = ((j + 1 : Nat) : Int) by unfold wrap64; omega]
    simp only [lenGo]
    generalize rd_T79 l (j : Int) = x
    by_cases hp : x.f1 > 0
    · rw [if_pos hp, show max x.f1 0 = x.f1 by omega, ih (j + 1) _ (by omega) (by omega) (hw _) q (by omega)]
    · rw [if_neg hp, show max x.f1 0 = 0 by omega, Int.add_zero, hn, ih (j + 1) n (by omega) (by omega) hn q (by omega)]
theorem Len_ev (l : List S79) (hl : l.length < 5864062014806) : Ev (fun k => bag_Len.f k l) (lenGo 0 l) :=
  ⟨l.length + 1, fun k hk => Len_l0 l hl l.length 0 0 (by omega) (by omega) k (by omega)⟩
theorem rLen_ev (l : List S79) (hl : l.length < 5864062014806) : Ev (fun k => ferruleref18_Len.f k l) (lenGo 0 l) :=
  ⟨l.length + 1, fun k hk => rLen_l0 l hl l.length 0 0 (by omega) (by omega) (by unfold wrap64; omega) k (by omega)⟩
theorem Less_l0 (a b : ByteArray) (ha : a.size ≤ 9223372036854775806) : ∀ (d i : Nat), d = a.size - i → i ≤ a.size → i ≤ b.size → ∀ q, 2 * d + 2 < q → ferruleref11_Less.l0 q a b i = some (Op.bytesLess (a.toList.drop i) (b.toList.drop i)) := by
  intro d
  induction d with
  | zero =>
    intro i hd h1 h2 q hq
    obtain ⟨q, rfl⟩ : ∃ m, q = m + 2 := ⟨q - 2, by omega⟩
    have hi : i = a.size := by omega
    simp only [ferruleref11_Less.l0]
    rw [if_neg (show ¬ (i : Int) < a.size by omega)]
    simp only [ferruleref11_Less.j1]
    rw [List.drop_eq_nil_of_le (by rw [toList_len]; omega)]
    rcases Nat.lt_or_ge i b.size with hb | hb
    · obtain ⟨y, _, hy⟩ := bt_get b i hb
      rw [hy]
      simp [Op.bytesLess]; omega
    · rw [List.drop_eq_nil_of_le (by rw [toList_len]; omega)]
      simp [Op.bytesLess]; omega
  | succ d ih =>
    intro i hd h1 h2 q hq
    obtain ⟨q, rfl⟩ : ∃ m, q = m + 2 := ⟨q - 2, by omega⟩
    have hi : i < a.size := by omega
    obtain ⟨x, hx1, hx2⟩ := bt_get a i hi
    simp only [ferruleref11_Less.l0]
    rw [if_pos (show (i : Int) < a.size by omega)]
    simp only [ferruleref11_Less.j1]
    rcases Nat.lt_or_ge i b.size with hb | hb
    · obtain ⟨y, hy1, hy2⟩ := bt_get b i hb
      rw [if_pos (by simp; omega), if_pos (show (0 : Int) ≤ i by omega), if_pos (show (i : Int) < a.size by omega), if_pos (show (i : Int) < b.size by omega), hx1, hy1, hx2, hy2, show wrap64 ((i : Int) + 1) = ((i + 1 : Nat) : Int) by unfold wrap64; omega]
      by_cases he : (x.toNat : Int) = y.toNat
      · rw [if_pos he, ih (i + 1) (by omega) (by omega) (by omega) q (by omega)]
        have hxy : x = y := UInt8.toNat_inj.1 (by omega)
        subst hxy
        simp [Op.bytesLess]
      · rw [if_neg he]
        have hxy : ¬ x = y := fun e => he (by rw [e])
        simp only [Op.bytesLess, Option.some.injEq]
        rw [show (x == y) = false by simpa using hxy, Bool.false_and, Bool.or_false]
        by_cases hl : x.toNat < y.toNat
        · rw [decide_eq_true (by omega), eq_comm, decide_eq_true_eq]; exact UInt8.lt_iff_toNat_lt.2 hl
        · rw [decide_eq_false (by omega), eq_comm, decide_eq_false_iff_not]; exact fun h => hl (UInt8.lt_iff_toNat_lt.1 h)
    · rw [if_neg (by simp; omega), hx2, show b.toList.drop i = [] from List.drop_eq_nil_of_le (by rw [toList_len]; omega)]
      simp [Op.bytesLess]; omega
theorem Less_ev (a b : ByteArray) (ha : a.size ≤ 9223372036854775806) : Ev (fun k => ferruleref11_Less.f k a b) (Op.bytesLess a.toList b.toList) :=
  ⟨2 * a.size + 3, fun k hk => by
    have := Less_l0 a b ha a.size 0 (by omega) (by omega) (by omega) k (by omega)
    simpa [ferruleref11_Less.f] using this⟩
def allFrom (l : List S79) : Nat → Nat → Bool
  | 0, _ => true
  | d + 1, j => okB l j && allFrom l d (j + 1)
theorem allFrom_iff (l : List S79) : ∀ (d j : Nat), allFrom l d j = true ↔ ∀ i, j ≤ i → i < j + d → okB l i = true
  | 0, j => by simp [allFrom]; omega
  | d + 1, j => by
    rw [allFrom, Bool.and_eq_true, allFrom_iff l d (j + 1)]
    constructor
    · rintro ⟨h1, h2⟩ i hi1 hi2
      by_cases e : i = j
      · subst e; exact h1
      · exact h2 i (by omega) (by omega)
    · exact fun h => ⟨h j (Nat.le_refl _) (by omega), fun i h1 h2 => h i (by omega) (by omega)⟩
theorem rightB_from (l : List S79) : rightB l = allFrom l l.length 0 := by
  rw [Bool.eq_iff_iff, allFrom_iff]
  unfold rightB
  rw [List.all_eq_true]
  exact ⟨fun h i _ hi => h i (List.mem_range.2 (by omega)), fun h i hi => h i (Nat.zero_le _) (by have := List.mem_range.1 hi; omega)⟩
theorem rRight_l0 (l : List S79) (M : Nat) (hM : M ≤ 9223372036854775806) (hl : l.length < 5864062014806) (hs : ∀ x ∈ l, x.f0.size ≤ M) : ∀ (d j : Nat), d = l.length - j → j ≤ l.length → ∀ q, 2 * d + 2 * M + 4 < q → ferruleref18_Right.l0 q l j = some (allFrom l d j) := by
  intro d
  induction d with
  | zero =>
    intro j hd hj q hq
    obtain ⟨q, rfl⟩ : ∃ m, q = m + 1 := ⟨q - 1, by omega⟩
    simp only [ferruleref18_Right.l0]
    rw [if_neg (show ¬ (j : Int) < l.length by omega)]
    rfl
  | succ d ih =>
    intro j hd hj q hq
    obtain ⟨q, rfl⟩ : ∃ m, q = m + 2 := ⟨q - 2, by omega⟩
    have hlt : j < l.length := by omega
    have hw : wrap64 ((j : Int) + 1) = ((j + 1 : Nat) : Int) := by unfold wrap64; omega
    simp only [ferruleref18_Right.l0]
    rw [if_pos (show (j : Int) < l.length by omega), if_pos (show (0 : Int) ≤ j by omega), rd_get l j hlt, allFrom]
    have hmem : l[j]! ∈ l := by rw [getElem!_pos l j hlt]; exact List.getElem_mem hlt
    have hok : okB l j = (decide (1 ≤ (l[j]!).f1) && decide ((l[j]!).f1 ≤ 1048576) && (decide (j = 0) || Op.bytesLess (l[j - 1]!).f0.toList (l[j]!).f0.toList)) := rfl
    by_cases c1 : (l[j]!).f1 < 1
    · rw [if_pos c1]
      simp only [ferruleref18_Right.j1]
      rw [if_pos trivial, hok, decide_eq_false (show ¬ 1 ≤ (l[j]!).f1 by omega)]
      simp
    · rw [if_neg c1]
      simp only [ferruleref18_Right.j1]
      by_cases c2 : (l[j]!).f1 > 1048576
      · rw [if_pos (decide_eq_true c2), hok, decide_eq_false (show ¬ (l[j]!).f1 ≤ 1048576 by omega)]
        simp
      · rw [if_neg (show ¬ decide ((l[j]!).f1 > 1048576) = true from fun h => c2 (of_decide_eq_true h)), hok, decide_eq_true (show 1 ≤ (l[j]!).f1 by omega), decide_eq_true (show (l[j]!).f1 ≤ 1048576 by omega)]
        by_cases c3 : (j : Int) > 0
        · have hj1 : j - 1 < l.length := by omega
          have hw2 : wrap64 ((j : Int) - 1) = ((j - 1 : Nat) : Int) := by unfold wrap64; omega
          obtain ⟨K, hK⟩ := Less_ev (l[j - 1]!).f0 (l[j]!).f0 (by have := hs _ (show l[j - 1]! ∈ l by rw [getElem!_pos l _ hj1]; exact List.getElem_mem hj1); omega)
          have hLess : ferruleref11_Less.f q (l[j - 1]!).f0 (l[j]!).f0 = some (Op.bytesLess (l[j - 1]!).f0.toList (l[j]!).f0.toList) := by
            have hsz := hs _ (show l[j - 1]! ∈ l by rw [getElem!_pos l _ hj1]; exact List.getElem_mem hj1)
            have := Less_l0 (l[j - 1]!).f0 (l[j]!).f0 (by omega) (l[j - 1]!).f0.size 0 (by omega) (by omega) (by omega) q (by omega)
            simpa [ferruleref11_Less.f] using this
          rw [if_pos c3, hw2, if_pos (show (0 : Int) ≤ ((j - 1 : Nat) : Int) by omega), if_pos (show ((j - 1 : Nat) : Int) < l.length by omega), if_pos (show (0 : Int) ≤ j by omega), if_pos (show (j : Int) < l.length by omega), rd_get l _ hj1, rd_get l j hlt, hLess, hw]
          simp only [Option.bind_some]
          cases hb : Op.bytesLess (l[j - 1]!).f0.toList (l[j]!).f0.toList with
          | true => rw [if_pos rfl, ih (j + 1) (by omega) (by omega) q (by omega)]; simp
          | false => rw [if_neg (by decide), decide_eq_false (show ¬ j = 0 by omega)]; simp
        · rw [if_neg c3, hw, ih (j + 1) (by omega) (by omega) q (by omega), decide_eq_true (show j = 0 by omega)]
          simp
theorem rRight_ev (l : List S79) (M : Nat) (hM : M ≤ 9223372036854775806) (hl : l.length < 5864062014806) (hs : ∀ x ∈ l, x.f0.size ≤ M) : Ev (fun k => ferruleref18_Right.f k l) (rightB l) :=
  ⟨2 * l.length + 2 * M + 5, fun k hk => by
    have := rRight_l0 l M hM hl hs l.length 0 (by omega) (by omega) k (by omega)
    rw [rightB_from]
    simpa [ferruleref18_Right.f] using this⟩
end Go.Proofs.Ythfkbfahpgdnfaa.PAll
