/- Joined texts of the claim RowsKeeps (part 40): contracts of functions and plain laws. -/
import Derived.Test.YthfkbfahpgdnfaaJRowsKeeps2
import Derived.Test.YthfkbfahpgdnfaaJRowsKeeps39
section
/- Plain tools: reading of lists and texts as the printed functions do it; the order of texts. -/
namespace Go.Proofs.Ythfkbfahpgdnfaa.PAll
open Go.RowKit Go.Proofs.YthfkbfahpgdnfaaW.PrintWords Go.Proofs.YthfkbfahpgdnfaaW.PrintMore Go.Proofs.Ythfkbfahpgdnfaa
set_option linter.unusedVariables false
theorem wrap_up (j : Nat) (h : j < 9223372036854775807) : wrap64 ((j : Int) + 1) = ((j + 1 : Nat) : Int) := by unfold wrap64; omega
theorem wrap_down (j : Nat) (h : 0 < j) (h2 : j < 9223372036854775807) : wrap64 ((j : Int) - 1) = ((j - 1 : Nat) : Int) := by unfold wrap64; omega
theorem get_mem {α : Type} [Inhabited α] (l : List α) (j : Nat) (hj : j < l.length) : l[j]! ∈ l := by rw [getElem!_pos l j hj]; exact List.getElem_mem hj
theorem drop_get {α : Type} [Inhabited α] (l : List α) (j : Nat) (hj : j < l.length) : l.drop j = l[j]! :: l.drop (j + 1) := by rw [List.drop_eq_getElem_cons hj, getElem!_pos l j hj]
theorem bt_get (s : ByteArray) (j : Nat) (hj : j < s.size) : ∃ b : UInt8, bt s (j : Int) = (b.toNat : Int) ∧ s.toList.drop j = b :: s.toList.drop (j + 1) := by
  have hl : s.toList.length = s.size := by rw [ByteArray.toList_eq, Array.length_toList]; rfl
  refine ⟨s[j], by simp [bt, hj], ?_⟩
  rw [List.drop_eq_getElem_cons (by omega)]
  congr 1
  simp only [ByteArray.toList_eq]
  rfl
theorem toList_len (s : ByteArray) : s.toList.length = s.size := by rw [ByteArray.toList_eq, Array.length_toList]; rfl
theorem Less_l0 (a b : ByteArray) (ha : a.size ≤ 9223372036854775806) : ∀ (d i : Nat), d = a.size - i → i ≤ a.size → i ≤ b.size → ∀ q, 2 * d + 2 < q → ferruleref11_Less.l0 q a b i = some (Op.bytesLess (a.toList.drop i) (b.toList.drop i)) := by
  intro d
  induction d with
  | zero =>
    intro i hd h1 h2 q hq
    obtain ⟨q, rfl⟩ : ∃ m, q = m + 2 := ⟨q - 2, by omega⟩
    have hi : i = a.size := by omega
    simp only [ferruleref11_Less.l0]
    rw [if_neg (show ¬ (i : Int) < a.size by omega)]
    simp only [ferruleref11_Less.j1]
    rw [List.drop_eq_nil_of_le (by rw [toList_len]; omega)]
    rcases Nat.lt_or_ge i b.size with hb | hb
    · obtain ⟨y, _, hy⟩ := bt_get b i hb
      rw [hy]
      simp [Op.bytesLess]; omega
    · rw [List.drop_eq_nil_of_le (by rw [toList_len]; omega)]
      simp [Op.bytesLess]; omega
  | succ d ih =>
    intro i hd h1 h2 q hq
    obtain ⟨q, rfl⟩ : ∃ m, q = m + 2 := ⟨q - 2, by omega⟩
    have hi : i < a.size := by omega
    obtain ⟨x, hx1, hx2⟩ := bt_get a i hi
    simp only [ferruleref11_Less.l0]
    rw [if_pos (show (i : Int) < a.size by omega)]
    simp only [ferruleref11_Less.j1]
    rcases Nat.lt_or_ge i b.size with hb | hb
    · obtain ⟨y, hy1, hy2⟩ := bt_get b i hb
      rw [if_pos (by simp; omega), if_pos (show (0 : Int) ≤ i by omega), if_pos (show (i : Int) < a.size by omega), if_pos (show (i : Int) < b.size by omega), hx1, hy1, hx2, hy2, show wrap64 ((i : Int) + 1) = ((i + 1 : Nat) : Int) by unfold wrap64; omega]
      by_cases he : (x.toNat : Int) = y.toNat
      · rw [if_pos he, ih (i + 1) (by omega) (by omega) (by omega) q (by omega)]
        have hxy : x = y := UInt8.toNat_inj.1 (by omega)
        subst hxy
        simp [Op.bytesLess]
      · rw [if_neg he]
        have hxy : ¬ x = y := fun e => he (by rw [e])
        simp only [Op.bytesLess, Option.some.injEq]
        rw [show (x == y) = false by simpa using hxy, Bool.false_and, Bool.or_false]
        by_cases hl : x.toNat < y.toNat
        · rw [decide_eq_true (by omega), eq_comm, decide_eq_true_eq]; exact UInt8.lt_iff_toNat_lt.2 hl
        · rw [decide_eq_false (by omega), eq_comm, decide_eq_false_iff_not]; exact fun h => hl (UInt8.lt_iff_toNat_lt.1 h)
    · rw [if_neg (by simp; omega), hx2, show b.toList.drop i = [] from List.drop_eq_nil_of_le (by rw [toList_len]; omega)]
      simp [Op.bytesLess]; omega
theorem Less_ev (a b : ByteArray) (ha : a.size ≤ 9223372036854775806) : Ev (fun k => ferruleref11_Less.f k a b) (Op.bytesLess a.toList b.toList) :=
  ⟨2 * a.size + 3, fun k hk => by
    have := Less_l0 a b ha a.size 0 (by omega) (by omega) (by omega) k (by omega)
    simpa [ferruleref11_Less.f] using this⟩
theorem less_flip : ∀ (a b : List UInt8), Op.bytesLess a b = (!Op.bytesLess b a && !b == a)
  | [], [] => rfl
  | [], b :: y => by simp [Op.bytesLess]
  | a :: x, [] => by simp [Op.bytesLess]
  | a :: x, b :: y => by
    simp only [Op.bytesLess]
    rw [less_flip x y]
    by_cases h : a = b
    · subst h
      simp
    · have h1 : (a == b) = false := by simpa using h
      have h2 : (b == a) = false := by simpa using fun e => h e.symm
      rw [h1, h2]
      simp only [Bool.false_and, Bool.or_false]
      have h3 : ((b :: y) == (a :: x)) = false := by simp [h2]
      rw [h3]
      simp only [Bool.not_false, Bool.and_true]
      rw [Bool.eq_iff_iff]
      simp only [decide_eq_true_eq, Bool.not_eq_true', decide_eq_false_iff_not]
      constructor
      · exact fun h4 h5 => h (UInt8.toNat_inj.1 (by have := UInt8.lt_iff_toNat_lt.1 h4; have := UInt8.lt_iff_toNat_lt.1 h5; omega))
      · intro h4
        have h5 : a.toNat ≠ b.toNat := fun e => h (UInt8.toNat_inj.1 e)
        rw [UInt8.lt_iff_toNat_lt] at h4 ⊢
        omega
end Go.Proofs.Ythfkbfahpgdnfaa.PAll
end
