/- What was put into a right bag and taken leaves it as it was; so does what was doubled, and taken: told by the code. No condition beside the form's own. -/
import Derived.Test.YthfkbfahpgdnfaaG6
import Derived.Test.YthfkbfahpgdnfaaPAllx3
import Derived.Test.YthfkbfahpgdnfaaPAllx12
import Derived.Test.YthfkbfahpgdnfaaPAllx13
import Derived.Test.YthfkbfahpgdnfaaPAllx14
import Derived.Test.YthfkbfahpgdnfaaPAllx15
import Derived.Test.YthfkbfahpgdnfaaG4
import Derived.Test.YthfkbfahpgdnfaaG3
import Derived.Test.YthfkbfahpgdnfaaPAllx4
import Derived.Test.YthfkbfahpgdnfaaPAllx5
import Derived.Test.YthfkbfahpgdnfaaPAllx20
import Derived.Test.YthfkbfahpgdnfaaPAllx22
import Derived.Test.YthfkbfahpgdnfaaPAllx23
import Derived.Test.YthfkbfahpgdnfaaPAllx24
import Derived.Test.YthfkbfahpgdnfaaPAllx25
import Derived.Test.YthfkbfahpgdnfaaPAllx26
import Derived.RangeFuncNested
import Derived.RangeFuncBound
import Derived.RangeFuncCalls
import Derived.RangeFuncLeaves
import Derived.Shelf.Abstract
import Derived.Shelf.RegionOpen
import Derived.WalkKit
import Derived.OwnWalkIn
import Derived.TacticsInMore
import Derived.LoopNIn
import Derived.LoopIn
import Derived.WalkMore
import Derived.Test.YthfkbfahpgdnfaaPAllx17
import Derived.Test.YthfkbfahpgdnfaaO1
import Derived.Test.YthfkbfahpgdnfaaRows
import Derived.ProofKit
import Derived.OpenShut
import Derived.ShutString
import Derived.ChangeOld
import Derived.Below
import Derived.SizedLaws
/- The plain laws of bags, first part: order of texts, Len, Right; the document's example. -/
namespace Go.Proofs.Ythfkbfahpgdnfaa.PAll
open Go.RowKit Go.Proofs.YthfkbfahpgdnfaaW.PrintWords Go.Proofs.YthfkbfahpgdnfaaW.PrintMore Go.Proofs.Ythfkbfahpgdnfaa
set_option linter.unusedVariables false
theorem rd_drop (l : List S79) (j : Nat) (hj : j < l.length) : l.drop j = rd_T79 l (j : Int) :: l.drop (j + 1) := by
  rw [List.drop_eq_getElem_cons hj]
  simp [rd_T79, List.getD_eq_getElem?_getD, List.getElem?_eq_getElem hj]
theorem rd_get (l : List S79) (j : Nat) (hj : j < l.length) : rd_T79 l (j : Int) = l[j]! := by
  simp [rd_T79, List.getD_eq_getElem?_getD, List.getElem?_eq_getElem hj, getElem!_pos l j hj]
theorem bt_get (s : ByteArray) (j : Nat) (hj : j < s.size) : ∃ b : UInt8, bt s (j : Int) = (b.toNat : Int) ∧ s.toList.drop j = b :: s.toList.drop (j + 1) := by
  have hl : s.toList.length = s.size := by rw [ByteArray.toList_eq, Array.length_toList]; rfl
  refine ⟨s[j], by simp [bt, hj], ?_⟩
  rw [List.drop_eq_getElem_cons (by omega)]
  congr 1
  simp only [ByteArray.toList_eq]
  rfl
theorem toList_len (s : ByteArray) : s.toList.length = s.size := by rw [ByteArray.toList_eq, Array.length_toList]; rfl
theorem shown_ok : ∃ k, ferrulelaw18_shown.f k = some true := ⟨20, by kernel_rfl⟩
def lenGo : Int → List S79 → Int
  | n, [] => n
  | n, x :: r => lenGo (wrap64 (n + max x.f1 0)) r
theorem Len_l0 (l : List S79) (hl : l.length < 5864062014806) : ∀ (d j : Nat) (n : Int), d = l.length - j → j ≤ l.length → ∀ q, d < q → bag_Len.l0 q n l l.length j = some (lenGo n (l.drop j)) := by
  intro d
  induction d with
  | zero =>
    intro j n hd hj q hq
    obtain ⟨q, rfl⟩ : ∃ m, q = m + 1 := ⟨q - 1, by omega⟩
    simp only [bag_Len.l0]
    rw [if_neg (show ¬ (j : Int) < l.length by omega), List.drop_eq_nil_of_le (by omega)]
    rfl
  | succ d ih =>
    intro j n hd hj q hq
    obtain ⟨q, rfl⟩ : ∃ m, q = m + 1 := ⟨q - 1, by omega⟩
    have hlt : j < l.length := by omega
    simp only [bag_Len.l0]
    rw [if_pos (show (j : Int) < l.length by omega), if_pos (show (0 : Int) ≤ j by omega), if_pos (show (j : Int) < l.length by omega), show wrap64 ((j : Int) + 1) = ((j + 1 : Nat) : Int) by unfold wrap64; omega, ih (j + 1) _ (by omega) (by omega) q (by omega), rd_drop l j hlt]
    simp only [lenGo]
    rw [show mx (rd_T79 l j).f1 0 = max (rd_T79 l j).f1 0 by unfold mx; omega]
theorem rLen_l0 (l : List S79) (hl : l.length < 5864062014806) : ∀ (d j : Nat) (n : Int), d = l.length - j → j ≤ l.length → wrap64 n = n → ∀ q, d < q → ferruleref18_Len.l0 q l n j = some (lenGo n (l.drop j)) := by
  intro d
  induction d with
  | zero =>
    intro j n hd hj hn q hq
    obtain ⟨q, rfl⟩ : ∃ m, q = m + 1 := ⟨q - 1, by omega⟩
    simp only [ferruleref18_Len.l0]
    rw [if_neg (show ¬ (j : Int) < l.length by omega), List.drop_eq_nil_of_le (by omega)]
    rfl
  | succ d ih =>
    intro j n hd hj hn q hq
    obtain ⟨q, rfl⟩ : ∃ m, q = m + 1 := ⟨q - 1, by omega⟩
    have hlt : j < l.length := by omega
    have hw : ∀ z, wrap64 (wrap64 z) = wrap64 z := fun z => by unfold wrap64; omega
    simp only [ferruleref18_Len.l0]
    rw [if_pos (show (j : Int) < l.length by omega), if_pos (show (0 : Int) ≤ j by omega), rd_drop l j hlt, show wrap64 ((j : Int) + 1) = ((j + 1 : Nat) : Int) by unfold wrap64; omega]
    simp only [lenGo]
    generalize rd_T79 l (j : Int) = x
    by_cases hp : x.f1 > 0
    · rw [if_pos hp, show max x.f1 0 = x.f1 by omega, ih (j + 1) _ (by omega) (by omega) (hw _) q (by omega)]
    · rw [if_neg hp, show max x.f1 0 = 0 by omega, Int.add_zero, hn, ih (j + 1) n (by omega) (by omega) hn q (by omega)]
theorem Len_ev (l : List S79) (hl : l.length < 5864062014806) : Ev (fun k => bag_Len.f k l) (lenGo 0 l) :=
  ⟨l.length + 1, fun k hk => Len_l0 l hl l.length 0 0 (by omega) (by omega) k (by omega)⟩
theorem rLen_ev (l : List S79) (hl : l.length < 5864062014806) : Ev (fun k => ferruleref18_Len.f k l) (lenGo 0 l) :=
  ⟨l.length + 1, fun k hk => rLen_l0 l hl l.length 0 0 (by omega) (by omega) (by unfold wrap64; omega) k (by omega)⟩
theorem Less_l0 (a b : ByteArray) (ha : a.size ≤ 9223372036854775806) : ∀ (d i : Nat), d = a.size - i → i ≤ a.size → i ≤ b.size → ∀ q, 2 * d + 2 < q → ferruleref11_Less.l0 q a b i = some (Op.bytesLess (a.toList.drop i) (b.toList.drop i)) := by
  intro d
  induction d with
  | zero =>
    intro i hd h1 h2 q hq
    obtain ⟨q, rfl⟩ : ∃ m, q = m + 2 := ⟨q - 2, by omega⟩
    have hi : i = a.size := by omega
    simp only [ferruleref11_Less.l0]
    rw [if_neg (show ¬ (i : Int) < a.size by omega)]
    simp only [ferruleref11_Less.j1]
    rw [List.drop_eq_nil_of_le (by rw [toList_len]; omega)]
    rcases Nat.lt_or_ge i b.size with hb | hb
    · obtain ⟨y, _, hy⟩ := bt_get b i hb
      rw [hy]
      simp [Op.bytesLess]; omega
    · rw [List.drop_eq_nil_of_le (by rw [toList_len]; omega)]
      simp [Op.bytesLess]; omega
  | succ d ih =>
    intro i hd h1 h2 q hq
    obtain ⟨q, rfl⟩ : ∃ m, q = m + 2 := ⟨q - 2, by omega⟩
    have hi : i < a.size := by omega
    obtain ⟨x, hx1, hx2⟩ := bt_get a i hi
    simp only [ferruleref11_Less.l0]
    rw [if_pos (show (i : Int) < a.size by omega)]
    simp only [ferruleref11_Less.j1]
    rcases Nat.lt_or_ge i b.size with hb | hb
    · obtain ⟨y, hy1, hy2⟩ := bt_get b i hb
      rw [if_pos (by simp; omega), if_pos (show (0 : Int) ≤ i by omega), if_pos (show (i : Int) < a.size by omega), if_pos (show (i : Int) < b.size by omega), hx1, hy1, hx2, hy2, show wrap64 ((i : Int) + 1) = ((i + 1 : Nat) : Int) by unfold wrap64; omega]
      by_cases he : (x.toNat : Int) = y.toNat
      · rw [if_pos he, ih (i + 1) (by omega) (by omega) (by omega) q (by omega)]
        have hxy : x = y := UInt8.toNat_inj.1 (by omega)
        subst hxy
        simp [Op.bytesLess]
      · rw [if_neg he]
        have hxy : ¬ x = y := fun e => he (by rw [e])
        simp only [Op.bytesLess, Option.some.injEq]
        rw [show (x == y) = false by simpa using hxy, Bool.false_and, Bool.or_false]
        by_cases hl : x.toNat < y.toNat
        · rw [decide_eq_true (by omega), eq_comm, decide_eq_true_eq]; exact UInt8.lt_iff_toNat_lt.2 hl
        · rw [decide_eq_false (by omega), eq_comm, decide_eq_false_iff_not]; exact fun h => hl (UInt8.lt_iff_toNat_lt.1 h)
    · rw [if_neg (by simp; omega), hx2, show b.toList.drop i = [] from List.drop_eq_nil_of_le (by rw [toList_len]; omega)]
      simp [Op.bytesLess]; omega
theorem Less_ev (a b : ByteArray) (ha : a.size ≤ 9223372036854775806) : Ev (fun k => ferruleref11_Less.f k a b) (Op.bytesLess a.toList b.toList) :=
  ⟨2 * a.size + 3, fun k hk => by
    have := Less_l0 a b ha a.size 0 (by omega) (by omega) (by omega) k (by omega)
    simpa [ferruleref11_Less.f] using this⟩
def allFrom (l : List S79) : Nat → Nat → Bool
  | 0, _ => true
  | d + 1, j => okB l j && allFrom l d (j + 1)
theorem allFrom_iff (l : List S79) : ∀ (d j : Nat), allFrom l d j = true ↔ ∀ i, j ≤ i → i < j + d → okB l i = true
  | 0, j => by simp [allFrom]; omega
  | d + 1, j => by
    rw [allFrom, Bool.and_eq_true, allFrom_iff l d (j + 1)]
    constructor
    · rintro ⟨h1, h2⟩ i hi1 hi2
      by_cases e : i = j
      · subst e; exact h1
      · exact h2 i (by omega) (by omega)
    · exact fun h => ⟨h j (Nat.le_refl _) (by omega), fun i h1 h2 => h i (by omega) (by omega)⟩
theorem rightB_from (l : List S79) : rightB l = allFrom l l.length 0 := by
  rw [Bool.eq_iff_iff, allFrom_iff]
  unfold rightB
  rw [List.all_eq_true]
  exact ⟨fun h i _ hi => h i (List.mem_range.2 (by omega)), fun h i hi => h i (Nat.zero_le _) (by have := List.mem_range.1 hi; omega)⟩
theorem rRight_l0 (l : List S79) (M : Nat) (hM : M ≤ 9223372036854775806) (hl : l.length < 5864062014806) (hs : ∀ x ∈ l, x.f0.size ≤ M) : ∀ (d j : Nat), d = l.length - j → j ≤ l.length → ∀ q, 2 * d + 2 * M + 4 < q → ferruleref18_Right.l0 q l j = some (allFrom l d j) := by
  intro d
  induction d with
  | zero =>
    intro j hd hj q hq
    obtain ⟨q, rfl⟩ : ∃ m, q = m + 1 := ⟨q - 1, by omega⟩
    simp only [ferruleref18_Right.l0]
    rw [if_neg (show ¬ (j : Int) < l.length by omega)]
    rfl
  | succ d ih =>
    intro j hd hj q hq
    obtain ⟨q, rfl⟩ : ∃ m, q = m + 2 := ⟨q - 2, by omega⟩
    have hlt : j < l.length := by omega
    have hw : wrap64 ((j : Int) + 1) = ((j + 1 : Nat) : Int) := by unfold wrap64; omega
    simp only [ferruleref18_Right.l0]
    rw [if_pos (show (j : Int) < l.length by omega), if_pos (show (0 : Int) ≤ j by omega), rd_get l j hlt, allFrom]
    have hmem : l[j]! ∈ l := by rw [getElem!_pos l j hlt]; exact List.getElem_mem hlt
    have hok : okB l j = (decide (1 ≤ (l[j]!).f1) && decide ((l[j]!).f1 ≤ 1048576) && (decide (j = 0) || Op.bytesLess (l[j - 1]!).f0.toList (l[j]!).f0.toList)) := rfl
    by_cases c1 : (l[j]!).f1 < 1
    · rw [if_pos c1]
      simp only [ferruleref18_Right.j1]
      rw [if_pos trivial, hok, decide_eq_false (show ¬ 1 ≤ (l[j]!).f1 by omega)]
      simp
    · rw [if_neg c1]
      simp only [ferruleref18_Right.j1]
      by_cases c2 : (l[j]!).f1 > 1048576
      · rw [if_pos (decide_eq_true c2), hok, decide_eq_false (show ¬ (l[j]!).f1 ≤ 1048576 by omega)]
        simp
      · rw [if_neg (show ¬ decide ((l[j]!).f1 > 1048576) = true from fun h => c2 (of_decide_eq_true h)), hok, decide_eq_true (show 1 ≤ (l[j]!).f1 by omega), decide_eq_true (show (l[j]!).f1 ≤ 1048576 by omega)]
        by_cases c3 : (j : Int) > 0
        · have hj1 : j - 1 < l.length := by omega
          have hw2 : wrap64 ((j : Int) - 1) = ((j - 1 : Nat) : Int) := by unfold wrap64; omega
          obtain ⟨K, hK⟩ := Less_ev (l[j - 1]!).f0 (l[j]!).f0 (by have := hs _ (show l[j - 1]! ∈ l by rw [getElem!_pos l _ hj1]; exact List.getElem_mem hj1); omega)
          have hLess : ferruleref11_Less.f q (l[j - 1]!).f0 (l[j]!).f0 = some (Op.bytesLess (l[j - 1]!).f0.toList (l[j]!).f0.toList) := by
            have hsz := hs _ (show l[j - 1]! ∈ l by rw [getElem!_pos l _ hj1]; exact List.getElem_mem hj1)
            have := Less_l0 (l[j - 1]!).f0 (l[j]!).f0 (by omega) (l[j - 1]!).f0.size 0 (by omega) (by omega) (by omega) q (by omega)
            simpa [ferruleref11_Less.f] using this
          rw [if_pos c3, hw2, if_pos (show (0 : Int) ≤ ((j - 1 : Nat) : Int) by omega), if_pos (show ((j - 1 : Nat) : Int) < l.length by omega), if_pos (show (0 : Int) ≤ j by omega), if_pos (show (j : Int) < l.length by omega), rd_get l _ hj1, rd_get l j hlt, hLess, hw]
          simp only [Option.bind_some]
          cases hb : Op.bytesLess (l[j - 1]!).f0.toList (l[j]!).f0.toList with
          | true => rw [if_pos rfl, ih (j + 1) (by omega) (by omega) q (by omega)]; simp
          | false => rw [if_neg (by decide), decide_eq_false (show ¬ j = 0 by omega)]; simp
        · rw [if_neg c3, hw, ih (j + 1) (by omega) (by omega) q (by omega), decide_eq_true (show j = 0 by omega)]
          simp
theorem rRight_ev (l : List S79) (M : Nat) (hM : M ≤ 9223372036854775806) (hl : l.length < 5864062014806) (hs : ∀ x ∈ l, x.f0.size ≤ M) : Ev (fun k => ferruleref18_Right.f k l) (rightB l) :=
  ⟨2 * l.length + 2 * M + 5, fun k hk => by
    have := rRight_l0 l M hM hl hs l.length 0 (by omega) (by omega) k (by omega)
    rw [rightB_from]
    simpa [ferruleref18_Right.f] using this⟩
end Go.Proofs.Ythfkbfahpgdnfaa.PAll
/- The plain laws of bags, second part: of, Pick, Take, Copy, Put, Same. -/
namespace Go.Proofs.Ythfkbfahpgdnfaa.PAll
open Go.RowKit Go.Proofs.YthfkbfahpgdnfaaW.PrintWords Go.Proofs.YthfkbfahpgdnfaaW.PrintMore Go.Proofs.Ythfkbfahpgdnfaa
set_option linter.unusedVariables false
theorem of_l0 (l : List S79) (hl : l.length < 5864062014806) : ∀ (d j : Nat) (k : Int), d = l.length - j → j ≤ l.length → 0 ≤ k → k ≤ 9223372036854775807 → ∀ q, d < q → bag_of.l0 q k l l.length j = some (plB (l.drop j) k j) := by
  intro d
  induction d with
  | zero =>
    intro j k hd hj h0 hk q hq
    obtain ⟨q, rfl⟩ : ∃ m, q = m + 1 := ⟨q - 1, by omega⟩
    simp only [bag_of.l0]
    rw [if_neg (show ¬ (j : Int) < l.length by omega), List.drop_eq_nil_of_le (by omega)]
    rfl
  | succ d ih =>
    intro j k hd hj h0 hk q hq
    obtain ⟨q, rfl⟩ : ∃ m, q = m + 1 := ⟨q - 1, by omega⟩
    have hlt : j < l.length := by omega
    simp only [bag_of.l0]
    rw [if_pos (show (j : Int) < l.length by omega), if_pos (show (0 : Int) ≤ j by omega), if_pos (show (j : Int) < l.length by omega), rd_drop l j hlt, show wrap64 ((j : Int) + 1) = ((j + 1 : Nat) : Int) by unfold wrap64; omega]
    generalize rd_T79 l (j : Int) = x
    have hm : mx x.f1 0 = max x.f1 0 := by unfold mx; omega
    simp only [plB, hm]
    by_cases hx : k < max x.f1 0
    · rw [if_pos hx, if_pos hx]
    · rw [if_neg hx, if_neg hx, show wrap64 (k - max x.f1 0) = k - max x.f1 0 by unfold wrap64; omega, ih (j + 1) _ (by omega) (by omega) (by omega) (by omega) q (by omega)]
      rfl
theorem of_ev (l : List S79) (hl : l.length < 5864062014806) (k : Int) (hk : k ≤ 9223372036854775807) : Ev (fun q => bag_of.f q l k) (plI l k) :=
  ⟨l.length + 1, fun q hq => by
    unfold bag_of.f plI
    dsimp only
    by_cases h : k < 0
    · rw [if_pos h, if_pos h]
    · rw [if_neg h, if_neg h]
      have := of_l0 l hl l.length 0 k (by omega) (by omega) (by omega) hk q (by omega)
      simpa using this⟩
theorem place_ev (l : List S79) (hl : l.length < 5864062014806) (k : Int) (hk : k ≤ 9223372036854775807) : Ev (fun q => ferruleref18_place.f q l k) (plI l k) :=
  ⟨2 * l.length + 3, fun q hq => place_f l hl k hk q (by omega)⟩
theorem plB_pos : ∀ (l : List S79) (k : Int) (i : Nat) (j : Nat), 0 ≤ k → plB l k i = ((i + j : Nat) : Int) → j < l.length → 1 ≤ (l[j]!).f1
  | [], k, i, j, _, h, hj => by simp at hj
  | x :: r, k, i, j, hk, h, hj => by
    simp only [plB] at h
    split at h
    · have : j = 0 := by omega
      subst this
      simp
      omega
    · cases j with
      | zero =>
        exfalso
        have := plB_bound r (k - max x.f1 0) ((i : Int) + 1)
        omega
      | succ j =>
        have := plB_pos r (k - max x.f1 0) (i + 1) j (by omega) (by rw [show ((i + 1 : Nat) : Int) = (i : Int) + 1 by omega, h]; omega) (by simpa using hj)
        simpa using this
theorem plI_pos (l : List S79) (k : Int) (i : Nat) (h : plI l k = i) (hi : i < l.length) : 1 ≤ (l[i]!).f1 := by
  unfold plI at h
  split at h
  · omega
  · exact plB_pos l k 0 i (by omega) (by simpa using h) hi
def pickR (l : List S79) (k : Int) : ByteArray × Int := if plI l k < 0 then ((⟨#[]⟩ : ByteArray), 7) else ((l[(plI l k).toNat]!).f0, 0)
theorem Pick_ev (l : List S79) (hl : l.length < 5864062014806) (k : Int) (hk : k ≤ 9223372036854775807) : Ev (fun q => bag_Pick.f q l k) (pickR l k) := by
  refine Ev.bind (of_ev l hl k hk) ?_
  unfold pickR
  rcases plI_bound l k with h | ⟨i, hi, h⟩
  · rw [h]; exact Ev.now _
  · rw [h, if_neg (by omega), if_pos (by omega), if_pos (by omega), if_neg (by omega), rd_get l i hi, Int.toNat_natCast]; exact Ev.now _
theorem rPick_ev (l : List S79) (hl : l.length < 5864062014806) (k : Int) (hk : k ≤ 9223372036854775807) : Ev (fun q => ferruleref18_Pick.f q l k) (pickR l k) := by
  refine Ev.bind (place_ev l hl k hk) ?_
  unfold pickR
  rcases plI_bound l k with h | ⟨i, hi, h⟩
  · rw [h]; exact Ev.now _
  · rw [h, if_neg (by omega), if_pos (by omega), if_pos (by omega), if_neg (by omega), rd_get l i hi, Int.toNat_natCast]; exact Ev.now _
def copyR (l : List S79) (k : Int) : List S79 × Int := if plI l k < 0 then (l, 7) else (l.set (plI l k).toNat ⟨(l[(plI l k).toNat]!).f0, wrap64 ((l[(plI l k).toNat]!).f1 + 1)⟩, 0)
theorem Copy_ev (l : List S79) (hl : l.length < 5864062014804) (k : Int) (hk : k ≤ 9223372036854775807) : Ev (fun q => bag_Copy.f q l k) (copyR l k) := by
  refine Ev.bind (show Ev (fun _ => api_Letter_50.f l) l from ⟨0, fun _ _ => by unfold api_Letter_50.f; rw [if_pos (by omega)]⟩) ?_
  refine Ev.bind (of_ev l (by omega) k hk) ?_
  unfold copyR
  rcases plI_bound l k with h | ⟨i, hi, h⟩
  · rw [h]; exact Ev.now _
  · rw [h, if_neg (by omega), if_pos (by omega), if_pos (by omega), if_neg (by omega), rd_get l i hi, Int.toNat_natCast]; exact Ev.now _
theorem rCopy_ev (l : List S79) (hl : l.length < 5864062014804) (k : Int) (hk : k ≤ 9223372036854775807) : Ev (fun q => ferruleref18_Copy.f q l k) (copyR l k) := by
  refine Ev.bind (place_ev l (by omega) k hk) ?_
  unfold copyR
  rcases plI_bound l k with h | ⟨i, hi, h⟩
  · rw [h]; exact Ev.now _
  · rw [h, if_neg (by omega), if_neg (by omega)]
    simp only [Option.bind_some, List.length_nil, Nat.zero_add, List.nil_append]
    rw [if_pos (by omega), if_pos (by omega), if_pos (by omega), rd_get l i hi, Int.toNat_natCast]
    exact Ev.now _
def takeB (l : List S79) (k : Int) : List S79 × ByteArray × Int := if plI l k < 0 then (l, (⟨#[]⟩ : ByteArray), 7) else (takeR l (plI l k).toNat, (l[(plI l k).toNat]!).f0, 0)
theorem Take_ev (l : List S79) (hl : l.length < 5864062014800) (k : Int) (hk : k ≤ 9223372036854775807) (hx : ∀ x ∈ l, x.f1 ≤ 9223372036854775807) : Ev (fun q => bag_Take.f q l k) (takeB l k) := by
  refine Ev.bind (show Ev (fun _ => api_Letter_50.f l) l from ⟨0, fun _ _ => by unfold api_Letter_50.f; rw [if_pos (by omega)]⟩) ?_
  refine Ev.bind (of_ev l (by omega) k hk) ?_
  unfold takeB
  rcases plI_bound l k with h | ⟨i, hi, h⟩
  · rw [h]; exact Ev.now _
  · have hp := plI_pos l k i h hi
    have hxi := hx _ (show l[i]! ∈ l by rw [getElem!_pos l i hi]; exact List.getElem_mem hi)
    rw [h, if_neg (by omega), if_pos (by omega), if_pos (by omega), if_neg (by omega), rd_get l i hi, Int.toNat_natCast]
    simp only [Option.bind_some]
    rw [rd_get _ i (by simpa using hi), show wrap64 ((l[i]!).f1 - 1) = (l[i]!).f1 - 1 by unfold wrap64; omega, show (l.set i ⟨(l[i]!).f0, (l[i]!).f1 - 1⟩)[i]! = ⟨(l[i]!).f0, (l[i]!).f1 - 1⟩ by rw [getElem!_pos _ i (by simpa using hi)]; simp]
    unfold takeR
    by_cases h1 : (l[i]!).f1 - 1 = 0
    · rw [if_pos h1, if_neg (by omega), show wrap64 ((i : Int) + 1) = ((i + 1 : Nat) : Int) by unfold wrap64; omega]
      unfold api_Letter_51.f
      rw [if_pos (by rw [List.length_set]; omega)]
      simp only [Option.bind_some, Int.toNat_natCast]
      rw [List.take_set_of_le (by omega), List.drop_set_of_lt (by omega)]
      simp only [List.append_nil]
      exact Ev.now _
    · rw [if_neg h1, if_pos (by omega), List.set_eq_take_append_cons_drop, if_pos hi]
      simp only [List.append_assoc, List.singleton_append]
      exact Ev.now _
theorem rTake_eq (l : List S79) (hl : l.length < 5864062014800) (k : Int) (hk : k ≤ 9223372036854775807) (hx : ∀ x ∈ l, x.f1 ≤ 9223372036854775807) : ferruleref18_Take.f l k = some (takeB l k) := by
  unfold ferruleref18_Take.f takeB
  rw [if_pos ⟨hl, hk, hx⟩]
  split <;> rfl
theorem Same_l0 (a b : List S79) (hl : a.length < 5864062014810) (hab : a = b) : ∀ (d j : Nat), d = a.length - j → j ≤ a.length → ∀ q, d < q → ferruleref18_Same.l0 q a b j = some true := by
  subst hab
  intro d
  induction d with
  | zero =>
    intro j hd hj q hq
    obtain ⟨q, rfl⟩ : ∃ m, q = m + 1 := ⟨q - 1, by omega⟩
    simp only [ferruleref18_Same.l0]
    rw [if_neg (show ¬ (j : Int) < a.length by omega)]
  | succ d ih =>
    intro j hd hj q hq
    obtain ⟨q, rfl⟩ : ∃ m, q = m + 1 := ⟨q - 1, by omega⟩
    simp only [ferruleref18_Same.l0]
    rw [if_pos (show (j : Int) < a.length by omega), if_pos (show (0 : Int) ≤ j by omega), if_pos (show (j : Int) < a.length by omega), if_neg (by simp), show wrap64 ((j : Int) + 1) = ((j + 1 : Nat) : Int) by unfold wrap64; omega, ih (j + 1) (by omega) (by omega) q (by omega)]
theorem Same_ev (a : List S79) (hl : a.length < 5864062014810) : Ev (fun q => ferruleref18_Same.f q a a) true :=
  ⟨a.length + 1, fun q hq => by
    unfold ferruleref18_Same.f
    dsimp only
    rw [if_pos rfl]
    have := Same_l0 a a hl rfl a.length 0 (by omega) (by omega) q (by omega)
    simpa using this⟩
theorem less_flip : ∀ (a b : List UInt8), Op.bytesLess a b = (!Op.bytesLess b a && !b == a)
  | [], [] => rfl
  | [], b :: y => by simp [Op.bytesLess]
  | a :: x, [] => by simp [Op.bytesLess]
  | a :: x, b :: y => by
    simp only [Op.bytesLess]
    rw [less_flip x y]
    by_cases h : a = b
    · subst h
      simp
    · have h1 : (a == b) = false := by simpa using h
      have h2 : (b == a) = false := by simpa using fun e => h e.symm
      rw [h1, h2]
      simp only [Bool.false_and, Bool.or_false]
      have h3 : ((b :: y) == (a :: x)) = false := by simp [h2]
      rw [h3]
      simp only [Bool.not_false, Bool.and_true]
      rw [Bool.eq_iff_iff]
      simp only [decide_eq_true_eq, Bool.not_eq_true', decide_eq_false_iff_not]
      constructor
      · exact fun h4 h5 => h (UInt8.toNat_inj.1 (by have := UInt8.lt_iff_toNat_lt.1 h4; have := UInt8.lt_iff_toNat_lt.1 h5; omega))
      · intro h4
        have h5 : a.toNat ≠ b.toNat := fun e => h (UInt8.toNat_inj.1 e)
        rw [UInt8.lt_iff_toNat_lt] at h4 ⊢
        omega
end Go.Proofs.Ythfkbfahpgdnfaa.PAll
/- The plain laws of bags, third part: Put. -/
namespace Go.Proofs.Ythfkbfahpgdnfaa.PAll
open Go.RowKit Go.Proofs.YthfkbfahpgdnfaaW.PrintWords Go.Proofs.YthfkbfahpgdnfaaW.PrintMore Go.Proofs.Ythfkbfahpgdnfaa
set_option linter.unusedVariables false
theorem findI_at {α : Type} [Inhabited α] (p : α → Bool) (l : List α) (i : Nat) (hi : i < l.length) (hp : p (l[i]!) = true) (hno : ∀ k, k < i → p (l[k]!) = false) : findI p l = i := by
  have h : l.findIdx p = i := by
    rw [List.findIdx_eq hi]
    refine ⟨by rw [← getElem!_pos l i hi]; exact hp, fun j hj => ?_⟩
    rw [← getElem!_pos l j (by omega)]; exact hno j hj
  unfold findI
  rw [h, if_pos hi]
theorem findI_no {α : Type} [Inhabited α] (p : α → Bool) (l : List α) (hno : ∀ k, k < l.length → p (l[k]!) = false) : findI p l = -1 := by
  have h : ¬ l.findIdx p < l.length := by
    intro h
    have := List.findIdx_getElem (w := h)
    rw [← getElem!_pos l _ h, hno _ h] at this
    exact Bool.noConfusion this
  unfold findI
  rw [if_neg h]
theorem Put_l1 (l : List S79) (text : ByteArray) (ht : text.size ≤ 9223372036854775806) (hl : l.length < 5864062014804) (hmiss : findI (fun x : S79 => x.f0.toList == text.toList) l = -1) : ∀ (d j : Nat), d = l.length - j → j ≤ l.length → (∀ k, k < j → Op.bytesLess text.toList (l[k]!).f0.toList = false) → ∀ q, d + 2 * text.size + 4 < q → ferruleref18_Put.l1 q l text j = some (putB l text) := by
  intro d
  induction d with
  | zero =>
    intro j hd hj hno q hq
    obtain ⟨q, rfl⟩ : ∃ m, q = m + 1 := ⟨q - 1, by omega⟩
    have hje : j = l.length := by omega
    subst hje
    simp only [ferruleref18_Put.l1, Option.bind_some, List.nil_append, List.length_nil, Nat.zero_add, List.length_take, Int.toNat_natCast]
    rw [if_neg (by omega), if_pos (by omega), if_pos (by omega), if_pos (by omega), if_pos (by omega), List.take_length, List.drop_length, if_pos (by simp; omega)]
    have h2 : findI (fun x : S79 => !Op.bytesLess x.f0.toList text.toList && !x.f0.toList == text.toList) l = -1 := findI_no _ l (fun k hk => by rw [← less_flip]; exact hno k hk)
    simp only [putB, hmiss, h2]
    simp
  | succ d ih =>
    intro j hd hj hno q hq
    obtain ⟨q, rfl⟩ : ∃ m, q = m + 1 := ⟨q - 1, by omega⟩
    have hlt : j < l.length := by omega
    have hLess : ferruleref11_Less.f q text (l[j]!).f0 = some (Op.bytesLess text.toList (l[j]!).f0.toList) := by
      have := Less_l0 text (l[j]!).f0 (by omega) text.size 0 (by omega) (by omega) (by omega) q (by omega)
      simpa [ferruleref11_Less.f] using this
    simp only [ferruleref18_Put.l1]
    rw [if_pos (show (j : Int) < l.length by omega), if_pos (show (0 : Int) ≤ j by omega), rd_get l j hlt, hLess]
    simp only [Option.bind_some, List.nil_append, List.length_nil, Nat.zero_add, List.length_take, Int.toNat_natCast]
    cases hb : Op.bytesLess text.toList (l[j]!).f0.toList with
    | true =>
      rw [if_pos rfl, if_pos (by omega), if_pos (by omega), if_pos (by omega), if_pos (by simp; omega)]
      have h2 : findI (fun x : S79 => !Op.bytesLess x.f0.toList text.toList && !x.f0.toList == text.toList) l = j := findI_at _ l j hlt (by rw [← less_flip]; exact hb) (fun k hk => by rw [← less_flip]; exact hno k hk)
      simp only [putB, hmiss, h2]
      rw [if_neg (by omega), if_neg (by omega)]
      simp
    | false =>
      rw [if_neg (by decide), show wrap64 ((j : Int) + 1) = ((j + 1 : Nat) : Int) by unfold wrap64; omega]
      refine ih (j + 1) (by omega) (by omega) (fun k hk => ?_) q (by omega)
      by_cases e : k = j
      · subst e; exact hb
      · exact hno k (by omega)
theorem Put_l0 (l : List S79) (text : ByteArray) (ht : text.size ≤ 9223372036854775806) (hl : l.length < 5864062014804) : ∀ (d j : Nat), d = l.length - j → j ≤ l.length → (∀ k, k < j → ((l[k]!).f0.toList == text.toList) = false) → ∀ q, d + l.length + 2 * text.size + 6 < q → ferruleref18_Put.l0 q l text l j = some (putB l text) := by
  intro d
  induction d with
  | zero =>
    intro j hd hj hno q hq
    obtain ⟨q, rfl⟩ : ∃ m, q = m + 1 := ⟨q - 1, by omega⟩
    have hje : j = l.length := by omega
    subst hje
    simp only [ferruleref18_Put.l0]
    rw [if_neg (by omega)]
    exact Put_l1 l text ht hl (findI_no _ l hno) l.length 0 (by omega) (by omega) (fun k hk => absurd hk (by omega)) q (by omega)
  | succ d ih =>
    intro j hd hj hno q hq
    obtain ⟨q, rfl⟩ : ∃ m, q = m + 1 := ⟨q - 1, by omega⟩
    have hlt : j < l.length := by omega
    simp only [ferruleref18_Put.l0]
    rw [if_pos (show (j : Int) < l.length by omega), if_pos (show (0 : Int) ≤ j by omega), rd_get l j hlt, Int.toNat_natCast]
    by_cases hb : (l[j]!).f0.toList = text.toList
    · rw [if_pos hb]
      have h1 : findI (fun x : S79 => x.f0.toList == text.toList) l = j := findI_at _ l j hlt (beq_iff_eq.2 hb) hno
      simp only [putB, h1]
      rw [if_pos (by omega), Int.toNat_natCast]
    · rw [if_neg hb, show wrap64 ((j : Int) + 1) = ((j + 1 : Nat) : Int) by unfold wrap64; omega]
      refine ih (j + 1) (by omega) (by omega) (fun k hk => ?_) q (by omega)
      by_cases e : k = j
      · subst e; exact beq_eq_false_iff_ne.2 hb
      · exact hno k (by omega)
theorem rPut_ev (l : List S79) (text : ByteArray) (ht : text.size ≤ 9223372036854775806) (hl : l.length < 5864062014804) : Ev (fun q => ferruleref18_Put.f q l text) (putB l text) :=
  ⟨2 * l.length + 2 * text.size + 8, fun q hq => by
    have := Put_l0 l text ht hl l.length 0 (by omega) (by omega) (fun k hk => absurd hk (by omega)) q (by omega)
    unfold ferruleref18_Put.f
    simp only [Option.bind_some, List.nil_append, List.length_nil, Nat.zero_add]
    rw [if_pos (by omega)]
    simpa using this⟩
theorem putB_len (l : List S79) (text : ByteArray) : (putB l text).length ≤ l.length + 1 := by
  unfold putB
  dsimp only
  split
  · simp
  · simp only [List.length_append, List.length_take, List.length_cons, List.length_drop]
    omega
theorem takeR_len (l : List S79) (i : Nat) (hi : i < l.length) : (takeR l i).length ≤ l.length := by
  unfold takeR
  split
  · simp; omega
  · simp; omega
end Go.Proofs.Ythfkbfahpgdnfaa.PAll
/- bag.All: the iterator over a bag's texts, each as often as it is there: its contract, for every loop body that keeps what the iterator reads. -/
namespace Go.Proofs.Ythfkbfahpgdnfaa.PAll
open Go.RowKit Go.Shelf Go.Proofs.YthfkbfahpgdnfaaW.PrintWords Go.Proofs.Ythfkbfahpgdnfaa
set_option linter.unusedVariables false
attribute [local go_sem] Oper.semAt_some
/-- All texts of a bag, in their order, each as often as it is there. -/
def texts (l : List S79) : List ByteArray := l.flatMap (fun x => List.replicate (max x.f1 0).toNat x.f0)
/-- The i-th text. -/
def tx (l : List S79) (i : Nat) : ByteArray := (texts l)[i]!
theorem texts_app (a b : List S79) : texts (a ++ b) = texts a ++ texts b := List.flatMap_append
theorem texts_take (l : List S79) (j : Nat) (hj : j < l.length) : texts (l.take (j + 1)) = texts (l.take j) ++ List.replicate (max (l[j]!).f1 0).toNat (l[j]!).f0 := by
  rw [List.take_succ_eq_append_getElem hj, texts_app, getElem!_pos l j hj]
  congr 1
  simp [texts]
theorem texts_split (l : List S79) (j : Nat) (hj : j < l.length) : texts l = texts (l.take j) ++ (List.replicate (max (l[j]!).f1 0).toNat (l[j]!).f0 ++ texts (l.drop (j + 1))) := by
  rw [← List.append_assoc, ← texts_take l j hj, ← texts_app, List.take_append_drop]
theorem texts_at (l : List S79) (j r : Nat) (hj : j < l.length) (hr : r < (max (l[j]!).f1 0).toNat) : (texts (l.take j)).length + r < (texts l).length ∧ tx l ((texts (l.take j)).length + r) = (l[j]!).f0 := by
  unfold tx
  have h := texts_split l j hj
  rw [h]
  generalize l[j]! = x at *
  generalize texts (l.take j) = a
  generalize texts (l.drop (j + 1)) = c
  have hlen : a.length + r < (a ++ (List.replicate (max x.f1 0).toNat x.f0 ++ c)).length := by rw [List.length_append, List.length_append, List.length_replicate]; omega
  refine ⟨hlen, ?_⟩
  rw [getElem!_def, List.getElem?_append_right (Nat.le_add_right _ _), List.getElem?_append_left (by rw [List.length_replicate]; omega), Nat.add_sub_cancel_left, List.getElem?_replicate, if_pos hr]
/-- What comes in a round. -/
def encA (l : List S79) (i : Nat) : Array Value := #[.int .i64 ((i : Int) % 9223372036854775808), .string (tx l i)]
/-- What a round that goes on keeps: what lay below n₀, and all cells that lie at or beyond N1. -/
def KpA (n₀ N1 : Nat) (W W' : World) : Prop := Below n₀ W W' ∧ ∀ (b : Nat) (o : Obj), N1 ≤ b → W.heap[b]? = some o → o.isCells = true → W'.heap[b]? = some o
theorem KpA_t {n₀ N1 : Nat} {A B C : World} (h : KpA n₀ N1 A B) (k : KpA n₀ N1 B C) : KpA n₀ N1 A C := ⟨h.1.trans k.1, fun b o hb ho hc => k.2 b o hb (h.2 b o hb ho hc) hc⟩
theorem KpA_b {n₀ : Nat} {w : World} (hn : n₀ ≤ w.heap.size) (W : World) (l : Nat) (o o' : Obj) (hl : w.heap.size ≤ l) (h : W.heap[l]? = some o) (hc : o.isCells = false) (hw : o.isWalk = false) : KpA n₀ w.heap.size W (W.putObj l o') :=
  ⟨belowK_b hn W l o o' hl h hc hw, fun b o1 hb ho1 hc1 => (World.putObj_heap_other (by rintro rfl; rw [ho1] at h; cases h; rw [hc1] at hc; exact Bool.noConfusion hc)).trans ho1⟩
theorem cell_of_heap {W : World} {b i : Nat} {cs : Array Value} {t : TypeId} (h : W.heap[b]? = some (.cells cs t)) (v : Value) (hv : cs[i]? = some v) : W.cell? ⟨b, i, none⟩ = some v := by
  simp [World.cell?, h, hv]
section
variable {P : Program} {b : Frame} {a : Act} {k : List Item} {cs : List Frame} {w : World} {Q : Exit → Act → World → Prop} {F : Fence} {n : Nat}
theorem stepR_scope {c : Code} : step P (lone (b.atR a (.code (.scope c) :: k)) cs w) = .next (lone (b.atR a (.code c :: .inScope c :: k)) cs w) :=
  step_lone_go (by simp [stepG, stepG.exec, Frame.atR])
theorem stepR_inScope {c : Code} : step P (lone (b.atR a (.inScope c :: k)) cs w) = .next (lone (b.atR a k) cs w) :=
  step_lone_go (by simp [stepG, stepG.exec, Frame.atR])
theorem wpIn_scope_straight {c : Code} (h : c.wpIn F n P (Exit.noGoto Q) a w) : (Code.scope c).wpIn F n P Q a w := by
  intro b k cs hro hb hr
  have h0 : (lone (b.atR a (.code (.scope c) :: k)) cs w).fenced P F := fenced_calm hb hr rfl
  obtain ⟨e, a₁, w₁, hq, harr⟩ := h b (.inScope c :: k) cs hro hb hr
  cases e with
  | normal => exact ⟨.normal, a₁, w₁, hq, .head h0 stepR_scope (StepsIn.trans harr (.one (fenced_calm hb hr rfl) stepR_inScope))⟩
  | exit id =>
    have hx : exitTo id (.inScope c :: k) = exitTo id k := by simp [exitTo]
    exact ⟨.exit id, a₁, w₁, hq, fun k' hk => .head h0 stepR_scope (harr.1 k' (by rw [hx]; exact hk)),
      fun hr' hk => let ⟨k₁, h1, h2⟩ := harr.2 hr' (by rw [hx]; exact hk); ⟨k₁, h1, .head h0 stepR_scope h2⟩⟩
  | goto l => exact hq.elim
  | ret => exact ⟨_, a₁, w₁, hq, .of_steps (.one h0 stepR_scope) harr⟩
  | panic ch => exact ⟨_, a₁, w₁, hq, .of_steps (.one h0 stepR_scope) harr⟩
  | outgrown => exact ⟨_, a₁, w₁, hq, .of_steps (.one h0 stepR_scope) harr⟩
end
set_option maxRecDepth 100000 in
set_option maxHeartbeats 4000000 in
theorem all1_in (F : Fence) (n : Nat) (h47 : F.fn 47) (hro : F.round = none) (hn : 1 ≤ n) (lp Bs N1 : Nat) (A : Option Addr) (c : Nat) (l : List S79) (w0 : World) (hC : Kd.C k79 w0 A l.length l) (hl : l.length < 5864062014806) (hN : (texts l).length ≤ 9223372036854775806) (hx : ∀ x ∈ l, x.f1 ≤ 9223372036854775807) (J Jx : List Nat → World → Prop)
    (W : World) (hB : Below w0.heap.size w0 W) (hN1 : N1 ≤ W.heap.size) (hJ : AbidesFrom W.heap.size J)
    (hY : ∀ pre x W1, J pre W1 → pre.length < (texts l).length → YieldAt F (n - 1) Try.prog lp (encA l x) W1 fun e W' => (e = .returned (.bool true) ∧ J (pre ++ [x]) W' ∧ KpA w0.heap.size N1 W1 W') ∨ (e = .returned (.bool false) ∧ Jx (pre ++ [x]) W'))
    (hBs : W.cell? ⟨Bs, 0, none⟩ = some (.slice A l.length c)) (h0 : J [] W) :
    CallsIn F n Try.prog 47 #[.func (.yield lp) #[] #[], .pointer (some ⟨Bs, 0, none⟩)] W fun e W' => (∃ v, e = .returned v) ∧ ((∃ ys, ys = List.range (texts l).length ∧ J ys W') ∨ (∃ pre, (∃ k, k ≤ (texts l).length ∧ pre = List.range k) ∧ Jx pre W')) := by
  refine callsIn_of_wp Try.func47 rfl h47 ?_ hro
  simp only [Try.ntmps47, List.size_toArray, List.length_cons, List.length_nil, Nat.reduceAdd, Nat.reduceSub, Array.replicate_succ, Array.replicate_zero, List.push_toArray, List.append_toArray, List.nil_append, List.cons_append]
  gi_wp2
  refine wpIn_scope_straight ?_
  gi_wp2
  refine wpIn_label ?_
  gi_wp2
  gi_loopw [3, 8] (fun k i wr => ∃ j : Nat, j ≤ l.length ∧ i = .int .i64 j ∧ k = .int .i64 ((texts (l.take j)).length : Nat) ∧ J (List.range (texts (l.take j)).length) wr ∧ Below w0.heap.size w0 wr ∧ W.heap.size ≤ wr.heap.size) (fun _ i _ => l.length - (intOf i).toNat)
  case atStart => exact ⟨0, Nat.zero_le _, rfl, rfl, h0, hB, Nat.le_refl _⟩
  case round =>
    obtain ⟨j, hj, rfl, rfl, hJs, hb, hsz⟩ := hrel
    obtain ⟨wo, hwo⟩ : ∃ wo, wo = wr := ⟨wr, rfl⟩
    subst hwo
    by_cases hlt : j < l.length
    · obtain ⟨b, o, rfl, hbw, hcA, hcB⟩ := elem_cells hC j hlt
      have hcA' := (hb.cell (p := ⟨b, o + j * 2, none⟩) hbw).trans hcA
      have hcB' := (hb.cell (p := ⟨b, o + j * 2 + 1, none⟩) hbw).trans hcB
      have hxj := hx _ (show l[j]! ∈ l by rw [getElem!_pos l j hlt]; exact List.getElem_mem hlt)
      have hta := texts_at l j
      have htl : (texts (l.take (j + 1))).length = (texts (l.take j)).length + (max (l[j]!).f1 0).toNat := by rw [texts_take l j hlt, List.length_append, List.length_replicate]
      generalize l[j]! = x at *
      obtain ⟨m, hm⟩ : ∃ m : Nat, m = (max x.f1 0).toNat := ⟨_, rfl⟩
      rw [← hm] at hta htl
      gi_wp2
      all_goals
        gi_loopw [3, 15] (fun k i wr2 => ∃ r : Nat, r ≤ m ∧ i = .int .i64 r ∧ k = .int .i64 (((texts (l.take j)).length + r : Nat) : Int) ∧ J (List.range ((texts (l.take j)).length + r)) wr2 ∧ Below w0.heap.size w0 wr2 ∧ wo.heap.size < wr2.heap.size ∧ wr2.heap[wo.heap.size]? = some (.cells #[.string x.f0, .int .i64 x.f1] 79)) (fun _ i _ => m - (intOf i).toNat)
        case atStart => exact ⟨0, Nat.zero_le _, rfl, rfl, hJ _ _ _ none hJs (World.grownBy_alloc _ _ none) (fun r e => by cases e), hb.alloc hb.size _, by simp, World.alloc_heap_new _ _⟩
        case round =>
          obtain ⟨r, hr, rfl, rfl, hJ2, hb2, hsz2, hbox⟩ := hrel
          by_cases hrl : r < m
          · first
            | (exfalso; omega)
            | (obtain ⟨hlen, htx⟩ := hta r hlt hrl
               obtain ⟨fn, tmps, assign, body, hy, hR⟩ := hY _ ((texts (l.take j)).length + r) wr hJ2 (by rw [List.length_range]; exact hlen)
               simp only [encA, htx, Int.natCast_add, show ((texts (l.take j)).length + r : Int) % 9223372036854775808 = (texts (l.take j)).length + r by omega] at hy
               have hcx : wr.cell? ⟨wo.heap.size, 0, none⟩ = some (.string x.f0) := cell_of_heap hbox _ rfl
               have hpos : 0 < x.f1 := by omega
               gi_wp2
               refine hR.mono ?_
               rintro e W3 (⟨rfl, hJ3, hk3⟩ | ⟨rfl, hJx3⟩)
               · gi_wp2
                 go_roundw
                 case rel => exact ⟨r + 1, by omega, by simp, by simp; omega, by rw [← Nat.add_assoc, List.range_succ]; exact hJ3, hb2.trans hk3.1, by have := hk3.1.size; omega, hk3.2 _ _ (by omega) hbox rfl⟩
                 case measure => simp [intOf]; omega
               · gi_wp2
                 simp only [Exit.noGoto_normal]
                 go_end0
                 exact ⟨⟨_, rfl⟩, .inr ⟨_, ⟨(texts (l.take j)).length + r + 1, hlen, List.range_succ.symm⟩, hJx3⟩⟩)
          · obtain rfl : r = m := by omega
            gi_wp2
            go_roundw
            case rel => exact ⟨j + 1, by omega, by simp, by rw [htl], by rw [htl]; exact hJ2, hb2, by omega⟩
            case measure => simp [intOf]; omega
    · obtain rfl : j = l.length := by omega
      gi_wp2
      simp only [Exit.noGoto_normal]
      go_end0
      exact ⟨⟨_, rfl⟩, .inl ⟨_, by rw [List.take_length], hJs⟩⟩
set_option maxHeartbeats 1000000 in
/-- bag.All(b): the slice value is boxed; the function value holds the box. -/
theorem all_in (F : Fence) (n : Nat) (h : F.fn 20) (hro : F.round = none) (a : Option Addr) (len cap : Nat) (w : World) :
    CallsIn F n Try.prog 20 #[.slice a len cap] w fun e w' => e = .returned (.func (.func 47) #[] #[.pointer (some ⟨w.heap.size, 0, none⟩)]) ∧ w' = w.alloc (.cells #[.slice a len cap] 22) := by
  refine callsIn_of_wp Try.func20 rfl h ?_ hro
  simp only [Try.ntmps20, List.size_toArray, List.length_cons, List.length_nil, Nat.reduceAdd, Nat.reduceSub, Array.replicate_succ, Array.replicate_zero, List.push_toArray, List.append_toArray, List.nil_append, List.cons_append]
  gi_wp2
  go_ret
  exact ⟨rfl, rfl⟩
theorem all_stops (F : Fence) (n : Nat) (h47 : F.fn 47) (hro : F.round = none) (hn : 1 ≤ n) (Bs : Nat) (A : Option Addr) (c : Nat) (l : List S79) (w0 : World) (hC : Kd.C k79 w0 A l.length l) (hl : l.length < 5864062014806) (hN : (texts l).length ≤ 9223372036854775806) (hx : ∀ x ∈ l, x.f1 ≤ 9223372036854775807)
    (w : World) (hB : Below w0.heap.size w0 w) (hBs : Bs < w.heap.size) (hc : w.cell? ⟨Bs, 0, none⟩ = some (.slice A l.length c)) :
    SeqStopsK F n Try.prog 47 #[.pointer (some ⟨Bs, 0, none⟩)] (encA l) (KpA w0.heap.size w.heap.size) (fun ys => ys = List.range (texts l).length) (fun pre => ∃ k, k ≤ (texts l).length ∧ pre = List.range k) (texts l).length w := fun lp J Jx W hW hJ _ hY h0 =>
  all1_in F n h47 hro hn lp Bs w.heap.size A c l w0 hC hl hN hx J Jx W (hB.trans (hW.mono hB.size)) hW.size hJ hY ((hW.cell (p := ⟨Bs, 0, none⟩) hBs).trans hc) h0
end Go.Proofs.Ythfkbfahpgdnfaa.PAll
/- The plain laws of bags, fourth part: all texts, and how they are told by Pick and Len. -/
namespace Go.Proofs.Ythfkbfahpgdnfaa.PAll
open Go.RowKit Go.Proofs.YthfkbfahpgdnfaaW.PrintWords Go.Proofs.YthfkbfahpgdnfaaW.PrintMore Go.Proofs.Ythfkbfahpgdnfaa
set_option linter.unusedVariables false
def smallB (l : List S79) : Bool := l.all (fun x => decide (x.f1 ≤ 1000)) && decide (l.length ≤ 1000)
theorem small_l0 (l : List S79) (hl : l.length < 5864062014806) : ∀ (d j : Nat), d = l.length - j → j ≤ l.length → ∀ q, d < q → ferrulelaw18_small.l0 q l j = some ((l.drop j).all (fun x => decide (x.f1 ≤ 1000)) && decide (l.length ≤ 1000)) := by
  intro d
  induction d with
  | zero =>
    intro j hd hj q hq
    obtain ⟨q, rfl⟩ : ∃ m, q = m + 1 := ⟨q - 1, by omega⟩
    simp only [ferrulelaw18_small.l0]
    rw [if_neg (show ¬ (j : Int) < l.length by omega), List.drop_eq_nil_of_le (by omega)]
    simp only [List.all_nil, Bool.true_and, Option.some.injEq]
    rw [Bool.eq_iff_iff]; simp only [decide_eq_true_eq]; omega
  | succ d ih =>
    intro j hd hj q hq
    obtain ⟨q, rfl⟩ : ∃ m, q = m + 1 := ⟨q - 1, by omega⟩
    have hlt : j < l.length := by omega
    simp only [ferrulelaw18_small.l0]
    rw [if_pos (show (j : Int) < l.length by omega), if_pos (show (0 : Int) ≤ j by omega), rd_drop l j hlt, show wrap64 ((j : Int) + 1) = ((j + 1 : Nat) : Int) by unfold wrap64; omega]
    generalize rd_T79 l (j : Int) = x
    by_cases hx : x.f1 > 1000
    · rw [if_pos hx, List.all_cons, decide_eq_false (show ¬ x.f1 ≤ 1000 by omega)]; rfl
    · rw [if_neg hx, ih (j + 1) (by omega) (by omega) q (by omega), List.all_cons, decide_eq_true (show x.f1 ≤ 1000 by omega), Bool.true_and]
theorem small_ev (l : List S79) (hl : l.length < 5864062014806) : Ev (fun k => ferrulelaw18_small.f k l) (smallB l) :=
  ⟨l.length + 1, fun k hk => by
    have := small_l0 l hl l.length 0 (by omega) (by omega) k (by omega)
    simpa [ferrulelaw18_small.f, smallB] using this⟩
theorem texts_cons (x : S79) (l : List S79) : texts (x :: l) = List.replicate (max x.f1 0).toNat x.f0 ++ texts l := rfl
theorem texts_len_le (M : Nat) : ∀ (l : List S79), (∀ x ∈ l, x.f1 ≤ M) → (texts l).length ≤ l.length * M
  | [], _ => by simp [texts]
  | x :: r, h => by
    have h1 := texts_len_le M r (fun y hy => h y (List.mem_cons_of_mem _ hy))
    have h2 := h x (List.mem_cons_self)
    rw [texts_cons, List.length_append, List.length_replicate, List.length_cons, Nat.add_mul]
    omega
theorem lenGo_texts : ∀ (l : List S79) (n : Int), 0 ≤ n → n + (texts l).length ≤ 9223372036854775807 → lenGo n l = n + (texts l).length
  | [], n, _, _ => by simp [lenGo, texts]
  | x :: r, n, h0, h => by
    rw [texts_cons, List.length_append, List.length_replicate] at h ⊢
    simp only [lenGo]
    rw [show wrap64 (n + max x.f1 0) = n + max x.f1 0 by unfold wrap64; omega, lenGo_texts r _ (by omega) (by omega)]
    omega
theorem getL {α : Type} [Inhabited α] (a b : List α) (i : Nat) (h : i < a.length) : (a ++ b)[i]! = a[i]! := by
  rw [getElem!_def, getElem!_def, List.getElem?_append_left h]
theorem getR {α : Type} [Inhabited α] (a b : List α) (i : Nat) (h : a.length ≤ i) : (a ++ b)[i]! = b[i - a.length]! := by
  rw [getElem!_def, getElem!_def, List.getElem?_append_right h]
theorem plB_texts : ∀ (l : List S79) (k : Nat) (j : Int), k < (texts l).length → ∃ i : Nat, i < l.length ∧ plB l k j = j + i ∧ (l[i]!).f0 = (texts l)[k]!
  | [], k, j, h => by simp [texts] at h
  | x :: r, k, j, h => by
    rw [texts_cons, List.length_append, List.length_replicate] at h
    simp only [plB]
    by_cases hk : (k : Int) < max x.f1 0
    · rw [if_pos hk]
      refine ⟨0, by simp, by omega, ?_⟩
      rw [texts_cons, getL _ _ _ (by rw [List.length_replicate]; omega), getElem!_pos (List.replicate _ _) _ (by rw [List.length_replicate]; omega), List.getElem_replicate]
      rfl
    · rw [if_neg hk]
      obtain ⟨i, hi, h1, h2⟩ := plB_texts r (k - (max x.f1 0).toNat) (j + 1) (by omega)
      refine ⟨i + 1, by simpa using hi, ?_, ?_⟩
      · rw [show (k : Int) - max x.f1 0 = ((k - (max x.f1 0).toNat : Nat) : Int) by omega, h1]; omega
      · rw [texts_cons, getR _ _ _ (by rw [List.length_replicate]; omega), List.length_replicate, ← h2]
        simp
theorem pick_texts (l : List S79) (k : Nat) (h : k < (texts l).length) : pickR l k = ((texts l)[k]!, 0) := by
  obtain ⟨i, hi, h1, h2⟩ := plB_texts l k 0 h
  unfold pickR plI
  rw [if_neg (by omega), h1, if_neg (by omega), ← h2]
  simp
theorem smallB_len (l : List S79) (h : smallB l = true) : l.length ≤ 1000 ∧ (∀ x ∈ l, x.f1 ≤ (1000 : Nat)) ∧ (texts l).length ≤ 1000000 := by
  unfold smallB at h
  rw [Bool.and_eq_true, List.all_eq_true] at h
  obtain ⟨h1, h2⟩ := h
  have h2' := of_decide_eq_true h2
  have h1' : ∀ x ∈ l, x.f1 ≤ (1000 : Nat) := fun x hx => of_decide_eq_true (h1 x hx)
  have := texts_len_le 1000 l h1'
  exact ⟨h2', h1', by omega⟩
end Go.Proofs.Ythfkbfahpgdnfaa.PAll
/- The plain laws of bags, fifth part: what was put is taken again; what was doubled, too. -/
namespace Go.Proofs.Ythfkbfahpgdnfaa.PAll
open Go.RowKit Go.Proofs.YthfkbfahpgdnfaaW.PrintWords Go.Proofs.YthfkbfahpgdnfaaW.PrintMore Go.Proofs.Ythfkbfahpgdnfaa
set_option linter.unusedVariables false
theorem right_counts (l : List S79) (h : rightB l = true) : ∀ x ∈ l, 1 ≤ x.f1 ∧ x.f1 ≤ 1048576 := by
  intro x hx
  obtain ⟨i, hi, rfl⟩ := List.getElem_of_mem hx
  unfold rightB at h
  have := List.all_eq_true.1 h i (List.mem_range.2 hi)
  unfold okB at this
  rw [Bool.and_eq_true, Bool.and_eq_true, getElem!_pos l i hi] at this
  exact ⟨of_decide_eq_true this.1.1, of_decide_eq_true this.1.2⟩
theorem takeR_set (l : List S79) (i : Nat) (hi : i < l.length) (h1 : 1 ≤ (l[i]!).f1) : takeR (l.set i ⟨(l[i]!).f0, (l[i]!).f1 + 1⟩) i = l := by
  have e : (l.set i ⟨(l[i]!).f0, (l[i]!).f1 + 1⟩)[i]! = ⟨(l[i]!).f0, (l[i]!).f1 + 1⟩ := by rw [getElem!_pos _ i (by simpa using hi)]; simp
  unfold takeR
  rw [e, if_pos (show 1 < (l[i]!).f1 + 1 by omega), List.take_set_of_le (by omega), List.drop_set_of_lt (by omega), Int.add_sub_cancel]
  rw [getElem!_pos l i hi]
  simp only [List.append_assoc, List.singleton_append]
  exact (congrArg (l.take i ++ ·) (List.drop_eq_getElem_cons hi).symm).trans (List.take_append_drop i l)
theorem takeR_ins (l : List S79) (text : ByteArray) (j : Nat) (hj : j ≤ l.length) : (l.take j ++ (⟨text, 1⟩ : S79) :: l.drop j)[j]! = ⟨text, 1⟩ ∧ takeR (l.take j ++ ⟨text, 1⟩ :: l.drop j) j = l := by
  have hl : (l.take j).length = j := by rw [List.length_take]; omega
  have e : (l.take j ++ (⟨text, 1⟩ : S79) :: l.drop j)[j]! = ⟨text, 1⟩ := by rw [getR _ _ _ (by omega), hl, Nat.sub_self]; rfl
  refine ⟨e, ?_⟩
  unfold takeR
  rw [e, if_neg (show ¬ (1 : Int) < 1 by omega), List.take_append_of_le_length (by omega), List.take_of_length_le (by omega), List.append_nil, show j + 1 = (l.take j ++ [(⟨text, 1⟩ : S79)]).length by simp; omega, show l.take j ++ (⟨text, 1⟩ : S79) :: l.drop j = (l.take j ++ [⟨text, 1⟩]) ++ l.drop j by simp, List.drop_left, List.take_append_drop]
theorem findI_spec {α : Type} [Inhabited α] (p : α → Bool) (l : List α) : (findI p l = -1 ∧ ∀ x ∈ l, p x = false) ∨ ∃ i : Nat, i < l.length ∧ findI p l = i ∧ p (l[i]!) = true ∧ ∀ j, j < i → p (l[j]!) = false := by
  by_cases h : l.findIdx p < l.length
  · refine .inr ⟨l.findIdx p, h, by unfold findI; rw [if_pos h], ?_, fun j hj => ?_⟩
    · rw [getElem!_pos l _ h]; exact List.findIdx_getElem (w := h)
    · rw [getElem!_pos l j (by omega)]; exact List.not_of_lt_findIdx hj
  · refine .inl ⟨by unfold findI; rw [if_neg h], fun x hx => ?_⟩
    cases hp : p x with
    | false => rfl
    | true => exact absurd (List.findIdx_lt_length_of_exists ⟨x, hx, hp⟩) h
theorem put_shape (l : List S79) (text : ByteArray) (h : ∀ x ∈ l, 1 ≤ x.f1 ∧ x.f1 ≤ 1048576) : ∃ j, j < (putB l text).length ∧ ((putB l text)[j]!).f0.toList = text.toList ∧ (∀ i, i < j → ((putB l text)[i]!).f0.toList ≠ text.toList) ∧ takeR (putB l text) j = l ∧ (∀ x ∈ putB l text, 1 ≤ x.f1 ∧ x.f1 ≤ 1048577) := by
  unfold putB
  dsimp only
  rcases findI_spec (fun x : S79 => x.f0.toList == text.toList) l with ⟨h1, h2⟩ | ⟨i, hi, h1, h2, h3⟩
  · rw [h1, if_neg (by omega)]
    generalize hj' : (if findI (fun x : S79 => !Op.bytesLess x.f0.toList text.toList && !x.f0.toList == text.toList) l < 0 then l.length else (findI (fun x : S79 => !Op.bytesLess x.f0.toList text.toList && !x.f0.toList == text.toList) l).toNat) = j
    have hj : j ≤ l.length := by
      rcases findI_spec (fun x : S79 => !Op.bytesLess x.f0.toList text.toList && !x.f0.toList == text.toList) l with ⟨g1, _⟩ | ⟨i, gi, g1, _⟩
      · rw [g1, if_pos (by omega)] at hj'; omega
      · rw [g1, if_neg (by omega)] at hj'; omega
    obtain ⟨e1, e2⟩ := takeR_ins l text j hj
    refine ⟨j, by simp; omega, by rw [e1], fun i hij => ?_, e2, fun x hx => ?_⟩
    · have hil : i < (l.take j).length := by rw [List.length_take]; omega
      rw [getL _ _ _ hil, getElem!_pos (l.take j) i hil, List.getElem_take]
      exact fun e => Bool.noConfusion ((h2 _ (List.getElem_mem (show i < l.length by omega))).symm.trans (beq_iff_eq.2 e))
    · rcases List.mem_append.1 hx with hx | hx
      · have := h x (List.mem_of_mem_take hx); omega
      · rcases List.mem_cons.1 hx with rfl | hx
        · simp
        · have := h x (List.mem_of_mem_drop hx); omega
  · have hxi := h _ (show l[i]! ∈ l by rw [getElem!_pos l i hi]; exact List.getElem_mem hi)
    rw [h1, if_pos (by omega), Int.toNat_natCast, show wrap64 ((l[i]!).f1 + 1) = (l[i]!).f1 + 1 by unfold wrap64; omega]
    refine ⟨i, by simpa using hi, ?_, fun j hj => ?_, takeR_set l i hi hxi.1, fun x hx => ?_⟩
    · rw [getElem!_pos _ i (by simpa using hi)]; simpa using h2
    · rw [getElem!_pos _ j (by simp; omega), List.getElem_set_ne (by omega), ← getElem!_pos l j (by omega)]
      exact fun e => Bool.noConfusion ((h3 j hj).symm.trans (beq_iff_eq.2 e))
    · rcases List.mem_or_eq_of_mem_set hx with hx | rfl
      · have := h x hx; omega
      · dsimp only; omega
theorem plB_base : ∀ (l : List S79) (j : Nat) (j0 : Int), j < l.length → 1 ≤ (l[j]!).f1 → plB l ((texts (l.take j)).length : Nat) j0 = j0 + j
  | [], j, j0, h, _ => by simp at h
  | x :: r, 0, j0, h, h1 => by
    simp only [plB]
    have h1' : 1 ≤ x.f1 := by simpa using h1
    rw [if_pos (by simp [texts]; omega)]
    simp
  | x :: r, j + 1, j0, h, h1 => by
    have ih := plB_base r j (j0 + 1) (by simpa using h) (by simpa using h1)
    rw [List.take_succ_cons, texts_cons, List.length_append, List.length_replicate]
    simp only [plB]
    rw [if_neg (by omega), show (((max x.f1 0).toNat + (texts (r.take j)).length : Nat) : Int) - max x.f1 0 = ((texts (r.take j)).length : Nat) by omega, ih]
    omega
theorem first_text (cs : List S79) (text : ByteArray) (j : Nat) (hj : j < cs.length) (h1 : (cs[j]!).f0.toList = text.toList) (h2 : ∀ i, i < j → (cs[i]!).f0.toList ≠ text.toList) (h3 : 1 ≤ (cs[j]!).f1) :
    (texts (cs.take j)).length < (texts cs).length ∧ (tx cs (texts (cs.take j)).length).toList = text.toList ∧ (∀ i, i < (texts (cs.take j)).length → (tx cs i).toList ≠ text.toList) ∧ plI cs ((texts (cs.take j)).length : Nat) = j := by
  obtain ⟨a1, a2⟩ := texts_at cs j 0 hj (by omega)
  refine ⟨by omega, by rw [Nat.add_zero] at a2; rw [a2, h1], fun i hi => ?_, ?_⟩
  · unfold tx
    rw [texts_split cs j hj, getL _ _ _ hi, getElem!_pos (texts (cs.take j)) i hi]
    have hm := List.getElem_mem hi
    unfold texts at hm
    obtain ⟨x, hx, hm⟩ := List.mem_flatMap.1 hm
    obtain ⟨_, hm⟩ := List.mem_replicate.1 hm
    obtain ⟨i', hi', rfl⟩ := List.getElem_of_mem hx
    have hi'' : i' < j := by rw [List.length_take] at hi'; omega
    rw [List.getElem_take] at hm
    have := h2 i' hi''
    rw [getElem!_pos cs i' (by omega), ← hm] at this
    exact this
  · unfold plI
    rw [if_neg (by omega), plB_base cs j 0 hj h3]
    omega
theorem plB_set : ∀ (l : List S79) (k : Int) (i : Nat) (j0 : Int) (a : ByteArray) (m : Int), 0 ≤ j0 → i < l.length → plB l k j0 = j0 + i → (l[i]!).f1 ≤ m → plB (l.set i ⟨a, m⟩) k j0 = j0 + i
  | [], k, i, j0, a, m, _, h, _, _ => by simp at h
  | x :: r, k, 0, j0, a, m, h0, h, h1, h2 => by
    have h2' : x.f1 ≤ m := by simpa using h2
    simp only [List.set_cons_zero, plB] at h1 ⊢
    by_cases hk : k < max x.f1 0
    · rw [if_pos (by omega)]; simp
    · rw [if_neg hk] at h1
      have := plB_bound r (k - max x.f1 0) (j0 + 1)
      omega
  | x :: r, k, i + 1, j0, a, m, h0, h, h1, h2 => by
    simp only [List.set_cons_succ, plB] at h1 ⊢
    by_cases hk : k < max x.f1 0
    · rw [if_pos hk] at h1; omega
    · rw [if_neg hk] at h1 ⊢
      rw [plB_set r (k - max x.f1 0) i (j0 + 1) a m (by omega) (by simpa using h) (by omega) (by simpa using h2)]
      omega
end Go.Proofs.Ythfkbfahpgdnfaa.PAll
/- All texts of a bag are told by the code, in their order, each as often as it is there, as far as they are asked for. No condition beside the form's own. -/
namespace Go.Proofs.Ythfkbfahpgdnfaa.PAll
open Go.RowKit Go.Shelf Go.Proofs.YthfkbfahpgdnfaaW.PrintWords Go.Proofs.YthfkbfahpgdnfaaW.PrintMore Go.Proofs.Ythfkbfahpgdnfaa
set_option linter.unusedVariables false
attribute [local go_sem] Oper.semAt_some
theorem pick_some (l : List S79) (hl : l.length < 5864062014806) (i : Nat) : ∃ k, ferruleref18_Pick.f k l ((i : Int) % 9223372036854775808) = some ((pickR l ((i : Int) % 9223372036854775808)).1, (pickR l ((i : Int) % 9223372036854775808)).2) :=
  (rPick_ev l hl _ (by omega)).rounds
theorem boxed_below {W W' : World} {B k : Nat} {t : TypeId} {v : Value} (h : Boxed W B t v) (hb : Below k W W') (hlt : B < k) : Boxed W' B t v := (hb.block B hlt).trans h
theorem keepsOthers_drawn {W W' : World} (h : Drawn0 W W') : KeepsOthers W W' := by
  obtain ⟨n, rfl⟩ := h
  induction n with
  | zero => exact KeepsOthers.refl _
  | succ n ih => rw [← World.drew_drewN]; exact ih.trans (KeepsOthers.drew _)
theorem KpA_below {n₀ N1 : Nat} {W W' : World} (hb : Below W.heap.size W W') (hn : n₀ ≤ W.heap.size) : KpA n₀ N1 W W' :=
  ⟨hb.mono hn, fun b o _ ho _ => (hb.block b (Array.getElem?_eq_some_iff.1 ho).1).trans ho⟩
theorem KpA_set {n₀ N1 B : Nat} {W : World} (v : Value) (h1 : n₀ ≤ B) (h2 : B < N1) : KpA n₀ N1 W (W.setCell ⟨B, 0, none⟩ v) :=
  ⟨(Below.refl n₀ W).setCell (p := ⟨B, 0, none⟩) h1 _, fun b o hb ho _ => ((grownBy_setCell' W B v).block b (Array.getElem?_eq_some_iff.1 ho).1 (fun e => by cases e; omega)).trans ho⟩
theorem ends_range {ini : List Nat} {i k : Nat} (h : ini ++ [i] = List.range k) : k = i + 1 ∧ ini.length = i := by
  cases k with
  | zero => simp at h
  | succ k =>
    rw [List.range_succ] at h
    obtain ⟨h1, h2⟩ := List.append_inj' h rfl
    obtain rfl : i = k := by simpa using h2
    exact ⟨rfl, by rw [h1, List.length_range]⟩
/-- What makes the round's body say false. -/
def bad (l : List S79) (i n : Nat) : Prop := ¬ (((i : Int) % 9223372036854775808) = (n : Int) ∧ (pickR l ((i : Int) % 9223372036854775808)).2 = 0 ∧ (tx l i).toList = (pickR l ((i : Int) % 9223372036854775808)).1.toList)
theorem not_bad (l : List S79) (hN : (texts l).length ≤ 9223372036854775806) (i : Nat) (h : i < (texts l).length) : ¬ bad l i i := by
  unfold bad
  rw [show (i : Int) % 9223372036854775808 = i by omega, pick_texts l i h]
  simp [tx]
set_option maxRecDepth 100000 in
set_option maxHeartbeats 4000000 in
theorem BagAll_small {w : World} (A : Option Addr) (c : Nat) (l : List S79) (hr : Kd.C k79 w A l.length l) (hc : l.length ≤ c) (hl : l.length < 5864062014806) (most : Int) (hs : smallB l = true) :
    Calls Try.prog 4 #[.slice A l.length c, .int .i64 most] w fun e w' => e = .returned (.bool true) ∧ Below w.heap.size w w' := by
  obtain ⟨k0, hsh⟩ := shown_ok
  obtain ⟨k1, hsm⟩ := (small_ev l hl).rounds
  obtain ⟨k2, hln⟩ := (rLen_ev l hl).rounds
  obtain ⟨_, hx, hN⟩ := smallB_len l hs
  rw [hs] at hsm
  rw [lenGo_texts l 0 (by omega) (by omega), Int.zero_add] at hln
  have hr0 := Aside0.mk hr
  have hc0 := Aside0.mk hc
  have hx0 := Aside0.mk hx
  clear hr hc hx
  refine (callsIn_wide (n := 3)).1 ?_
  refine callsIn_of_wp_marks Try.func4 rfl trivial ?_ rfl
  simp only [Try.ntmps4, List.size_toArray, List.length_cons, List.length_nil, Nat.reduceAdd, Nat.reduceSub, Array.replicate_succ, Array.replicate_zero, List.push_toArray, List.append_toArray, List.nil_append, List.cons_append]
  gi_wp2_with (first
    | (refine ⟨trivial, ?_⟩; gi_at_call 14; refine (callsIn_wide.2 (ferrulelaw18_shown.calls k0 true _ hsh)).mono ?_; rintro e w1 ⟨rfl, hb1⟩; have hB1 : Below w.heap.size w w1 := ((((Below.refl _ w).alloc (Nat.le_refl _) _).alloc (by simp) _).alloc (by simp; omega) _).trans (hb1.mono (by simp; omega)); have B0 := boxed_below (((Boxed.new w 22 (.slice A l.length c)).alloc _).alloc _) hb1 (by simp; omega); have B1 := boxed_below ((Boxed.new (w.alloc _) 3 (.int .i64 most)).alloc _) hb1 (by simp); have B2 := boxed_below (Boxed.new ((w.alloc _).alloc _) 4 (.bool false)) hb1 (by simp); simp only [World.size_alloc] at B0 B1 B2; have hs1 := B2.lt; clear hb1; have hcb := B0.cell)
    | (refine ⟨trivial, ?_⟩; gi_at_call 19; refine (callsIn_wide.2 (ferrulelaw18_small.calls k1 A c l true _ (Kd.C_below hr0.out hB1) hc0.out hsm)).mono ?_; rintro e w2 ⟨rfl, hd2⟩; have hb2 := hd2.below; clear hd2; have hcb2 := (boxed_below B0 hb2 (by omega)).cell; have hcb3 := ((boxed_below B0 hb2 (by omega)).alloc (.cells #[.int .i64 0] 3)).cell; have hs2 : w.heap.size + 1 + 1 < w2.heap.size := Nat.lt_of_lt_of_le hs1 hb2.size)
    | (refine ⟨trivial, ?_⟩; gi_at_call 20; refine (all_in Fence.wide _ trivial rfl _ _ _ _).mono ?_; rintro e w3 ⟨rfl, rfl⟩))
  have hB2 : Below w.heap.size w w2 := hB1.trans (hb2.mono hB1.size)
  have N0 := ((boxed_below B0 hb2 (by omega)).alloc (.cells #[.int .i64 0] 3)).alloc (.cells #[.slice A l.length c] 22)
  have N1 := ((boxed_below B1 hb2 (by omega)).alloc (.cells #[.int .i64 0] 3)).alloc (.cells #[.slice A l.length c] 22)
  have N2 := ((boxed_below B2 hb2 (by omega)).alloc (.cells #[.int .i64 0] 3)).alloc (.cells #[.slice A l.length c] 22)
  have N3 := (Boxed.new w2 3 (.int .i64 0)).alloc (.cells #[.slice A l.length c] 22)
  have N4 := Boxed.new (w2.alloc (.cells #[.int .i64 0] 3)) 22 (.slice A l.length c)
  rw [World.size_alloc] at N4
  have hB3 : Below w.heap.size w ((w2.alloc (.cells #[.int .i64 0] 3)).alloc (.cells #[.slice A l.length c] 22)) := (hB2.alloc (by omega) _).alloc (by simp; omega) _
  have hown := ownFrom_below (β := List Nat) (n₀ := w.heap.size) (B := ((w2.alloc (.cells #[.int .i64 0] 3)).alloc (.cells #[.slice A l.length c] 22)).heap.size) (w₀ := w) (Nat.le_refl _) (by simp; omega)
  clear B0 B1 B2 hcb hcb2 hcb3
  refine wpIn_rangeFunc_ownG rfl (by omega) (gf := 47) (lb := #[.pointer (some ⟨w2.heap.size + 1, 0, none⟩)]) rfl trivial (enters_of Try.func47 (by kernel_rfl) rfl)
    (all_stops Fence.wide _ trivial rfl (by omega) (w2.heap.size + 1) A c l w hr0.out hl (by omega) (fun x hx => by have := hx0.out x hx; omega) _ hB3 (by simp) N4.cell) KpA_t (KpA_b (by simp; omega)) (Below.refl _ _) (fun _ => rfl)
    (fun pre W => (Boxed W w.heap.size 22 (.slice A l.length c) ∧ Boxed W (w.heap.size + 1) 3 (.int .i64 most) ∧ Boxed W (w.heap.size + 1 + 1) 4 (.bool false) ∧ Boxed W w2.heap.size 3 (.int .i64 ((pre.length : Nat) : Int))) ∧ Below w.heap.size w W)
    (fun c' pre W => ((c' = .ret ∧ ∃ ini i, pre = ini ++ [i] ∧ bad l i ini.length) ∨ (c' = .exit 0 ∧ (Boxed W w.heap.size 22 (.slice A l.length c) ∧ Boxed W (w.heap.size + 1) 3 (.int .i64 most) ∧ Boxed W (w.heap.size + 1 + 1) 4 (.bool false) ∧ Boxed W w2.heap.size 3 (.int .i64 ((pre.length : Nat) : Int))) ∧ ((pre.length : Nat) : Int) = most)) ∧ Below w.heap.size w W)
    (OwnFrom.and (OwnFrom.and ((boxed_own _ _ _).from _) (OwnFrom.and ((boxed_own _ _ _).from _) (OwnFrom.and ((boxed_own _ _ _).from _) ((boxed_own _ _ (fun pre : List Nat => .int .i64 ((pre.length : Nat) : Int))).from _)))) hown)
    (fun c' => OwnFrom.and (fun s W W' row h hg hrow => by
      rcases h with h | ⟨e, ⟨h0, h1, h2, h3⟩, h4⟩
      · exact .inl h
      · exact .inr ⟨e, ⟨(boxed_own (β := List Nat) _ _ (fun _ => _)).from _ s W W' row h0 hg hrow, (boxed_own (β := List Nat) _ _ (fun _ => _)).from _ s W W' row h1 hg hrow, (boxed_own (β := List Nat) _ _ (fun _ => _)).from _ s W W' row h2 hg hrow, (boxed_own (β := List Nat) _ _ (fun _ => _)).from _ s W W' row h3 hg hrow⟩, h4⟩) hown)
    ⟨⟨N0, N1, N2, N3⟩, hB3⟩
    (fun x => { tmps := #[.slice A l.length c, .int .i64 most, .pointer (some ⟨w.heap.size, 0, none⟩), .pointer (some ⟨w.heap.size + 1, 0, none⟩), .pointer (some ⟨w.heap.size + 1 + 1, 0, none⟩), .bool true, .bool true, .pointer (some ⟨w2.heap.size, 0, none⟩), .int .i64 ((x : Int) % 9223372036854775808), .string (tx l x), undef, undef, undef, .bool true, .slice A l.length c, .bool true, .bool true, .bool false, .bool false, .bool true, .bool false, .bool false, undef, .slice A l.length c, .func (.func 47) #[] #[.pointer (some ⟨w2.heap.size + 1, 0, none⟩)], .int .i64 ((x : Int) % 9223372036854775808), .string (tx l x), undef, undef, undef, undef, undef, undef, undef, undef, undef, undef, undef, undef, undef, undef, undef, undef, undef, undef, undef, undef, undef, undef, undef, undef, undef, undef, undef, undef, undef, undef, undef, undef, undef], defers := [] }) ?assign ?body ?done ?stop
  case assign =>
    intro lp x W K hK
    unfold encA
    gi_wp2
    exact hK
  case body =>
    rintro lp pre x W ⟨⟨I0, I1, I2, I3⟩, hB⟩ hlen
    obtain ⟨k3, hpk⟩ := pick_some l hl x
    have c0 := I0.cell
    have c3 := I3.cell
    have f3 := I3.frozen
    have f2 := I2.frozen
    gi_wp2_with (refine ⟨trivial, ?_⟩; gi_at_call 21; refine (CallsIn.inRound lp (callsIn_wide.2 (ferruleref18_Pick.calls k3 A c l _ _ _ _ (Kd.C_below hr0.out hB) hc0.out hpk))).mono ?_; rintro e W2 ⟨rfl, hd⟩; have hbd := hd.below; have hko := keepsOthers_drawn hd; clear hd; have J0 := boxed_below I0 hbd I0.lt; have J1 := boxed_below I1 hbd I1.lt; have J2 := boxed_below I2 hbd I2.lt; have J3 := boxed_below I3 hbd I3.lt; have j0 := J0.cell; have j1 := J1.cell; have j2 := J2.cell; have j3 := J3.cell; have g2 := J2.frozen; have g3 := J3.frozen; have j1' := (J1.other (B' := w2.heap.size) (by omega) (.int .i64 ((pre.length : Int) + 1))).cell; have j3' := (J3.set (.int .i64 ((pre.length : Int) + 1))).cell)
    all_goals have hB' := hB.trans (hbd.mono hB.size)
    all_goals have hlast : ((List.length (pre ++ [x]) : Nat) : Int) = (pre.length : Int) + 1 := by simp
    all_goals first
      | (refine ⟨(hko.trans (KeepsOthers.setCell _ _ _)).from _, .inl ⟨rfl, pre, x, rfl, ?_⟩, hB'.setCell (p := ⟨w.heap.size + 1 + 1, 0, none⟩) (by simp; omega) _⟩
         rintro ⟨e1, e2, e3⟩
         simp_all)
      | (refine ⟨(hko.trans (KeepsOthers.setCell _ _ _)).from _, .inr ⟨rfl, ⟨J0.other (by omega) _, J1.other (by omega) _, J2.other (by omega) _, by rw [hlast]; exact J3.set _⟩, ?_⟩, hB'.setCell (p := ⟨w2.heap.size, 0, none⟩) (by simp; omega) _⟩
         rw [hlast]; first | assumption | (refine eq_of_beq ?_; assumption))
      | exact ⟨(hko.trans (KeepsOthers.setCell _ _ _)).from _, KpA_t (KpA_below hbd hB.size) (KpA_set _ (by omega) (by simp; omega)), ⟨J0.other (by omega) _, J1.other (by omega) _, J2.other (by omega) _, by rw [hlast]; exact J3.set _⟩, hB'.setCell (p := ⟨w2.heap.size, 0, none⟩) (by simp; omega) _⟩
      | trace_state
  case done =>
    rintro D ys W hD rfl ⟨⟨I0, I1, I2, I3⟩, hB⟩ hK
    have c0 := I0.cell
    have c1 := I1.cell
    have c3 := I3.cell
    gi_wp2_with (refine ⟨trivial, ?_⟩; gi_at_call 18; refine (callsIn_wide.2 (ferruleref18_Len.calls k2 A c l _ _ (Kd.C_below hr0.out hB) hc0.out hln)).mono ?_; rintro e W2 ⟨rfl, hd⟩; have hbd := hd.below; clear hd; have J0 := boxed_below I0 hbd I0.lt; have J1 := boxed_below I1 hbd I1.lt; have J2 := boxed_below I2 hbd I2.lt; have J3 := boxed_below I3 hbd I3.lt; have j0 := J0.cell; have j1 := J1.cell; have j2 := J2.cell; have j3 := J3.cell; have g2 := J2.frozen; have hK2 := (hbd.block D (Array.getElem?_eq_some_iff.1 hK).1).trans hK)
    all_goals
      have hK3 := (KeepsOthers.setCell W2 ⟨w.heap.size + 1 + 1, 0, none⟩ (.bool true)).same D _ hK2 rfl
      have hB' := (hB.trans (hbd.mono hB.size)).setCell (p := ⟨w.heap.size + 1 + 1, 0, none⟩) (by simp; omega) (.bool true)
      have hc5 := Go.cell_kept (J2.set (.bool true)).cell (grownBy_putObj' _ D (.deferred none)) (fun r e => by cases e; exact ⟨_, hK3, rfl⟩)
      refine ⟨by simp, .inl ⟨_, _, rfl, run_takeDeferred hK3, ?_⟩⟩
      refine ⟨.bool true, ?_, rfl, hB'.trans (belowK_b (w := w) (Nat.le_refl _) _ D _ _ (by simp at hD; omega) hK3 rfl rfl)⟩
      simp [results, Try.f4, go_sem, hc5]
  case stop =>
    rintro D c' pre W hD ⟨k, hk, rfl⟩ ⟨h, hB⟩ hK
    rcases h with ⟨rfl, ini, i, h1, h2⟩ | ⟨rfl, ⟨I0, I1, I2, I3⟩, hm⟩
    · exfalso
      obtain ⟨e1, e2⟩ := ends_range h1.symm
      exact not_bad l (by omega) i (by omega) (by rw [← e2]; rw [e2] at h2 ⊢; exact h2)
    · rw [List.length_range] at hm I3
      obtain rfl : most = k := hm.symm
      have c0 := I0.cell
      have c1 := I1.cell
      have c3 := I3.cell
      gi_wp2_with (refine ⟨trivial, ?_⟩; gi_at_call 18; refine (callsIn_wide.2 (ferruleref18_Len.calls k2 A c l _ _ (Kd.C_below hr0.out hB) hc0.out hln)).mono ?_; rintro e W2 ⟨rfl, hd⟩; have hbd := hd.below; clear hd; have J0 := boxed_below I0 hbd I0.lt; have J1 := boxed_below I1 hbd I1.lt; have J2 := boxed_below I2 hbd I2.lt; have J3 := boxed_below I3 hbd I3.lt; have j0 := J0.cell; have j1 := J1.cell; have j2 := J2.cell; have j3 := J3.cell; have g2 := J2.frozen; have hK2 := (hbd.block D (Array.getElem?_eq_some_iff.1 hK).1).trans hK)
      all_goals
        have hK3 := (KeepsOthers.setCell W2 ⟨w.heap.size + 1 + 1, 0, none⟩ (.bool true)).same D _ hK2 rfl
        have hB' := (hB.trans (hbd.mono hB.size)).setCell (p := ⟨w.heap.size + 1 + 1, 0, none⟩) (by simp; omega) (.bool true)
        have hc5 := Go.cell_kept (J2.set (.bool true)).cell (grownBy_putObj' _ D (.deferred none)) (fun r e => by cases e; exact ⟨_, hK3, rfl⟩)
        refine ⟨by simp, .inl ⟨_, _, rfl, run_takeDeferred hK3, ?_⟩⟩
        refine ⟨.bool true, ?_, rfl, hB'.trans (belowK_b (w := w) (Nat.le_refl _) _ D _ _ (by simp at hD; omega) hK3 rfl rfl)⟩
        simp [results, Try.f4, go_sem, hc5]
set_option maxRecDepth 100000 in
set_option maxHeartbeats 4000000 in
theorem BagAll_big {w : World} (A : Option Addr) (c : Nat) (l : List S79) (hr : Kd.C k79 w A l.length l) (hc : l.length ≤ c) (hl : l.length < 5864062014806) (most : Int) (hs : smallB l = false) :
    Calls Try.prog 4 #[.slice A l.length c, .int .i64 most] w fun e w' => e = .returned (.bool true) ∧ Below w.heap.size w w' := by
  obtain ⟨k0, hsh⟩ := shown_ok
  obtain ⟨k1, hsm⟩ := (small_ev l hl).rounds
  rw [hs] at hsm
  have hr0 := Aside0.mk hr
  have hc0 := Aside0.mk hc
  clear hr hc
  go_enter Try.func4, Try.ntmps4
  go_wp2_with (first
    | (go_at_call 14; refine (ferrulelaw18_shown.calls k0 true _ hsh).mono ?_; rintro e w1 ⟨rfl, hb1⟩; have hB1 : Below w.heap.size w w1 := ((((Below.refl _ w).alloc (Nat.le_refl _) _).alloc (by simp) _).alloc (by simp; omega) _).trans (hb1.mono (by simp; omega)); have B0 := boxed_below (((Boxed.new w 22 (.slice A l.length c)).alloc _).alloc _) hb1 (by simp; omega); have B2 := boxed_below (Boxed.new ((w.alloc _).alloc _) 4 (.bool false)) hb1 (by simp); simp only [World.size_alloc] at B0 B2; have hs1 := B2.lt; clear hb1; have hcb := B0.cell)
    | (go_at_call 19; refine (ferrulelaw18_small.calls k1 A c l false _ (Kd.C_below hr0.out hB1) hc0.out hsm).mono ?_; rintro e w2 ⟨rfl, hd2⟩; have hb2 := hd2.below; clear hd2; have b2 := boxed_below B2 hb2 (by omega); have hc2 := b2.cell; have hf2 := b2.frozen; have hc3 := (b2.set (.bool true)).cell; have hB2 : Below w.heap.size w w2 := hB1.trans (hb2.mono hB1.size)))
  refine bodyPost_ret (v := .bool true) ?_ rfl ?_
  · simp [results, Try.f4, go_sem, hc3]
  · exact ⟨rfl, hB2.setCell (p := ⟨w.heap.size + 1 + 1, 0, none⟩) (by simp; omega) _⟩
theorem BagAll_walk {w : World} (A : Option Addr) (c : Nat) (l : List S79) (hr : Kd.C k79 w A l.length l) (hc : l.length ≤ c) (hs : l.length * Try.prog.bytesOf 79 ≤ 140737488351232 ∧ ∀ x ∈ l, ok79 x) (most : Int) (hk : (Lit.int .i64 most).wf = true) :
    Calls Try.prog 4 #[.slice A l.length c, .int .i64 most] w fun e w' => e = .returned (.bool true) ∧ Below w.heap.size w w' := by
  have hb : Try.prog.bytesOf 79 = 24 := by kernel_rfl
  rw [hb] at hs
  cases hsb : smallB l with
  | false => exact BagAll_big A c l hr hc (by omega) most hsb
  | true => exact BagAll_small A c l hr hc (by omega) most hsb
end Go.Proofs.Ythfkbfahpgdnfaa.PAll
/- What was put into a right bag and taken leaves it as it was; so does what was doubled, and taken: told by the code. No condition beside the form's own. -/
namespace Go.Proofs.Ythfkbfahpgdnfaa.PAll
open Go.RowKit Go.Shelf Go.Proofs.YthfkbfahpgdnfaaW.PrintWords Go.Proofs.YthfkbfahpgdnfaaW.PrintMore Go.Proofs.Ythfkbfahpgdnfaa
set_option linter.unusedVariables false
attribute [local go_sem] Oper.semAt_some
theorem cs_total (cs : List S79) (hl : cs.length < 5864062014806) (h : ∀ x ∈ cs, 1 ≤ x.f1 ∧ x.f1 ≤ 1048577) : (texts cs).length ≤ 9223372036854775806 := by
  have := texts_len_le 1048577 cs (fun x hx => by have := h x hx; omega)
  omega
theorem place_none (l : List S79) (hN : (texts l).length ≤ 9223372036854775806) (k : Int) (h : plI l k = -1) : k < 0 ∨ lenGo 0 l ≤ k := by
  rw [lenGo_texts l 0 (by omega) (by omega)]
  by_cases hk : k < 0
  · exact .inl hk
  · right
    unfold plI at h
    rw [if_neg hk] at h
    by_cases hlt : k.toNat < (texts l).length
    · obtain ⟨i, _, h1, _⟩ := plB_texts l k.toNat 0 hlt
      rw [show (k.toNat : Int) = k by omega, h] at h1
      omega
    · omega
set_option maxRecDepth 100000 in
set_option maxHeartbeats 8000000 in
theorem BagBack_go {w : World} (A : Option Addr) (c : Nat) (l : List S79) (hr : Kd.C k79 w A l.length l) (hc : l.length ≤ c) (hl : l.length < 5864062014700) (hsz : ∀ x ∈ l, x.f0.size ≤ 140737488351232) (text : ByteArray) (k : Int) (hk : k ≤ 9223372036854775807) (hR : rightB l = true) (hL : lenGo 0 l ≤ 100000) :
    Calls Try.prog 6 #[.slice A l.length c, .string text, .int .i64 k] w fun e w' => e = .returned (.bool true) ∧ Below w.heap.size w w' := by
  obtain ⟨k0, hsh⟩ := shown_ok
  obtain ⟨k1, hri⟩ := (rRight_ev l 140737488351232 (by omega) (by omega) hsz).rounds
  obtain ⟨k2, hln⟩ := (Len_ev l (by omega)).rounds
  rw [hR] at hri
  have hput : bag_Put.f l text = some (putB l text) := by unfold bag_Put.f; rw [if_pos (by omega)]
  have hrc := right_counts l hR
  obtain ⟨j, hj, hj1, hj2, hj3, hj4⟩ := put_shape l text hrc
  have hcl := putB_len l text
  generalize putB l text = cs at *
  have hN := cs_total cs (by omega) hj4
  obtain ⟨f1, f2, f3, f4⟩ := first_text cs text j hj hj1 hj2 (hj4 _ (by rw [getElem!_pos cs j hj]; exact List.getElem_mem hj)).1
  generalize hat : (texts (cs.take j)).length = at0 at *
  have hr0 := Aside0.mk hr
  have hc0 := Aside0.mk hc
  have hx0 := Aside0.mk hj4
  clear hr hc
  refine (callsIn_wide (n := 3)).1 ?_
  refine callsIn_of_wp_marks Try.func6 rfl trivial ?_ rfl
  simp only [Try.ntmps6, List.size_toArray, List.length_cons, List.length_nil, Nat.reduceAdd, Nat.reduceSub, Array.replicate_succ, Array.replicate_zero, List.push_toArray, List.append_toArray, List.nil_append, List.cons_append]
  gi_wp2_with (first
    | (refine ⟨trivial, ?_⟩; gi_at_call 14; refine (callsIn_wide.2 (ferrulelaw18_shown.calls k0 true _ hsh)).mono ?_; rintro e w1 ⟨rfl, hb1⟩; have hB1 : Below w.heap.size w w1 := ((Below.refl _ w).alloc (Nat.le_refl _) _).trans (hb1.mono (by simp)); have X1 := boxed_below (Boxed.new w 9 (.string text)) hb1 (by simp); clear hb1 hsh)
    | (refine ⟨trivial, ?_⟩; gi_at_call 16; refine (callsIn_wide.2 (ferruleref18_Right.calls k1 A c l true _ (Kd.C_below hr0.out hB1) hc0.out hri)).mono ?_; rintro e w2 ⟨rfl, hd2⟩; have hb2 := hd2.below; clear hd2; have hB2 : Below w.heap.size w w2 := hB1.trans (hb2.mono hB1.size); have X2 := boxed_below X1 hb2 X1.lt; clear hb2 hB1 X1 hri)
    | (refine ⟨trivial, ?_⟩; gi_at_call 17; refine (callsIn_wide.2 (bag_Len.calls k2 A c l _ _ (Kd.C_below hr0.out hB2) hc0.out hln)).mono ?_; rintro e w3 ⟨rfl, hb3⟩; have hB3 : Below w.heap.size w w3 := hB2.trans (hb3.mono hB2.size); have X3 := boxed_below X2 hb3 X2.lt; have x3 := X3.cell; clear hb3 hB2 X2)
    | (refine ⟨trivial, ?_⟩; gi_at_call 28; refine (callsIn_wide.2 (bag_Put.calls A c l text cs _ (Kd.C_below hr0.out hB3) hc0.out hput)).mono ?_; rintro e w4 ⟨v4, rfl, hv4, hb4⟩; obtain ⟨A4, c4, rfl, hc4, hr4⟩ := Kd.R_reads hv4; have hB4 : Below w.heap.size w w4 := hB3.trans (hb4.mono hB3.size); have X4 := boxed_below X3 hb4 X3.lt; have HR4 := Aside0.mk hr4; have HC4 := Aside0.mk hc4; clear hb4 hB3 X3 x3 hput hv4 hr4 hc4)
    | (refine ⟨trivial, ?_⟩; gi_at_call 20; refine (all_in Fence.wide _ trivial rfl _ _ _ _).mono ?_; rintro e w5 ⟨rfl, rfl⟩))
  have N0 := (Boxed.new w4 3 (.int .i64 (-1))).alloc (.cells #[.slice A4 cs.length c4] 22)
  have N4 := Boxed.new (w4.alloc (.cells #[.int .i64 (-1)] 3)) 22 (.slice A4 cs.length c4)
  rw [World.size_alloc] at N4
  have hB5 : Below w4.heap.size w4 ((w4.alloc (.cells #[.int .i64 (-1)] 3)).alloc (.cells #[.slice A4 cs.length c4] 22)) := ((Below.refl _ w4).alloc (Nat.le_refl _) _).alloc (by simp) _
  have hown := ownFrom_below (β := List Nat) (n₀ := w4.heap.size) (B := (((w4.alloc (.cells #[.int .i64 (-1)] 3)).alloc (.cells #[.slice A4 cs.length c4] 22))).heap.size) (w₀ := w4) (Nat.le_refl _) (by simp; omega)
  have hlt4 := X4.lt
  refine wpIn_rangeFunc_ownG rfl (by omega) (gf := 47) (lb := #[.pointer (some ⟨w4.heap.size + 1, 0, none⟩)]) rfl trivial (enters_of Try.func47 (by kernel_rfl) rfl)
    (all_stops Fence.wide _ trivial rfl (by omega) (w4.heap.size + 1) A4 c4 cs w4 HR4.out (by omega) hN (fun x hx => by have := hx0.out x hx; omega) _ hB5 (by simp) N4.cell) KpA_t (KpA_b (by simp; omega)) (Below.refl _ _) (fun _ => rfl)
    (fun pre W => ((∀ i ∈ pre, (tx cs i).toList ≠ text.toList) ∧ Boxed W w4.heap.size 3 (.int .i64 (-1))) ∧ Below w4.heap.size w4 W)
    (fun c' pre W => ((c' = .exit 0 ∧ ∃ ini i, pre = ini ++ [i] ∧ (∀ i ∈ ini, (tx cs i).toList ≠ text.toList) ∧ (tx cs i).toList = text.toList) ∧ ∃ i, pre.getLast? = some i ∧ Boxed W w4.heap.size 3 (.int .i64 ((i : Int) % 9223372036854775808))) ∧ Below w4.heap.size w4 W)
    (OwnFrom.and (fun s W W' row h hg hrow => ⟨h.1, (boxed_own (β := List Nat) _ _ (fun _ => _)).from _ s W W' row h.2 hg hrow⟩) hown)
    (fun c' => OwnFrom.and (fun s W W' row h hg hrow => by
      obtain ⟨h1, i, h2, h3⟩ := h
      exact ⟨h1, i, h2, (boxed_own (β := List Nat) _ _ (fun _ => _)).from _ s W W' row h3 hg hrow⟩) hown)
    ⟨⟨by simp, N0⟩, hB5⟩
    (fun x => { tmps := #[.slice A l.length c, .string text, .int .i64 k, undef, .pointer (some ⟨w.heap.size, 0, none⟩), undef, .bool false, .bool true, .bool true, .slice A4 cs.length c4, .pointer (some ⟨w4.heap.size, 0, none⟩), .int .i64 ((x : Int) % 9223372036854775808), .string (tx cs x), undef, undef, undef, undef, undef, undef, undef, undef, undef, undef, undef, undef, .bool true, .slice A l.length c, .bool true, .bool true, .bool false, .bool false, .bool true, .bool false, .bool false, .bool false, .slice A l.length c, .int .i64 (lenGo 0 l), .bool (decide (100000 < lenGo 0 l)), .bool (decide (100000 < lenGo 0 l)), undef, .slice A l.length c, .string text, .slice A4 cs.length c4, .slice A4 cs.length c4, .func (.func 47) #[] #[.pointer (some ⟨w4.heap.size + 1, 0, none⟩)], .int .i64 ((x : Int) % 9223372036854775808), .string (tx cs x), undef, undef, undef, undef, undef, undef, undef, undef, undef, undef, undef, undef, undef, undef, undef, undef, undef, undef, undef, undef, undef, undef, undef, undef, undef, undef, undef, undef, undef, undef, undef, undef, undef, undef, undef, undef, undef, undef, undef, undef, undef, undef, undef, undef, undef, undef, undef, undef, undef, undef, undef, undef, undef, undef, undef, undef, undef, undef, undef, undef, undef, undef, undef, undef, undef, undef, undef, undef, undef, undef, undef, undef, undef, undef, undef, undef, undef], defers := [] }) ?assign ?body ?done ?stop
  case assign =>
    intro lp x W K hK
    unfold encA
    gi_wp2
    exact hK
  case body =>
    rintro lp pre x W ⟨⟨I0, I1⟩, hB⟩ hlen
    have c0 := (boxed_below X4 hB hlt4).cell
    have c1 := I1.cell
    have f1 := I1.frozen
    gi_wp2
    · exact ⟨(KeepsOthers.setCell _ _ _).from _, ⟨⟨rfl, pre, x, rfl, I0, by first | assumption | (refine eq_of_beq ?_; assumption)⟩, x, by simp, I1.set _⟩, hB.setCell (p := ⟨w4.heap.size, 0, none⟩) (by simp) _⟩
    · refine ⟨KeepsFrom.refl _ _, ⟨Below.refl _ _, fun b o _ ho _ => ho⟩, ⟨fun i hi => ?_, I1⟩, hB⟩
      rcases List.mem_append.1 hi with hi | hi
      · exact I0 i hi
      · obtain rfl : i = x := by simpa using hi
        exact ne_of_beq_false (by assumption)
  case done =>
    rintro D ys W hD rfl ⟨⟨I0, I1⟩, hB⟩ hK
    exact absurd f2 (I0 at0 (List.mem_range.2 f1))
  case stop =>
    rintro D c' pre W hD ⟨k', hk', rfl⟩ ⟨⟨⟨rfl, ini, i, h1, h2, h3⟩, i', h4, I1⟩, hB⟩ hK
    obtain ⟨e1, e2⟩ := ends_range h1.symm
    subst e1
    have e3 : ini = List.range i := by
      rw [List.range_succ] at h1
      exact (List.append_inj' h1 rfl).1.symm
    have e4 : i = at0 := by
      rcases Nat.lt_trichotomy i at0 with h | h | h
      · exact absurd h3 (f3 i h)
      · exact h
      · exact absurd f2 (h2 at0 (by rw [e3]; exact List.mem_range.2 h))
    subst e4
    obtain rfl : i' = i := by rw [List.range_succ] at h4; simpa using h4.symm
    rw [show (i' : Int) % 9223372036854775808 = i' by omega] at I1
    obtain ⟨k3, hT⟩ := (Take_ev cs (by omega) (i' : Int) (by omega) (fun x hx => by have := hx0.out x hx; omega)).rounds
    rw [show takeB cs (i' : Int) = (l, (cs[j]!).f0, 0) by unfold takeB; rw [f4, if_neg (by omega), Int.toNat_natCast, hj3]] at hT
    generalize (cs[j]!).f0 = s6 at hT hj1
    obtain ⟨k4, hS⟩ := (Same_ev l (by omega)).rounds
    have hBW : Below w.heap.size w W := hB4.trans (hB.mono hB4.size)
    have XW := boxed_below X4 hB hlt4
    have hDW : D < W.heap.size := (Array.getElem?_eq_some_iff.1 hK).1
    have hDw : w.heap.size ≤ D := by simp at hD; omega
    have c0 := XW.cell
    have c1 := I1.cell
    rcases plI_bound l k with h | ⟨i2, hi2, h⟩
    · obtain ⟨k5, hC⟩ := (Copy_ev l (by omega) k hk).rounds
      rw [show copyR l k = (l, 7) by unfold copyR; rw [h]; rfl] at hC
      have hpl := place_none l (by have := texts_len_le 1048577 l (fun x hx => by have := hrc x hx; omega); omega) k h
      by_cases hk0 : k < 0
      · gi_wp2_with (first | (refine ⟨trivial, ?_⟩; gi_at_call 23; refine (callsIn_wide.2 (bag_Take.calls k3 A4 c4 cs (i' : Int) l s6 0 _ (Kd.C_below HR4.out hB) HC4.out hT)).mono ?_; rintro e w6 ⟨v6, rfl, hv6, hb6⟩; obtain ⟨A6, c6, rfl, hc6, hr6⟩ := Kd.R_reads hv6; have hB6 : Below w.heap.size w w6 := hBW.trans (hb6.mono hBW.size); have X6 := boxed_below XW hb6 XW.lt; have hK6 := (hb6.block D hDW).trans hK; have hD6 := Nat.lt_of_lt_of_le hDW hb6.size; clear hT hb6 hv6 XW I1 c0 c1) | (refine ⟨trivial, ?_⟩; gi_at_call 27; refine (callsIn_wide.2 (ferruleref18_Same.calls k4 A c l A6 c6 l true _ (Kd.C_below hr0.out hB6) hc0.out hr6 hc6 hS)).mono ?_; rintro e w7 ⟨rfl, hd7⟩; have hb7 := hd7.below; clear hd7; have hB7 : Below w.heap.size w w7 := hB6.trans (hb7.mono hB6.size); have X7 := boxed_below X6 hb7 X6.lt; have x7 := X7.cell; have hK7 := (hb7.block D hD6).trans hK6; have hD7 := Nat.lt_of_lt_of_le hD6 hb7.size; clear hb7 hr6 hc6 hB6 X6 hK6) | (refine ⟨trivial, ?_⟩; gi_at_call 25; refine (callsIn_wide.2 (bag_Copy.calls k5 A c l k l 7 _ (Kd.C_below hr0.out hB7) hc0.out hC)).mono ?_; rintro e w8 ⟨v8, rfl, hv8, hb8⟩; obtain ⟨A8, c8, rfl, hc8, hr8⟩ := Kd.R_reads hv8; have hB8 : Below w.heap.size w w8 := hB7.trans (hb8.mono hB7.size); have hK8 := (hb8.block D hD7).trans hK7; have hD8 := Nat.lt_of_lt_of_le hD7 hb8.size; clear hb8 hv8 hC X7 x7 hB7 hK7) | (refine ⟨trivial, ?_⟩; gi_at_call 17; refine (callsIn_wide.2 (bag_Len.calls k2 A c l _ _ (Kd.C_below hr0.out hB8) hc0.out hln)).mono ?_; rintro e w9 ⟨rfl, hb9⟩; have hB9 : Below w.heap.size w w9 := hB8.trans (hb9.mono hB8.size); have hK9 := (hb9.block D hD8).trans hK8; have hD9 := Nat.lt_of_lt_of_le hD8 hb9.size; clear hb9))
        all_goals (first | (exfalso; simp_all; done) | (refine ⟨trivial, ?_⟩; gi_wp2))
        all_goals first
          | (exfalso; simp_all; done)
          | (refine ⟨by simp, .inl ⟨_, _, rfl, run_takeDeferred hK8, ?_⟩⟩
             exact ⟨_, results_tmp rfl _ _ _, rfl, hB8.trans (belowK_b (w := w) (Nat.le_refl _) _ D _ _ hDw hK8 rfl rfl)⟩)
      · have hk1 : lenGo 0 l ≤ k := hpl.resolve_left hk0
        gi_wp2_with (first | (refine ⟨trivial, ?_⟩; gi_at_call 23; refine (callsIn_wide.2 (bag_Take.calls k3 A4 c4 cs (i' : Int) l s6 0 _ (Kd.C_below HR4.out hB) HC4.out hT)).mono ?_; rintro e w6 ⟨v6, rfl, hv6, hb6⟩; obtain ⟨A6, c6, rfl, hc6, hr6⟩ := Kd.R_reads hv6; have hB6 : Below w.heap.size w w6 := hBW.trans (hb6.mono hBW.size); have X6 := boxed_below XW hb6 XW.lt; have hK6 := (hb6.block D hDW).trans hK; have hD6 := Nat.lt_of_lt_of_le hDW hb6.size; clear hT hb6 hv6 XW I1 c0 c1) | (refine ⟨trivial, ?_⟩; gi_at_call 27; refine (callsIn_wide.2 (ferruleref18_Same.calls k4 A c l A6 c6 l true _ (Kd.C_below hr0.out hB6) hc0.out hr6 hc6 hS)).mono ?_; rintro e w7 ⟨rfl, hd7⟩; have hb7 := hd7.below; clear hd7; have hB7 : Below w.heap.size w w7 := hB6.trans (hb7.mono hB6.size); have X7 := boxed_below X6 hb7 X6.lt; have x7 := X7.cell; have hK7 := (hb7.block D hD6).trans hK6; have hD7 := Nat.lt_of_lt_of_le hD6 hb7.size; clear hb7 hr6 hc6 hB6 X6 hK6) | (refine ⟨trivial, ?_⟩; gi_at_call 25; refine (callsIn_wide.2 (bag_Copy.calls k5 A c l k l 7 _ (Kd.C_below hr0.out hB7) hc0.out hC)).mono ?_; rintro e w8 ⟨v8, rfl, hv8, hb8⟩; obtain ⟨A8, c8, rfl, hc8, hr8⟩ := Kd.R_reads hv8; have hB8 : Below w.heap.size w w8 := hB7.trans (hb8.mono hB7.size); have hK8 := (hb8.block D hD7).trans hK7; have hD8 := Nat.lt_of_lt_of_le hD7 hb8.size; clear hb8 hv8 hC X7 x7 hB7 hK7) | (refine ⟨trivial, ?_⟩; gi_at_call 17; refine (callsIn_wide.2 (bag_Len.calls k2 A c l _ _ (Kd.C_below hr0.out hB8) hc0.out hln)).mono ?_; rintro e w9 ⟨rfl, hb9⟩; have hB9 : Below w.heap.size w w9 := hB8.trans (hb9.mono hB8.size); have hK9 := (hb9.block D hD8).trans hK8; have hD9 := Nat.lt_of_lt_of_le hD8 hb9.size; clear hb9))
        all_goals first
          | (exfalso; simp_all; done)
          | (refine ⟨by simp, .inl ⟨_, _, rfl, run_takeDeferred hK9, ?_⟩⟩
             exact ⟨_, results_tmp rfl _ _ _, rfl, hB9.trans (belowK_b (w := w) (Nat.le_refl _) _ D _ _ hDw hK9 rfl rfl)⟩)
    · obtain ⟨k5, hC⟩ := (Copy_ev l (by omega) k hk).rounds
      have hx2 := hrc _ (show l[i2]! ∈ l by rw [getElem!_pos l i2 hi2]; exact List.getElem_mem hi2)
      rw [show copyR l k = (l.set i2 ⟨(l[i2]!).f0, (l[i2]!).f1 + 1⟩, 0) by unfold copyR; rw [h, if_neg (by omega), Int.toNat_natCast, show wrap64 ((l[i2]!).f1 + 1) = (l[i2]!).f1 + 1 by unfold wrap64; omega]] at hC
      obtain ⟨k7, hP⟩ := (Pick_ev l (by omega) k hk).rounds
      rw [show pickR l k = ((l[i2]!).f0, 0) by unfold pickR; rw [h, if_neg (by omega), Int.toNat_natCast]] at hP
      have hx3 : ∀ x ∈ l.set i2 ⟨(l[i2]!).f0, (l[i2]!).f1 + 1⟩, x.f1 ≤ 9223372036854775807 := fun x hx => by
        rcases List.mem_or_eq_of_mem_set hx with hx | rfl
        · have := hrc x hx; omega
        · dsimp only; omega
      obtain ⟨k6, hT2⟩ := (Take_ev (l.set i2 ⟨(l[i2]!).f0, (l[i2]!).f1 + 1⟩) (by simp; omega) k hk hx3).rounds
      have hpl2 : plI (l.set i2 ⟨(l[i2]!).f0, (l[i2]!).f1 + 1⟩) k = i2 := by
        unfold plI at h ⊢
        by_cases hk0 : k < 0
        · rw [if_pos hk0] at h; omega
        · rw [if_neg hk0] at h ⊢
          rw [plB_set l k i2 0 _ _ (by omega) hi2 (by omega) (by omega)]; omega
      rw [show takeB (l.set i2 ⟨(l[i2]!).f0, (l[i2]!).f1 + 1⟩) k = (l, (l[i2]!).f0, 0) by unfold takeB; rw [hpl2, if_neg (by omega), Int.toNat_natCast, takeR_set l i2 hi2 hx2.1, getElem!_pos (l.set _ _) i2 (by simpa using hi2)]; simp] at hT2
      generalize (l[i2]!).f0 = s9 at hT2 hP hC
      generalize l.set i2 ⟨s9, (l[i2]!).f1 + 1⟩ = l2 at hT2 hC
      gi_wp2_with (first | (refine ⟨trivial, ?_⟩; gi_at_call 23; refine (callsIn_wide.2 (bag_Take.calls k3 A4 c4 cs (i' : Int) l s6 0 _ (Kd.C_below HR4.out hB) HC4.out hT)).mono ?_; rintro e w6 ⟨v6, rfl, hv6, hb6⟩; obtain ⟨A6, c6, rfl, hc6, hr6⟩ := Kd.R_reads hv6; have hB6 : Below w.heap.size w w6 := hBW.trans (hb6.mono hBW.size); have X6 := boxed_below XW hb6 XW.lt; have hK6 := (hb6.block D hDW).trans hK; have hD6 := Nat.lt_of_lt_of_le hDW hb6.size; clear hT hb6 hv6 XW I1 c0 c1) | (refine ⟨trivial, ?_⟩; gi_at_call 27; refine (callsIn_wide.2 (ferruleref18_Same.calls k4 A c l A6 c6 l true _ (Kd.C_below hr0.out hB6) hc0.out hr6 hc6 hS)).mono ?_; rintro e w7 ⟨rfl, hd7⟩; have hb7 := hd7.below; clear hd7; have hB7 : Below w.heap.size w w7 := hB6.trans (hb7.mono hB6.size); have X7 := boxed_below X6 hb7 X6.lt; have x7 := X7.cell; have hK7 := (hb7.block D hD6).trans hK6; have hD7 := Nat.lt_of_lt_of_le hD6 hb7.size; clear hb7 hr6 hc6 hB6 X6 hK6) | (refine ⟨trivial, ?_⟩; gi_at_call 25; refine (callsIn_wide.2 (bag_Copy.calls k5 A c l k l2 0 _ (Kd.C_below hr0.out hB7) hc0.out hC)).mono ?_; rintro e w8 ⟨v8, rfl, hv8, hb8⟩; obtain ⟨A8, c8, rfl, hc8, hr8⟩ := Kd.R_reads hv8; have hB8 : Below w.heap.size w w8 := hB7.trans (hb8.mono hB7.size); have hK8 := (hb8.block D hD7).trans hK7; have hD8 := Nat.lt_of_lt_of_le hD7 hb8.size; clear hb8 hv8 hC X7 x7 hB7 hK7) | (refine ⟨trivial, ?_⟩; gi_at_call 23; refine (callsIn_wide.2 (bag_Take.calls k6 A8 c8 l2 k l s9 0 _ hr8 hc8 hT2)).mono ?_; rintro e w9 ⟨v9, rfl, hv9, hb9⟩; obtain ⟨A9, c9, rfl, hc9, hr9⟩ := Kd.R_reads hv9; have hB9 : Below w.heap.size w w9 := hB8.trans (hb9.mono hB8.size); have hK9 := (hb9.block D hD8).trans hK8; have hD9 := Nat.lt_of_lt_of_le hD8 hb9.size; clear hb9 hv9 hT2 hr8 hc8 hB8 hK8) | (refine ⟨trivial, ?_⟩; gi_at_call 22; refine (callsIn_wide.2 (bag_Pick.calls k7 A c l k s9 0 _ (Kd.C_below hr0.out hB9) hc0.out hP)).mono ?_; rintro e w10 ⟨rfl, hb10⟩; have hB10 : Below w.heap.size w w10 := hB9.trans (hb10.mono hB9.size); have hr10 := Kd.C_below hr9 hb10; have hK10 := (hb10.block D hD9).trans hK9; have hD10 := Nat.lt_of_lt_of_le hD9 hb10.size; clear hb10 hr9 hB9 hK9 hP) | (refine ⟨trivial, ?_⟩; gi_at_call 27; refine (callsIn_wide.2 (ferruleref18_Same.calls k4 A c l A9 c9 l true _ (Kd.C_below hr0.out hB10) hc0.out hr10 hc9 hS)).mono ?_; rintro e w11 ⟨rfl, hd11⟩; have hb11 := hd11.below; clear hd11; have hB11 : Below w.heap.size w w11 := hB10.trans (hb11.mono hB10.size); have hK11 := (hb11.block D hD10).trans hK10; clear hb11 hr10 hc9 hB10 hK10))
      all_goals first
        | (exfalso; simp_all; done)
        | (refine ⟨by simp, .inl ⟨_, _, rfl, run_takeDeferred hK11, ?_⟩⟩
           exact ⟨_, results_tmp rfl _ _ _, rfl, hB11.trans (belowK_b (w := w) (Nat.le_refl _) _ D _ _ hDw hK11 rfl rfl)⟩)
set_option maxRecDepth 100000 in
set_option maxHeartbeats 4000000 in
theorem BagBack_no {w : World} (A : Option Addr) (c : Nat) (l : List S79) (hr : Kd.C k79 w A l.length l) (hc : l.length ≤ c) (hl : l.length < 5864062014700) (hsz : ∀ x ∈ l, x.f0.size ≤ 140737488351232) (text : ByteArray) (k : Int) (hno : rightB l = false ∨ 100000 < lenGo 0 l) :
    Calls Try.prog 6 #[.slice A l.length c, .string text, .int .i64 k] w fun e w' => e = .returned (.bool true) ∧ Below w.heap.size w w' := by
  obtain ⟨k0, hsh⟩ := shown_ok
  obtain ⟨k1, hri⟩ := (rRight_ev l 140737488351232 (by omega) (by omega) hsz).rounds
  obtain ⟨k2, hln⟩ := (Len_ev l (by omega)).rounds
  have hr0 := Aside0.mk hr
  have hc0 := Aside0.mk hc
  clear hr hc
  cases hR : rightB l with
  | false =>
    rw [hR] at hri
    go_enter Try.func6, Try.ntmps6
    go_wp2_with (first
      | (go_at_call 14; refine (ferrulelaw18_shown.calls k0 true _ hsh).mono ?_; rintro e w1 ⟨rfl, hb1⟩; have hB1 : Below w.heap.size w w1 := ((Below.refl _ w).alloc (Nat.le_refl _) _).trans (hb1.mono (by simp)); clear hb1)
      | (go_at_call 16; refine (ferruleref18_Right.calls k1 A c l false _ (Kd.C_below hr0.out hB1) hc0.out hri).mono ?_; rintro e w2 ⟨rfl, hd2⟩; have hb2 := hd2.below; clear hd2; have hB2 : Below w.heap.size w w2 := hB1.trans (hb2.mono hB1.size)))
    go_ret
    exact ⟨rfl, hB2⟩
  | true =>
    rw [hR] at hri hno
    have hno' : 100000 < lenGo 0 l := hno.resolve_left (by decide)
    go_enter Try.func6, Try.ntmps6
    go_wp2_with (first
      | (go_at_call 14; refine (ferrulelaw18_shown.calls k0 true _ hsh).mono ?_; rintro e w1 ⟨rfl, hb1⟩; have hB1 : Below w.heap.size w w1 := ((Below.refl _ w).alloc (Nat.le_refl _) _).trans (hb1.mono (by simp)); clear hb1)
      | (go_at_call 16; refine (ferruleref18_Right.calls k1 A c l true _ (Kd.C_below hr0.out hB1) hc0.out hri).mono ?_; rintro e w2 ⟨rfl, hd2⟩; have hb2 := hd2.below; clear hd2; have hB2 : Below w.heap.size w w2 := hB1.trans (hb2.mono hB1.size))
      | (go_at_call 17; refine (bag_Len.calls k2 A c l _ _ (Kd.C_below hr0.out hB2) hc0.out hln).mono ?_; rintro e w3 ⟨rfl, hb3⟩; have hB3 : Below w.heap.size w w3 := hB2.trans (hb3.mono hB2.size)))
    go_ret
    exact ⟨rfl, hB3⟩
theorem BagBack_walk {w : World} (A : Option Addr) (c : Nat) (l : List S79) (hr : Kd.C k79 w A l.length l) (hc : l.length ≤ c) (hs : l.length * Try.prog.bytesOf 79 ≤ 140737488351232 ∧ ∀ x ∈ l, ok79 x) (text : ByteArray) (ht : text.size ≤ 140737488351232) (k : Int) (hk : (Lit.int .i64 k).wf = true) :
    Calls Try.prog 6 #[.slice A l.length c, .string text, .int .i64 k] w fun e w' => e = .returned (.bool true) ∧ Below w.heap.size w w' := by
  have hb : Try.prog.bytesOf 79 = 24 := by kernel_rfl
  rw [hb] at hs
  have hsz : ∀ x ∈ l, x.f0.size ≤ 140737488351232 := fun x hx => (hs.2 x hx).1
  have hk' : k ≤ 9223372036854775807 := by
    simp [Lit.wf, IntKind.min, IntKind.max, IntKind.signed, IntKind.bits] at hk
    omega
  cases hR : rightB l with
  | false => exact BagBack_no A c l hr hc (by omega) hsz text k (.inl hR)
  | true =>
    by_cases hL : lenGo 0 l ≤ 100000
    · exact BagBack_go A c l hr hc (by omega) hsz text k hk' hR hL
    · exact BagBack_no A c l hr hc (by omega) hsz text k (.inr (by omega))
end Go.Proofs.Ythfkbfahpgdnfaa.PAll
/- What was put into a right bag and taken leaves it as it was; so does what was doubled, and taken: told by the code. No condition beside the form's own. -/
namespace Go.Proofs.Ythfkbfahpgdnfaa.bagBack
open Go.ChangeShapes Go.WideShapes Go.ChangeAt Go.RowKit Go.Proofs.YthfkbfahpgdnfaaW.PrintWords Go.Proofs.Ythfkbfahpgdnfaa Go.Proofs.Ythfkbfahpgdnfaa.PAll
open Go.ChangeMaps (open_string shut_string)
set_option linter.unusedVariables false
set_option linter.unusedSimpArgs false
theorem own : ownKnob Try.prog.godebug = none := by kernel_rfl
theorem laidOut : laidOutB Try.prog = true := by kernel_rfl
set_option maxRecDepth 100000 in
theorem lifted (os : Os) (started : os.Started) (H : Type) (enc : TypeId × Value → H) :
    ReturnsInHanded {} Try.checked os 6 .any (Rows.bagBackSpec.pre6 enc Try.prog Try.f6 Rows.bagBackRow.domain false) (Rows.bagBackSpec.post enc Try.prog Try.f6 false true false false) := by
  refine returnsInHanded_of_change_sized (C := Try.checked) own started (by kernel_rfl) Try.func6
    (ChangeSpec.witness6 (enc := enc) (C := Try.checked) false ⟨#[], #[.slice none 0 0, .string ByteArray.empty, .int .i64 0], []⟩ 8 (by kernel_rfl) (by kernel_rfl) (by kernel_rfl) (by kernel_rfl)) ?_
  intro W base args ds gs before hval0 hW hcnd hsz0 _
  have hsz : (DataW.weightsEach Try.prog (Try.f6.params.toList ++ Rows.bagBackSpec.plain.varTypes Try.prog) (ds ++ gs)).all (· ≤ reachBytes) = true := hsz0
  have hval : ∀ (j : Nat) t v, Try.f6.params[j]? = some t → args[j]? = some v → Value.okWide Try.prog W .any base t v := hval0
  have hW' := hW
  obtain ⟨p, q, hA0, hV, rfl, hfz, hnd⟩ := hW
  have hA : DataW.TrodAll enc Try.prog W 0 (fun _ => true) true Try.f6.params.toList args.toList ds p := hA0
  rw [Try.params6] at hA hval hsz
  obtain ⟨v0, vs0, d0, ds0, p0, q0, hargs, rfl, rfl, h0, r0⟩ := trodAll_cons hA
  obtain ⟨v1, vs1, d1, ds1, p1, q1, rfl, rfl, rfl, h1, r1⟩ := trodAll_cons r0
  obtain ⟨v2, vs2, d2, ds2, p2, q2, rfl, rfl, rfl, h2, r2⟩ := trodAll_cons r1
  obtain ⟨rfl, rfl, rfl⟩ := trodAll_nil r2
  obtain rfl : args = #[v0, v1, v2] := by cases args; simp_all
  obtain ⟨rfl, rfl⟩ := trodVars_none hV
  have hw0 := weights_of 0 hsz (t := 22) (d := d0) rfl rfl
  obtain ⟨a0, len0, cap0, rfl⟩ := okWide_slice Try.underlying22 (hval 0 22 v0 rfl rfl)
  have k0 := h0
  have lt0 : ∀ x ∈ p0, x.block < W.heap.size := by obtain ⟨m, hm⟩ := k0; exact DataW.trod_lt m _ _ _ hm
  obtain ⟨l0, hl0, hr0, hc0, hs0⟩ : ∃ l, len0 = l.length ∧ Kd.C k79 W a0 l.length l ∧ l.length ≤ cap0 ∧ (fun l => l.length * Try.prog.bytesOf 79 ≤ 140737488351232 ∧ ∀ x ∈ l, ok79 x) l := by
    obtain ⟨fuel, hf⟩ := h0
    obtain ⟨l, ⟨A, c, hv, hc, hr⟩, hS⟩ := (Opens.slice Try.underlying22 (by kernel_rfl) opens79) H enc W 0 _ _ fuel _ _ _ hf hw0
    simp [Value.cells] at hv
    obtain ⟨rfl, rfl, rfl⟩ := hv
    exact ⟨l, rfl, hr, hc, hS⟩
  subst hl0
  have hw1 := weights_of 1 hsz (t := 9) (d := d1) rfl rfl
  obtain ⟨a1, rfl, rfl, rfl, y1⟩ := open_string Try.underlying9 (hval 1 9 v1 rfl rfl) h1
  have w1 : a1.size ≤ 140737488351232 := by
    have z := hw1 a1.data.toList.length (by simp [DataW.weights])
    rw [Array.length_toList] at z
    exact z
  have hw2 := weights_of 2 hsz (t := 3) (d := d2) rfl rfl
  obtain ⟨a2, rfl, rfl, rfl, w2⟩ := open_int Try.underlying3 (hval 2 3 v2 rfl rfl) h2
  clear hA0 hval0 hsz0 hsz
  refine (BagBack_walk (w := W) a0 cap0 l0 hr0 hc0 hs0 a1 w1 a2 w2).mono fun e W' ⟨he, bel⟩ => ?_
  subst he
  exact ⟨_, rfl, _, _, _, [], _, [], hW', trodAll_mk1 (shut_bool Try.underlying4 _), (trodAll_cons_mk (Below.trod laidOut (by kernel_rfl) (of_decide_eq_true (by kernel_rfl)) k0 bel lt0) (trodAll_cons_mk (shut_string Try.underlying9 y1) (trodAll_cons_mk (shut_int Try.underlying3 w2) trodAll_mk0))), rfl, bel.frame _, fun h => by cases h⟩
theorem over : Rows.bagBackRow.holds Try.pinned (OpenSpec.ofChange Rows.bagBackSpec) :=
  OpenClaim.holds_of_wide 6 Try.f6 rfl rfl rfl rfl rfl rfl rfl ⟨rfl, rfl, rfl, rfl, rfl⟩ rfl rfl rfl rfl rfl (by kernel_rfl) Try.func6 (by kernel_rfl)
    (of_decide_eq_true (by kernel_rfl)) (by unfold Func.isWrapper; first | (rw [if_pos (by decide +kernel)]; kernel_rfl) | (rw [if_neg (by decide +kernel)]; exact ⟨rfl, rfl⟩))
    (fun os started H enc _ => lifted os started H enc)
theorem proved : Rows.BagBackSaid := over
#print axioms proved
end Go.Proofs.Ythfkbfahpgdnfaa.bagBack
namespace Go.Proofs.Ythfkbfahpgdnfaa
/-- The row, under a short name, for the claim. -/
theorem bagBack_holds : Rows.BagBackSaid := bagBack.proved
end Go.Proofs.Ythfkbfahpgdnfaa
