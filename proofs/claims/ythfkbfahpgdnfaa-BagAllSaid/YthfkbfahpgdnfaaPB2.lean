/- The plain laws of bags, second part: of, Pick, Take, Copy, Put, Same. -/
import Derived.Test.YthfkbfahpgdnfaaPB1
import Derived.Test.YthfkbfahpgdnfaaG4
import Derived.Test.YthfkbfahpgdnfaaG3
import Derived.Test.YthfkbfahpgdnfaaPAllx4
import Derived.Test.YthfkbfahpgdnfaaPAllx5
import Derived.Test.YthfkbfahpgdnfaaPAllx20
import Derived.Test.YthfkbfahpgdnfaaPAllx22
import Derived.Test.YthfkbfahpgdnfaaPAllx23
import Derived.Test.YthfkbfahpgdnfaaPAllx24
import Derived.Test.YthfkbfahpgdnfaaPAllx25
import Derived.Test.YthfkbfahpgdnfaaPAllx26
namespace Go.Proofs.Ythfkbfahpgdnfaa.PAll
open Go.RowKit Go.Proofs.YthfkbfahpgdnfaaW.PrintWords Go.Proofs.YthfkbfahpgdnfaaW.PrintMore Go.Proofs.Ythfkbfahpgdnfaa
set_option linter.unusedVariables false
theorem of_l0 (l : List S79) (hl : l.length < 5864062014806) : ∀ (d j : Nat) (k : Int), d = l.length - j → j ≤ l.length → 0 ≤ k → k ≤ 9223372036854775807 → ∀ q, d < q → bag_of.l0 q k l l.length j = some (plB (l.drop j) k j) := by
  intro d
  induction d with
  | zero =>
    intro j k hd hj h0 hk q hq
    obtain ⟨q, rfl⟩ : ∃ m, q = m + 1 := ⟨q - 1, by omega⟩
    simp only [bag_of.l0]
    rw [if_neg (show ¬ (j : Int) < l.length by omega), List.drop_eq_nil_of_le (by omega)]
    rfl
  | succ d ih =>
    intro j k hd hj h0 hk q hq
    obtain ⟨q, rfl⟩ : ∃ m, q = m + 1 := ⟨q - 1, by omega⟩
    have hlt : j < l.length := by omega
    simp only [bag_of.l0]
    rw [if_pos (show (j : Int) < l.length by omega), if_pos (show (0 : Int) ≤ j by omega), if_pos (show (j : Int) < l.length by omega), rd_drop l j hlt, show wrap64 ((j : Int) + 1) = ((j + 1 : Nat) : Int) by unfold wrap64; omega]
    generalize rd_T79 l (j : Int) = x
    have hm : mx x.f1 0 = max x.f1 0 := by unfold mx; omega
    simp only [plB, hm]
    by_cases hx : k < max x.f1 0
    · rw [if_pos hx, if_pos hx]
    · rw [if_neg hx, if_neg hx, show wrap64 (k - max x.f1 0) = k - max x.f1 0 by unfold wrap64; omega, ih (j + 1) _ (by omega) (by omega) (by omega) (by omega) q (by omega)]
      rfl
theorem of_ev (l : List S79) (hl : l.length < 5864062014806) (k : Int) (hk : k ≤ 9223372036854775807) : Ev (fun q => bag_of.f q l k) (plI l k) :=
  ⟨l.length + 1, fun q hq => by
    unfold bag_of.f plI
    dsimp only
    by_cases h : k < 0
    · rw [if_pos h, if_pos h]
    · rw [if_neg h, if_neg h]
      have := of_l0 l hl l.length 0 k (by omega) (by omega) (by omega) hk q (by omega)
      simpa using this⟩
theorem place_ev (l : List S79) (hl : l.length < 5864062014806) (k : Int) (hk : k ≤ 9223372036854775807) : Ev (fun q => ferruleref18_place.f q l k) (plI l k) :=
  ⟨2 * l.length + 3, fun q hq => place_f l hl k hk q (by omega)⟩
theorem plB_pos : ∀ (l : List S79) (k : Int) (i : Nat) (j : Nat), 0 ≤ k → plB l k i = ((i + j : Nat) : Int) → j < l.length → 1 ≤ (l[j]!).f1
  | [], k, i, j, _, h, hj => by simp at hj
  | x :: r, k, i, j, hk, h, hj => by
    simp only [plB] at h
    split at h
    · have : j = 0 := by omega
      subst this
      simp
      omega
    · cases j with
      | zero =>
        exfalso
        have := plB_bound r (k - max x.f1 0) ((i : Int) + 1)
        omega
      | succ j =>
        have := plB_pos r (k - max x.f1 0) (i + 1) j (by omega) (by rw [show ((i + 1 : Nat) : Int) = (i : Int) + 1 by omega, h]; omega) (by simpa using hj)
        simpa using this
theorem plI_pos (l : List S79) (k : Int) (i : Nat) (h : plI l k = i) (hi : i < l.length) : 1 ≤ (l[i]!).f1 := by
  unfold plI at h
  split at h
  · omega
  · exact plB_pos l k 0 i (by omega) (by simpa using h) hi
def pickR (l : List S79) (k : Int) : ByteArray × Int := if plI l k < 0 then ((⟨#[]⟩ : ByteArray), 7) else ((l[(plI l k).toNat]!).f0, 0)
theorem Pick_ev (l : List S79) (hl : l.length < 5864062014806) (k : Int) (hk : k ≤ 9223372036854775807) : Ev (fun q => bag_Pick.f q l k) (pickR l k) := by
  refine Ev.bind (of_ev l hl k hk) ?_
  unfold pickR
  rcases plI_bound l k with h | ⟨i, hi, h⟩
  · rw [h]; exact Ev.now _
  · rw [h, if_neg (by omega), if_pos (by omega), if_pos (by omega), if_neg (by omega), rd_get l i hi, Int.toNat_natCast]; exact Ev.now _
theorem rPick_ev (l : List S79) (hl : l.length < 5864062014806) (k : Int) (hk : k ≤ 9223372036854775807) : Ev (fun q => ferruleref18_Pick.f q l k) (pickR l k) := by
  refine Ev.bind (place_ev l hl k hk) ?_
  unfold pickR
  rcases plI_bound l k with h | ⟨i, hi, h⟩
  · rw [h]; exact Ev.now _
  · rw [h, if_neg (by omega), if_pos (by omega), if_pos (by omega), if_neg (by omega), rd_get l i hi, Int.toNat_natCast]; exact Ev.now _
def copyR (l : List S79) (k : Int) : List S79 × Int := if plI l k < 0 then (l, 7) else (l.set (plI l k).toNat ⟨(l[(plI l k).toNat]!).f0, wrap64 ((l[(plI l k).toNat]!).f1 + 1)⟩, 0)
theorem Copy_ev (l : List S79) (hl : l.length < 5864062014804) (k : Int) (hk : k ≤ 9223372036854775807) : Ev (fun q => bag_Copy.f q l k) (copyR l k) := by
  refine Ev.bind (show Ev (fun _ => api_Letter_50.f l) l from ⟨0, fun _ _ => by unfold api_Letter_50.f; rw [if_pos (by omega)]⟩) ?_
  refine Ev.bind (of_ev l (by omega) k hk) ?_
  unfold copyR
  rcases plI_bound l k with h | ⟨i, hi, h⟩
  · rw [h]; exact Ev.now _
  · rw [h, if_neg (by omega), if_pos (by omega), if_pos (by omega), if_neg (by omega), rd_get l i hi, Int.toNat_natCast]; exact Ev.now _
theorem rCopy_ev (l : List S79) (hl : l.length < 5864062014804) (k : Int) (hk : k ≤ 9223372036854775807) : Ev (fun q => ferruleref18_Copy.f q l k) (copyR l k) := by
  refine Ev.bind (place_ev l (by omega) k hk) ?_
  unfold copyR
  rcases plI_bound l k with h | ⟨i, hi, h⟩
  · rw [h]; exact Ev.now _
  · rw [h, if_neg (by omega), if_neg (by omega)]
    simp only [Option.bind_some, List.length_nil, Nat.zero_add, List.nil_append]
    rw [if_pos (by omega), if_pos (by omega), if_pos (by omega), rd_get l i hi, Int.toNat_natCast]
    exact Ev.now _
def takeB (l : List S79) (k : Int) : List S79 × ByteArray × Int := if plI l k < 0 then (l, (⟨#[]⟩ : ByteArray), 7) else (takeR l (plI l k).toNat, (l[(plI l k).toNat]!).f0, 0)
theorem Take_ev (l : List S79) (hl : l.length < 5864062014800) (k : Int) (hk : k ≤ 9223372036854775807) (hx : ∀ x ∈ l, x.f1 ≤ 9223372036854775807) : Ev (fun q => bag_Take.f q l k) (takeB l k) := by
  refine Ev.bind (show Ev (fun _ => api_Letter_50.f l) l from ⟨0, fun _ _ => by unfold api_Letter_50.f; rw [if_pos (by omega)]⟩) ?_
  refine Ev.bind (of_ev l (by omega) k hk) ?_
  unfold takeB
  rcases plI_bound l k with h | ⟨i, hi, h⟩
  · rw [h]; exact Ev.now _
  · have hp := plI_pos l k i h hi
    have hxi := hx _ (show l[i]! ∈ l by rw [getElem!_pos l i hi]; exact List.getElem_mem hi)
    rw [h, if_neg (by omega), if_pos (by omega), if_pos (by omega), if_neg (by omega), rd_get l i hi, Int.toNat_natCast]
    simp only [Option.bind_some]
    rw [rd_get _ i (by simpa using hi), show wrap64 ((l[i]!).f1 - 1) = (l[i]!).f1 - 1 by unfold wrap64; omega, show (l.set i ⟨(l[i]!).f0, (l[i]!).f1 - 1⟩)[i]! = ⟨(l[i]!).f0, (l[i]!).f1 - 1⟩ by rw [getElem!_pos _ i (by simpa using hi)]; simp]
    unfold takeR
    by_cases h1 : (l[i]!).f1 - 1 = 0
    · rw [if_pos h1, if_neg (by omega), show wrap64 ((i : Int) + 1) = ((i + 1 : Nat) : Int) by unfold wrap64; omega]
      unfold api_Letter_51.f
      rw [if_pos (by rw [List.length_set]; omega)]
      simp only [Option.bind_some, Int.toNat_natCast]
      rw [List.take_set_of_le (by omega), List.drop_set_of_lt (by omega)]
      simp only [List.append_nil]
      exact Ev.now _
    · rw [if_neg h1, if_pos (by omega), List.set_eq_take_append_cons_drop, if_pos hi]
      simp only [List.append_assoc, List.singleton_append]
      exact Ev.now _
theorem rTake_eq (l : List S79) (hl : l.length < 5864062014800) (k : Int) (hk : k ≤ 9223372036854775807) (hx : ∀ x ∈ l, x.f1 ≤ 9223372036854775807) : ferruleref18_Take.f l k = some (takeB l k) := by
  unfold ferruleref18_Take.f takeB
  rw [if_pos ⟨hl, hk, hx⟩]
  split <;> rfl
theorem Same_l0 (a b : List S79) (hl : a.length < 5864062014810) (hab : a = b) : ∀ (d j : Nat), d = a.length - j → j ≤ a.length → ∀ q, d < q → ferruleref18_Same.l0 q a b j = some true := by
  subst hab
  intro d
  induction d with
  | zero =>
    intro j hd hj q hq
    obtain ⟨q, rfl⟩ : ∃ m, q = m + 1 := ⟨q - 1, by omega⟩
    simp only [ferruleref18_Same.l0]
    rw [if_neg (show ¬ (j : Int) < a.length by omega)]
  | succ d ih =>
    intro j hd hj q hq
    obtain ⟨q, rfl⟩ : ∃ m, q = m + 1 := ⟨q - 1, by omega⟩
    simp only [ferruleref18_Same.l0]
    rw [if_pos (show (j : Int) < a.length by omega), if_pos (show (0 : Int) ≤ j by omega), if_pos (show (j : Int) < a.length by omega), if_neg (by simp), show wrap64 ((j : Int) + 1) = ((j + 1 : Nat) : Int) by unfold wrap64; omega, ih (j + 1) (by omega) (by omega) q (by omega)]
theorem Same_ev (a : List S79) (hl : a.length < 5864062014810) : Ev (fun q => ferruleref18_Same.f q a a) true :=
  ⟨a.length + 1, fun q hq => by
    unfold ferruleref18_Same.f
    dsimp only
    rw [if_pos rfl]
    have := Same_l0 a a hl rfl a.length 0 (by omega) (by omega) q (by omega)
    simpa using this⟩
theorem less_flip : ∀ (a b : List UInt8), Op.bytesLess a b = (!Op.bytesLess b a && !b == a)
  | [], [] => rfl
  | [], b :: y => by simp [Op.bytesLess]
  | a :: x, [] => by simp [Op.bytesLess]
  | a :: x, b :: y => by
    simp only [Op.bytesLess]
    rw [less_flip x y]
    by_cases h : a = b
    · subst h
      simp
    · have h1 : (a == b) = false := by simpa using h
      have h2 : (b == a) = false := by simpa using fun e => h e.symm
      rw [h1, h2]
      simp only [Bool.false_and, Bool.or_false]
      have h3 : ((b :: y) == (a :: x)) = false := by simp [h2]
      rw [h3]
      simp only [Bool.not_false, Bool.and_true]
      rw [Bool.eq_iff_iff]
      simp only [decide_eq_true_eq, Bool.not_eq_true', decide_eq_false_iff_not]
      constructor
      · exact fun h4 h5 => h (UInt8.toNat_inj.1 (by have := UInt8.lt_iff_toNat_lt.1 h4; have := UInt8.lt_iff_toNat_lt.1 h5; omega))
      · intro h4
        have h5 : a.toNat ≠ b.toNat := fun e => h (UInt8.toNat_inj.1 e)
        rw [UInt8.lt_iff_toNat_lt] at h4 ⊢
        omega
end Go.Proofs.Ythfkbfahpgdnfaa.PAll
