/- The plain laws of bags, fourth part: all texts, and how they are told by Pick and Len. -/
import Derived.Test.YthfkbfahpgdnfaaPB2
import Derived.Test.YthfkbfahpgdnfaaG8
import Derived.Test.YthfkbfahpgdnfaaPAllx17
namespace Go.Proofs.Ythfkbfahpgdnfaa.PAll
open Go.RowKit Go.Proofs.YthfkbfahpgdnfaaW.PrintWords Go.Proofs.YthfkbfahpgdnfaaW.PrintMore Go.Proofs.Ythfkbfahpgdnfaa
set_option linter.unusedVariables false
def smallB (l : List S79) : Bool := l.all (fun x => decide (x.f1 ≤ 1000)) && decide (l.length ≤ 1000)
theorem small_l0 (l : List S79) (hl : l.length < 5864062014806) : ∀ (d j : Nat), d = l.length - j → j ≤ l.length → ∀ q, d < q → ferrulelaw18_small.l0 q l j = some ((l.drop j).all (fun x => decide (x.f1 ≤ 1000)) && decide (l.length ≤ 1000)) := by
  intro d
  induction d with
  | zero =>
    intro j hd hj q hq
    obtain ⟨q, rfl⟩ : ∃ m, q = m + 1 := ⟨q - 1, by omega⟩
    simp only [ferrulelaw18_small.l0]
    rw [if_neg (show ¬ (j : Int) < l.length by omega), List.drop_eq_nil_of_le (by omega)]
    simp only [List.all_nil, Bool.true_and, Option.some.injEq]
    rw [Bool.eq_iff_iff]; simp only [decide_eq_true_eq]; omega
  | succ d ih =>
    intro j hd hj q hq
    obtain ⟨q, rfl⟩ : ∃ m, q = m + 1 := ⟨q - 1, by omega⟩
    have hlt : j < l.length := by omega
    simp only [ferrulelaw18_small.l0]
    rw [if_pos (show (j : Int) < l.length by omega), if_pos (show (0 : Int) ≤ j by omega), rd_drop l j hlt, show wrap64 ((j : Int) + 1) = ((j + 1 : Nat) : Int) by unfold wrap64; omega]
    generalize rd_T79 l (j : Int) = x
    by_cases hx : x.f1 > 1000
    · rw [if_pos hx, List.all_cons, decide_eq_false (show ¬ x.f1 ≤ 1000 by omega)]; rfl
    · rw [if_neg hx, ih (j + 1) (by omega) (by omega) q (by omega), List.all_cons, decide_eq_true (show x.f1 ≤ 1000 by omega), Bool.true_and]
theorem small_ev (l : List S79) (hl : l.length < 5864062014806) : Ev (fun k => ferrulelaw18_small.f k l) (smallB l) :=
  ⟨l.length + 1, fun k hk => by
    have := small_l0 l hl l.length 0 (by omega) (by omega) k (by omega)
    simpa [ferrulelaw18_small.f, smallB] using this⟩
theorem texts_cons (x : S79) (l : List S79) : texts (x :: l) = List.replicate (max x.f1 0).toNat x.f0 ++ texts l := rfl
theorem texts_len_le (M : Nat) : ∀ (l : List S79), (∀ x ∈ l, x.f1 ≤ M) → (texts l).length ≤ l.length * M
  | [], _ => by simp [texts]
  | x :: r, h => by
    have h1 := texts_len_le M r (fun y hy => h y (List.mem_cons_of_mem _ hy))
    have h2 := h x (List.mem_cons_self)
    rw [texts_cons, List.length_append, List.length_replicate, List.length_cons, Nat.add_mul]
    omega
theorem lenGo_texts : ∀ (l : List S79) (n : Int), 0 ≤ n → n + (texts l).length ≤ 9223372036854775807 → lenGo n l = n + (texts l).length
  | [], n, _, _ => by simp [lenGo, texts]
  | x :: r, n, h0, h => by
    rw [texts_cons, List.length_append, List.length_replicate] at h ⊢
    simp only [lenGo]
    rw [show wrap64 (n + max x.f1 0) = n + max x.f1 0 by unfold wrap64; omega, lenGo_texts r _ (by omega) (by omega)]
    omega
theorem getL {α : Type} [Inhabited α] (a b : List α) (i : Nat) (h : i < a.length) : (a ++ b)[i]! = a[i]! := by
  rw [getElem!_def, getElem!_def, List.getElem?_append_left h]
theorem getR {α : Type} [Inhabited α] (a b : List α) (i : Nat) (h : a.length ≤ i) : (a ++ b)[i]! = b[i - a.length]! := by
  rw [getElem!_def, getElem!_def, List.getElem?_append_right h]
theorem plB_texts : ∀ (l : List S79) (k : Nat) (j : Int), k < (texts l).length → ∃ i : Nat, i < l.length ∧ plB l k j = j + i ∧ (l[i]!).f0 = (texts l)[k]!
  | [], k, j, h => by simp [texts] at h
  | x :: r, k, j, h => by
    rw [texts_cons, List.length_append, List.length_replicate] at h
    simp only [plB]
    by_cases hk : (k : Int) < max x.f1 0
    · rw [if_pos hk]
      refine ⟨0, by simp, by omega, ?_⟩
      rw [texts_cons, getL _ _ _ (by rw [List.length_replicate]; omega), getElem!_pos (List.replicate _ _) _ (by rw [List.length_replicate]; omega), List.getElem_replicate]
      rfl
    · rw [if_neg hk]
      obtain ⟨i, hi, h1, h2⟩ := plB_texts r (k - (max x.f1 0).toNat) (j + 1) (by omega)
      refine ⟨i + 1, by simpa using hi, ?_, ?_⟩
      · rw [show (k : Int) - max x.f1 0 = ((k - (max x.f1 0).toNat : Nat) : Int) by omega, h1]; omega
      · rw [texts_cons, getR _ _ _ (by rw [List.length_replicate]; omega), List.length_replicate, ← h2]
        simp
theorem pick_texts (l : List S79) (k : Nat) (h : k < (texts l).length) : pickR l k = ((texts l)[k]!, 0) := by
  obtain ⟨i, hi, h1, h2⟩ := plB_texts l k 0 h
  unfold pickR plI
  rw [if_neg (by omega), h1, if_neg (by omega), ← h2]
  simp
theorem smallB_len (l : List S79) (h : smallB l = true) : l.length ≤ 1000 ∧ (∀ x ∈ l, x.f1 ≤ (1000 : Nat)) ∧ (texts l).length ≤ 1000000 := by
  unfold smallB at h
  rw [Bool.and_eq_true, List.all_eq_true] at h
  obtain ⟨h1, h2⟩ := h
  have h2' := of_decide_eq_true h2
  have h1' : ∀ x ∈ l, x.f1 ≤ (1000 : Nat) := fun x hx => of_decide_eq_true (h1 x hx)
  have := texts_len_le 1000 l h1'
  exact ⟨h2', h1', by omega⟩
end Go.Proofs.Ythfkbfahpgdnfaa.PAll
