/- Joined texts of the claim LeaseMost (part 32): contracts of functions and plain laws. -/
import Derived.Test.YtlmefnifhbcbcaaJLeaseMost31
section
/- Plain laws of groups: the value that a majority has, out of the list sorted downwards. -/
namespace Go.Proofs.Ytlmefnifhbcbcaa.PAll
open Go.RowKit Go.Proofs.YtlmefnifhbcbcaaW.PrintWords Go.Proofs.Ytlmefnifhbcbcaa
set_option linter.unusedVariables false
def cand (all : List Int) (x : Int) : Prop := (cntGe all x : Int) ≥ (all.length : Int) / 2 + 1
theorem bestV_spec (all : List Int) : ∀ (r : List Int) (b : Int), b ≤ bestV all r b ∧ (bestV all r b = b ∨ (bestV all r b ∈ r ∧ cand all (bestV all r b))) ∧ ∀ x ∈ r, cand all x → x ≤ bestV all r b
  | [], b => ⟨Int.le_refl _, .inl rfl, fun x hx => by cases hx⟩
  | x :: r, b => by
    unfold bestV
    by_cases c : (cntGe all x : Int) ≥ (all.length : Int) / 2 + 1
    · rw [if_pos c]
      by_cases c2 : x > b
      · rw [if_pos c2]
        obtain ⟨h1, h2, h3⟩ := bestV_spec all r x
        refine ⟨by omega, .inr ?_, fun y hy hc => ?_⟩
        · rcases h2 with h2 | h2
          · rw [h2]; exact ⟨List.mem_cons_self .., c⟩
          · exact ⟨List.mem_cons_of_mem _ h2.1, h2.2⟩
        · rcases List.mem_cons.1 hy with rfl | hy
          · exact h1
          · exact h3 y hy hc
      · rw [if_neg c2]
        obtain ⟨h1, h2, h3⟩ := bestV_spec all r b
        refine ⟨h1, ?_, fun y hy hc => ?_⟩
        · rcases h2 with h2 | h2
          · exact .inl h2
          · exact .inr ⟨List.mem_cons_of_mem _ h2.1, h2.2⟩
        · rcases List.mem_cons.1 hy with rfl | hy
          · omega
          · exact h3 y hy hc
    · rw [if_neg c]
      obtain ⟨h1, h2, h3⟩ := bestV_spec all r b
      refine ⟨h1, ?_, fun y hy hc => ?_⟩
      · rcases h2 with h2 | h2
        · exact .inl h2
        · exact .inr ⟨List.mem_cons_of_mem _ h2.1, h2.2⟩
      · rcases List.mem_cons.1 hy with rfl | hy
        · exact absurd hc c
        · exact h3 y hy hc
theorem cnt_perm {l m : List Int} (h : l.Perm m) (x : Int) : cntGe l x = cntGe m x := (h.filter _).length_eq
theorem cnt_low (m : List Int) (k : Nat) (hk : k < m.length) (hs : ∀ i j, i < j → j < m.length → m[j]! ≤ m[i]!) : k + 1 ≤ cntGe m (m[k]!) := by
  unfold cntGe
  have e : m = m.take (k + 1) ++ m.drop (k + 1) := (List.take_append_drop _ _).symm
  have hall : (m.take (k + 1)).filter (fun y => decide (m[k]! ≤ y)) = m.take (k + 1) := by
    rw [List.filter_eq_self]
    intro y hy
    obtain ⟨i, hi, rfl⟩ := List.mem_iff_getElem.1 hy
    rw [List.length_take] at hi
    rw [List.getElem_take]
    apply decide_eq_true
    by_cases e : i = k
    · subst e; rw [getElem!_pos m i hk]; exact Int.le_refl _
    · have := hs i k (by omega) hk
      rw [getElem!_pos m i (by omega)] at this
      exact this
  have h2 : (m.filter (fun y => decide (m[k]! ≤ y))).length = ((m.take (k + 1)).filter (fun y => decide (m[k]! ≤ y))).length + ((m.drop (k + 1)).filter (fun y => decide (m[k]! ≤ y))).length := by
    rw [← List.length_append, ← List.filter_append, List.take_append_drop]
  rw [h2, hall, List.length_take]
  omega
theorem cnt_high (m : List Int) (k : Nat) (y : Int) (hy : ∀ i, k ≤ i → i < m.length → m[i]! < y) : cntGe m y ≤ k := by
  unfold cntGe
  have hnone : (m.drop k).filter (fun z => decide (y ≤ z)) = [] := by
    rw [List.filter_eq_nil_iff]
    intro z hz
    obtain ⟨i, hi, rfl⟩ := List.mem_iff_getElem.1 hz
    rw [List.length_drop] at hi
    rw [List.getElem_drop]
    have := hy (k + i) (by omega) (by omega)
    rw [getElem!_pos m (k + i) (by omega)] at this
    simp
    omega
  have h2 : (m.filter (fun z => decide (y ≤ z))).length = ((m.take k).filter (fun z => decide (y ≤ z))).length + ((m.drop k).filter (fun z => decide (y ≤ z))).length := by
    rw [← List.length_append, ← List.filter_append, List.take_append_drop]
  rw [h2, hnone]
  have := List.length_filter_le (fun z => decide (y ≤ z)) (m.take k)
  have h3 : (m.take k).length ≤ k := List.length_take_le _ _
  simp only [List.length_nil]
  omega
theorem sorted_agr (l m : List Int) (hp : m.Perm l) (hs : ∀ i j, i < j → j < m.length → m[j]! ≤ m[i]!) (hn : ∀ x ∈ l, 0 ≤ x) (h0 : 0 < l.length) : m[l.length / 2]! = bestV l l 0 := by
  have hl : m.length = l.length := hp.length_eq
  have hk : l.length / 2 < m.length := by omega
  have hmem : m[l.length / 2]! ∈ l := hp.mem_iff.1 (getMem m _ hk)
  have hc : cand l (m[l.length / 2]!) := by
    unfold cand
    rw [← cnt_perm hp]
    have := cnt_low m (l.length / 2) hk hs
    omega
  have hmax : ∀ y, cand l y → y ≤ m[l.length / 2]! := fun y hy => by
    unfold cand at hy
    rw [← cnt_perm hp] at hy
    apply Int.not_lt.1
    intro hlt
    have := cnt_high m (l.length / 2) y (fun i hi hi2 => by
      by_cases e : i = l.length / 2
      · rw [e]; exact hlt
      · have := hs (l.length / 2) i (by omega) hi2
        omega)
    omega
  obtain ⟨h1, h2, h3⟩ := bestV_spec l l 0
  have ha := h3 _ hmem hc
  have hx := hn _ hmem
  rcases h2 with h2 | h2
  · omega
  · have := hmax _ h2.2
    omega
end Go.Proofs.Ytlmefnifhbcbcaa.PAll
end
