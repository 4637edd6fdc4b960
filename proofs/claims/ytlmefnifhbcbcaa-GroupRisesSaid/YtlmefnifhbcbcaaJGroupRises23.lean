/- Joined texts of the claim GroupRises (part 23): contracts of functions and plain laws. -/
import Derived.Test.YtlmefnifhbcbcaaJGroupRises22
import Derived.Test.YtlmefnifhbcbcaaJGroupRises10
import Derived.Test.YtlmefnifhbcbcaaJGroupRises20
import Derived.Test.YtlmefnifhbcbcaaJGroupRises18
import Derived.Test.YtlmefnifhbcbcaaJGroupRises19
section
/- Plain laws of groups: lists that rise; a node put into one, or taken out of it. -/
namespace Go.Proofs.Ytlmefnifhbcbcaa.PAll
open Go.RowKit Go.Proofs.YtlmefnifhbcbcaaW.PrintWords Go.Proofs.YtlmefnifhbcbcaaW.PrintMore Go.Proofs.Ytlmefnifhbcbcaa
set_option linter.unusedVariables false
/-! lists that rise -/
theorem rises_adj {l : List Int} (h : risesB l = true) : ∀ j, 0 < j → j < l.length → l[j - 1]! < l[j]! := by
  intro j h0 hj
  have := (allN_iff l l.length 0).1 h j (Nat.zero_le _) (by omega)
  unfold okN at this
  simp only [Bool.and_eq_true, Bool.or_eq_true, decide_eq_true_eq] at this
  omega
theorem rises_val {l : List Int} (h : risesB l = true) : ∀ x ∈ l, 1 ≤ x ∧ x ≤ 63 := by
  intro x hx
  obtain ⟨j, hj, rfl⟩ := List.getElem_of_mem hx
  have := (allN_iff l l.length 0).1 h j (Nat.zero_le _) (by omega)
  unfold okN at this
  simp only [Bool.and_eq_true, Bool.or_eq_true, decide_eq_true_eq] at this
  rw [getElem!_pos l j hj] at this
  omega
theorem rises_lt {l : List Int} (h : risesB l = true) : ∀ (j i : Nat), i < j → j < l.length → l[i]! < l[j]! := by
  intro j
  induction j with
  | zero => intro i hi; omega
  | succ j ih =>
    intro i hi hj
    have h1 := rises_adj h (j + 1) (by omega) hj
    rw [Nat.add_sub_cancel] at h1
    by_cases e : i = j
    · subst e; exact h1
    · have := ih i (by omega) (by omega)
      omega
theorem rises_pw {l : List Int} (h : risesB l = true) : l.Pairwise (· < ·) := by
  rw [List.pairwise_iff_getElem]
  intro i j hi hj hij
  have := rises_lt h j i hij hj
  rwa [getElem!_pos l i hi, getElem!_pos l j hj] at this
theorem rises_of {l : List Int} (hp : l.Pairwise (· < ·)) (hv : ∀ x ∈ l, 1 ≤ x ∧ x ≤ 63) : risesB l = true := by
  unfold risesB
  rw [allN_iff]
  intro j _ hj
  have hj' : j < l.length := by omega
  have h1 := hv l[j]! (getMem l j hj')
  unfold okN
  simp only [Bool.and_eq_true, Bool.or_eq_true, decide_eq_true_eq]
  refine ⟨⟨h1.1, h1.2⟩, ?_⟩
  by_cases c : j = 0
  · exact .inl c
  · refine .inr ?_
    have := List.pairwise_iff_getElem.1 hp (j - 1) j (by omega) hj' (by omega)
    rwa [← getElem!_pos l (j - 1) (by omega), ← getElem!_pos l j hj'] at this
def insV : List Int → Int → List Int
  | [], id => [id]
  | x :: r, id => if x > id then id :: x :: r else x :: insV r id
def delV (l : List Int) (id : Int) : List Int := l.filter (fun x => !(x == id))
theorem insV_split (id : Int) : ∀ l : List Int, l.Pairwise (· < ·) → ∃ A B, l = A ++ B ∧ insV l id = A ++ id :: B ∧ (∀ a ∈ A, a ≤ id) ∧ ∀ b ∈ B, id < b
  | [], _ => ⟨[], [], rfl, rfl, fun _ h => (by cases h), fun _ h => (by cases h)⟩
  | x :: r, h => by
    rw [List.pairwise_cons] at h
    unfold insV
    by_cases c : x > id
    · rw [if_pos c]
      refine ⟨[], x :: r, rfl, rfl, fun _ h => (by cases h), fun b hb => ?_⟩
      rcases List.mem_cons.1 hb with rfl | hb
      · exact c
      · have := h.1 b hb; omega
    · rw [if_neg c]
      obtain ⟨A, B, h1, h2, h3, h4⟩ := insV_split id r h.2
      refine ⟨x :: A, B, by rw [h1]; rfl, by rw [h2]; rfl, fun a ha => ?_, h4⟩
      rcases List.mem_cons.1 ha with rfl | ha
      · omega
      · exact h3 a ha
theorem gless_eq (l : List Int) (id : Int) (hl : l.length ≤ 100) : group_less.f l id = some (delV l id) := by unfold group_less.f; rw [if_pos (by omega)]; rfl
/-! the code's put: sorted -/
theorem less_val (a b : Int) : cmp_Less_uint64.f a b = some (decide (a < b)) := by
  unfold cmp_Less_uint64.f
  rw [show cmp_isNaN_uint64.f a = some false by unfold cmp_isNaN_uint64.f; simp]
  rfl
theorem rd_mid (P Q : List Int) (b : Int) (n : Nat) (h : P.length = n) : rd (P ++ b :: Q) (n : Int) = b := by
  subst h
  simp [rd, List.getD_eq_getElem?_getD]
theorem sort_end (L : List Int) (n i : Nat) (h : n = i + 1) (hn : n ≤ 100) : Ev (fun q => slices_insertionSortOrdered_uint64.l0 q L 0 (n : Int) (wrap64 ((i : Int) + 1))) L := by
  rw [wrapUp i (by omega)]
  exact Ev.step (f := fun _ => some L) (fun q => by simp only [slices_insertionSortOrdered_uint64.l0]; rw [if_neg (show ¬ ((i + 1 : Nat) : Int) < (n : Int) by omega)]) (Ev.now L)
theorem swap_mid (P Q : List Int) (b id : Int) (n : Nat) (h : P.length = n) : ((P ++ b :: id :: Q).set (n + 1) b).set n id = P ++ id :: b :: Q := by
  subst h
  induction P with
  | nil => rfl
  | cons x P ih => simp only [List.cons_append, List.length_cons, List.set_cons_succ, ih]
theorem bub (id : Int) (n i : Nat) (hni : n = i + 1) (hn : n ≤ 100) (A : List Int) (hA : ∀ a ∈ A, a ≤ id) : ∀ (m : Nat) (B Q : List Int), B.length = m → (∀ b ∈ B, id < b) → A.length + B.length ≤ i → Ev (fun q => slices_insertionSortOrdered_uint64.l1 q (A ++ B ++ id :: Q) 0 (n : Int) (i : Int) ((A.length + m : Nat) : Int)) (A ++ id :: (B ++ Q)) := by
  intro m
  induction m with
  | zero =>
    intro B Q hm hB hle
    obtain rfl := List.length_eq_zero_iff.1 hm
    rw [List.append_nil, List.nil_append, Nat.add_zero]
    rcases List.eq_nil_or_concat A with rfl | ⟨A', a, rfl⟩
    · exact Ev.step (fun q => by simp only [slices_insertionSortOrdered_uint64.l1]; rw [if_neg (by simp)]) (sort_end _ n i hni hn)
    · have ha : a ≤ id := hA a (by simp)
      simp only [List.concat_eq_append] at hA hle ⊢
      have hlen : (A' ++ [a]).length = A'.length + 1 := by simp
      rw [hlen] at hle
      rw [hlen]
      refine Ev.step (fun q => ?_) (sort_end (A' ++ [a] ++ id :: Q) n i hni hn)
      simp only [slices_insertionSortOrdered_uint64.l1]
      rw [if_pos (show ((A'.length + 1 : Nat) : Int) > 0 by omega), if_pos (show (0 : Int) ≤ ((A'.length + 1 : Nat) : Int) by omega), if_pos (show ((A'.length + 1 : Nat) : Int) < ((A' ++ [a] ++ id :: Q).length : Int) by simp; omega), wrapDown (A'.length + 1) (by omega) (by omega), Nat.add_sub_cancel, if_pos (show (0 : Int) ≤ (A'.length : Int) by omega), if_pos (show (A'.length : Int) < ((A' ++ [a] ++ id :: Q).length : Int) by simp; omega), rd_mid (A' ++ [a]) Q id _ hlen, show A' ++ [a] ++ id :: Q = A' ++ a :: id :: Q by simp, rd_mid A' (id :: Q) a _ rfl, less_val, Option.bind_some]
      exact if_neg (by rw [decide_eq_true_eq]; omega)
  | succ m ih =>
    intro B Q hm hB hle
    rcases List.eq_nil_or_concat B with rfl | ⟨B', b, rfl⟩
    · simp at hm
    · simp only [List.concat_eq_append] at hm hle hB ⊢
      have hm' : B'.length = m := by simpa using hm
      have hb : id < b := hB b (by simp)
      have ih' := ih B' (b :: Q) hm' (fun x hx => hB x (by simp [hx])) (by simp at hle; omega)
      rw [show A ++ id :: (B' ++ [b] ++ Q) = A ++ id :: (B' ++ b :: Q) by simp]
      refine Ev.step (fun q => ?_) ih'
      simp only [slices_insertionSortOrdered_uint64.l1]
      have hPl : (A ++ B').length = A.length + m := by rw [List.length_append, hm']
      have hle2 : A.length + m + 1 ≤ i := by simp at hle; omega
      rw [show A ++ (B' ++ [b]) ++ id :: Q = (A ++ B') ++ b :: id :: Q by simp]
      rw [if_pos (show ((A.length + (m + 1) : Nat) : Int) > 0 by omega), if_pos (show (0 : Int) ≤ ((A.length + (m + 1) : Nat) : Int) by omega), if_pos (show ((A.length + (m + 1) : Nat) : Int) < (((A ++ B') ++ b :: id :: Q).length : Int) by rw [List.length_append, hPl]; simp; omega), wrapDown (A.length + (m + 1)) (by omega) (by omega), show A.length + (m + 1) - 1 = A.length + m by omega, if_pos (show (0 : Int) ≤ ((A.length + m : Nat) : Int) by omega), if_pos (show ((A.length + m : Nat) : Int) < (((A ++ B') ++ b :: id :: Q).length : Int) by rw [List.length_append, hPl]; simp; omega), rd_mid (A ++ B') (id :: Q) b _ hPl, show (A ++ B') ++ b :: id :: Q = ((A ++ B') ++ [b]) ++ id :: Q by simp, rd_mid ((A ++ B') ++ [b]) Q id (A.length + (m + 1)) (by rw [List.length_append, hPl]; rfl), less_val, Option.bind_some, if_pos (decide_eq_true hb), Int.toNat_natCast, Int.toNat_natCast, show ((A ++ B') ++ [b]) ++ id :: Q = (A ++ B') ++ b :: id :: Q by simp, show A.length + (m + 1) = (A.length + m) + 1 by omega, swap_mid (A ++ B') Q b id _ hPl]
theorem sort_in (l : List Int) (id : Int) (hp : ∀ j, 0 < j → j < l.length → l[j - 1]! < l[j]!) (hl : l.length ≤ 90) (r : List Int) (hr : Ev (fun q => slices_insertionSortOrdered_uint64.l0 q (l ++ [id]) 0 ((l.length + 1 : Nat) : Int) ((l.length : Nat) : Int)) r) : ∀ (d j : Nat), d = l.length - j → 1 ≤ j → j ≤ l.length → Ev (fun q => slices_insertionSortOrdered_uint64.l0 q (l ++ [id]) 0 ((l.length + 1 : Nat) : Int) (j : Int)) r := by
  intro d
  induction d with
  | zero =>
    intro j hd h1 hj
    obtain rfl : j = l.length := by omega
    exact hr
  | succ d ih =>
    intro j hd h1 hj
    have hlt : j < l.length := by omega
    refine Ev.step (f := fun q => slices_insertionSortOrdered_uint64.l1 q (l ++ [id]) 0 ((l.length + 1 : Nat) : Int) (j : Int) (j : Int)) (fun q => by simp only [slices_insertionSortOrdered_uint64.l0]; rw [if_pos (show (j : Int) < ((l.length + 1 : Nat) : Int) by omega)]) ?_
    refine Ev.step (fun q => ?_) (ih (j + 1) (by omega) (by omega) (by omega))
    have hL : (l ++ [id]).length = l.length + 1 := by simp
    have e1 : (l ++ [id])[j]! = l[j]! := by rw [getElem!_pos _ j (by omega), getElem!_pos l j hlt, List.getElem_append_left hlt]
    have e2 : (l ++ [id])[j - 1]! = l[j - 1]! := by rw [getElem!_pos _ (j - 1) (by omega), getElem!_pos l (j - 1) (by omega), List.getElem_append_left (by omega)]
    have hlt2 := hp j (by omega) hlt
    simp only [slices_insertionSortOrdered_uint64.l1]
    rw [if_pos (show (j : Int) > 0 by omega), if_pos (show (0 : Int) ≤ (j : Int) by omega), hL, if_pos (show (j : Int) < ((l.length + 1 : Nat) : Int) by omega), wrapDown j (by omega) (by omega), if_pos (show (0 : Int) ≤ ((j - 1 : Nat) : Int) by omega), if_pos (show ((j - 1 : Nat) : Int) < ((l.length + 1 : Nat) : Int) by omega), rd_int _ j (by omega), rd_int _ (j - 1) (by omega), e1, e2, less_val, Option.bind_some, wrapUp j (by omega)]
    exact if_neg (by rw [decide_eq_true_eq]; omega)
theorem sort_put (l : List Int) (id : Int) (hr : risesB l = true) (hl : l.length ≤ 11) : Ev (fun q => slices_insertionSortOrdered_uint64.f q (l ++ [id]) 0 ((l.length + 1 : Nat) : Int)) (insV l id) := by
  unfold slices_insertionSortOrdered_uint64.f
  rw [show wrap64 ((0 : Int) + 1) = 1 by unfold wrap64; omega]
  obtain ⟨A, B, h1, h2, h3, h4⟩ := insV_split id l (rises_pw hr)
  by_cases h0 : l.length = 0
  · obtain rfl := List.length_eq_zero_iff.1 h0
    exact Ev.step (f := fun _ => some [id]) (fun q => by simp only [slices_insertionSortOrdered_uint64.l0]; rw [if_neg (by simp)]; rfl) (Ev.now _)
  · refine sort_in l id (rises_adj hr) (by omega) _ ?_ (l.length - 1) 1 (by omega) (by omega) (by omega)
    refine Ev.step (f := fun q => slices_insertionSortOrdered_uint64.l1 q (l ++ [id]) 0 ((l.length + 1 : Nat) : Int) ((l.length : Nat) : Int) ((l.length : Nat) : Int)) (fun q => by simp only [slices_insertionSortOrdered_uint64.l0]; rw [if_pos (show ((l.length : Nat) : Int) < ((l.length + 1 : Nat) : Int) by omega)]) ?_
    have hb := bub id (l.length + 1) l.length rfl (by omega) A h3 B.length B [] rfl h4 (by rw [h1, List.length_append]; omega)
    rw [← h1, List.append_nil, ← h2, ← List.length_append, ← h1] at hb
    exact hb
theorem gput_ev (l : List Int) (id : Int) (hr : risesB l = true) (hl : l.length ≤ 11) : Ev (fun q => group_put.f q l id) (insV l id) := by
  unfold group_put.f
  refine Ev.bind (show Ev (fun _ => slices_Clone_uint64_uint64.f l) l from ⟨0, fun _ _ => by unfold slices_Clone_uint64_uint64.f; rw [if_pos (by omega)]⟩) ?_
  refine Ev.congr (fun _ => if_pos (show l.length < 17592186044416 by omega)) ?_
  have hL : (l ++ [id]).length = l.length + 1 := by simp
  refine Ev.bind (a := insV l id) (show Ev (fun q => slices_Sort_uint64_uint64.f q (l ++ [id])) (insV l id) from ?_) (Ev.now _)
  unfold slices_Sort_uint64_uint64.f
  rw [hL]
  exact Ev.congr (fun _ => if_pos (show l.length + 1 ≤ 12 by omega)) (sort_put l id hr hl)
end Go.Proofs.Ytlmefnifhbcbcaa.PAll
end
