/- Joined texts of the claim LeaseUntil (part 46): contracts of functions and plain laws. -/
import Derived.Test.YtlmefnifhbcbcaaJLeaseUntil11
import Derived.Test.YtlmefnifhbcbcaaJLeaseUntil30
import Derived.Test.YtlmefnifhbcbcaaJLeaseUntil37
import Derived.Test.YtlmefnifhbcbcaaJLeaseUntil43
import Derived.Test.YtlmefnifhbcbcaaJLeaseUntil44
import Derived.Test.YtlmefnifhbcbcaaJLeaseUntil45
section
/- Plain laws of groups: the document's Mark, Set, Agreed. -/
namespace Go.Proofs.Ytlmefnifhbcbcaa.PAll
open Go.RowKit Go.Proofs.YtlmefnifhbcbcaaW.PrintWords Go.Proofs.YtlmefnifhbcbcaaW.PrintMore Go.Proofs.Ytlmefnifhbcbcaa
set_option linter.unusedVariables false
theorem rMark_l0 (m : List S39) (id : Int) (hm : m.length ≤ 9223372036854775806) : ∀ (d j : Nat), d = m.length - j → j ≤ m.length → (∀ i, i < j → isM id m[i]! = false) → Ev (fun q => ferruleref06_Mark.l0 q m id (j : Int)) (markV m id, decide (0 ≤ findI (isM id) m)) := by
  intro d
  induction d with
  | zero =>
    intro j hd hj hno
    have hn := findI_miss (isM id) m (fun i hi => hno i (by omega))
    have e : (markV m id, decide (0 ≤ findI (isM id) m)) = (0, false) := by
      rw [hn]
      unfold markV
      rw [show findI (fun x : S39 => x.f0 == id) m = -1 from hn]
      rfl
    rw [e]
    exact Ev.step (f := fun _ => some (0, false)) (fun q => by simp only [ferruleref06_Mark.l0]; rw [if_neg (show ¬ (j : Int) < m.length by omega)]) (Ev.now _)
  | succ d ih =>
    intro j hd hj hno
    have hlt : j < m.length := by omega
    by_cases c : (m[j]!).f0 = id
    · have hn := findI_hit (isM id) m j hlt (isM_t c) (fun i hi => hno i hi)
      have e : (markV m id, decide (0 ≤ findI (isM id) m)) = ((m[j]!).f1, true) := by
        rw [hn]
        unfold markV
        rw [show findI (fun x : S39 => x.f0 == id) m = j from hn, if_neg (by omega), Int.toNat_natCast, decide_eq_true (by omega)]
      rw [e]
      exact Ev.step (f := fun _ => some ((m[j]!).f1, true)) (fun q => by simp only [ferruleref06_Mark.l0]; rw [if_pos (show (j : Int) < m.length by omega), if_pos (show (0 : Int) ≤ j by omega), rd_mark m j hlt, if_pos c]) (Ev.now _)
    · exact Ev.step (f := fun q => ferruleref06_Mark.l0 q m id ((j + 1 : Nat) : Int)) (fun q => by simp only [ferruleref06_Mark.l0]; rw [if_pos (show (j : Int) < m.length by omega), if_pos (show (0 : Int) ≤ j by omega), rd_mark m j hlt, if_neg c, wrapUp j (by omega)]) (ih (j + 1) (by omega) (by omega) (fun i hi => by
        by_cases e : i = j
        · subst e; exact isM_f c
        · exact hno i (by omega)))
theorem rMark_ev (m : List S39) (id : Int) (hm : m.length ≤ 9223372036854775806) : Ev (fun q => ferruleref06_Mark.f q m id) (markV m id, decide (0 ≤ findI (isM id) m)) := rMark_l0 m id hm m.length 0 (by omega) (by omega) (fun i hi => by omega)
theorem rSet_l0 (m : List S39) (id v : Int) (hm : m.length < 8796093022208) : ∀ (d j : Nat), d = m.length - j → j ≤ m.length → (∀ i, i < j → isM id m[i]! = false) → Ev (fun q => ferruleref06_Set.l0 q id v m (j : Int)) (setV m id v) := by
  intro d
  induction d with
  | zero =>
    intro j hd hj hno
    have hn := findI_miss (isM id) m (fun i hi => hno i (by omega))
    unfold setV
    rw [hn, if_pos (by omega)]
    exact Ev.step (f := fun _ => some (m ++ [⟨id, v⟩])) (fun q => by simp only [ferruleref06_Set.l0]; rw [if_neg (show ¬ (j : Int) < m.length by omega), if_pos hm]) (Ev.now _)
  | succ d ih =>
    intro j hd hj hno
    have hlt : j < m.length := by omega
    by_cases c : (m[j]!).f0 = id
    · have hn := findI_hit (isM id) m j hlt (isM_t c) (fun i hi => hno i hi)
      unfold setV
      rw [hn, if_neg (by omega), Int.toNat_natCast]
      exact Ev.step (f := fun _ => some (m.set j ⟨(m[j]!).f0, v⟩)) (fun q => by simp only [ferruleref06_Set.l0]; rw [if_pos (show (j : Int) < m.length by omega), if_pos (show (0 : Int) ≤ j by omega), rd_mark m j hlt, if_pos c, Int.toNat_natCast]) (Ev.now _)
    · exact Ev.step (f := fun q => ferruleref06_Set.l0 q id v m ((j + 1 : Nat) : Int)) (fun q => by simp only [ferruleref06_Set.l0]; rw [if_pos (show (j : Int) < m.length by omega), if_pos (show (0 : Int) ≤ j by omega), rd_mark m j hlt, if_neg c, wrapUp j (by omega)]) (ih (j + 1) (by omega) (by omega) (fun i hi => by
        by_cases e : i = j
        · subst e; exact isM_f c
        · exact hno i (by omega)))
theorem rSet_ev (m : List S39) (id v : Int) (hm : m.length < 8796093022208) : Ev (fun q => ferruleref06_Set.f q m id v) (setV m id v) := by
  unfold ferruleref06_Set.f
  exact Ev.congr (fun q => if_pos (show 0 + m.length < 8796093022208 by omega)) (rSet_l0 m id v hm m.length 0 (by omega) (by omega) (fun i hi => by omega))
/-! Marks -/
/-! Agreed -/
theorem rAgr_l1 (l l' : List Int) (m : List S39) (hl : l.length ≤ 4611686018427387904) (hm : m.length ≤ 9223372036854775806) (b i x : Int) (r : Int)
    (hk : Ev (fun q => if (cntGe (valsV l m) x : Int) ≥ (l.length : Int) / 2 + 1 then (if x > b then ferruleref06_Agreed.l0 q m x (wrap64 (i + 1)) l l' else ferruleref06_Agreed.l0 q m b (wrap64 (i + 1)) l l') else ferruleref06_Agreed.l0 q m b (wrap64 (i + 1)) l l') r) :
    ∀ (d j : Nat), d = l.length - j → j ≤ l.length → Ev (fun q => ferruleref06_Agreed.l1 q m b i x ((cntGe (valsV (l.take j) m) x : Nat) : Int) (j : Int) l l') r := by
  intro d
  have hw1 : wrap64 ((l.length : Int) / 2) = (l.length : Int) / 2 := by unfold wrap64; omega
  have hw2 : wrap64 ((l.length : Int) / 2 + 1) = (l.length : Int) / 2 + 1 := by unfold wrap64; omega
  induction d with
  | zero =>
    intro j hd hj
    obtain rfl : j = l.length := by omega
    rw [List.take_length]
    refine Ev.step (fun q => ?_) hk
    simp only [ferruleref06_Agreed.l1]
    rw [if_neg (show ¬ ((l.length : Nat) : Int) < l.length by omega), hw1, hw2]
  | succ d ih =>
    intro j hd hj
    have hlt : j < l.length := by omega
    have hle : cntGe (valsV (l.take j) m) x ≤ j := by
      unfold cntGe valsV
      refine Nat.le_trans (List.length_filter_le _ _) ?_
      rw [List.length_map, List.length_take]
      omega
    have hnext : cntGe (valsV (l.take (j + 1)) m) x = cntGe (valsV (l.take j) m) x + (if x ≤ markV m l[j]! then 1 else 0) := by
      rw [takeGet l j hlt]
      unfold cntGe valsV
      rw [List.map_append, List.filter_append, List.length_append]
      congr 1
      by_cases c : x ≤ markV m l[j]!
      · rw [if_pos c, List.map_cons, List.map_nil, List.filter_cons_of_pos (by simpa using c), List.filter_nil]; rfl
      · rw [if_neg c, List.map_cons, List.map_nil, List.filter_cons_of_neg (by simpa using c), List.filter_nil]; rfl
    have ih' := ih (j + 1) (by omega) (by omega)
    rw [hnext] at ih'
    refine Ev.step (f := fun q => (ferruleref06_Mark.f q m l[j]!).bind fun bt => if bt.1 ≥ x then ferruleref06_Agreed.l1 q m b i x (wrap64 (((cntGe (valsV (l.take j) m) x : Nat) : Int) + 1)) ((j + 1 : Nat) : Int) l l' else ferruleref06_Agreed.l1 q m b i x ((cntGe (valsV (l.take j) m) x : Nat) : Int) ((j + 1 : Nat) : Int) l l') (fun q => by simp only [ferruleref06_Agreed.l1]; rw [if_pos (show (j : Int) < l.length by omega), if_pos (show (0 : Int) ≤ j by omega), rd_int l j hlt, wrapUp j (by omega)]) ?_
    refine Ev.bind (rMark_ev m _ hm) ?_
    by_cases c : x ≤ markV m l[j]!
    · rw [if_pos c] at ih'
      exact Ev.congr (fun q => (if_pos c).trans (by rw [wrapUp _ (by omega)])) ih'
    · rw [if_neg c] at ih'
      exact Ev.congr (fun q => if_neg c) ih'
theorem rAgr_l0 (l l' : List Int) (m : List S39) (hl : l.length ≤ 4611686018427387904) (hm : m.length ≤ 9223372036854775806) : ∀ (d j : Nat) (b : Int), d = l.length - j → j ≤ l.length → Ev (fun q => ferruleref06_Agreed.l0 q m b (j : Int) l l') (bestV (valsV l m) (valsV (l.drop j) m) b) := by
  intro d
  induction d with
  | zero =>
    intro j b hd hj
    rw [List.drop_eq_nil_of_le (by omega)]
    exact Ev.step (f := fun _ => some b) (fun q => by simp only [ferruleref06_Agreed.l0]; rw [if_neg (show ¬ (j : Int) < l.length by omega)]) (Ev.now b)
  | succ d ih =>
    intro j b hd hj
    have hlt : j < l.length := by omega
    refine Ev.step (f := fun q => (ferruleref06_Mark.f q m l[j]!).bind fun bt => ferruleref06_Agreed.l1 q m b j bt.1 0 0 l l') (fun q => by simp only [ferruleref06_Agreed.l0]; rw [if_pos (show (j : Int) < l.length by omega), if_pos (show (0 : Int) ≤ j by omega), rd_int l j hlt]) ?_
    refine Ev.bind (rMark_ev m _ hm) ?_
    refine rAgr_l1 l l' m hl hm b j (markV m l[j]!) _ ?_ l.length 0 (by omega) (by omega)
    rw [dropGet l j hlt, wrapUp j (by omega)]
    have hb := ih (j + 1)
    show Ev _ (bestV (valsV l m) (valsV (l.drop (j + 1)) m) (if (cntGe (valsV l m) (markV m l[j]!) : Int) ≥ ((valsV l m).length : Int) / 2 + 1 then (if markV m l[j]! > b then markV m l[j]! else b) else b))
    rw [show (valsV l m).length = l.length by unfold valsV; rw [List.length_map]]
    split
    · split
      · exact hb _ (by omega) (by omega)
      · exact hb _ (by omega) (by omega)
    · exact hb _ (by omega) (by omega)
theorem rAgr_ev (l l' : List Int) (m : List S39) (hl : l.length ≤ 4611686018427387904) (hm : m.length ≤ 9223372036854775806) : Ev (fun q => ferruleref06_Agreed.f q l l' m) (agrV l m) := rAgr_l0 l l' m hl hm l.length 0 0 (by omega) (by omega)
end Go.Proofs.Ytlmefnifhbcbcaa.PAll
end
