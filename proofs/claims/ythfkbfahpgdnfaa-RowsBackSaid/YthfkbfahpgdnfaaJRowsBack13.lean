/- Joined texts of the claim RowsBack (part 13): contracts of functions and plain laws. -/
import Derived.Test.YthfkbfahpgdnfaaJRowsBack3
import Derived.Test.YthfkbfahpgdnfaaJRowsBack4
import Derived.Test.YthfkbfahpgdnfaaJRowsBack8
import Derived.Test.YthfkbfahpgdnfaaJRowsBack9
import Derived.Test.YthfkbfahpgdnfaaJRowsBack10
import Derived.Test.YthfkbfahpgdnfaaJRowsBack11
import Derived.Test.YthfkbfahpgdnfaaJRowsBack12
section
/- Plain laws of rows: Right, Get, Same, Do as the document tells them. -/
namespace Go.Proofs.Ythfkbfahpgdnfaa.PAll
open Go.RowKit Go.Proofs.YthfkbfahpgdnfaaW.PrintWords Go.Proofs.YthfkbfahpgdnfaaW.PrintMore Go.Proofs.Ythfkbfahpgdnfaa
set_option linter.unusedVariables false
theorem rd_row (l : List S64) (j : Nat) (hj : j < l.length) : rd_T64 l (j : Int) = l[j]! := by
  simp [rd_T64, List.getD_eq_getElem?_getD, List.getElem?_eq_getElem hj, getElem!_pos l j hj]
theorem rd_put (l : List S52) (j : Nat) (hj : j < l.length) : rd_T52 l (j : Int) = l[j]! := by
  simp [rd_T52, List.getD_eq_getElem?_getD, List.getElem?_eq_getElem hj, getElem!_pos l j hj]
/-! Right -/
def allR (l : List S64) : Nat → Nat → Bool
  | 0, _ => true
  | d + 1, j => okR l j && allR l d (j + 1)
theorem allR_iff (l : List S64) : ∀ (d j : Nat), allR l d j = true ↔ ∀ i, j ≤ i → i < j + d → okR l i = true
  | 0, j => by simp [allR]; omega
  | d + 1, j => by
    rw [allR, Bool.and_eq_true, allR_iff l d (j + 1)]
    constructor
    · rintro ⟨h1, h2⟩ i hi1 hi2
      by_cases e : i = j
      · subst e; exact h1
      · exact h2 i (by omega) (by omega)
    · exact fun h => ⟨h j (Nat.le_refl _) (by omega), fun i h1 h2 => h i (by omega) (by omega)⟩
theorem rightR_from (l : List S64) : rightR l = (allR l l.length 0 && decide (l.length ≤ 32)) := by
  unfold rightR
  congr 1
  rw [Bool.eq_iff_iff, allR_iff, List.all_eq_true]
  exact ⟨fun h i _ hi => h i (List.mem_range.2 (by omega)), fun h i hi => h i (Nat.zero_le _) (by have := List.mem_range.1 hi; omega)⟩
def badRow (x : S64) : Bool := decide ((x.f0.size : Int) < 1) || decide ((x.f0.size : Int) > 16) || decide ((x.f1.size : Int) > 32) || decide (x.f2 > 4611686018427387903)
theorem okR_bad (l : List S64) (j : Nat) : okR l j = (!badRow (l[j]!) && (decide (j = 0) || Op.bytesLess (l[j - 1]!).f0.toList (l[j]!).f0.toList)) := by
  unfold okR badRow
  congr 1
  rw [Bool.eq_iff_iff]
  simp only [Bool.and_eq_true, decide_eq_true_eq, Bool.not_eq_true', Bool.or_eq_false_iff, decide_eq_false_iff_not]
  omega
theorem rRight_l0 (l : List S64) (hl : l.length ≤ 32) (hs : ∀ x ∈ l, x.f0.size ≤ 9223372036854775806) : ∀ (d j : Nat), d = l.length - j → j ≤ l.length → Ev (fun q => ferruleref11_Right.l0 q l (j : Int)) (allR l d j) := by
  intro d
  induction d with
  | zero =>
    intro j hd hj
    exact Ev.step (f := fun _ => some true) (fun k => by simp only [ferruleref11_Right.l0]; rw [if_neg (show ¬ (j : Int) < l.length by omega)]) (Ev.now true)
  | succ d ih =>
    intro j hd hj
    have hlt : j < l.length := by omega
    have hw := wrap_up j (by omega)
    refine Ev.step (f := fun k => ferruleref11_Right.j1 k l j (badRow (l[j]!)) (l[j]!).f0 (l[j]!).f1 (l[j]!).f2) (fun k => ?_) ?_
    · simp only [ferruleref11_Right.l0]
      rw [if_pos (show (j : Int) < l.length by omega), if_pos (show (0 : Int) ≤ j by omega), rd_row l j hlt]
      unfold badRow
      by_cases c1 : ((l[j]!).f0.size : Int) < 1
      · rw [if_pos c1, decide_eq_true c1]; rfl
      · rw [if_neg c1, decide_eq_false c1]
        by_cases c2 : ((l[j]!).f0.size : Int) > 16
        · rw [if_pos c2, decide_eq_true c2]; rfl
        · rw [if_neg c2, decide_eq_false c2]
          by_cases c3 : ((l[j]!).f1.size : Int) > 32
          · rw [if_pos c3, decide_eq_true c3]; rfl
          · rw [if_neg c3, decide_eq_false c3]; rfl
    · rw [allR, okR_bad]
      cases hb : badRow (l[j]!) with
      | true => exact Ev.step (f := fun _ => some false) (fun k => by simp only [ferruleref11_Right.j1]; rw [if_pos trivial]) (Ev.now false)
      | false =>
        rw [Bool.not_false, Bool.true_and]
        by_cases c3 : j = 0
        · rw [decide_eq_true c3, Bool.true_or, Bool.true_and]
          refine Ev.step (fun k => ?_) (ih (j + 1) (by omega) (by omega))
          simp only [ferruleref11_Right.j1]
          rw [if_neg (by decide), if_neg (show ¬ (j : Int) > 0 by omega), hw]
        · rw [decide_eq_false c3, Bool.false_or]
          have hj1 : j - 1 < l.length := by omega
          have hw2 := wrap_down j (by omega) (by omega)
          refine Ev.step (f := fun k => (ferruleref11_Less.f k (l[j - 1]!).f0 (l[j]!).f0).bind fun t => if t = true then ferruleref11_Right.l0 k l ((j + 1 : Nat) : Int) else some false) (fun k => ?_) (Ev.bind (Less_ev _ _ (hs _ (get_mem l _ hj1))) ?_)
          · simp only [ferruleref11_Right.j1]
            rw [if_neg (by decide), if_pos (show (j : Int) > 0 by omega), hw2, if_pos (show (0 : Int) ≤ ((j - 1 : Nat) : Int) by omega), if_pos (show ((j - 1 : Nat) : Int) < l.length by omega), rd_row l _ hj1, hw]
          · cases Op.bytesLess (l[j - 1]!).f0.toList (l[j]!).f0.toList with
            | true => exact Ev.congr (fun k => if_pos rfl) (by rw [Bool.true_and]; exact ih (j + 1) (by omega) (by omega))
            | false => exact Ev.congr (fun k => if_neg (by decide)) (Ev.now false)
theorem rRight_ev (l : List S64) (hs : ∀ x ∈ l, x.f0.size ≤ 9223372036854775806) : Ev (fun k => ferruleref11_Right.f k l) (rightR l) := by
  unfold ferruleref11_Right.f
  by_cases h : l.length ≤ 32
  · refine Ev.congr (fun k => if_neg (by omega)) ?_
    rw [rightR_from, decide_eq_true h, Bool.and_true]
    exact rRight_l0 l h hs l.length 0 (by omega) (by omega)
  · refine Ev.congr (fun k => if_pos (by omega)) ?_
    unfold rightR
    rw [decide_eq_false h, Bool.and_false]
    exact Ev.now false
/-! Get -/
def getV (l : List S64) (key : ByteArray) : ByteArray × ByteArray × Int × Bool := if findI (keyIs key) l < 0 then (⟨#[]⟩, ⟨#[]⟩, 0, false) else ((l[(findI (keyIs key) l).toNat]!).f0, (l[(findI (keyIs key) l).toNat]!).f1, (l[(findI (keyIs key) l).toNat]!).f2, true)
theorem Get_eq (l : List S64) (key : ByteArray) : rows_Get.f l key = some (getV l key) := by
  unfold rows_Get.f rows_at.f getV
  simp only [Option.bind_some]
  have e : (fun x : S64 => x.f0.toList == key.toList) = keyIs key := rfl
  rw [e]
  rcases findI_ways (keyIs key) l with h | ⟨i, hi, h⟩
  · rw [h]; rfl
  · rw [h, if_neg (by omega), if_pos (by omega), if_pos (by omega), if_neg (by omega), rd_row l i hi]; rfl
theorem keyIs_iff (key : ByteArray) (x : S64) : (x.f0.toList = key.toList) = (keyIs key x = true) := by
  unfold keyIs; exact propext beq_iff_eq.symm
theorem rGet_l0 (l : List S64) (key : ByteArray) (hl : l.length < 9223372036854775806) : ∀ (d j : Nat), d = l.length - j → j ≤ l.length → (∀ k, k < j → keyIs key (l[k]!) = false) → Ev (fun q => ferruleref11_Get.l0 q l key (j : Int)) (getV l key) := by
  intro d
  induction d with
  | zero =>
    intro j hd hj hno
    have hn := findI_no (keyIs key) l (fun k hk => hno k (by omega))
    refine Ev.step (f := fun _ => some (getV l key)) (fun k => ?_) (Ev.now _)
    simp only [ferruleref11_Get.l0]
    rw [if_neg (show ¬ (j : Int) < l.length by omega)]
    unfold getV
    rw [hn]; rfl
  | succ d ih =>
    intro j hd hj hno
    have hlt : j < l.length := by omega
    cases hk : keyIs key (l[j]!) with
    | true =>
      have hn := findI_at (keyIs key) l j hlt hk hno
      refine Ev.step (f := fun _ => some (getV l key)) (fun k => ?_) (Ev.now _)
      simp only [ferruleref11_Get.l0]
      rw [if_pos (show (j : Int) < l.length by omega), if_pos (show (0 : Int) ≤ j by omega), rd_row l j hlt, if_pos (by rw [keyIs_iff]; exact hk)]
      unfold getV
      rw [hn, if_neg (by omega)]; rfl
    | false =>
      refine Ev.step (fun k => ?_) (ih (j + 1) (by omega) (by omega) (fun k hk2 => by
        by_cases e : k = j
        · rw [e]; exact hk
        · exact hno k (by omega)))
      simp only [ferruleref11_Get.l0]
      rw [if_pos (show (j : Int) < l.length by omega), if_pos (show (0 : Int) ≤ j by omega), rd_row l j hlt, if_neg (by rw [keyIs_iff, hk]; decide), wrap_up j (by omega)]
theorem rGet_ev (l : List S64) (key : ByteArray) (hl : l.length < 9223372036854775806) : Ev (fun k => ferruleref11_Get.f k l key) (getV l key) :=
  rGet_l0 l key hl l.length 0 (by omega) (by omega) (fun k hk => absurd hk (by omega))
/-! Same -/
theorem Same_l0 (a : List S64) (hl : a.length < 9223372036854775806) : ∀ (d j : Nat), d = a.length - j → j ≤ a.length → Ev (fun q => ferruleref11_Same.l0 q a a (j : Int)) true := by
  intro d
  induction d with
  | zero =>
    intro j hd hj
    exact Ev.step (f := fun _ => some true) (fun k => by simp only [ferruleref11_Same.l0]; rw [if_neg (show ¬ (j : Int) < a.length by omega)]) (Ev.now true)
  | succ d ih =>
    intro j hd hj
    refine Ev.step (fun k => ?_) (ih (j + 1) (by omega) (by omega))
    simp only [ferruleref11_Same.l0]
    rw [if_pos (show (j : Int) < a.length by omega), if_pos (show (0 : Int) ≤ j by omega), if_pos (show (j : Int) < a.length by omega), wrap_up j (by omega)]
    simp
theorem Same_ev (a : List S64) (hl : a.length < 9223372036854775806) : Ev (fun q => ferruleref11_Same.f q a a) true := by
  unfold ferruleref11_Same.f
  exact Ev.congr (fun k => if_pos rfl) (Same_l0 a hl a.length 0 (by omega) (by omega))
end Go.Proofs.Ythfkbfahpgdnfaa.PAll
end
section
/- Plain laws of rows: Do as the document tells it. -/
namespace Go.Proofs.Ythfkbfahpgdnfaa.PAll
open Go.RowKit Go.Proofs.YthfkbfahpgdnfaaW.PrintWords Go.Proofs.YthfkbfahpgdnfaaW.PrintMore Go.Proofs.Ythfkbfahpgdnfaa
set_option linter.unusedVariables false
def putRow (row : S64) : List S64 → List S64
  | [] => [row]
  | x :: r => if keyIs row.f0 x then row :: r else x :: putRow row r
def insRow (row : S64) : List S64 → List S64
  | [] => [row]
  | x :: r => if Op.bytesLess row.f0.toList x.f0.toList then row :: x :: r else x :: insRow row r
theorem putRow_set (row : S64) : ∀ l : List S64, l.findIdx (keyIs row.f0) < l.length → putRow row l = l.set (l.findIdx (keyIs row.f0)) row
  | [], h => by simp at h
  | x :: r, h => by
    rw [putRow, List.findIdx_cons]
    cases hk : keyIs row.f0 x with
    | true => simp
    | false =>
      rw [List.findIdx_cons, hk] at h
      simp only [cond_false, List.length_cons] at h ⊢
      rw [if_neg (by decide), List.set_cons_succ, putRow_set row r (by omega)]
theorem insRow_at (row : S64) : ∀ l : List S64, insRow row l = l.take (l.findIdx (fun x => Op.bytesLess row.f0.toList x.f0.toList)) ++ row :: l.drop (l.findIdx (fun x => Op.bytesLess row.f0.toList x.f0.toList))
  | [] => rfl
  | x :: r => by
    rw [insRow, List.findIdx_cons]
    cases hk : Op.bytesLess row.f0.toList x.f0.toList with
    | true => simp
    | false =>
      simp only [cond_false]
      rw [if_neg (by decide), insRow_at row r, List.take_succ_cons, List.drop_succ_cons, List.cons_append]
theorem keyOver_less (s : ByteArray) : keyOver s = fun x => Op.bytesLess s.toList x.f0.toList := by
  funext x
  unfold keyOver
  rw [less_flip s.toList x.f0.toList]
theorem findI_idx {α : Type} (p : α → Bool) (l : List α) : (if findI p l < 0 then l.length else (findI p l).toNat) = l.findIdx p := by
  unfold findI
  by_cases h : l.findIdx p < l.length
  · rw [if_pos h, if_neg (by omega)]; rfl
  · rw [if_neg h, if_pos (by decide)]
    have := List.findIdx_le_length (p := p) (xs := l)
    omega
section
variable (l : List S64) (k v : ByteArray) (ver : Int)
theorem doDone (g is : Bool) (hl : l.length < 3518437208880) : ∀ (d j : Nat) (out : List S64), d = l.length - j → j ≤ l.length → out.length ≤ j + 1 →
    Ev (fun q => ferruleref11_Do.l0 q l out is true (j : Int) k v g k v ver) (out ++ (if g then (l.drop j).filter (fun x => !keyIs k x) else l.drop j), 0) := by
  intro d
  induction d with
  | zero =>
    intro j out hd hj ho
    refine Ev.step (f := fun _ => some _) (fun q => ?_) (Ev.now _)
    simp only [ferruleref11_Do.l0]
    rw [if_neg (show ¬ (j : Int) < l.length by omega), if_pos trivial, List.drop_eq_nil_of_le (by omega)]
    cases g <;> simp
  | succ d ih =>
    intro j out hd hj ho
    have hlt : j < l.length := by omega
    have hw := wrap_up j (by omega)
    cases hk : keyIs k (l[j]!) with
    | true =>
      cases g with
      | true =>
        refine Ev.step (fun q => ?_) (by rw [drop_get l j hlt, if_pos rfl, List.filter_cons, hk]; have := ih (j + 1) out (by omega) (by omega) (by omega); rw [if_pos rfl] at this; exact this)
        simp only [ferruleref11_Do.l0]
        rw [if_pos (show (j : Int) < l.length by omega), if_pos (show (0 : Int) ≤ j by omega), rd_row l j hlt, if_pos (by rw [keyIs_iff]; exact hk), if_pos trivial, hw]
      | false =>
        refine Ev.step (fun q => ?_) (by rw [drop_get l j hlt, if_neg (by decide), List.append_cons out (l[j]!) (l.drop (j + 1))]; have := ih (j + 1) (out ++ [l[j]!]) (by omega) (by omega) (by simp; omega); rw [if_neg (by decide)] at this; exact this)
        simp only [ferruleref11_Do.l0]
        rw [if_pos (show (j : Int) < l.length by omega), if_pos (show (0 : Int) ≤ j by omega), rd_row l j hlt, if_pos (by rw [keyIs_iff]; exact hk), if_neg (by decide), if_pos trivial, if_pos (show out.length < 3518437208883 by omega), hw]
    | false =>
      have hnk : ¬ ((l[j]!).f0.toList = k.toList) := by rw [keyIs_iff, hk]; decide
      refine Ev.step (f := fun q => ferruleref11_Do.l0 q l (out ++ [l[j]!]) is true ((j + 1 : Nat) : Int) k v g k v ver) (fun q => ?_) ?_
      · simp only [ferruleref11_Do.l0]
        rw [if_pos (show (j : Int) < l.length by omega), if_pos (show (0 : Int) ≤ j by omega), rd_row l j hlt, if_neg hnk, hw]
        cases is
        · rw [if_neg (by decide), if_pos trivial, if_pos (show out.length < 3518437208883 by omega)]
        · rw [if_pos rfl, if_pos (show out.length < 3518437208883 by omega)]
      · have := ih (j + 1) (out ++ [l[j]!]) (by omega) (by omega) (by simp; omega)
        rw [drop_get l j hlt]
        cases g with
        | true =>
          rw [if_pos rfl] at this ⊢
          rw [List.filter_cons, hk, Bool.not_false, if_pos rfl, List.append_cons out (l[j]!) ((l.drop (j + 1)).filter (fun x => !keyIs k x))]
          exact this
        | false =>
          rw [if_neg (by decide)] at this ⊢
          rw [List.append_cons out (l[j]!) (l.drop (j + 1))]
          exact this
theorem doPut (hl : l.length < 3518437208880) : ∀ (d j : Nat) (out : List S64), d = l.length - j → j ≤ l.length → out.length ≤ j →
    Ev (fun q => ferruleref11_Do.l0 q l out true false (j : Int) k v false k v ver) (out ++ putRow ⟨k, v, ver⟩ (l.drop j), 0) := by
  intro d
  induction d with
  | zero =>
    intro j out hd hj ho
    refine Ev.step (f := fun _ => some _) (fun q => ?_) (Ev.now _)
    simp only [ferruleref11_Do.l0]
    rw [if_neg (show ¬ (j : Int) < l.length by omega), if_neg (by decide), if_pos (by omega), List.drop_eq_nil_of_le (by omega)]
    rfl
  | succ d ih =>
    intro j out hd hj ho
    have hlt : j < l.length := by omega
    have hw := wrap_up j (by omega)
    rw [drop_get l j hlt, putRow]
    cases hk : keyIs k (l[j]!) with
    | true =>
      rw [if_pos rfl, List.append_cons out (⟨k, v, ver⟩ : S64) (l.drop (j + 1))]
      refine Ev.step (fun q => ?_) (by have := doDone l k v ver false true hl d (j + 1) (out ++ [⟨k, v, ver⟩]) (by omega) (by omega) (by simp; omega); rw [if_neg (by decide)] at this; exact this)
      simp only [ferruleref11_Do.l0]
      rw [if_pos (show (j : Int) < l.length by omega), if_pos (show (0 : Int) ≤ j by omega), rd_row l j hlt, if_pos (by rw [keyIs_iff]; exact hk), if_neg (by decide), if_neg (by decide), if_pos (show out.length < 3518437208883 by omega), hw]
    | false =>
      rw [if_neg (by decide), List.append_cons out (l[j]!) (putRow ⟨k, v, ver⟩ (l.drop (j + 1)))]
      refine Ev.step (fun q => ?_) (ih (j + 1) (out ++ [l[j]!]) (by omega) (by omega) (by simp; omega))
      simp only [ferruleref11_Do.l0]
      rw [if_pos (show (j : Int) < l.length by omega), if_pos (show (0 : Int) ≤ j by omega), rd_row l j hlt, if_neg (by rw [keyIs_iff, hk]; decide), if_pos trivial, if_pos (show out.length < 3518437208883 by omega), hw]
theorem doIns (hl : l.length < 3518437208880) (hk64 : k.size ≤ 9223372036854775806) (hno : ∀ j, j < l.length → keyIs k (l[j]!) = false) : ∀ (d j : Nat) (out : List S64), d = l.length - j → j ≤ l.length → out.length ≤ j →
    Ev (fun q => ferruleref11_Do.l0 q l out false false (j : Int) k v false k v ver) (out ++ insRow ⟨k, v, ver⟩ (l.drop j), 0) := by
  intro d
  induction d with
  | zero =>
    intro j out hd hj ho
    refine Ev.step (f := fun _ => some _) (fun q => ?_) (Ev.now _)
    simp only [ferruleref11_Do.l0]
    rw [if_neg (show ¬ (j : Int) < l.length by omega), if_neg (by decide), if_pos (by omega), List.drop_eq_nil_of_le (by omega)]
    rfl
  | succ d ih =>
    intro j out hd hj ho
    have hlt : j < l.length := by omega
    have hw := wrap_up j (by omega)
    have hnk : ¬ ((l[j]!).f0.toList = k.toList) := by rw [keyIs_iff, hno j hlt]; decide
    rw [drop_get l j hlt, insRow]
    refine Ev.step (f := fun q => (ferruleref11_Less.f q k (l[j]!).f0).bind fun t => if t = true then ferruleref11_Do.l0 q l ((out ++ [⟨k, v, ver⟩]) ++ [l[j]!]) false true ((j + 1 : Nat) : Int) k v false k v ver else ferruleref11_Do.l0 q l (out ++ [l[j]!]) false false ((j + 1 : Nat) : Int) k v false k v ver) (fun q => ?_) (Ev.bind (Less_ev _ _ hk64) ?_)
    · simp only [ferruleref11_Do.l0, Option.bind_some]
      rw [if_pos (show (j : Int) < l.length by omega), if_pos (show (0 : Int) ≤ j by omega), rd_row l j hlt, if_neg hnk, if_neg (by decide), if_neg (by decide), hw]
      simp only [if_pos (show out.length < 3518437208883 by omega), if_pos (show (out ++ [(⟨k, v, ver⟩ : S64)]).length < 3518437208883 by simp; omega)]
    · cases Op.bytesLess k.toList (l[j]!).f0.toList with
      | true =>
        rw [if_pos rfl, List.append_cons out (⟨k, v, ver⟩ : S64) (l[j]! :: l.drop (j + 1)), List.append_cons (out ++ [(⟨k, v, ver⟩ : S64)]) (l[j]!) (l.drop (j + 1))]
        refine Ev.congr (fun q => if_pos rfl) ?_
        have := doDone l k v ver false false hl d (j + 1) ((out ++ [⟨k, v, ver⟩]) ++ [l[j]!]) (by omega) (by omega) (by simp; omega)
        rw [if_neg (by decide)] at this
        exact this
      | false =>
        rw [if_neg (by decide), List.append_cons out (l[j]!) (insRow ⟨k, v, ver⟩ (l.drop (j + 1)))]
        exact Ev.congr (fun q => if_neg (by decide)) (ih (j + 1) (out ++ [l[j]!]) (by omega) (by omega) (by simp; omega))
end
theorem getV_is (l : List S64) (k : ByteArray) : (getV l k).2.2.2 = decide (0 ≤ findI (keyIs k) l) := by
  unfold getV
  by_cases h : findI (keyIs k) l < 0
  · rw [if_pos h, decide_eq_false (by omega)]
  · rw [if_neg h, decide_eq_true (by omega)]
theorem rDo_ev (l : List S64) (p : S52) (ver : Int) (hl : l.length < 3518437208880) (hk64 : p.f0.size ≤ 9223372036854775806) : Ev (fun q => ferruleref11_Do.f q l p.f0 p.f1 p.f2 ver) (doV l p ver) := by
  unfold ferruleref11_Do.f
  have hp : (⟨p.f0, p.f1, p.f2⟩ : S52) = p := rfl
  refine Ev.bind (show Ev (fun _ => ferruleref11_Fits.f [⟨p.f0, p.f1, p.f2⟩]) (fitsV [p]) from Ev.now _) ?_
  unfold doV
  by_cases hf : fitsV [p] = 0
  · rw [if_neg (fun h => h hf)]
    refine Ev.congr (fun q => if_pos hf) ?_
    refine Ev.bind (rGet_ev l p.f0 (by omega)) ?_
    rw [getV_is]
    cases hg : p.f2 with
    | true =>
      rw [if_pos rfl]
      have key : ∀ b, Ev (fun q => ferruleref11_Do.j0 q l ver [] b false p.f0 p.f1 true) (l.filter (fun x => !keyIs p.f0 x), 0) := fun b => by
        refine Ev.step (fun q => ?_) (by have := doDone l p.f0 p.f1 ver true b hl l.length 0 [] (by omega) (by omega) (by simp); rw [if_pos rfl, List.drop_zero, List.nil_append] at this; exact this)
        simp only [ferruleref11_Do.j0]
        rw [if_neg (by decide)]; rfl
      cases decide (0 ≤ findI (keyIs p.f0) l)
      · exact Ev.congr (fun q => (if_neg (by decide)).trans (if_pos rfl)) (key false)
      · exact Ev.congr (fun q => if_pos rfl) (key true)
    | false =>
      rw [if_neg (by decide)]
      by_cases hi : 0 ≤ findI (keyIs p.f0) l
      · rw [if_pos hi, decide_eq_true hi]
        refine Ev.congr (fun q => if_pos rfl) ?_
        have hidx : l.findIdx (keyIs p.f0) < l.length := by
          unfold findI at hi
          split at hi
          · assumption
          · omega
        have hto : (findI (keyIs p.f0) l).toNat = l.findIdx (keyIs p.f0) := by unfold findI; rw [if_pos hidx]; rfl
        refine Ev.step (fun q => ?_) (by have := doPut l p.f0 p.f1 ver hl l.length 0 [] (by omega) (by omega) (by simp); rw [List.drop_zero, List.nil_append, putRow_set ⟨p.f0, p.f1, ver⟩ l hidx] at this; rw [hto]; exact this)
        simp only [ferruleref11_Do.j0]
        rw [if_neg (by decide)]; rfl
      · rw [if_neg hi, decide_eq_false hi]
        refine Ev.congr (fun q => (if_neg (by decide)).trans (if_neg (by decide))) ?_
        by_cases hb : 32 ≤ l.length
        · rw [if_pos hb, decide_eq_true (show (l.length : Int) ≥ 32 by omega)]
          exact Ev.step (f := fun _ => some _) (fun q => by simp only [ferruleref11_Do.j0]; rw [if_pos trivial]) (Ev.now _)
        · rw [if_neg hb, decide_eq_false (show ¬ (l.length : Int) ≥ 32 by omega)]
          have hno : ∀ j, j < l.length → keyIs p.f0 (l[j]!) = false := by
            rcases findI_ways (keyIs p.f0) l with h | ⟨i, hi2, h⟩
            · intro j hj
              cases hq : keyIs p.f0 (l[j]!) with
              | false => rfl
              | true =>
                exfalso
                have : l.findIdx (keyIs p.f0) < l.length := List.findIdx_lt_length_of_exists ⟨_, get_mem l j hj, hq⟩
                unfold findI at h
                rw [if_pos this] at h
                omega
            · omega
          refine Ev.step (fun q => ?_) (by have := doIns l p.f0 p.f1 ver hl hk64 hno l.length 0 [] (by omega) (by omega) (by simp); rw [List.drop_zero, List.nil_append, insRow_at ⟨p.f0, p.f1, ver⟩ l] at this; rw [findI_idx, keyOver_less]; exact this)
          simp only [ferruleref11_Do.j0]
          rw [if_neg (by decide)]; rfl
  · rw [if_pos hf]
    exact Ev.congr (fun q => if_neg hf) (Ev.now _)
end Go.Proofs.Ythfkbfahpgdnfaa.PAll
end
