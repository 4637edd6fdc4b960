/- Joined texts of the claim ShardRight (part 46): contracts of functions and plain laws. -/
import Derived.Test.YtmcgcdpiceikeaaJShardRight45
import Derived.DeepKeys4
import Derived.Test.YtmcgcdpiceikeaaJShardRight19
import Derived.Test.YtmcgcdpiceikeaaJShardRight22
import Derived.BigQuiet
import Derived.BigRegion
import Derived.Deep.CutRange
import Derived.Deep.DeepCutAuto
import Derived.Deep.QuietTactic
import Derived.Test.YtmcgcdpiceikeaaJShardRight15
import Derived.Test.YtmcgcdpiceikeaaJShardRight26
section
/- Which locks and shards are right: the code's way of asking and the document's come to one. -/
namespace Go.Proofs.Ytmcgcdpiceikeaa.PAll
open Go.RowKit Go.Proofs.YtmcgcdpiceikeaaW.PrintWords Go.Proofs.YtmcgcdpiceikeaaW.PrintMore Go.Proofs.Ytmcgcdpiceikeaa
set_option linter.unusedVariables false
set_option linter.unusedSimpArgs false
theorem range_iff {n : Nat} {p : Nat → Bool} : (List.range n).all p = true ↔ ∀ i, i < n → p i = true := ⟨fun h i hi => List.all_eq_true.1 h i (List.mem_range.2 hi), range_yes⟩
theorem any_take_iff {α : Type} [Inhabited α] {p : α → Bool} {l : List α} {i : Nat} (hi : i ≤ l.length) : (l.take i).any p = true ↔ ∃ j, j < i ∧ p l[j]! = true := by
  rw [List.any_eq_true]
  constructor
  · rintro ⟨x, hx, hp⟩
    obtain ⟨j, hj, rfl⟩ := List.mem_iff_getElem.1 hx
    rw [List.length_take] at hj
    refine ⟨j, by omega, ?_⟩
    rw [getElem!_pos l j (by omega)]
    rw [List.getElem_take] at hp
    exact hp
  · rintro ⟨j, hj, hp⟩
    rw [getElem!_pos l j (by omega)] at hp
    exact ⟨l[j]'(by omega), List.mem_iff_getElem.2 ⟨j, by rw [List.length_take]; omega, by rw [List.getElem_take]⟩, hp⟩
theorem any_bang_iff {α : Type} [Inhabited α] {p : α → Bool} {l : List α} : l.any p = true ↔ ∃ j, j < l.length ∧ p l[j]! = true := by
  have h := any_take_iff (p := p) (l := l) (Nat.le_refl _)
  rw [List.take_length] at h
  exact h
theorem sameTx_comm (a b : S30) : sameTx a b = sameTx b a := by
  rw [Bool.eq_iff_iff, same_iff, same_iff]
  exact ⟨Eq.symm, Eq.symm⟩
/-! ### Locks. -/
def samePl (x y : S75) : Bool := sameTx x.f1 y.f1 && (x.f0.toList == y.f0.toList)
theorem samePl_iff {x y : S75} : samePl x y = true ↔ x.f1 = y.f1 ∧ x.f0.toList = y.f0.toList := by
  unfold samePl
  rw [Bool.and_eq_true, same_iff, beq_iff_eq]
def badL (l : List S75) (i : Nat) : Bool := (l.take i).any (fun x => samePl x l[i]!) || l.any (fun o => inWayB o (l[i]!).f1 (l[i]!).f0 (l[i]!).f2)
def rlCV (l : List S75) : Bool := (List.range l.length).all fun i => !badL l i
theorem badH_iff {l : List S75} {i k : Nat} : badH l i k = true ↔ inWayB l[k]! (l[i]!).f1 (l[i]!).f0 (l[i]!).f2 = true ∨ (i ≠ k ∧ samePl l[i]! l[k]! = true) := by
  unfold badH samePl
  rw [Bool.or_eq_true, Bool.and_eq_true, Bool.and_eq_true, Bool.and_eq_true, decide_eq_true_eq, and_assoc]
theorem rlCV_eq (l : List S75) : rlCV l = rl12V l := by
  rw [Bool.eq_iff_iff]
  unfold rlCV rl12V
  rw [range_iff, range_iff]
  constructor
  · intro h i hi
    rw [range_iff]
    intro k hk
    cases hb : badH l i k with
    | false => rfl
    | true =>
      exfalso
      rcases badH_iff.1 hb with hw | ⟨hne, hs⟩
      · have := h i hi
        rw [show badL l i = true from by unfold badL; rw [Bool.or_eq_true]; exact Or.inr (any_bang_iff.2 ⟨k, hk, hw⟩)] at this
        cases this
      · rw [samePl_iff] at hs
        rcases Nat.lt_or_gt_of_ne hne with hlt | hlt
        · have := h k hk
          rw [show badL l k = true from by unfold badL; rw [Bool.or_eq_true]; exact Or.inl ((any_take_iff (by omega)).2 ⟨i, hlt, samePl_iff.2 hs⟩)] at this
          cases this
        · have := h i hi
          rw [show badL l i = true from by unfold badL; rw [Bool.or_eq_true]; exact Or.inl ((any_take_iff (by omega)).2 ⟨k, hlt, samePl_iff.2 ⟨hs.1.symm, hs.2.symm⟩⟩)] at this
          cases this
  · intro h i hi
    cases hb : badL l i with
    | false => rfl
    | true =>
      exfalso
      have hh := fun k hk => range_iff.1 (h i hi) k hk
      unfold badL at hb
      rw [Bool.or_eq_true] at hb
      rcases hb with hb | hb
      · obtain ⟨j, hj, hs⟩ := (any_take_iff (by omega)).1 hb
        have := hh j (by omega)
        rw [badH_iff.2 (Or.inr ⟨by omega, by rw [samePl_iff] at hs ⊢; exact ⟨hs.1.symm, hs.2.symm⟩⟩)] at this
        cases this
      · obtain ⟨j, hj, hw⟩ := any_bang_iff.1 hb
        have := hh j hj
        rw [badH_iff.2 (Or.inl hw)] at this
        cases this
/-! ### Shards. -/
def okO (hs : List S75) (os : List S48) (i : Nat) : Bool := !(os.take i).any (fun x => sameTx x.f0 (os[i]!).f0) && (!((os[i]!).f1 && (os[i]!).f2) && (((os[i]!).f1 || decide ((os[i]!).f3.length = 0)) && (decide (fitsV (os[i]!).f3 = 0) && !(os[i]!).f3.any (fun p => !hasV hs (os[i]!).f0 p.f0 true))))
def okD (os : List S48) (ds : List S68) (i : Nat) : Bool := !(os.any (fun x => sameTx x.f0 (ds[i]!).f0) || (ds.take i).any (fun x => sameTx x.f0 (ds[i]!).f0))
def freeV (os : List S48) (t : S30) : Bool := os.foldl (fun a x => if sameTx x.f0 t = true then !x.f2 else a) false
def okH (hs : List S75) (os : List S48) (i : Nat) : Bool := freeV os (hs[i]!).f1
def rightCV (rs : List S50) (hs : List S75) (os : List S48) (ds : List S68) : Bool := rightR rs && rl12V hs && decide (os.length + ds.length ≤ 64) && ((List.range os.length).all (okO hs os) && ((List.range ds.length).all (okD os ds) && (List.range hs.length).all (okH hs os))) && decide (keysV rs os [] ≤ 32)
theorem findI_first {α : Type} [Inhabited α] {p : α → Bool} {l : List α} {i : Nat} (hi : i < l.length) (hp : p l[i]! = true) : findI p l = (i : Int) ↔ (l.take i).any p = false := by
  constructor
  · intro h
    cases hv : (l.take i).any p with
    | false => rfl
    | true =>
      exfalso
      obtain ⟨j, hj, hpj⟩ := (any_take_iff (by omega)).1 hv
      have h2 : l.findIdx p ≤ j := by
        rw [getElem!_pos l j (by omega)] at hpj
        exact Nat.le_of_not_lt fun hlt => by
          have := List.not_of_lt_findIdx hlt
          simp [hpj] at this
      unfold findI at h
      split at h <;> omega
  · intro h
    refine findI_hit p l i hi hp fun j hj => ?_
    cases hv : p l[j]! with
    | false => rfl
    | true => rw [(any_take_iff (by omega)).2 ⟨j, hj, hv⟩] at h; cases h
theorem findI_any_iff {α : Type} [Inhabited α] {p : α → Bool} {l : List α} : 0 ≤ findI p l ↔ l.any p = true := by
  constructor
  · intro h
    obtain ⟨i, hi, e⟩ := findI_range0 _ _ h
    exact any_bang_iff.2 ⟨i, hi, findI_bang hi e⟩
  · intro h
    obtain ⟨x, hx, hp⟩ := List.any_eq_true.1 h
    exact findI_any hx hp
theorem freeV_none {t : S30} : ∀ {l : List S48} {a : Bool}, l.any (fun x => sameTx x.f0 t) = false → l.foldl (fun a x => if sameTx x.f0 t = true then !x.f2 else a) a = a
  | [], _, _ => rfl
  | x :: r, a, h => by
    rw [List.any_cons, Bool.or_eq_false_iff] at h
    rw [List.foldl_cons, h.1, if_neg (by decide)]
    exact freeV_none h.2
theorem freeV_one {t : S30} : ∀ {l : List S48} {i : Nat}, i < l.length → sameTx (l[i]!).f0 t = true → (∀ j, j < l.length → sameTx (l[j]!).f0 t = true → j = i) → freeV l t = !(l[i]!).f2 := by
  intro l i hi hp hu
  have e : l = l.take i ++ (l[i]'hi :: l.drop (i + 1)) := by rw [← List.drop_eq_getElem_cons hi, List.take_append_drop]
  have hb : l[i]! = l[i]'hi := getElem!_pos l i hi
  unfold freeV
  conv => lhs; rw [e]
  rw [List.foldl_append, List.foldl_cons]
  rw [hb] at hp ⊢
  rw [if_pos hp]
  refine freeV_none ?_
  cases hv : (l.drop (i + 1)).any (fun x => sameTx x.f0 t) with
  | false => rfl
  | true =>
    exfalso
    obtain ⟨x, hx, hpx⟩ := List.any_eq_true.1 hv
    obtain ⟨j, hj, rfl⟩ := List.mem_iff_getElem.1 hx
    rw [List.length_drop] at hj
    rw [List.getElem_drop] at hpx
    have := hu (i + 1 + j) (by omega) (by rw [getElem!_pos l (i + 1 + j) (by omega)]; exact hpx)
    omega
theorem openBad_iff {os : List S48} {ds : List S68} {i : Nat} (hi : i < os.length) : openBad os ds i = false ↔ (os.take i).any (fun x => sameTx x.f0 (os[i]!).f0) = false ∧ ds.any (fun x => sameTx x.f0 (os[i]!).f0) = false ∧ ((os[i]!).f1 && (os[i]!).f2) = false ∧ ((os[i]!).f1 || decide ((os[i]!).f3.length = 0)) = true ∧ fitsV (os[i]!).f3 = 0 := by
  unfold openBad
  rw [Bool.or_eq_false_iff, Bool.or_eq_false_iff, Bool.or_eq_false_iff, Bool.or_eq_false_iff, decide_eq_false_iff_not, Classical.not_not, findI_first hi (same_iff.2 rfl), decide_eq_false_iff_not, findI_any_iff, decide_eq_false_iff_not, Classical.not_not, Bool.not_eq_true]
  have h4 : ((!(os[i]!).f1 && decide (0 < (os[i]!).f3.length)) = false) ↔ ((os[i]!).f1 || decide ((os[i]!).f3.length = 0)) = true := by
    cases (os[i]!).f1 with
    | true => simp
    | false =>
      simp only [Bool.not_false, Bool.true_and, Bool.false_or, decide_eq_false_iff_not, decide_eq_true_eq]
      omega
  rw [h4]
  exact Iff.rfl
theorem rest13V_iff {hs : List S75} {os : List S48} {ds : List S68} : rest13V hs os ds = true ↔ (∀ i, i < os.length → openBad os ds i = false ∧ putsBad hs os i = false) ∧ (∀ i, i < ds.length → doneBad ds i = false) ∧ ∀ i, i < hs.length → holdBad hs os i = false := by
  unfold rest13V
  rw [Bool.and_eq_true, Bool.and_eq_true, range_iff, range_iff, range_iff]
  constructor
  · rintro ⟨h1, h2, h3⟩
    exact ⟨fun i hi => by have := h1 i hi; simpa using this, fun i hi => by have := h2 i hi; simpa using this, fun i hi => by have := h3 i hi; simpa using this⟩
  · rintro ⟨h1, h2, h3⟩
    exact ⟨fun i hi => by rw [(h1 i hi).1, (h1 i hi).2]; rfl, fun i hi => by rw [h2 i hi]; rfl, fun i hi => by rw [h3 i hi]; rfl⟩
theorem rest_eq (hs : List S75) (os : List S48) (ds : List S68) : ((List.range os.length).all (okO hs os) && ((List.range ds.length).all (okD os ds) && (List.range hs.length).all (okH hs os))) = rest13V hs os ds := by
  rw [Bool.eq_iff_iff, rest13V_iff, Bool.and_eq_true, Bool.and_eq_true, range_iff, range_iff, range_iff]
  have huniq : (∀ i, i < os.length → (os.take i).any (fun x => sameTx x.f0 (os[i]!).f0) = false) → ∀ i j, i < os.length → j < os.length → (os[i]!).f0 = (os[j]!).f0 → i = j := by
    intro h i j hi hj e
    rcases Nat.lt_trichotomy i j with hl | hl | hl
    · have := h j hj
      rw [(any_take_iff (p := fun x => sameTx x.f0 (os[j]!).f0) (Nat.le_of_lt hj)).2 ⟨i, hl, same_iff.2 e⟩] at this
      cases this
    · exact hl
    · have := h i hi
      rw [(any_take_iff (p := fun x => sameTx x.f0 (os[i]!).f0) (Nat.le_of_lt hi)).2 ⟨j, hl, same_iff.2 e.symm⟩] at this
      cases this
  have hhold : (∀ i, i < os.length → (os.take i).any (fun x => sameTx x.f0 (os[i]!).f0) = false) → ∀ i, okH hs os i = !holdBad hs os i := by
    intro h i
    unfold okH holdBad
    by_cases hk : 0 ≤ findI (isOpenT (hs[i]!).f1) os
    · obtain ⟨k, hk1, hk2⟩ := findI_range0 _ _ hk
      have hb := findI_bang hk1 hk2
      rw [hk2, decide_eq_false (by omega), Bool.false_or, Int.toNat_natCast]
      refine freeV_one hk1 hb fun j hj hs => huniq h j k hj hk1 ?_
      rw [same_iff.1 hs]
      exact (same_iff.1 hb).symm
    · rw [findI_neg0 _ _ hk]
      have : os.any (fun x => sameTx x.f0 (hs[i]!).f1) = false := by
        cases hv : os.any (fun x => sameTx x.f0 (hs[i]!).f1) with
        | false => rfl
        | true => exact absurd (findI_any_iff.2 hv) hk
      unfold freeV
      rw [freeV_none this]
      rfl
  constructor
  · rintro ⟨h1, h2, h3⟩
    have h1' : ∀ i, i < os.length → (os.take i).any (fun x => sameTx x.f0 (os[i]!).f0) = false ∧ ((os[i]!).f1 && (os[i]!).f2) = false ∧ ((os[i]!).f1 || decide ((os[i]!).f3.length = 0)) = true ∧ fitsV (os[i]!).f3 = 0 ∧ (os[i]!).f3.any (fun p => !hasV hs (os[i]!).f0 p.f0 true) = false := fun i hi => by
      have := h1 i hi
      unfold okO at this
      rw [Bool.and_eq_true, Bool.and_eq_true, Bool.and_eq_true, Bool.and_eq_true, Bool.not_eq_true', Bool.not_eq_true', decide_eq_true_eq, Bool.not_eq_true'] at this
      exact this
    have h2' : ∀ i, i < ds.length → os.any (fun x => sameTx x.f0 (ds[i]!).f0) = false ∧ (ds.take i).any (fun x => sameTx x.f0 (ds[i]!).f0) = false := fun i hi => by
      have := h2 i hi
      unfold okD at this
      rw [Bool.not_eq_true', Bool.or_eq_false_iff] at this
      exact this
    refine ⟨fun i hi => ⟨(openBad_iff hi).2 ⟨(h1' i hi).1, ?_, (h1' i hi).2.1, (h1' i hi).2.2.1, (h1' i hi).2.2.2.1⟩, (h1' i hi).2.2.2.2⟩, fun i hi => ?_, fun i hi => ?_⟩
    · cases hv : ds.any (fun x => sameTx x.f0 (os[i]!).f0) with
      | false => rfl
      | true =>
        exfalso
        obtain ⟨j, hj, hs⟩ := any_bang_iff.1 hv
        have := (h2' j hj).1
        rw [any_bang_iff.2 ⟨i, hi, by rw [sameTx_comm]; exact hs⟩] at this
        cases this
    · unfold doneBad
      rw [decide_eq_false_iff_not, Classical.not_not, findI_first hi (same_iff.2 rfl)]
      exact (h2' i hi).2
    · have := h3 i hi
      rw [hhold (fun i hi => (h1' i hi).1) i, Bool.not_eq_true'] at this
      exact this
  · rintro ⟨h1, h2, h3⟩
    have h1' := fun i hi => (openBad_iff hi).1 (h1 i hi).1
    refine ⟨fun i hi => ?_, fun i hi => ?_, fun i hi => ?_⟩
    · obtain ⟨g1, g2, g3, g4, g5⟩ := h1' i hi
      have g6 : (os[i]!).f3.any (fun p => !hasV hs (os[i]!).f0 p.f0 true) = false := (h1 i hi).2
      unfold okO
      rw [g1, g3, g4, g5, g6]
      rfl
    · unfold okD
      rw [Bool.not_eq_true', Bool.or_eq_false_iff]
      constructor
      · cases hv : os.any (fun x => sameTx x.f0 (ds[i]!).f0) with
        | false => rfl
        | true =>
          exfalso
          obtain ⟨j, hj, hs⟩ := any_bang_iff.1 hv
          have := (h1' j hj).2.1
          rw [any_bang_iff.2 ⟨i, hi, by rw [sameTx_comm]; exact hs⟩] at this
          cases this
      · have := h2 i hi
        unfold doneBad at this
        rw [decide_eq_false_iff_not, Classical.not_not, findI_first hi (same_iff.2 rfl)] at this
        exact this
    · rw [hhold (fun i hi => (h1' i hi).1) i, h3 i hi]
      rfl
theorem rightCV_eq (rs : List S50) (hs : List S75) (os : List S48) (ds : List S68) : rightCV rs hs os ds = right13V rs hs os ds := by
  unfold rightCV right13V
  rw [rest_eq]
  cases rightR rs <;> cases rl12V hs <;> cases decide (os.length + ds.length ≤ 64) <;> cases decide (keysV rs os [] ≤ 32) <;> cases rest13V hs os ds <;> rfl
end Go.Proofs.Ytmcgcdpiceikeaa.PAll
end
section
/- lock.Right: which lists of locks are right. -/
namespace Go.Proofs.Ytmcgcdpiceikeaa.PAll
open Go.RowKit Go.WideMaps Go.Maps Go.Proofs.YtmcgcdpiceikeaaW.PrintWords Go.Proofs.YtmcgcdpiceikeaaW.PrintMore Go.Proofs.Ytmcgcdpiceikeaa
set_option linter.unusedVariables false
set_option linter.unusedSimpArgs false
theorem plKeyed : Keyed Try.prog 110 := Keyed.of_law (deep_law_laid txLaid (m := 4) (by decide) (of_decide_eq_true (by kernel_rfl)) (by kernel_rfl) (by kernel_rfl))
theorem plKeyType : Try.prog.keyType 110 = true := by kernel_rfl
theorem plCells : Try.prog.cellsOf 110 = 3 := by kernel_rfl
theorem strCells : Try.prog.cellsOf 9 = 1 := by kernel_rfl
theorem tySize2 : ∃ m, Try.prog.types.size = m + 2 := ⟨Try.prog.types.size - 2, by have h : 2 ≤ Try.prog.types.size := of_decide_eq_true (by kernel_rfl); omega⟩
theorem pl_key {a b : Int} {s : ByteArray} (wa : (Lit.int .u64 a).wf = true) (wb : (Lit.int .u64 b).wf = true) (hs : s.size ≤ maxLen) : keyOf Try.prog 110 (.agg #[.int .u64 a, .int .u64 b, .string s]) = some (.string (keyBytes [.int .u64 a, .int .u64 b, .string s.data.toList])) := by
  obtain ⟨m, hm⟩ := tySize2
  unfold keyOf
  simp only [Try.underlying110]
  rw [if_pos (by simp [plKeyType, Value.formed, Try.underlying110, plCells]), hm]
  unfold Program.keyLits
  simp only [Try.underlying110, Value.cells]
  rw [if_pos (by rw [plCells]; exact ⟨rfl, by kernel_rfl⟩)]
  simp [u64Cells, txCells, strCells, Program.keyLits, Try.underlying30, Try.underlying26, Try.underlying9, wa, wb, hs]
  rw [if_pos (by intro i hi; match i, hi with | 0, _ => exact (show ¬ ("Age" : String) = "_" by decide) | 1, _ => exact (show ¬ ("Id" : String) = "_" by decide))]
  rfl
abbrev Plc := (UInt64 × UInt64) × {s : ByteArray // s.size ≤ maxLen}
def plLit (p : Plc) : Lit := .string (keyBytes [.int .u64 (p.1.1.toNat : Int), .int .u64 (p.1.2.toNat : Int), .string p.2.1.data.toList])
theorem plLit_key (p : Plc) : keyOf Try.prog 110 (.agg #[.int .u64 (p.1.1.toNat : Int), .int .u64 (p.1.2.toNat : Int), .string p.2.1]) = some (plLit p) := pl_key (u64n _) (u64n _) p.2.2
theorem plLit_inj (x y : Plc) (h : plLit x = plLit y) : x = y := by
  have h1 := plLit_key x
  rw [h] at h1
  have h2 := plKeyed.inj h1 (plLit_key y)
  simp at h2
  obtain ⟨e1, e2, e3⟩ := h2
  exact Prod.ext (Prod.ext (UInt64.toNat_inj.1 (by omega)) (UInt64.toNat_inj.1 (by omega))) (Subtype.ext e3)
theorem plLit_key2 (x : Plc) : WideAt.IsKeyLit (plLit x) := plKeyed.key (plLit_key x)
def okPl (x : S75) : Prop := okTx x.f1 ∧ x.f0.size ≤ maxLen
def plw (x : S75) : Plc := (txw x.f1, if h : x.f0.size ≤ maxLen then ⟨x.f0, h⟩ else ⟨⟨#[]⟩, by decide⟩)
theorem plKey {x : S75} (h : okPl x) : keyOf Try.prog 110 (.agg #[.int .u64 x.f1.f0, .int .u64 x.f1.f1, .string x.f0]) = some (plLit (plw x)) := by
  have := plLit_key (plw x)
  obtain ⟨h1, h2⟩ := txw_nat h.1
  unfold plw at this ⊢
  rw [dif_pos h.2] at this ⊢
  dsimp only at this
  rw [h1, h2] at this
  exact this
theorem plw_inj {x y : S75} (hx : okPl x) (hy : okPl y) : plw x = plw y ↔ samePl x y = true := by
  unfold plw samePl
  rw [dif_pos hx.2, dif_pos hy.2, Bool.and_eq_true, beq_iff_eq, Prod.mk.injEq, Subtype.mk.injEq]
  rw [show (sameTx x.f1 y.f1 = true) ↔ txw x.f1 = txw y.f1 from (txw_inj hx.1 hy.1).symm]
  exact ⟨fun ⟨a, b⟩ => ⟨a, by rw [b]⟩, fun ⟨a, b⟩ => ⟨a, toList_inj b⟩⟩
def setOfPl (l : List S75) : Plc → Bool := fun p => l.any (fun x => decide (plw x = p))
theorem setOfPl_has {l : List S75} {y : S75} (hl : ∀ x ∈ l, okPl x) (hy : okPl y) : setOfPl l (plw y) = l.any (fun x => samePl x y) := by
  unfold setOfPl
  induction l with
  | nil => rfl
  | cons x r ih =>
    rw [List.any_cons, List.any_cons, ih (fun z hz => hl z (List.mem_cons_of_mem _ hz))]
    congr 1
    have := plw_inj (hl x (List.mem_cons_self ..)) hy
    by_cases e : plw x = plw y
    · rw [decide_eq_true e, this.1 e]
    · rw [decide_eq_false e]
      cases hs : samePl x y with
      | false => rfl
      | true => exact absurd (this.2 hs) e
theorem setOfPl_snoc (l : List S75) (x : S75) : setOfPl (l ++ [x]) = fun z => if z = plw x then true else setOfPl l z := by
  funext z
  unfold setOfPl
  rw [List.any_append]
  by_cases e : z = plw x
  · rw [if_pos e]; simp [e]
  · rw [if_neg e]
    have : decide (plw x = z) = false := decide_eq_false (fun h => e h.symm)
    simp [this]
theorem lockRight1 (bh : Nat) (h o : S75) (W : World) (h0 : W.cell? ⟨bh, 0, none⟩ = some (.string h.f0)) (h1 : W.cell? ⟨bh, 1, none⟩ = some (.int .u64 h.f1.f0)) (h2 : W.cell? ⟨bh, 2, none⟩ = some (.int .u64 h.f1.f1)) (h3 : W.cell? ⟨bh, 3, none⟩ = some (.bool h.f2)) :
    Calls Try.prog 75 #[.agg (enc75 o).toArray, .pointer (some ⟨bh, 0, none⟩)] W fun e W' => e = .returned (.bool (inWayB o h.f1 h.f0 h.f2)) ∧ Below W.heap.size W W' := by
  have hb := (Below.refl W.heap.size W).alloc (Nat.le_refl _) (.cells #[.string o.f0, .int .u64 o.f1.f0, .int .u64 o.f1.f1, .bool o.f2] 75)
  have g0 := (hb.cell (World.block_lt_of_cell? W _ h0)).trans h0
  have g1 := (hb.cell (World.block_lt_of_cell? W _ h1)).trans h1
  have g2 := (hb.cell (World.block_lt_of_cell? W _ h2)).trans h2
  have g3 := (hb.cell (World.block_lt_of_cell? W _ h3)).trans h3
  have HIN := Aside0.mk (inWay_val o h.f1 h.f0 h.f2)
  obtain ⟨ok, ⟨oa, oi⟩, ow⟩ := o
  obtain ⟨hk, ⟨ha, hi⟩, hw⟩ := h
  unfold enc75
  dsimp only at *
  have HB := Aside0.mk hb
  clear hb h0 h1 h2 h3
  generalize inWayB ⟨ok, ⟨oa, oi⟩, ow⟩ ⟨ha, hi⟩ hk hw = r at *
  go_enter Try.func75, Try.ntmps75
  go_wp2_with (go_at_call 76; refine (lock_inWay.calls _ _ _ _ _ _ _ _ _ _ HIN.out).mono ?_; rintro e w2 ⟨rfl, hb2⟩; have HB2 := Aside0.mk (show Below _ _ w2 from by first | exact hb2 | exact hb2.below))
  go_ret
  exact ⟨rfl, HB.out.trans (HB2.out.mono HB.out.size)⟩
theorem rlCV_no {l : List S75} {i : Nat} (hi : i < l.length) (h : badL l i = true) : rlCV l = false := by
  cases hv : rlCV l with
  | false => rfl
  | true =>
    unfold rlCV at hv
    have := range_iff.1 hv i hi
    rw [h] at this
    cases this
theorem rlCV_yes {l : List S75} (h : ∀ i, i < l.length → badL l i = false) : rlCV l = true := by
  unfold rlCV
  rw [range_iff]
  intro i hi
  rw [h i hi]
  rfl
theorem lrContains (A : Option Addr) (c : Nat) (l : List S75) (bh : Nat) (h : S75) (W : World) (hr : Kd.C k75 W A l.length l) (hc : l.length ≤ c) (h0 : W.cell? ⟨bh, 0, none⟩ = some (.string h.f0)) (h1 : W.cell? ⟨bh, 1, none⟩ = some (.int .u64 h.f1.f0)) (h2 : W.cell? ⟨bh, 2, none⟩ = some (.int .u64 h.f1.f1)) (h3 : W.cell? ⟨bh, 3, none⟩ = some (.bool h.f2)) :
    Calls Try.prog 74 #[.slice A l.length c, .func (.func 75) #[] #[.pointer (some ⟨bh, 0, none⟩)]] W fun e w' => e = .returned (.bool (l.any (fun o => inWayB o h.f1 h.f0 h.f2))) ∧ Below W.heap.size W w' := by
  exact ContainsFuncHold k75 rfl (fun o => inWayB o h.f1 h.f0 h.f2) 75 #[.pointer (some ⟨bh, 0, none⟩)] (enters_of Try.func75 (by kernel_rfl) rfl) (.slice A l.length c) l W ⟨A, c, rfl, hc, hr⟩ (fun W' x cs hb _ hK => by
    obtain rfl := flat75.openK _ _ _ hK
    exact lockRight1 bh h x W' ((hb.cell (World.block_lt_of_cell? _ _ h0)).trans h0) ((hb.cell (World.block_lt_of_cell? _ _ h1)).trans h1) ((hb.cell (World.block_lt_of_cell? _ _ h2)).trans h2) ((hb.cell (World.block_lt_of_cell? _ _ h3)).trans h3))
set_option maxHeartbeats 4000000 in
set_option maxRecDepth 100000 in
theorem lockRight_calls (A : Option Addr) (c : Nat) (l : List S75) (w : World) (hr : Kd.C k75 w A l.length l) (hc : l.length ≤ c) (hlim : l.length < maxLen) (hok : ∀ x ∈ l, okPl x) :
    Calls Try.prog 39 #[.slice A l.length c] w fun e w' => e = .returned (.bool (rlCV l)) ∧ Below w.heap.size w w' := by
  have hn : l.length ≤ 9223372036854775807 := hr.2.1
  have HR := Aside0.mk hr
  have HOK := Aside0.mk hok
  have HLIM := Aside0.mk hlim
  clear hr hok hlim
  have hmm := @run_makeMap Try.prog
  have HBM := Aside0.mk (BoolMap.made plLit 110 (World.ownsMap_made (H := Nat) (P := Try.prog) (k := 110) (R := plainElem Try.prog 4) w))
  have HB1 := Aside0.mk ((Below.refl w.heap.size w).alloc (Nat.le_refl _) (.map #[] 0))
  go_enter Try.func39, Try.ntmps39
  go_wp2
  go_loopg [9] l.length (fun gg s9 wv => ∃ kk : Nat, kk ≤ l.length ∧ l.length - kk ≤ gg ∧ s9 = .int .i64 kk ∧ Aside0 (Below w.heap.size w wv) ∧ Aside0 (BoolMap plLit 110 wv w.heap.size kk (setOfPl (l.take kk))) ∧ Aside0 (∀ i, i < kk → badL l i = false))
  case atStart => exact ⟨0, Nat.zero_le _, by omega, rfl, HB1, HBM, ⟨fun i h => absurd h (by omega)⟩⟩
  case round =>
    obtain ⟨kk, hkk, hg, rfl, BW, BM, HI⟩ := hrel
    by_cases hlt : kk < l.length
    · have hltz : (kk : Int) < (l.length : Int) := by omega
      have hkz : (0 : Int) ≤ (kk : Int) := by omega
      obtain ⟨lb, lo, rfl, x0, x1, x2, x3⟩ := holdCells (Kd.C_below HR.out BW.out) kk hlt
      have HX := Aside0.mk (HOK.out _ (bangMem l kk hlt))
      have HT := Aside0.mk (takeBang l kk hlt)
      have HSH := Aside0.mk (setOfPl_has (l := l.take kk) (y := l[kk]!) (fun x hx => HOK.out x (List.mem_of_mem_take hx)) HX.out)
      have HBD : Aside0 (badL l kk = ((l.take kk).any (fun x => samePl x l[kk]!) || l.any (fun o => inWayB o (l[kk]!).f1 (l[kk]!).f0 (l[kk]!).f2))) := ⟨rfl⟩
      have HCO := Aside0.mk (fun (W : World) (hW : Below w.heap.size w W) (bh : Nat) h0 h1 h2 h3 => lrContains (some ⟨lb, lo, none⟩) c l bh l[kk]! W (Kd.C_below HR.out hW) hc h0 h1 h2 h3)
      have HK := Aside0.mk (plKey HX.out)
      have HNO := Aside0.mk (rlCV_no (l := l) hlt)
      have HSN := Aside0.mk (setOfPl_snoc (l.take kk) l[kk]!)
      have hlim2 : Aside0 (kk < maxLen) := ⟨by have := HLIM.out; omega⟩
      generalize l[kk]! = x at *
      generalize (l.take kk).any (fun z => samePl z x) = pa at *
      generalize l.any (fun o => inWayB o x.f1 x.f0 x.f2) = pb at *
      have HHB := Aside0.mk (heap_alloc_new wr (.cells #[.string x.f0, .int .u64 x.f1.f0, .int .u64 x.f1.f1, .bool x.f2] 75))
      have HAH := Aside0.mk ((Below.refl wr.heap.size wr).alloc (Nat.le_refl _) (.cells #[.string x.f0, .int .u64 x.f1.f0, .int .u64 x.f1.f1, .bool x.f2] 75))
      have hlk := (BM.out.kept HAH.out).lookup plKeyed Try.underlying108 HK.out
      rw [HSH.out] at hlk
      have HBM1 := Aside0.mk (BM.out.kept HAH.out)
      have HBW1 := Aside0.mk (BW.out.trans (HAH.out.mono BW.out.size))
      generalize plw x = pw at *
      obtain ⟨xk, ⟨xa, xi⟩, xw⟩ := x
      dsimp only at *
      have HC4 : Aside0 (∀ W, Below (wr.alloc (.cells #[.string xk, .int .u64 xa, .int .u64 xi, .bool xw] 75)).heap.size (wr.alloc (.cells #[.string xk, .int .u64 xa, .int .u64 xi, .bool xw] 75)) W → W.cell? ⟨wr.heap.size, 0, none⟩ = some (.string xk) ∧ W.cell? ⟨wr.heap.size, 1, none⟩ = some (.int .u64 xa) ∧ W.cell? ⟨wr.heap.size, 2, none⟩ = some (.int .u64 xi) ∧ W.cell? ⟨wr.heap.size, 3, none⟩ = some (.bool xw)) := ⟨fun W hW => by
        have h1 := (hW.block wr.heap.size (by simp)).trans HHB.out
        exact ⟨cell_row (cs := [.string xk, .int .u64 xa, .int .u64 xi, .bool xw]) h1 0, cell_row (cs := [.string xk, .int .u64 xa, .int .u64 xi, .bool xw]) h1 1, cell_row (cs := [.string xk, .int .u64 xa, .int .u64 xi, .bool xw]) h1 2, cell_row (cs := [.string xk, .int .u64 xa, .int .u64 xi, .bool xw]) h1 3⟩⟩
      cases pa with
      | true =>
        have HCU := Aside0.mk (HNO.out (by rw [HBD.out]; rfl))
        go_wp2
        go_ret
        exact ⟨by rw [HCU.out]; first | done | rfl, HBW1.out⟩
      | false =>
        rw [Bool.false_or] at HBD
        cases pb with
        | true =>
          have HCU := Aside0.mk (HNO.out HBD.out)
          go_wp2_with (go_at_call 74; obtain ⟨q0, q1, q2, q3⟩ := HC4.out _ (Below.refl _ _); refine (HCO.out _ HBW1.out wr.heap.size q0 q1 q2 q3).mono ?_; rintro e w5 ⟨rfl, hb5⟩; have HW5 := Aside0.mk (HBW1.out.trans (hb5.mono HBW1.out.size)); clear hb5 q0 q1 q2 q3)
          go_ret
          exact ⟨by rw [HCU.out]; first | done | rfl, HW5.out⟩
        | false =>
          go_wp2_with (first
            | (go_at_call 74; obtain ⟨q0, q1, q2, q3⟩ := HC4.out _ (Below.refl _ _); refine (HCO.out _ HBW1.out wr.heap.size q0 q1 q2 q3).mono ?_; rintro e w5 ⟨rfl, hb5⟩; have HW5 := Aside0.mk (HBW1.out.trans (hb5.mono HBW1.out.size)); have BM5 := Aside0.mk (HBM1.out.kept hb5); clear q0 q1 q2 q3; obtain ⟨q0, q1, q2, q3⟩ := HC4.out _ hb5; clear hb5)
            | (at_mapUpdate; refine wpList_put_bool _ rfl _ _ _ 108 rfl plKeyed Try.underlying108 plLit_inj plLit_key2 rfl BM5.out hlim2.out _ _ true rfl rfl HK.out ?_; intro w7 hM7 hg7; have HM7 := Aside0.mk hM7; have HG7 := Aside0.mk hg7; clear hM7 hg7))
          go_roundg (l.length - (kk + 1))
          case measure => omega
          case rel => exact ⟨kk + 1, by omega, by omega, by go_num, ⟨HW5.out.grown HG7.out HW5.out.size (fun k e => by cases e; exact Nat.le_refl _)⟩, ⟨by rw [HT.out, HSN.out]; exact HM7.out⟩, ⟨fun i hi => by
            by_cases e : i = kk
            · rw [e]; exact HBD.out
            · exact HI.out i (by omega)⟩⟩
    · have hltz : ¬ (kk : Int) < (l.length : Int) := by omega
      have HYE := Aside0.mk (rlCV_yes (l := l) (fun i hi => HI.out i (by omega)))
      go_wp2
      go_ret
      exact ⟨by rw [HYE.out]; first | done | rfl, BW.out⟩
end Go.Proofs.Ytmcgcdpiceikeaa.PAll
end
section
/- shard.Right: which shards are right. -/
namespace Go.Proofs.Ytmcgcdpiceikeaa.PAll
open Go.RowKit Go.WideMaps Go.Maps Go.Proofs.YtmcgcdpiceikeaaW.PrintWords Go.Proofs.YtmcgcdpiceikeaaW.PrintMore Go.Proofs.Ytmcgcdpiceikeaa
set_option linter.unusedVariables false
set_option linter.unusedSimpArgs false
/-- The closure that asks whether a transaction comes once. -/
theorem rightOnce (bh b1 n : Nat) (S : UInt64 × UInt64 → Bool) (t : S30) (W : World) (ht : okTx t) (hh : W.heap[bh]? = some (.cells #[.map (some b1)] 76 (0, 0))) (hm : BoolMap txLit 30 W b1 n S) (hn : n < maxLen) :
    Calls Try.prog 37 #[.agg #[.int .u64 t.f0, .int .u64 t.f1], .pointer (some ⟨bh, 0, none⟩)] W fun e W' => e = .returned (.bool (!S (txw t))) ∧ BoolMap txLit 30 W' b1 (n + 1) (fun z => if z = txw t then true else S z) ∧ W.grownBy W' (some b1) := by
  have hb := (Below.refl W.heap.size W).alloc (Nat.le_refl _) (.cells #[.int .u64 t.f0, .int .u64 t.f1] 30)
  have hlt := (Array.getElem?_eq_some_iff.1 hh).1
  have h0 := cell_row (cs := [.map (some b1)]) ((hb.block bh hlt).trans hh) 0
  have hx := heap_alloc_new W (.cells #[.int .u64 t.f0, .int .u64 t.f1] 30)
  have ht0 := cell_row (cs := [.int .u64 t.f0, .int .u64 t.f1]) hx 0
  have ht1 := cell_row (cs := [.int .u64 t.f0, .int .u64 t.f1]) hx 1
  have HM1 := Aside0.mk (hm.kept hb)
  have hlk := HM1.out.lookup txKeyed Try.underlying76 (txKey ht)
  have HK := Aside0.mk (txKey ht)
  have HG := Aside0.mk (World.grownBy_alloc W (.cells #[.int .u64 t.f0, .int .u64 t.f1] 30) (some b1))
  obtain ⟨ta, ti⟩ := t
  dsimp only at *
  generalize txw ⟨ta, ti⟩ = tw at *
  clear hb hlt hh hm hx ht
  go_enter Try.func37, Try.ntmps37
  have HH0 := Aside0.mk h0
  have HT0 := Aside0.mk ht0
  have HT1 := Aside0.mk ht1
  go_wp2_with (at_mapUpdate; refine wpList_put_bool _ rfl _ _ _ 76 rfl txKeyed Try.underlying76 txLit_inj txLit_key2 rfl HM1.out hn _ _ true rfl rfl HK.out ?_; intro w2 hM2 hg2; have HM2 := Aside0.mk hM2; have HG2 := Aside0.mk hg2; clear hM2 hg2)
  go_ret
  exact ⟨rfl, HM2.out, HG.out.trans HG2.out⟩
/-- The closure that asks whether a lock is lacking. -/
theorem rightLacks (bs bx : Nat) (A1 : Option Addr) (c1 : Nat) (hs : List S75) (t : S30) (p : S54) (W : World) (h1 : W.cell? ⟨bs, 1, none⟩ = some (.slice A1 hs.length c1)) (hr : Kd.C k75 W A1 hs.length hs) (hc : hs.length ≤ c1) (x0 : W.cell? ⟨bx, 0, none⟩ = some (.int .u64 t.f0)) (x1 : W.cell? ⟨bx, 1, none⟩ = some (.int .u64 t.f1)) :
    Calls Try.prog 40 #[.agg (enc54 p).toArray, .pointer (some ⟨bs, 0, none⟩), .pointer (some ⟨bx, 0, none⟩)] W fun e W' => e = .returned (.bool (!hasV hs t p.f0 true)) ∧ Below W.heap.size W W' := by
  have hb := (Below.refl W.heap.size W).alloc (Nat.le_refl _) (.cells #[.string p.f0, .string p.f1, .bool p.f2] 54)
  have g1 := (hb.cell (World.block_lt_of_cell? W _ h1)).trans h1
  have g2 := (hb.cell (World.block_lt_of_cell? W _ x0)).trans x0
  have g3 := (hb.cell (World.block_lt_of_cell? W _ x1)).trans x1
  have hx := heap_alloc_new W (.cells #[.string p.f0, .string p.f1, .bool p.f2] 54)
  have p0 := cell_row (cs := [.string p.f0, .string p.f1, .bool p.f2]) hx 0
  have HL := Aside0.mk (fun (W2 : World) (h : Below (W.alloc (.cells #[.string p.f0, .string p.f1, .bool p.f2] 54)).heap.size (W.alloc (.cells #[.string p.f0, .string p.f1, .bool p.f2] 54)) W2) => lockHas_sl (.slice A1 hs.length c1) hs t p.f0 true W2 ⟨A1, c1, rfl, hc, Kd.C_below (Kd.C_below hr hb) h⟩)
  have HB := Aside0.mk hb
  obtain ⟨pk, pv, pg⟩ := p
  obtain ⟨ta, ti⟩ := t
  unfold enc54
  dsimp only at *
  generalize hasV hs ⟨ta, ti⟩ pk true = r at *
  clear hb h1 hr x0 x1 hx
  go_enter Try.func40, Try.ntmps40
  go_wp2_with (go_at_call 41; refine (HL.out _ (Below.refl _ _)).mono ?_; rintro e w2 ⟨rfl, hb2⟩; have HB2 := Aside0.mk hb2; clear hb2)
  go_ret
  exact ⟨rfl, HB.out.trans (HB2.out.mono HB.out.size)⟩
def freeF (l : List S48) : UInt64 × UInt64 → Bool := fun p => l.foldl (fun a x => if p = txw x.f0 then !x.f2 else a) false
theorem freeF_snoc (l : List S48) (x : S48) : freeF (l ++ [x]) = fun z => if z = txw x.f0 then !x.f2 else freeF l z := by
  funext z
  unfold freeF
  rw [List.foldl_append]
  rfl
theorem freeF_has {t : S30} (ht : okTx t) : ∀ {l : List S48}, (∀ x ∈ l, okTx x.f0) → ∀ a : Bool, l.foldl (fun a x => if txw t = txw x.f0 then !x.f2 else a) a = l.foldl (fun a x => if sameTx x.f0 t = true then !x.f2 else a) a
  | [], _, _ => rfl
  | x :: r, h, a => by
    rw [List.foldl_cons, List.foldl_cons]
    have hx := txw_inj (h x (List.mem_cons_self ..)) ht
    have e : (txw t = txw x.f0) = (sameTx x.f0 t = true) := propext ⟨fun e => hx.1 e.symm, fun e => (hx.2 e).symm⟩
    simp only [e]
    exact freeF_has ht (fun y hy => h y (List.mem_cons_of_mem _ hy)) _
theorem freeF_at {l : List S48} {t : S30} (hl : ∀ x ∈ l, okTx x.f0) (ht : okTx t) : freeF l (txw t) = freeV l t := freeF_has ht hl false
theorem setOf_any {l : List S48} {t : S30} (hl : ∀ x ∈ l, okTx x.f0) (ht : okTx t) : setOfTx (l.map (fun x => x.f0)) (txw t) = l.any (fun x => sameTx x.f0 t) := by
  rw [setOf_has (fun y hy => by obtain ⟨x, hx, rfl⟩ := List.mem_map.1 hy; exact hl x hx) ht]
  unfold hasTx
  rw [List.any_map]
  rfl
theorem setOf_any2 {l : List S48} {d : List S68} {t : S30} (hl : ∀ x ∈ l, okTx x.f0) (hd : ∀ x ∈ d, okTx x.f0) (ht : okTx t) : setOfTx (l.map (fun x => x.f0) ++ d.map (fun x => x.f0)) (txw t) = (l.any (fun x => sameTx x.f0 t) || d.any (fun x => sameTx x.f0 t)) := by
  rw [setOf_has (fun y hy => by
    rcases List.mem_append.1 hy with hy | hy
    · obtain ⟨x, hx, rfl⟩ := List.mem_map.1 hy; exact hl x hx
    · obtain ⟨x, hx, rfl⟩ := List.mem_map.1 hy; exact hd x hx) ht]
  unfold hasTx
  rw [List.any_append, List.any_map, List.any_map]
  rfl
theorem range_snoc {n : Nat} {p : Nat → Bool} : (List.range (n + 1)).all p = ((List.range n).all p && p n) := by
  rw [List.range_succ, List.all_append]
  simp
theorem take_map_snoc {α β : Type} [Inhabited α] (f : α → β) (l : List α) (k : Nat) (h : k < l.length) : (l.take (k + 1)).map f = (l.take k).map f ++ [f l[k]!] := by
  rw [List.take_succ_eq_append_getElem h, List.map_append, getElem!_pos l k h]
  rfl
theorem take_snoc {α : Type} [Inhabited α] (l : List α) (k : Nat) (h : k < l.length) : l.take (k + 1) = l.take k ++ [l[k]!] := by
  rw [List.take_succ_eq_append_getElem h, getElem!_pos l k h]
end Go.Proofs.Ytmcgcdpiceikeaa.PAll
end
