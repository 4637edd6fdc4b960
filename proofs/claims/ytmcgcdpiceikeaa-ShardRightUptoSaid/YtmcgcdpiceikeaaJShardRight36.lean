/- Joined texts of the claim ShardRight (part 36): contracts of functions and plain laws. -/
import Derived.Test.YtmcgcdpiceikeaaJShardRight14
import Derived.Test.YtmcgcdpiceikeaaJShardRight25
import Derived.Test.YtmcgcdpiceikeaaJShardRight28
import Derived.Test.YtmcgcdpiceikeaaJShardRight34
import Derived.Test.YtmcgcdpiceikeaaJShardRight35
import Derived.Test.YtmcgcdpiceikeaaJShardRight33
import Derived.BigRegion
import Derived.Test.YtmcgcdpiceikeaaJShardRight31
section
/- Plain laws of rows: All as the document tells it. -/
namespace Go.Proofs.Ytmcgcdpiceikeaa.PAll
open Go.RowKit Go.Proofs.YtmcgcdpiceikeaaW.PrintWords Go.Proofs.YtmcgcdpiceikeaaW.PrintMore Go.Proofs.Ytmcgcdpiceikeaa
set_option linter.unusedVariables false
def putsV (ver : Int) (gone : Bool) : List S54 → List S50 → List S50 × Int
  | [], m => (m, 0)
  | x :: r, m => if x.f2 = gone then (if (doV m x ver).2 = 0 then putsV ver gone r (doV m x ver).1 else ([], (doV m x ver).2)) else putsV ver gone r m
def allV (l : List S50) (p : List S54) (ver : Int) : List S50 × Int :=
  if fitsV p ≠ 0 then ([], fitsV p) else
  if (putsV ver true p l).2 = 0 then putsV ver false p (putsV ver true p l).1 else ([], (putsV ver true p l).2)
theorem doV_len (l : List S50) (x : S54) (ver : Int) : (doV l x ver).1.length ≤ l.length + 1 := by
  unfold doV
  split
  · simp
  · split
    · exact Nat.le_trans (List.length_filter_le _ _) (by omega)
    · split
      · simp
      · split
        · simp
        · simp only [List.length_append, List.length_cons, List.length_take, List.length_drop]
          omega
theorem putsV_len (ver : Int) (gone : Bool) : ∀ (p : List S54) (m : List S50), (putsV ver gone p m).1.length ≤ m.length + p.length
  | [], m => by simp [putsV]
  | x :: r, m => by
    unfold putsV
    have h1 := putsV_len ver gone r m
    have h2 := putsV_len ver gone r (doV m x ver).1
    have h3 := doV_len m x ver
    simp only [List.length_cons]
    split
    · split
      · omega
      · simp
    · omega
theorem putsV_err (ver : Int) (gone : Bool) : ∀ (p : List S54) (m : List S50), (putsV ver gone p m).2 ≠ 0 → putsV ver gone p m = ([], (putsV ver gone p m).2)
  | [], m, h => absurd rfl h
  | x :: r, m, h => by
    unfold putsV at h ⊢
    split
    · rename_i h1
      rw [if_pos h1] at h
      split
      · rename_i h2
        rw [if_pos h2] at h
        exact putsV_err ver gone r _ h
      · rfl
    · rename_i h1
      rw [if_neg h1] at h
      exact putsV_err ver gone r _ h
theorem All_l1 (p : List S54) (ver : Int) (gone : Bool) (t : Int) (tb : List Bool) (tl : Int) (hp : p.length ≤ 8) (R : List S50 × Int) : ∀ (d j : Nat) (m : List S50), d = p.length - j → j ≤ p.length → m.length + d < 3518437208880 →
    ((putsV ver gone (p.drop j) m).2 = 0 → Ev (fun q => rows_All.l0 q p ver (putsV ver gone (p.drop j) m).1 tb tl (wrap64 (t + 1))) R) → ((putsV ver gone (p.drop j) m).2 ≠ 0 → R = ([], (putsV ver gone (p.drop j) m).2)) →
    Ev (fun q => rows_All.l1 q p ver m gone tb tl t p (p.length : Int) (j : Int)) R := by
  intro d
  induction d with
  | zero =>
    intro j m hd hj hm h0 h1
    rw [List.drop_eq_nil_of_le (by omega)] at h0 h1
    refine Ev.step (fun q => ?_) (h0 rfl)
    simp only [rows_All.l1]
    rw [if_neg (show ¬ (j : Int) < p.length by omega)]
    rfl
  | succ d ih =>
    intro j m hd hj hm h0 h1
    have hlt : j < p.length := by omega
    have hw := wrap_up j (by omega)
    rw [drop_get p j hlt, putsV] at h0 h1
    by_cases hg : (p[j]!).f2 = gone
    · rw [if_pos hg] at h0 h1
      refine Ev.step (f := fun q => if (doV m (p[j]!) ver).2 = 0 then rows_All.l1 q p ver (doV m (p[j]!) ver).1 gone tb tl t p (p.length : Int) ((j + 1 : Nat) : Int) else some ([], (doV m (p[j]!) ver).2)) (fun q => ?_) ?_
      · simp only [rows_All.l1]
        rw [if_pos (show (j : Int) < p.length by omega), if_pos (show (0 : Int) ≤ j by omega), if_pos (show (j : Int) < p.length by omega), rd_put p j hlt, if_neg (by rw [hg]; simp), hw]
        have : rows_Do.f m (p[j]!).f0 (p[j]!).f1 (p[j]!).f2 ver = some (doV m (p[j]!) ver) := by unfold rows_Do.f; rw [if_pos (by omega)]
        rw [this]; rfl
      · by_cases he : (doV m (p[j]!) ver).2 = 0
        · rw [if_pos he] at h0 h1
          exact Ev.congr (fun q => if_pos he) (ih (j + 1) _ (by omega) (by omega) (by have := doV_len m (p[j]!) ver; omega) h0 h1)
        · rw [if_neg he] at h0 h1
          rw [h1 he]
          exact Ev.congr (fun q => if_neg he) (Ev.now _)
    · rw [if_neg hg] at h0 h1
      refine Ev.step (fun q => ?_) (ih (j + 1) m (by omega) (by omega) (by omega) h0 h1)
      simp only [rows_All.l1]
      rw [if_pos (show (j : Int) < p.length by omega), if_pos (show (0 : Int) ≤ j by omega), if_pos (show (j : Int) < p.length by omega), rd_put p j hlt, if_pos (by simpa using hg), hw]
theorem fits_len {p : List S54} (h : fitsV p = 0) : p.length ≤ 8 := by
  unfold fitsV at h
  split at h
  · omega
  · omega
theorem All_ev (l : List S50) (p : List S54) (ver : Int) (hl : l.length < 3518437208800) : Ev (fun q => rows_All.f q l p ver) (allV l p ver) := by
  unfold rows_All.f allV
  refine Ev.bind (show Ev (fun _ => rows_Fits.f p) (fitsV p) from Ev.now _) ?_
  by_cases hf : fitsV p = 0
  · have hp := fits_len hf
    rw [if_neg (fun h => h hf)]
    refine Ev.congr (fun q => if_pos hf) ?_
    refine Ev.bind (show Ev (fun _ => api_Row_91.f l) l from ⟨0, fun _ _ => by unfold api_Row_91.f; rw [if_pos (by omega)]⟩) ?_
    refine Ev.bind (Ev.now _) ?_
    have hlen1 := putsV_len ver true p l
    have s1 : ∀ m q, rows_All.l0 (q + 1) p ver m [true, false] 2 0 = rows_All.l1 q p ver m true [true, false] 2 0 p (p.length : Int) ((0 : Nat) : Int) := fun m q => by
      simp only [rows_All.l0]
      rw [if_pos (by decide), if_pos (by decide), if_pos (by decide)]; rfl
    have s2 : ∀ m q, rows_All.l0 (q + 1) p ver m [true, false] 2 (wrap64 (0 + 1)) = rows_All.l1 q p ver m false [true, false] 2 1 p (p.length : Int) ((0 : Nat) : Int) := fun m q => by
      rw [show wrap64 (0 + 1) = 1 by unfold wrap64; omega]
      simp only [rows_All.l0]
      rw [if_pos (by decide), if_pos (by decide), if_pos (by decide)]; rfl
    have s3 : ∀ m q, rows_All.l0 (q + 1) p ver m [true, false] 2 (wrap64 (1 + 1)) = some (m, 0) := fun m q => by
      rw [show wrap64 (1 + 1) = 2 by unfold wrap64; omega]
      simp only [rows_All.l0]
      rw [if_neg (by decide)]
    refine Ev.step (fun q => s1 l q) (All_l1 p ver true 0 [true, false] 2 hp _ p.length 0 l (by omega) (by omega) (by omega) ?_ ?_)
    · intro h0
      rw [List.drop_zero] at h0 ⊢
      rw [if_pos h0]
      refine Ev.step (fun q => s2 _ q) (All_l1 p ver false 1 [true, false] 2 hp _ p.length 0 _ (by omega) (by omega) (by omega) ?_ ?_)
      · intro h2
        rw [List.drop_zero] at h2 ⊢
        refine Ev.step (f := fun _ => some _) (fun q => ?_) (Ev.now _)
        rw [s3]
        exact congrArg some (Prod.ext rfl h2.symm)
      · intro h2
        rw [List.drop_zero] at h2 ⊢
        exact putsV_err ver false p _ h2
    · intro h0
      rw [List.drop_zero] at h0 ⊢
      rw [if_neg h0]
  · rw [if_pos hf]
    exact Ev.congr (fun q => if_neg hf) (Ev.now _)
end Go.Proofs.Ytmcgcdpiceikeaa.PAll
end
section
/- Plain laws of rows: what puts do to a right list, key by key. -/
namespace Go.Proofs.Ytmcgcdpiceikeaa.PAll
open Go.RowKit Go.Proofs.YtmcgcdpiceikeaaW.PrintWords Go.Proofs.YtmcgcdpiceikeaaW.PrintMore Go.Proofs.Ytmcgcdpiceikeaa
set_option linter.unusedVariables false
theorem right_okQ {l : List S50} (h : rightR l = true) : l.length ≤ 32 ∧ ∀ j, j < l.length → okR l j = true := by
  unfold rightR at h
  rw [Bool.and_eq_true] at h
  exact ⟨of_decide_eq_true h.2, fun j hj => List.all_eq_true.1 h.1 j (List.mem_range.2 hj)⟩
theorem ok_sizesQ {l : List S50} {j : Nat} (h : okR l j = true) : 1 ≤ (l[j]!).f0.size ∧ (l[j]!).f0.size ≤ 16 ∧ (l[j]!).f1.size ≤ 32 ∧ (l[j]!).f2 ≤ 4611686018427387903 := by
  unfold okR at h
  simp only [Bool.and_eq_true, decide_eq_true_eq] at h
  exact ⟨h.1.1.1.1, h.1.1.1.2, h.1.1.2, h.1.2⟩
theorem less_trans : ∀ (a b c : List UInt8), Op.bytesLess a b = true → Op.bytesLess b c = true → Op.bytesLess a c = true
  | [], b, [], h1, h2 => by cases b <;> simp [Op.bytesLess] at h1 h2
  | [], b, _ :: _, h1, h2 => by simp [Op.bytesLess]
  | a :: x, [], c, h1, h2 => by simp [Op.bytesLess] at h1
  | a :: x, b :: y, [], h1, h2 => by simp [Op.bytesLess] at h2
  | a :: x, b :: y, c :: z, h1, h2 => by
    simp only [Op.bytesLess, Bool.or_eq_true, Bool.and_eq_true, decide_eq_true_eq, beq_iff_eq] at h1 h2 ⊢
    rcases h1 with h1 | ⟨rfl, h1⟩
    · rcases h2 with h2 | ⟨rfl, h2⟩
      · exact .inl (UInt8.lt_trans h1 h2)
      · exact .inl h1
    · rcases h2 with h2 | ⟨rfl, h2⟩
      · exact .inl h2
      · exact .inr ⟨rfl, less_trans x y z h1 h2⟩
theorem less_total {a b : List UInt8} (h : Op.bytesLess a b = false) (hne : a ≠ b) : Op.bytesLess b a = true := by
  have := less_flip b a
  rw [h] at this
  rw [this]
  simpa using hne
/-- A row that may be. -/
def goodRow (x : S50) : Prop := 1 ≤ x.f0.size ∧ x.f0.size ≤ 16 ∧ x.f1.size ≤ 32 ∧ x.f2 ≤ 4611686018427387903
def keyL (x : S50) : List UInt8 := x.f0.toList
def sortedR (l : List S50) : Prop := (l.map keyL).Pairwise (fun a b => Op.bytesLess a b = true)
theorem rightR_iff (l : List S50) : rightR l = true ↔ l.length ≤ 32 ∧ (∀ x ∈ l, goodRow x) ∧ sortedR l := by
  constructor
  · intro h
    obtain ⟨h1, h2⟩ := right_okQ h
    refine ⟨h1, fun x hx => ?_, ?_⟩
    · obtain ⟨j, hj, rfl⟩ := List.mem_iff_getElem.1 hx
      have a := ok_sizesQ (h2 j hj)
      rw [getElem!_pos l j hj] at a
      exact a
    · have adj : ∀ j, j + 1 < l.length → Op.bytesLess (l[j]!).f0.toList (l[j + 1]!).f0.toList = true := fun j hj => by
        have := h2 (j + 1) hj
        unfold okR at this
        rw [Bool.and_eq_true] at this
        simpa using this.2
      have all : ∀ d i, i + d + 1 < l.length → Op.bytesLess (l[i]!).f0.toList (l[i + d + 1]!).f0.toList = true := by
        intro d
        induction d with
        | zero => exact fun i hi => adj i hi
        | succ d ih => exact fun i hi => less_trans _ _ _ (ih i (by omega)) (adj (i + d + 1) (by omega))
      unfold sortedR
      rw [List.pairwise_iff_getElem]
      intro i j hi hj hij
      simp only [List.length_map] at hi hj
      simp only [List.getElem_map, keyL]
      have := all (j - i - 1) i (by omega)
      rw [show i + (j - i - 1) + 1 = j by omega, getElem!_pos l i hi, getElem!_pos l j hj] at this
      exact this
  · rintro ⟨h1, h2, h3⟩
    unfold rightR
    rw [Bool.and_eq_true]
    refine ⟨List.all_eq_true.2 fun j hj => ?_, decide_eq_true h1⟩
    have hj := List.mem_range.1 hj
    obtain ⟨a, b, c, d⟩ := h2 _ (get_mem l j hj)
    unfold okR
    rw [decide_eq_true a, decide_eq_true b, decide_eq_true c, decide_eq_true d]
    by_cases e : j = 0
    · rw [decide_eq_true e]; rfl
    · rw [decide_eq_false e]
      unfold sortedR at h3
      rw [List.pairwise_iff_getElem] at h3
      have := h3 (j - 1) j (by simpa using (by omega)) (by simpa using hj) (by omega)
      simp only [List.getElem_map, keyL] at this
      rw [getElem!_pos l j hj, getElem!_pos l (j - 1) (by omega), this]
      rfl
def lookR (l : List S50) (k : ByteArray) : Option S50 := l.find? (keyIs k)
theorem keyIs_eq {k : ByteArray} {x : S50} : keyIs k x = true ↔ x.f0.toList = k.toList := by unfold keyIs; exact beq_iff_eq
theorem keyIs_ne {k : ByteArray} {x : S50} : keyIs k x = false ↔ x.f0.toList ≠ k.toList := by unfold keyIs; exact beq_eq_false_iff_ne
theorem look_put (row : S50) (k : ByteArray) : ∀ l : List S50, lookR (putRow row l) k = if row.f0.toList = k.toList then some row else lookR l k
  | [] => by
    unfold lookR putRow
    rw [List.find?_cons]
    by_cases h : row.f0.toList = k.toList
    · rw [if_pos h, keyIs_eq.2 h]
    · rw [if_neg h, keyIs_ne.2 h]
  | x :: r => by
    have ih := look_put row k r
    unfold lookR at ih ⊢
    rw [putRow]
    cases hx : keyIs row.f0 x with
    | true =>
      rw [if_pos rfl, List.find?_cons, List.find?_cons]
      by_cases h : row.f0.toList = k.toList
      · rw [if_pos h, keyIs_eq.2 h]
      · rw [if_neg h, keyIs_ne.2 h, keyIs_ne.2 (by rw [keyIs_eq.1 hx]; exact h)]
    | false =>
      rw [if_neg (by decide), List.find?_cons, List.find?_cons, ih]
      cases hk : keyIs k x with
      | false => rfl
      | true => exact (if_neg (fun h => keyIs_ne.1 hx (by rw [keyIs_eq.1 hk, h]))).symm
theorem look_ins (row : S50) (k : ByteArray) : ∀ l : List S50, (∀ x ∈ l, keyIs row.f0 x = false) → lookR (insRow row l) k = if row.f0.toList = k.toList then some row else lookR l k
  | [], _ => by
    unfold lookR insRow
    rw [List.find?_cons]
    by_cases h : row.f0.toList = k.toList
    · rw [if_pos h, keyIs_eq.2 h]
    · rw [if_neg h, keyIs_ne.2 h]
  | x :: r, hno => by
    have ih := look_ins row k r (fun y hy => hno y (List.mem_cons_of_mem _ hy))
    have hx := hno x (List.mem_cons_self ..)
    unfold lookR at ih ⊢
    rw [insRow]
    split
    · rw [List.find?_cons]
      by_cases h : row.f0.toList = k.toList
      · rw [if_pos h, keyIs_eq.2 h]
      · rw [if_neg h, keyIs_ne.2 h]
    · rw [List.find?_cons, List.find?_cons, ih]
      cases hk : keyIs k x with
      | false => rfl
      | true => exact (if_neg (fun h => keyIs_ne.1 hx (by rw [keyIs_eq.1 hk, h]))).symm
theorem look_del (k0 k : ByteArray) : ∀ l : List S50, lookR (l.filter (fun x => !keyIs k0 x)) k = if k0.toList = k.toList then none else lookR l k
  | [] => by simp [lookR]
  | x :: r => by
    have ih := look_del k0 k r
    unfold lookR at ih ⊢
    rw [List.filter_cons]
    cases hx : keyIs k0 x with
    | true =>
      rw [Bool.not_true, if_neg (by decide), ih, List.find?_cons]
      by_cases h : k0.toList = k.toList
      · rw [if_pos h, if_pos h]
      · rw [if_neg h, if_neg h, keyIs_ne.2 (by rw [keyIs_eq.1 hx]; exact h)]
    | false =>
      rw [Bool.not_false, if_pos rfl, List.find?_cons, List.find?_cons, ih]
      cases hk : keyIs k x with
      | false => rfl
      | true => exact (if_neg (fun h => keyIs_ne.1 hx (by rw [keyIs_eq.1 hk, h]))).symm
theorem put_keys (row : S50) : ∀ l : List S50, (∃ x ∈ l, keyIs row.f0 x = true) → (putRow row l).map keyL = l.map keyL ∧ (putRow row l).length = l.length
  | [], ⟨x, hx, _⟩ => by cases hx
  | y :: r, ⟨x, hx, hk⟩ => by
    rw [putRow]
    cases hy : keyIs row.f0 y with
    | true =>
      rw [if_pos rfl]
      exact ⟨by rw [List.map_cons, List.map_cons]; congr 1; exact (keyIs_eq.1 hy).symm, rfl⟩
    | false =>
      rw [if_neg (by decide)]
      have : x ∈ r := by
        rcases List.mem_cons.1 hx with rfl | h
        · rw [hk] at hy; cases hy
        · exact h
      obtain ⟨h1, h2⟩ := put_keys row r ⟨x, this, hk⟩
      exact ⟨by rw [List.map_cons, List.map_cons, h1], by rw [List.length_cons, List.length_cons, h2]⟩
theorem put_mem (row : S50) : ∀ (l : List S50), ∀ x ∈ putRow row l, x = row ∨ x ∈ l
  | [], x, h => .inl (List.mem_singleton.1 h)
  | y :: r, x, h => by
    rw [putRow] at h
    split at h
    · rcases List.mem_cons.1 h with h | h
      · exact .inl h
      · exact .inr (List.mem_cons_of_mem _ h)
    · rcases List.mem_cons.1 h with h | h
      · exact .inr (by rw [h]; exact List.mem_cons_self ..)
      · rcases put_mem row r x h with h | h
        · exact .inl h
        · exact .inr (List.mem_cons_of_mem _ h)
theorem ins_mem (row : S50) : ∀ (l : List S50), ∀ x ∈ insRow row l, x = row ∨ x ∈ l
  | [], x, h => .inl (List.mem_singleton.1 h)
  | y :: r, x, h => by
    rw [insRow] at h
    split at h
    · rcases List.mem_cons.1 h with h | h
      · exact .inl h
      · exact .inr h
    · rcases List.mem_cons.1 h with h | h
      · exact .inr (by rw [h]; exact List.mem_cons_self ..)
      · rcases ins_mem row r x h with h | h
        · exact .inl h
        · exact .inr (List.mem_cons_of_mem _ h)
theorem ins_len (row : S50) : ∀ (l : List S50), (insRow row l).length = l.length + 1
  | [] => rfl
  | y :: r => by
    rw [insRow]
    split
    · rfl
    · rw [List.length_cons, ins_len row r, List.length_cons]
theorem ins_sorted (row : S50) : ∀ (l : List S50), sortedR l → (∀ x ∈ l, keyIs row.f0 x = false) → sortedR (insRow row l)
  | [], _, _ => by simp [sortedR, insRow]
  | y :: r, hs, hno => by
    unfold sortedR at hs ⊢
    rw [List.map_cons, List.pairwise_cons] at hs
    rw [insRow]
    split
    · rename_i h
      rw [List.map_cons, List.pairwise_cons, List.map_cons, List.pairwise_cons]
      refine ⟨fun z hz => ?_, hs⟩
      rcases List.mem_cons.1 hz with rfl | hz
      · exact h
      · exact less_trans _ _ _ h (hs.1 z hz)
    · rename_i h
      have hy : Op.bytesLess (keyL y) (keyL row) = true := less_total (by simpa [keyL] using h) (by have := keyIs_ne.1 (hno y (List.mem_cons_self ..)); exact fun e => this e.symm)
      rw [List.map_cons, List.pairwise_cons]
      refine ⟨fun z hz => ?_, ins_sorted row r hs.2 (fun x hx => hno x (List.mem_cons_of_mem _ hx))⟩
      obtain ⟨x, hx, rfl⟩ := List.mem_map.1 hz
      rcases ins_mem row r x hx with rfl | hx
      · exact hy
      · exact hs.1 _ (List.mem_map.2 ⟨x, hx, rfl⟩)
theorem findI_pos {p : S50 → Bool} {l : List S50} : 0 ≤ findI p l ↔ ∃ x ∈ l, p x = true := by
  unfold findI
  constructor
  · intro h
    split at h
    · rename_i h2
      exact List.findIdx_lt_length.1 h2
    · omega
  · intro h
    rw [if_pos (List.findIdx_lt_length.2 h)]
    omega
theorem doV_forms (l : List S50) (p : S54) (ver : Int) : doV l p ver =
    if fitsV [p] ≠ 0 then ([], fitsV [p]) else if p.f2 = true then (l.filter (fun x => !keyIs p.f0 x), 0) else if 0 ≤ findI (keyIs p.f0) l then (putRow ⟨p.f0, p.f1, ver⟩ l, 0) else if 32 ≤ l.length then ([], 5) else (insRow ⟨p.f0, p.f1, ver⟩ l, 0) := by
  unfold doV
  split
  · rfl
  · split
    · rfl
    · split
      · rename_i h
        have hidx : l.findIdx (keyIs p.f0) < l.length := List.findIdx_lt_length.2 (findI_pos.1 h)
        have hto : (findI (keyIs p.f0) l).toNat = l.findIdx (keyIs p.f0) := by unfold findI; rw [if_pos hidx]; rfl
        rw [putRow_set ⟨p.f0, p.f1, ver⟩ l hidx, hto]
      · split
        · rfl
        · rw [insRow_at ⟨p.f0, p.f1, ver⟩ l, findI_idx, keyOver_less]
theorem fits_one_good {p : S54} (h : fitsV [p] = 0) : badPut p = false := by
  unfold fitsV at h
  rw [if_neg (by simp)] at h
  unfold fitsGo at h
  cases hb : badPut p with
  | false => rfl
  | true => rw [hb] at h; simp at h
theorem good_put {p : S54} (h : badPut p = false) : 1 ≤ p.f0.size ∧ p.f0.size ≤ 16 ∧ p.f1.size ≤ 32 ∧ (p.f2 = true → p.f1.toList = []) := by
  unfold badPut at h
  simp only [Bool.or_eq_false_iff, Bool.not_eq_false', Bool.and_eq_true, decide_eq_true_eq, decide_eq_false_iff_not, Bool.and_eq_false_iff, Bool.not_eq_true'] at h
  obtain ⟨⟨⟨h1, h2⟩, h3⟩, h4⟩ := h
  refine ⟨h1, h2, by omega, fun hg => ?_⟩
  rcases h4 with h4 | h4
  · rw [hg] at h4; cases h4
  · simpa using h4
/-- What one put, done, leaves. -/
theorem doV_right (l : List S50) (p : S54) (ver : Int) (hr : rightR l = true) (hv : ver ≤ 4611686018427387903) (he : (doV l p ver).2 = 0) :
    rightR (doV l p ver).1 = true ∧ ∀ k, lookR (doV l p ver).1 k = if p.f0.toList = k.toList then (if p.f2 = true then none else some ⟨p.f0, p.f1, ver⟩) else lookR l k := by
  rw [doV_forms] at he ⊢
  obtain ⟨h1, h2, h3⟩ := (rightR_iff l).1 hr
  split at he
  · rename_i h; exact absurd he h
  rename_i hf
  have hf : fitsV [p] = 0 := by simpa using hf
  rw [if_neg (fun h => h hf)]
  obtain ⟨g1, g2, g3, g4⟩ := good_put (fits_one_good hf)
  have hgood : goodRow ⟨p.f0, p.f1, ver⟩ := ⟨g1, g2, g3, hv⟩
  by_cases hg : p.f2 = true
  · rw [if_pos hg]
    refine ⟨(rightR_iff _).2 ⟨Nat.le_trans (List.length_filter_le _ _) h1, fun x hx => h2 x (List.mem_filter.1 hx).1, ?_⟩, fun k => ?_⟩
    · unfold sortedR at h3 ⊢
      exact h3.sublist ((List.filter_sublist).map _)
    · rw [look_del, if_pos hg]
  · rw [if_neg hg] at he ⊢
    by_cases hfd : 0 ≤ findI (keyIs p.f0) l
    · rw [if_pos hfd]
      obtain ⟨k1, k2⟩ := put_keys ⟨p.f0, p.f1, ver⟩ l (findI_pos.1 hfd)
      refine ⟨(rightR_iff _).2 ⟨by rw [k2]; exact h1, fun x hx => ?_, ?_⟩, fun k => ?_⟩
      · rcases put_mem _ _ x hx with rfl | hx
        · exact hgood
        · exact h2 x hx
      · unfold sortedR
        rw [k1]
        exact h3
      · rw [look_put, if_neg hg]
    · rw [if_neg hfd] at he ⊢
      by_cases hb : 32 ≤ l.length
      · rw [if_pos hb] at he
        exact absurd he (by decide)
      · rw [if_neg hb]
        have hno : ∀ x ∈ l, keyIs p.f0 x = false := fun x hx => by
          cases hk : keyIs p.f0 x with
          | false => rfl
          | true => exact absurd (findI_pos.2 ⟨x, hx, hk⟩) hfd
        refine ⟨(rightR_iff _).2 ⟨by rw [ins_len]; omega, fun x hx => ?_, ins_sorted ⟨p.f0, p.f1, ver⟩ l h3 hno⟩, fun k => ?_⟩
        · rcases ins_mem _ _ x hx with rfl | hx
          · exact hgood
          · exact h2 x hx
        · rw [look_ins ⟨p.f0, p.f1, ver⟩ k l hno, if_neg hg]
/-- Puts that may be done have keys that differ. -/
def apart (p : List S54) : Prop := (p.map (fun x => x.f0.toList)).Pairwise (· ≠ ·)
theorem hasKey_iff {p : List S54} {s : ByteArray} : hasKey p s = true ↔ ∃ y ∈ p, y.f0.toList = s.toList := by
  unfold hasKey
  simp
theorem fitsGo_good : ∀ (p done : List S54), fitsGo p done = 0 → (∀ x ∈ p, badPut x = false) ∧ apart p ∧ ∀ x ∈ p, ∀ y ∈ done, y.f0.toList ≠ x.f0.toList
  | [], done, _ => ⟨fun x hx => (by cases hx), List.Pairwise.nil, fun x hx => (by cases hx)⟩
  | x :: r, done, h => by
    unfold fitsGo at h
    split at h
    · cases h
    · rename_i hb
      rw [Bool.or_eq_true, not_or, Bool.not_eq_true, Bool.not_eq_true] at hb
      obtain ⟨a, b, c⟩ := fitsGo_good r (done ++ [x]) h
      refine ⟨fun y hy => ?_, ?_, fun y hy z hz => ?_⟩
      · rcases List.mem_cons.1 hy with rfl | hy
        · exact hb.1
        · exact a y hy
      · unfold apart at b ⊢
        rw [List.map_cons, List.pairwise_cons]
        refine ⟨fun k hk => ?_, b⟩
        obtain ⟨y, hy, rfl⟩ := List.mem_map.1 hk
        exact c y hy x (List.mem_append.2 (.inr (List.mem_singleton.2 rfl)))
      · rcases List.mem_cons.1 hy with rfl | hy
        · intro e
          have := hasKey_iff.2 ⟨z, hz, e⟩
          rw [hb.2] at this
          cases this
        · exact c y hy z (List.mem_append.2 (.inl hz))
theorem fits_good {p : List S54} (h : fitsV p = 0) : (∀ x ∈ p, badPut x = false) ∧ apart p := by
  unfold fitsV at h
  split at h
  · cases h
  · obtain ⟨a, b, _⟩ := fitsGo_good p [] h
    exact ⟨a, b⟩
theorem putsV_right (ver : Int) (gone : Bool) (hv : ver ≤ 4611686018427387903) : ∀ (p : List S54) (m : List S50), apart p → rightR m = true → (putsV ver gone p m).2 = 0 →
    rightR (putsV ver gone p m).1 = true ∧ (∀ x ∈ p, x.f2 = gone → lookR (putsV ver gone p m).1 x.f0 = if gone = true then none else some ⟨x.f0, x.f1, ver⟩) ∧
    (∀ k : ByteArray, (∀ x ∈ p, x.f2 = gone → x.f0.toList ≠ k.toList) → lookR (putsV ver gone p m).1 k = lookR m k)
  | [], m, _, hr, _ => ⟨hr, fun x hx => (by cases hx), fun k _ => rfl⟩
  | x :: r, m, ha, hr, he => by
    unfold apart at ha
    rw [List.map_cons, List.pairwise_cons] at ha
    unfold putsV at he ⊢
    by_cases hg : x.f2 = gone
    · rw [if_pos hg] at he ⊢
      by_cases h0 : (doV m x ver).2 = 0
      · rw [if_pos h0] at he ⊢
        obtain ⟨d1, d2⟩ := doV_right m x ver hr hv h0
        obtain ⟨i1, i2, i3⟩ := putsV_right ver gone hv r (doV m x ver).1 ha.2 d1 he
        refine ⟨i1, fun y hy hyg => ?_, fun k hk => ?_⟩
        · rcases List.mem_cons.1 hy with rfl | hy
          · rw [i3 y.f0 (fun z hz _ e => ha.1 _ (List.mem_map.2 ⟨z, hz, rfl⟩) e.symm), d2, if_pos rfl, hg]
          · exact i2 y hy hyg
        · rw [i3 k (fun z hz hzg => hk z (List.mem_cons_of_mem _ hz) hzg), d2, if_neg (hk x (List.mem_cons_self ..) hg)]
      · rw [if_neg h0] at he
        exact absurd he h0
    · rw [if_neg hg] at he ⊢
      obtain ⟨i1, i2, i3⟩ := putsV_right ver gone hv r m ha.2 hr he
      refine ⟨i1, fun y hy hyg => ?_, fun k hk => i3 k (fun z hz hzg => hk z (List.mem_cons_of_mem _ hz) hzg)⟩
      rcases List.mem_cons.1 hy with rfl | hy
      · exact absurd hyg hg
      · exact i2 y hy hyg
theorem apart_eq : ∀ {p : List S54}, apart p → ∀ x ∈ p, ∀ y ∈ p, x.f0.toList = y.f0.toList → x = y
  | [], _, x, hx, _, _, _ => by cases hx
  | z :: r, ha, x, hx, y, hy, e => by
    unfold apart at ha
    rw [List.map_cons, List.pairwise_cons] at ha
    rcases List.mem_cons.1 hx with h1 | h1
    · rcases List.mem_cons.1 hy with h2 | h2
      · rw [h1, h2]
      · exact absurd (by rw [← h1]; exact e) (ha.1 _ (List.mem_map.2 ⟨y, h2, rfl⟩))
    · rcases List.mem_cons.1 hy with h2 | h2
      · exact absurd (by rw [← h2]; exact e.symm) (ha.1 _ (List.mem_map.2 ⟨x, h1, rfl⟩))
      · exact apart_eq (p := r) (show apart r from ha.2) x h1 y h2 e
/-- What puts, done, leave. -/
theorem allV_right (l : List S50) (p : List S54) (ver : Int) (hr : rightR l = true) (hv : ver ≤ 4611686018427387903) (he : (allV l p ver).2 = 0) :
    rightR (allV l p ver).1 = true ∧ (∀ x ∈ p, lookR (allV l p ver).1 x.f0 = if x.f2 = true then none else some ⟨x.f0, x.f1, ver⟩) ∧
    (∀ k : ByteArray, (∀ x ∈ p, x.f0.toList ≠ k.toList) → lookR (allV l p ver).1 k = lookR l k) ∧ fitsV p = 0 := by
  unfold allV at he ⊢
  split at he
  · rename_i h; exact absurd he h
  rename_i hf
  have hf : fitsV p = 0 := by simpa using hf
  rw [if_neg (fun h => h hf)]
  obtain ⟨hb, ha⟩ := fits_good hf
  by_cases h1 : (putsV ver true p l).2 = 0
  · rw [if_pos h1] at he ⊢
    obtain ⟨a1, a2, a3⟩ := putsV_right ver true hv p l ha hr h1
    obtain ⟨b1, b2, b3⟩ := putsV_right ver false hv p _ ha a1 he
    refine ⟨b1, fun x hx => ?_, fun k hk => ?_, hf⟩
    · cases hg : x.f2 with
      | true =>
        rw [if_pos rfl, b3 x.f0 (fun y hy hyg e => by
          have := apart_eq ha x hx y hy e.symm
          subst this
          rw [hg] at hyg
          cases hyg), a2 x hx hg]
        rfl
      | false => rw [if_neg (by decide), b2 x hx hg]; rfl
    · rw [b3 k (fun x hx _ => hk x hx), a3 k (fun x hx _ => hk x hx)]
  · rw [if_neg h1] at he
    exact absurd he h1
end Go.Proofs.Ytmcgcdpiceikeaa.PAll
end
section
/- shard.prepares, whole. -/
namespace Go.Proofs.Ytmcgcdpiceikeaa.PAll
open Go.RowKit Go.Proofs.YtmcgcdpiceikeaaW.PrintWords Go.Proofs.YtmcgcdpiceikeaaW.PrintMore Go.Proofs.Ytmcgcdpiceikeaa
set_option linter.unusedVariables false
def prepsV (s : Shd) (t : S30) (ps : List S54) : Shd × Ans :=
  if 0 ≤ findI (isDoneT t) s.dones then (s, ⟨13, ⟨#[]⟩, 0, false, (overV s.dones t).f1⟩)
  else if findI (isOpenT t) s.opens < 0 then (s, errA 7)
  else if (s.opens[(findI (isOpenT t) s.opens).toNat]!).f2 = true then (s, errA 12)
  else if (s.opens[(findI (isOpenT t) s.opens).toNat]!).f1 = true then (if samePutsV (s.opens[(findI (isOpenT t) s.opens).toNat]!).f3 ps = true then (s, errA 0) else (s, errA 9))
  else if fitsV ps ≠ 0 then (s, errA (fitsV ps))
  else if lacksV s.holds t ps = true then (s, errA 9)
  else if 32 < keysV s.rows s.opens ps then (s, errA 5)
  else (⟨s.rows, s.holds, s.opens.set (findI (isOpenT t) s.opens).toNat ⟨(s.opens[(findI (isOpenT t) s.opens).toNat]!).f0, true, false, ps⟩, s.dones, s.ver⟩, errA 0)
/-- What bounds the keys of a shard. -/
structure ShdKeys (s : Shd) : Prop where
  n : s.rows.length + openCount s.opens + 8 ≤ maxLen
  k0 : ∀ r ∈ s.rows, r.f0.size ≤ maxLen
  k2 : ∀ x ∈ s.opens, ∀ p ∈ x.f3, p.f0.size ≤ maxLen
theorem fits_sizes {p : List S54} (h : fitsV p = 0) : p.length ≤ 8 ∧ ∀ x ∈ p, 1 ≤ x.f0.size ∧ x.f0.size ≤ 16 ∧ x.f1.size ≤ 32 ∧ (x.f2 = true → x.f1.toList = []) :=
  ⟨fits_len h, fun x hx => good_put ((fits_good h).1 x hx)⟩
end Go.Proofs.Ytmcgcdpiceikeaa.PAll
end
section
/- shard.finishes: its early ends. -/
namespace Go.Proofs.Ytmcgcdpiceikeaa.PAll
open Go.RowKit Go.Proofs.YtmcgcdpiceikeaaW.PrintWords Go.Proofs.YtmcgcdpiceikeaaW.PrintMore Go.Proofs.Ytmcgcdpiceikeaa
set_option linter.unusedVariables false
set_option maxRecDepth 100000 in
set_option maxHeartbeats 8000000 in
theorem fin_over_other (kind : Int) (t : S30) (key : ByteArray) (A4 : Option Addr) (n4 c4 : Nat) (cm : Bool) (A5 : Option Addr) (n5 c5 : Nat) (A0 : Option Addr) (c0 : Nat) (A1 : Option Addr) (c1 : Nat) (A2 : Option Addr) (c2 : Nat) (A3 : Option Addr) (c3 : Nat) (rs : List S50) (hs : List S75) (os : List S48) (ds : List S68) (ver : Int) (w : World) (hr0 : Kd.C k50 w A0 rs.length rs) (hc0 : rs.length ≤ c0) (hr1 : Kd.C k75 w A1 hs.length hs) (hc1 : hs.length ≤ c1) (hr2 : Kd.C k48 w A2 os.length os) (hc2 : os.length ≤ c2) (hr3 : Kd.C k68 w A3 ds.length ds) (hc3 : ds.length ≤ c3) (hd : 0 ≤ findI (isDoneT t) ds) (hcm : (overV ds t).f1 ≠ cm) :
    Calls Try.prog 23 #[.agg (shv A0 rs.length c0 A1 hs.length c1 A2 os.length c2 A3 ds.length c3 ver), .agg #[.int .i64 kind, .int .u64 t.f0, .int .u64 t.f1, .string key, .slice A4 n4 c4, .bool cm, .slice A5 n5 c5]] w (DoPost w (⟨rs, hs, os, ds, ver⟩, ⟨13, ⟨#[]⟩, 0, false, (overV ds t).f1⟩)) := by
  obtain ⟨bS, bO, bZ, bA⟩ := alloc4 w (.cells #[.slice A0 rs.length c0, .slice A1 hs.length c1, .slice A2 os.length c2, .slice A3 ds.length c3, .int .u64 ver] 28) (.cells #[.int .i64 kind, .int .u64 t.f0, .int .u64 t.f1, .string key, .slice A4 n4 c4, .bool cm, .slice A5 n5 c5] 34) (.cells #[.slice none 0 0, .slice none 0 0, .slice none 0 0, .slice none 0 0, .int .u64 0] 28) (.cells #[.int .i64 0, .string ⟨#[]⟩, .int .u64 0, .bool false, .bool false] 38)
  have hb4 : Below w.heap.size w ((((w.alloc (.cells #[.slice A0 rs.length c0, .slice A1 hs.length c1, .slice A2 os.length c2, .slice A3 ds.length c3, .int .u64 ver] 28)).alloc (.cells #[.int .i64 kind, .int .u64 t.f0, .int .u64 t.f1, .string key, .slice A4 n4 c4, .bool cm, .slice A5 n5 c5] 34)).alloc (.cells #[.slice none 0 0, .slice none 0 0, .slice none 0 0, .slice none 0 0, .int .u64 0] 28)).alloc (.cells #[.int .i64 0, .string ⟨#[]⟩, .int .u64 0, .bool false, .bool false] 38)) := ((((Below.refl w.heap.size w).alloc (Nat.le_refl _) _).alloc (by simp) _).alloc (by simp; omega) _).alloc (by simp; omega) _
  have HW4 : Aside0 (((((w.alloc (.cells #[.slice A0 rs.length c0, .slice A1 hs.length c1, .slice A2 os.length c2, .slice A3 ds.length c3, .int .u64 ver] 28)).alloc (.cells #[.int .i64 kind, .int .u64 t.f0, .int .u64 t.f1, .string key, .slice A4 n4 c4, .bool cm, .slice A5 n5 c5] 34)).alloc (.cells #[.slice none 0 0, .slice none 0 0, .slice none 0 0, .slice none 0 0, .int .u64 0] 28)).alloc (.cells #[.int .i64 0, .string ⟨#[]⟩, .int .u64 0, .bool false, .bool false] 38)).heap.size = w.heap.size + 1 + 1 + 1 + 1) := ⟨by simp⟩
  have BS := Aside0.mk bS
  have BO := Aside0.mk bO
  have BZ := Aside0.mk bZ
  have BA := Aside0.mk bA
  have HB4 := Aside0.mk hb4
  have HOV := Aside0.mk (fun (W : World) (h : Below w.heap.size w W) => shardOver_sl A0 rs.length c0 A1 hs.length c1 A2 os.length c2 A3 c3 ver ds t W (Kd.C_below hr3 h) hc3)
  have HKN := Aside0.mk (fun (W : World) (h : Below w.heap.size w W) => shardKnown_sl A0 rs.length c0 A1 hs.length c1 A2 c2 A3 ds.length c3 ver os t W (Kd.C_below hr2 h) hc2)
  have HR0 := Aside0.mk hr0
  have HR1 := Aside0.mk hr1
  have HR2 := Aside0.mk hr2
  have HR3 := Aside0.mk hr3
  have HC0 := Aside0.mk hc0
  have HC1 := Aside0.mk hc1
  have HC2 := Aside0.mk hc2
  have HC3 := Aside0.mk hc3
  clear hr0 hc0 hr1 hc1 hr2 hc2 hr3 hc3 bS bO bZ bA hb4
  rw [decide_eq_true hd] at HOV
  clear hd
  generalize overV ds t = dv at *
  obtain ⟨⟨dA, dI⟩, dC⟩ := dv
  dsimp only at hcm
  have hcm2 : cm = !dC := by cases cm <;> cases dC <;> simp at hcm ⊢
  subst hcm2
  clear hcm
  obtain ⟨ta, ti⟩ := t
  unfold shv at *
  dsimp only at *
  go_enter Try.func23, Try.ntmps23
  cases dC with
  | true =>
    go_wp2_with (go_at_call 51; refine (HOV.out _ HB4.out).mono ?_; rintro e w5 ⟨rfl, hb5⟩; have HW5 := Aside0.mk hb5.size; have SB5 := Aside0.mk (stay hb5 BS.out (by rw [HW4.out]; omega)); have OB5 := Aside0.mk (stay hb5 BO.out (by rw [HW4.out]; omega)); have ZB5 := Aside0.mk (stay hb5 BZ.out (by rw [HW4.out]; omega)); have AB5 := Aside0.mk (stay hb5 BA.out (by rw [HW4.out]; omega)); obtain ⟨hs0, hs1, hs2, hs3, hs4⟩ := cells_5 (stayA SB5.out (.cells #[.int .u64 dA, .int .u64 dI, .bool true] 68)); obtain ⟨ho0, ho1, ho2, ho3, ho4, ho5, ho6⟩ := cells_7 (stayA OB5.out (.cells #[.int .u64 dA, .int .u64 dI, .bool true] 68)); have HB5 := Aside0.mk (HB4.out.trans (hb5.mono HB4.out.size)); have hn5 : w.heap.size + 1 + 1 + 1 + 1 ≤ w5.heap.size := (by have := HW4.out; have := HW5.out; omega); obtain ⟨hz0, hz1, hz2, hz3, hz4⟩ := cells_5 (stayA ZB5.out (.cells #[.int .u64 dA, .int .u64 dI, .bool true] 68)); obtain ⟨ha0, ha1, ha2, ha3, ha4⟩ := cells_5 (stayA AB5.out (.cells #[.int .u64 dA, .int .u64 dI, .bool true] 68)); obtain ⟨hy0, hy1, hy2, hy3, hy4⟩ := froz_5 (stayA ZB5.out (.cells #[.int .u64 dA, .int .u64 dI, .bool true] 68)); obtain ⟨hx0, hx1, hx2, hx3, hx4⟩ := froz_5 (stayA AB5.out (.cells #[.int .u64 dA, .int .u64 dI, .bool true] 68)); clear hb5)
    go_region
    go_wp2
    refine twoBoxesD rfl rfl rfl rfl (stayA ZB5.out (.cells #[.int .u64 dA, .int .u64 dI, .bool true] 68)) (stayA AB5.out (.cells #[.int .u64 dA, .int .u64 dI, .bool true] 68)) (by omega) ?_
    exact DoPost_same HR0.out HC0.out HR1.out HC1.out HR2.out HC2.out HR3.out HC3.out (put5_below (put5_below (HB5.out.alloc HB5.out.size (.cells #[.int .u64 dA, .int .u64 dI, .bool true] 68)) (show w.heap.size ≤ w.heap.size + 1 + 1 by omega) _ _ _ _ _) (show w.heap.size ≤ w.heap.size + 1 + 1 + 1 by omega) _ _ _ _ _).drew _ _ _ _ _
  | false =>
    go_wp2_with (go_at_call 51; refine (HOV.out _ HB4.out).mono ?_; rintro e w5 ⟨rfl, hb5⟩; have HW5 := Aside0.mk hb5.size; have SB5 := Aside0.mk (stay hb5 BS.out (by rw [HW4.out]; omega)); have OB5 := Aside0.mk (stay hb5 BO.out (by rw [HW4.out]; omega)); have ZB5 := Aside0.mk (stay hb5 BZ.out (by rw [HW4.out]; omega)); have AB5 := Aside0.mk (stay hb5 BA.out (by rw [HW4.out]; omega)); obtain ⟨hs0, hs1, hs2, hs3, hs4⟩ := cells_5 (stayA SB5.out (.cells #[.int .u64 dA, .int .u64 dI, .bool false] 68)); obtain ⟨ho0, ho1, ho2, ho3, ho4, ho5, ho6⟩ := cells_7 (stayA OB5.out (.cells #[.int .u64 dA, .int .u64 dI, .bool false] 68)); have HB5 := Aside0.mk (HB4.out.trans (hb5.mono HB4.out.size)); have hn5 : w.heap.size + 1 + 1 + 1 + 1 ≤ w5.heap.size := (by have := HW4.out; have := HW5.out; omega); obtain ⟨hz0, hz1, hz2, hz3, hz4⟩ := cells_5 (stayA ZB5.out (.cells #[.int .u64 dA, .int .u64 dI, .bool false] 68)); obtain ⟨ha0, ha1, ha2, ha3, ha4⟩ := cells_5 (stayA AB5.out (.cells #[.int .u64 dA, .int .u64 dI, .bool false] 68)); obtain ⟨hy0, hy1, hy2, hy3, hy4⟩ := froz_5 (stayA ZB5.out (.cells #[.int .u64 dA, .int .u64 dI, .bool false] 68)); obtain ⟨hx0, hx1, hx2, hx3, hx4⟩ := froz_5 (stayA AB5.out (.cells #[.int .u64 dA, .int .u64 dI, .bool false] 68)); clear hb5)
    go_region
    go_wp2
    refine twoBoxesD rfl rfl rfl rfl (stayA ZB5.out (.cells #[.int .u64 dA, .int .u64 dI, .bool false] 68)) (stayA AB5.out (.cells #[.int .u64 dA, .int .u64 dI, .bool false] 68)) (by omega) ?_
    exact DoPost_same HR0.out HC0.out HR1.out HC1.out HR2.out HC2.out HR3.out HC3.out (put5_below (put5_below (HB5.out.alloc HB5.out.size (.cells #[.int .u64 dA, .int .u64 dI, .bool false] 68)) (show w.heap.size ≤ w.heap.size + 1 + 1 by omega) _ _ _ _ _) (show w.heap.size ≤ w.heap.size + 1 + 1 + 1 by omega) _ _ _ _ _).drew _ _ _ _ _
end Go.Proofs.Ytmcgcdpiceikeaa.PAll
end
