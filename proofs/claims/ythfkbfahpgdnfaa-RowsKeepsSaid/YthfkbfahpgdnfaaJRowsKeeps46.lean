/- Joined texts of the claim RowsKeeps (part 46): contracts of functions and plain laws. -/
import Derived.Test.YthfkbfahpgdnfaaJRowsKeeps36
import Derived.Test.YthfkbfahpgdnfaaJRowsKeeps45
section
/- Plain laws of rows: what puts do to a right list, key by key. -/
namespace Go.Proofs.Ythfkbfahpgdnfaa.PAll
open Go.RowKit Go.Proofs.YthfkbfahpgdnfaaW.PrintWords Go.Proofs.YthfkbfahpgdnfaaW.PrintMore Go.Proofs.Ythfkbfahpgdnfaa
set_option linter.unusedVariables false
theorem less_trans : ∀ (a b c : List UInt8), Op.bytesLess a b = true → Op.bytesLess b c = true → Op.bytesLess a c = true
  | [], b, [], h1, h2 => by cases b <;> simp [Op.bytesLess] at h1 h2
  | [], b, _ :: _, h1, h2 => by simp [Op.bytesLess]
  | a :: x, [], c, h1, h2 => by simp [Op.bytesLess] at h1
  | a :: x, b :: y, [], h1, h2 => by simp [Op.bytesLess] at h2
  | a :: x, b :: y, c :: z, h1, h2 => by
    simp only [Op.bytesLess, Bool.or_eq_true, Bool.and_eq_true, decide_eq_true_eq, beq_iff_eq] at h1 h2 ⊢
    rcases h1 with h1 | ⟨rfl, h1⟩
    · rcases h2 with h2 | ⟨rfl, h2⟩
      · exact .inl (UInt8.lt_trans h1 h2)
      · exact .inl h1
    · rcases h2 with h2 | ⟨rfl, h2⟩
      · exact .inl h2
      · exact .inr ⟨rfl, less_trans x y z h1 h2⟩
theorem less_total {a b : List UInt8} (h : Op.bytesLess a b = false) (hne : a ≠ b) : Op.bytesLess b a = true := by
  have := less_flip b a
  rw [h] at this
  rw [this]
  simpa using hne
/-- A row that may be. -/
def goodRow (x : S64) : Prop := 1 ≤ x.f0.size ∧ x.f0.size ≤ 16 ∧ x.f1.size ≤ 32 ∧ x.f2 ≤ 4611686018427387903
def keyL (x : S64) : List UInt8 := x.f0.toList
def sortedR (l : List S64) : Prop := (l.map keyL).Pairwise (fun a b => Op.bytesLess a b = true)
theorem rightR_iff (l : List S64) : rightR l = true ↔ l.length ≤ 32 ∧ (∀ x ∈ l, goodRow x) ∧ sortedR l := by
  constructor
  · intro h
    obtain ⟨h1, h2⟩ := right_ok h
    refine ⟨h1, fun x hx => ?_, ?_⟩
    · obtain ⟨j, hj, rfl⟩ := List.mem_iff_getElem.1 hx
      have a := ok_sizes (h2 j hj)
      rw [getElem!_pos l j hj] at a
      exact a
    · have adj : ∀ j, j + 1 < l.length → Op.bytesLess (l[j]!).f0.toList (l[j + 1]!).f0.toList = true := fun j hj => by
        have := h2 (j + 1) hj
        unfold okR at this
        rw [Bool.and_eq_true] at this
        simpa using this.2
      have all : ∀ d i, i + d + 1 < l.length → Op.bytesLess (l[i]!).f0.toList (l[i + d + 1]!).f0.toList = true := by
        intro d
        induction d with
        | zero => exact fun i hi => adj i hi
        | succ d ih => exact fun i hi => less_trans _ _ _ (ih i (by omega)) (adj (i + d + 1) (by omega))
      unfold sortedR
      rw [List.pairwise_iff_getElem]
      intro i j hi hj hij
      simp only [List.length_map] at hi hj
      simp only [List.getElem_map, keyL]
      have := all (j - i - 1) i (by omega)
      rw [show i + (j - i - 1) + 1 = j by omega, getElem!_pos l i hi, getElem!_pos l j hj] at this
      exact this
  · rintro ⟨h1, h2, h3⟩
    unfold rightR
    rw [Bool.and_eq_true]
    refine ⟨List.all_eq_true.2 fun j hj => ?_, decide_eq_true h1⟩
    have hj := List.mem_range.1 hj
    obtain ⟨a, b, c, d⟩ := h2 _ (get_mem l j hj)
    unfold okR
    rw [decide_eq_true a, decide_eq_true b, decide_eq_true c, decide_eq_true d]
    by_cases e : j = 0
    · rw [decide_eq_true e]; rfl
    · rw [decide_eq_false e]
      unfold sortedR at h3
      rw [List.pairwise_iff_getElem] at h3
      have := h3 (j - 1) j (by simpa using (by omega)) (by simpa using hj) (by omega)
      simp only [List.getElem_map, keyL] at this
      rw [getElem!_pos l j hj, getElem!_pos l (j - 1) (by omega), this]
      rfl
def lookR (l : List S64) (k : ByteArray) : Option S64 := l.find? (keyIs k)
theorem keyIs_eq {k : ByteArray} {x : S64} : keyIs k x = true ↔ x.f0.toList = k.toList := by unfold keyIs; exact beq_iff_eq
theorem keyIs_ne {k : ByteArray} {x : S64} : keyIs k x = false ↔ x.f0.toList ≠ k.toList := by unfold keyIs; exact beq_eq_false_iff_ne
theorem look_put (row : S64) (k : ByteArray) : ∀ l : List S64, lookR (putRow row l) k = if row.f0.toList = k.toList then some row else lookR l k
  | [] => by
    unfold lookR putRow
    rw [List.find?_cons]
    by_cases h : row.f0.toList = k.toList
    · rw [if_pos h, keyIs_eq.2 h]
    · rw [if_neg h, keyIs_ne.2 h]
  | x :: r => by
    have ih := look_put row k r
    unfold lookR at ih ⊢
    rw [putRow]
    cases hx : keyIs row.f0 x with
    | true =>
      rw [if_pos rfl, List.find?_cons, List.find?_cons]
      by_cases h : row.f0.toList = k.toList
      · rw [if_pos h, keyIs_eq.2 h]
      · rw [if_neg h, keyIs_ne.2 h, keyIs_ne.2 (by rw [keyIs_eq.1 hx]; exact h)]
    | false =>
      rw [if_neg (by decide), List.find?_cons, List.find?_cons, ih]
      cases hk : keyIs k x with
      | false => rfl
      | true => exact (if_neg (fun h => keyIs_ne.1 hx (by rw [keyIs_eq.1 hk, h]))).symm
theorem look_ins (row : S64) (k : ByteArray) : ∀ l : List S64, (∀ x ∈ l, keyIs row.f0 x = false) → lookR (insRow row l) k = if row.f0.toList = k.toList then some row else lookR l k
  | [], _ => by
    unfold lookR insRow
    rw [List.find?_cons]
    by_cases h : row.f0.toList = k.toList
    · rw [if_pos h, keyIs_eq.2 h]
    · rw [if_neg h, keyIs_ne.2 h]
  | x :: r, hno => by
    have ih := look_ins row k r (fun y hy => hno y (List.mem_cons_of_mem _ hy))
    have hx := hno x (List.mem_cons_self ..)
    unfold lookR at ih ⊢
    rw [insRow]
    split
    · rw [List.find?_cons]
      by_cases h : row.f0.toList = k.toList
      · rw [if_pos h, keyIs_eq.2 h]
      · rw [if_neg h, keyIs_ne.2 h]
    · rw [List.find?_cons, List.find?_cons, ih]
      cases hk : keyIs k x with
      | false => rfl
      | true => exact (if_neg (fun h => keyIs_ne.1 hx (by rw [keyIs_eq.1 hk, h]))).symm
theorem look_del (k0 k : ByteArray) : ∀ l : List S64, lookR (l.filter (fun x => !keyIs k0 x)) k = if k0.toList = k.toList then none else lookR l k
  | [] => by simp [lookR]
  | x :: r => by
    have ih := look_del k0 k r
    unfold lookR at ih ⊢
    rw [List.filter_cons]
    cases hx : keyIs k0 x with
    | true =>
      rw [Bool.not_true, if_neg (by decide), ih, List.find?_cons]
      by_cases h : k0.toList = k.toList
      · rw [if_pos h, if_pos h]
      · rw [if_neg h, if_neg h, keyIs_ne.2 (by rw [keyIs_eq.1 hx]; exact h)]
    | false =>
      rw [Bool.not_false, if_pos rfl, List.find?_cons, List.find?_cons, ih]
      cases hk : keyIs k x with
      | false => rfl
      | true => exact (if_neg (fun h => keyIs_ne.1 hx (by rw [keyIs_eq.1 hk, h]))).symm
theorem put_keys (row : S64) : ∀ l : List S64, (∃ x ∈ l, keyIs row.f0 x = true) → (putRow row l).map keyL = l.map keyL ∧ (putRow row l).length = l.length
  | [], ⟨x, hx, _⟩ => by cases hx
  | y :: r, ⟨x, hx, hk⟩ => by
    rw [putRow]
    cases hy : keyIs row.f0 y with
    | true =>
      rw [if_pos rfl]
      exact ⟨by rw [List.map_cons, List.map_cons]; congr 1; exact (keyIs_eq.1 hy).symm, rfl⟩
    | false =>
      rw [if_neg (by decide)]
      have : x ∈ r := by
        rcases List.mem_cons.1 hx with rfl | h
        · rw [hk] at hy; cases hy
        · exact h
      obtain ⟨h1, h2⟩ := put_keys row r ⟨x, this, hk⟩
      exact ⟨by rw [List.map_cons, List.map_cons, h1], by rw [List.length_cons, List.length_cons, h2]⟩
theorem put_mem (row : S64) : ∀ (l : List S64), ∀ x ∈ putRow row l, x = row ∨ x ∈ l
  | [], x, h => .inl (List.mem_singleton.1 h)
  | y :: r, x, h => by
    rw [putRow] at h
    split at h
    · rcases List.mem_cons.1 h with h | h
      · exact .inl h
      · exact .inr (List.mem_cons_of_mem _ h)
    · rcases List.mem_cons.1 h with h | h
      · exact .inr (by rw [h]; exact List.mem_cons_self ..)
      · rcases put_mem row r x h with h | h
        · exact .inl h
        · exact .inr (List.mem_cons_of_mem _ h)
theorem ins_mem (row : S64) : ∀ (l : List S64), ∀ x ∈ insRow row l, x = row ∨ x ∈ l
  | [], x, h => .inl (List.mem_singleton.1 h)
  | y :: r, x, h => by
    rw [insRow] at h
    split at h
    · rcases List.mem_cons.1 h with h | h
      · exact .inl h
      · exact .inr h
    · rcases List.mem_cons.1 h with h | h
      · exact .inr (by rw [h]; exact List.mem_cons_self ..)
      · rcases ins_mem row r x h with h | h
        · exact .inl h
        · exact .inr (List.mem_cons_of_mem _ h)
theorem ins_len (row : S64) : ∀ (l : List S64), (insRow row l).length = l.length + 1
  | [] => rfl
  | y :: r => by
    rw [insRow]
    split
    · rfl
    · rw [List.length_cons, ins_len row r, List.length_cons]
theorem ins_sorted (row : S64) : ∀ (l : List S64), sortedR l → (∀ x ∈ l, keyIs row.f0 x = false) → sortedR (insRow row l)
  | [], _, _ => by simp [sortedR, insRow]
  | y :: r, hs, hno => by
    unfold sortedR at hs ⊢
    rw [List.map_cons, List.pairwise_cons] at hs
    rw [insRow]
    split
    · rename_i h
      rw [List.map_cons, List.pairwise_cons, List.map_cons, List.pairwise_cons]
      refine ⟨fun z hz => ?_, hs⟩
      rcases List.mem_cons.1 hz with rfl | hz
      · exact h
      · exact less_trans _ _ _ h (hs.1 z hz)
    · rename_i h
      have hy : Op.bytesLess (keyL y) (keyL row) = true := less_total (by simpa [keyL] using h) (by have := keyIs_ne.1 (hno y (List.mem_cons_self ..)); exact fun e => this e.symm)
      rw [List.map_cons, List.pairwise_cons]
      refine ⟨fun z hz => ?_, ins_sorted row r hs.2 (fun x hx => hno x (List.mem_cons_of_mem _ hx))⟩
      obtain ⟨x, hx, rfl⟩ := List.mem_map.1 hz
      rcases ins_mem row r x hx with rfl | hx
      · exact hy
      · exact hs.1 _ (List.mem_map.2 ⟨x, hx, rfl⟩)
theorem findI_pos {p : S64 → Bool} {l : List S64} : 0 ≤ findI p l ↔ ∃ x ∈ l, p x = true := by
  unfold findI
  constructor
  · intro h
    split at h
    · rename_i h2
      exact List.findIdx_lt_length.1 h2
    · omega
  · intro h
    rw [if_pos (List.findIdx_lt_length.2 h)]
    omega
theorem doV_forms (l : List S64) (p : S52) (ver : Int) : doV l p ver =
    if fitsV [p] ≠ 0 then ([], fitsV [p]) else if p.f2 = true then (l.filter (fun x => !keyIs p.f0 x), 0) else if 0 ≤ findI (keyIs p.f0) l then (putRow ⟨p.f0, p.f1, ver⟩ l, 0) else if 32 ≤ l.length then ([], 5) else (insRow ⟨p.f0, p.f1, ver⟩ l, 0) := by
  unfold doV
  split
  · rfl
  · split
    · rfl
    · split
      · rename_i h
        have hidx : l.findIdx (keyIs p.f0) < l.length := List.findIdx_lt_length.2 (findI_pos.1 h)
        have hto : (findI (keyIs p.f0) l).toNat = l.findIdx (keyIs p.f0) := by unfold findI; rw [if_pos hidx]; rfl
        rw [putRow_set ⟨p.f0, p.f1, ver⟩ l hidx, hto]
      · split
        · rfl
        · rw [insRow_at ⟨p.f0, p.f1, ver⟩ l, findI_idx, keyOver_less]
theorem fits_one_good {p : S52} (h : fitsV [p] = 0) : badPut p = false := by
  unfold fitsV at h
  rw [if_neg (by simp)] at h
  unfold fitsGo at h
  cases hb : badPut p with
  | false => rfl
  | true => rw [hb] at h; simp at h
theorem good_put {p : S52} (h : badPut p = false) : 1 ≤ p.f0.size ∧ p.f0.size ≤ 16 ∧ p.f1.size ≤ 32 ∧ (p.f2 = true → p.f1.toList = []) := by
  unfold badPut at h
  simp only [Bool.or_eq_false_iff, Bool.not_eq_false', Bool.and_eq_true, decide_eq_true_eq, decide_eq_false_iff_not, Bool.and_eq_false_iff, Bool.not_eq_true'] at h
  obtain ⟨⟨⟨h1, h2⟩, h3⟩, h4⟩ := h
  refine ⟨h1, h2, by omega, fun hg => ?_⟩
  rcases h4 with h4 | h4
  · rw [hg] at h4; cases h4
  · simpa using h4
/-- What one put, done, leaves. -/
theorem doV_right (l : List S64) (p : S52) (ver : Int) (hr : rightR l = true) (hv : ver ≤ 4611686018427387903) (he : (doV l p ver).2 = 0) :
    rightR (doV l p ver).1 = true ∧ ∀ k, lookR (doV l p ver).1 k = if p.f0.toList = k.toList then (if p.f2 = true then none else some ⟨p.f0, p.f1, ver⟩) else lookR l k := by
  rw [doV_forms] at he ⊢
  obtain ⟨h1, h2, h3⟩ := (rightR_iff l).1 hr
  split at he
  · rename_i h; exact absurd he h
  rename_i hf
  have hf : fitsV [p] = 0 := by simpa using hf
  rw [if_neg (fun h => h hf)]
  obtain ⟨g1, g2, g3, g4⟩ := good_put (fits_one_good hf)
  have hgood : goodRow ⟨p.f0, p.f1, ver⟩ := ⟨g1, g2, g3, hv⟩
  by_cases hg : p.f2 = true
  · rw [if_pos hg]
    refine ⟨(rightR_iff _).2 ⟨Nat.le_trans (List.length_filter_le _ _) h1, fun x hx => h2 x (List.mem_filter.1 hx).1, ?_⟩, fun k => ?_⟩
    · unfold sortedR at h3 ⊢
      exact h3.sublist ((List.filter_sublist).map _)
    · rw [look_del, if_pos hg]
  · rw [if_neg hg] at he ⊢
    by_cases hfd : 0 ≤ findI (keyIs p.f0) l
    · rw [if_pos hfd]
      obtain ⟨k1, k2⟩ := put_keys ⟨p.f0, p.f1, ver⟩ l (findI_pos.1 hfd)
      refine ⟨(rightR_iff _).2 ⟨by rw [k2]; exact h1, fun x hx => ?_, ?_⟩, fun k => ?_⟩
      · rcases put_mem _ _ x hx with rfl | hx
        · exact hgood
        · exact h2 x hx
      · unfold sortedR
        rw [k1]
        exact h3
      · rw [look_put, if_neg hg]
    · rw [if_neg hfd] at he ⊢
      by_cases hb : 32 ≤ l.length
      · rw [if_pos hb] at he
        exact absurd he (by decide)
      · rw [if_neg hb]
        have hno : ∀ x ∈ l, keyIs p.f0 x = false := fun x hx => by
          cases hk : keyIs p.f0 x with
          | false => rfl
          | true => exact absurd (findI_pos.2 ⟨x, hx, hk⟩) hfd
        refine ⟨(rightR_iff _).2 ⟨by rw [ins_len]; omega, fun x hx => ?_, ins_sorted ⟨p.f0, p.f1, ver⟩ l h3 hno⟩, fun k => ?_⟩
        · rcases ins_mem _ _ x hx with rfl | hx
          · exact hgood
          · exact h2 x hx
        · rw [look_ins ⟨p.f0, p.f1, ver⟩ k l hno, if_neg hg]
/-- Puts that may be done have keys that differ. -/
def apart (p : List S52) : Prop := (p.map (fun x => x.f0.toList)).Pairwise (· ≠ ·)
theorem hasKey_iff {p : List S52} {s : ByteArray} : hasKey p s = true ↔ ∃ y ∈ p, y.f0.toList = s.toList := by
  unfold hasKey
  simp
theorem fitsGo_good : ∀ (p done : List S52), fitsGo p done = 0 → (∀ x ∈ p, badPut x = false) ∧ apart p ∧ ∀ x ∈ p, ∀ y ∈ done, y.f0.toList ≠ x.f0.toList
  | [], done, _ => ⟨fun x hx => (by cases hx), List.Pairwise.nil, fun x hx => (by cases hx)⟩
  | x :: r, done, h => by
    unfold fitsGo at h
    split at h
    · cases h
    · rename_i hb
      rw [Bool.or_eq_true, not_or, Bool.not_eq_true, Bool.not_eq_true] at hb
      obtain ⟨a, b, c⟩ := fitsGo_good r (done ++ [x]) h
      refine ⟨fun y hy => ?_, ?_, fun y hy z hz => ?_⟩
      · rcases List.mem_cons.1 hy with rfl | hy
        · exact hb.1
        · exact a y hy
      · unfold apart at b ⊢
        rw [List.map_cons, List.pairwise_cons]
        refine ⟨fun k hk => ?_, b⟩
        obtain ⟨y, hy, rfl⟩ := List.mem_map.1 hk
        exact c y hy x (List.mem_append.2 (.inr (List.mem_singleton.2 rfl)))
      · rcases List.mem_cons.1 hy with rfl | hy
        · intro e
          have := hasKey_iff.2 ⟨z, hz, e⟩
          rw [hb.2] at this
          cases this
        · exact c y hy z (List.mem_append.2 (.inl hz))
theorem fits_good {p : List S52} (h : fitsV p = 0) : (∀ x ∈ p, badPut x = false) ∧ apart p := by
  unfold fitsV at h
  split at h
  · cases h
  · obtain ⟨a, b, _⟩ := fitsGo_good p [] h
    exact ⟨a, b⟩
theorem putsV_right (ver : Int) (gone : Bool) (hv : ver ≤ 4611686018427387903) : ∀ (p : List S52) (m : List S64), apart p → rightR m = true → (putsV ver gone p m).2 = 0 →
    rightR (putsV ver gone p m).1 = true ∧ (∀ x ∈ p, x.f2 = gone → lookR (putsV ver gone p m).1 x.f0 = if gone = true then none else some ⟨x.f0, x.f1, ver⟩) ∧
    (∀ k : ByteArray, (∀ x ∈ p, x.f2 = gone → x.f0.toList ≠ k.toList) → lookR (putsV ver gone p m).1 k = lookR m k)
  | [], m, _, hr, _ => ⟨hr, fun x hx => (by cases hx), fun k _ => rfl⟩
  | x :: r, m, ha, hr, he => by
    unfold apart at ha
    rw [List.map_cons, List.pairwise_cons] at ha
    unfold putsV at he ⊢
    by_cases hg : x.f2 = gone
    · rw [if_pos hg] at he ⊢
      by_cases h0 : (doV m x ver).2 = 0
      · rw [if_pos h0] at he ⊢
        obtain ⟨d1, d2⟩ := doV_right m x ver hr hv h0
        obtain ⟨i1, i2, i3⟩ := putsV_right ver gone hv r (doV m x ver).1 ha.2 d1 he
        refine ⟨i1, fun y hy hyg => ?_, fun k hk => ?_⟩
        · rcases List.mem_cons.1 hy with rfl | hy
          · rw [i3 y.f0 (fun z hz _ e => ha.1 _ (List.mem_map.2 ⟨z, hz, rfl⟩) e.symm), d2, if_pos rfl, hg]
          · exact i2 y hy hyg
        · rw [i3 k (fun z hz hzg => hk z (List.mem_cons_of_mem _ hz) hzg), d2, if_neg (hk x (List.mem_cons_self ..) hg)]
      · rw [if_neg h0] at he
        exact absurd he h0
    · rw [if_neg hg] at he ⊢
      obtain ⟨i1, i2, i3⟩ := putsV_right ver gone hv r m ha.2 hr he
      refine ⟨i1, fun y hy hyg => ?_, fun k hk => i3 k (fun z hz hzg => hk z (List.mem_cons_of_mem _ hz) hzg)⟩
      rcases List.mem_cons.1 hy with rfl | hy
      · exact absurd hyg hg
      · exact i2 y hy hyg
theorem apart_eq : ∀ {p : List S52}, apart p → ∀ x ∈ p, ∀ y ∈ p, x.f0.toList = y.f0.toList → x = y
  | [], _, x, hx, _, _, _ => by cases hx
  | z :: r, ha, x, hx, y, hy, e => by
    unfold apart at ha
    rw [List.map_cons, List.pairwise_cons] at ha
    rcases List.mem_cons.1 hx with h1 | h1
    · rcases List.mem_cons.1 hy with h2 | h2
      · rw [h1, h2]
      · exact absurd (by rw [← h1]; exact e) (ha.1 _ (List.mem_map.2 ⟨y, h2, rfl⟩))
    · rcases List.mem_cons.1 hy with h2 | h2
      · exact absurd (by rw [← h2]; exact e.symm) (ha.1 _ (List.mem_map.2 ⟨x, h1, rfl⟩))
      · exact apart_eq (p := r) (show apart r from ha.2) x h1 y h2 e
/-- What puts, done, leave. -/
theorem allV_right (l : List S64) (p : List S52) (ver : Int) (hr : rightR l = true) (hv : ver ≤ 4611686018427387903) (he : (allV l p ver).2 = 0) :
    rightR (allV l p ver).1 = true ∧ (∀ x ∈ p, lookR (allV l p ver).1 x.f0 = if x.f2 = true then none else some ⟨x.f0, x.f1, ver⟩) ∧
    (∀ k : ByteArray, (∀ x ∈ p, x.f0.toList ≠ k.toList) → lookR (allV l p ver).1 k = lookR l k) ∧ fitsV p = 0 := by
  unfold allV at he ⊢
  split at he
  · rename_i h; exact absurd he h
  rename_i hf
  have hf : fitsV p = 0 := by simpa using hf
  rw [if_neg (fun h => h hf)]
  obtain ⟨hb, ha⟩ := fits_good hf
  by_cases h1 : (putsV ver true p l).2 = 0
  · rw [if_pos h1] at he ⊢
    obtain ⟨a1, a2, a3⟩ := putsV_right ver true hv p l ha hr h1
    obtain ⟨b1, b2, b3⟩ := putsV_right ver false hv p _ ha a1 he
    refine ⟨b1, fun x hx => ?_, fun k hk => ?_, hf⟩
    · cases hg : x.f2 with
      | true =>
        rw [if_pos rfl, b3 x.f0 (fun y hy hyg e => by
          have := apart_eq ha x hx y hy e.symm
          subst this
          rw [hg] at hyg
          cases hyg), a2 x hx hg]
        rfl
      | false => rw [if_neg (by decide), b2 x hx hg]; rfl
    · rw [b3 k (fun x hx _ => hk x hx), a3 k (fun x hx _ => hk x hx)]
  · rw [if_neg h1] at he
    exact absurd he h1
theorem getV_look (l : List S64) (k : ByteArray) : getV l k = match lookR l k with | none => (⟨#[]⟩, ⟨#[]⟩, 0, false) | some x => (x.f0, x.f1, x.f2, true) := by
  unfold getV lookR
  by_cases h : l.findIdx (keyIs k) < l.length
  · have hf : findI (keyIs k) l = (l.findIdx (keyIs k) : Int) := by unfold findI; rw [if_pos h]
    rw [hf, if_neg (by omega)]
    have : l.find? (keyIs k) = some (l[l.findIdx (keyIs k)]!) := by
      rw [List.find?_eq_getElem?_findIdx, List.getElem?_eq_getElem h, getElem!_pos l _ h]
    rw [this]
    rfl
  · have hf : findI (keyIs k) l = -1 := by unfold findI; rw [if_neg h]
    rw [hf, if_pos (by decide)]
    have : l.find? (keyIs k) = none := by
      rw [List.find?_eq_none]
      intro x hx
      intro e
      exact h (List.findIdx_lt_length.2 ⟨x, hx, e⟩)
    rw [this]
end Go.Proofs.Ythfkbfahpgdnfaa.PAll
end
