/- Joined texts of the claim RowsBytes (part 24): contracts of functions and plain laws. -/
import Derived.Test.YthfkbfahpgdnfaaJRowsBytes13
import Derived.Test.YthfkbfahpgdnfaaJRowsBytes3
import Derived.Test.YthfkbfahpgdnfaaJRowsBytes7
import Derived.Test.YthfkbfahpgdnfaaJRowsBytes20
import Derived.Test.YthfkbfahpgdnfaaJRowsBytes21
import Derived.Test.YthfkbfahpgdnfaaJRowsBytes22
import Derived.Test.YthfkbfahpgdnfaaJRowsBytes23
import Derived.Test.YthfkbfahpgdnfaaJRowsBytes1
import Derived.Test.YthfkbfahpgdnfaaJRowsBytes2
import Derived.Lib.FrozenHead
import Derived.Lib.ConvBytes
import Derived.Laws.IdiomStrings
import Derived.Laws.Externs
section
/- Plain laws of rows: Right, Get, Same, Do as the document tells them. -/
namespace Go.Proofs.Ythfkbfahpgdnfaa.PAll
open Go.RowKit Go.Proofs.YthfkbfahpgdnfaaW.PrintWords Go.Proofs.YthfkbfahpgdnfaaW.PrintMore Go.Proofs.Ythfkbfahpgdnfaa
set_option linter.unusedVariables false
theorem rd_row (l : List S64) (j : Nat) (hj : j < l.length) : rd_T64 l (j : Int) = l[j]! := by
  simp [rd_T64, List.getD_eq_getElem?_getD, List.getElem?_eq_getElem hj, getElem!_pos l j hj]
theorem rd_put (l : List S52) (j : Nat) (hj : j < l.length) : rd_T52 l (j : Int) = l[j]! := by
  simp [rd_T52, List.getD_eq_getElem?_getD, List.getElem?_eq_getElem hj, getElem!_pos l j hj]
/-! Right -/
def allR (l : List S64) : Nat → Nat → Bool
  | 0, _ => true
  | d + 1, j => okR l j && allR l d (j + 1)
theorem allR_iff (l : List S64) : ∀ (d j : Nat), allR l d j = true ↔ ∀ i, j ≤ i → i < j + d → okR l i = true
  | 0, j => by simp [allR]; omega
  | d + 1, j => by
    rw [allR, Bool.and_eq_true, allR_iff l d (j + 1)]
    constructor
    · rintro ⟨h1, h2⟩ i hi1 hi2
      by_cases e : i = j
      · subst e; exact h1
      · exact h2 i (by omega) (by omega)
    · exact fun h => ⟨h j (Nat.le_refl _) (by omega), fun i h1 h2 => h i (by omega) (by omega)⟩
theorem rightR_from (l : List S64) : rightR l = (allR l l.length 0 && decide (l.length ≤ 32)) := by
  unfold rightR
  congr 1
  rw [Bool.eq_iff_iff, allR_iff, List.all_eq_true]
  exact ⟨fun h i _ hi => h i (List.mem_range.2 (by omega)), fun h i hi => h i (Nat.zero_le _) (by have := List.mem_range.1 hi; omega)⟩
def badRow (x : S64) : Bool := decide ((x.f0.size : Int) < 1) || decide ((x.f0.size : Int) > 16) || decide ((x.f1.size : Int) > 32) || decide (x.f2 > 4611686018427387903)
theorem okR_bad (l : List S64) (j : Nat) : okR l j = (!badRow (l[j]!) && (decide (j = 0) || Op.bytesLess (l[j - 1]!).f0.toList (l[j]!).f0.toList)) := by
  unfold okR badRow
  congr 1
  rw [Bool.eq_iff_iff]
  simp only [Bool.and_eq_true, decide_eq_true_eq, Bool.not_eq_true', Bool.or_eq_false_iff, decide_eq_false_iff_not]
  omega
theorem rRight_l0 (l : List S64) (hl : l.length ≤ 32) (hs : ∀ x ∈ l, x.f0.size ≤ 9223372036854775806) : ∀ (d j : Nat), d = l.length - j → j ≤ l.length → Ev (fun q => ferruleref11_Right.l0 q l (j : Int)) (allR l d j) := by
  intro d
  induction d with
  | zero =>
    intro j hd hj
    exact Ev.step (f := fun _ => some true) (fun k => by simp only [ferruleref11_Right.l0]; rw [if_neg (show ¬ (j : Int) < l.length by omega)]) (Ev.now true)
  | succ d ih =>
    intro j hd hj
    have hlt : j < l.length := by omega
    have hw := wrap_up j (by omega)
    refine Ev.step (f := fun k => ferruleref11_Right.j1 k l j (badRow (l[j]!)) (l[j]!).f0 (l[j]!).f1 (l[j]!).f2) (fun k => ?_) ?_
    · simp only [ferruleref11_Right.l0]
      rw [if_pos (show (j : Int) < l.length by omega), if_pos (show (0 : Int) ≤ j by omega), rd_row l j hlt]
      unfold badRow
      by_cases c1 : ((l[j]!).f0.size : Int) < 1
      · rw [if_pos c1, decide_eq_true c1]; rfl
      · rw [if_neg c1, decide_eq_false c1]
        by_cases c2 : ((l[j]!).f0.size : Int) > 16
        · rw [if_pos c2, decide_eq_true c2]; rfl
        · rw [if_neg c2, decide_eq_false c2]
          by_cases c3 : ((l[j]!).f1.size : Int) > 32
          · rw [if_pos c3, decide_eq_true c3]; rfl
          · rw [if_neg c3, decide_eq_false c3]; rfl
    · rw [allR, okR_bad]
      cases hb : badRow (l[j]!) with
      | true => exact Ev.step (f := fun _ => some false) (fun k => by simp only [ferruleref11_Right.j1]; rw [if_pos trivial]) (Ev.now false)
      | false =>
        rw [Bool.not_false, Bool.true_and]
        by_cases c3 : j = 0
        · rw [decide_eq_true c3, Bool.true_or, Bool.true_and]
          refine Ev.step (fun k => ?_) (ih (j + 1) (by omega) (by omega))
          simp only [ferruleref11_Right.j1]
          rw [if_neg (by decide), if_neg (show ¬ (j : Int) > 0 by omega), hw]
        · rw [decide_eq_false c3, Bool.false_or]
          have hj1 : j - 1 < l.length := by omega
          have hw2 := wrap_down j (by omega) (by omega)
          refine Ev.step (f := fun k => (ferruleref11_Less.f k (l[j - 1]!).f0 (l[j]!).f0).bind fun t => if t = true then ferruleref11_Right.l0 k l ((j + 1 : Nat) : Int) else some false) (fun k => ?_) (Ev.bind (Less_ev _ _ (hs _ (get_mem l _ hj1))) ?_)
          · simp only [ferruleref11_Right.j1]
            rw [if_neg (by decide), if_pos (show (j : Int) > 0 by omega), hw2, if_pos (show (0 : Int) ≤ ((j - 1 : Nat) : Int) by omega), if_pos (show ((j - 1 : Nat) : Int) < l.length by omega), rd_row l _ hj1, hw]
          · cases Op.bytesLess (l[j - 1]!).f0.toList (l[j]!).f0.toList with
            | true => exact Ev.congr (fun k => if_pos rfl) (by rw [Bool.true_and]; exact ih (j + 1) (by omega) (by omega))
            | false => exact Ev.congr (fun k => if_neg (by decide)) (Ev.now false)
theorem rRight_ev (l : List S64) (hs : ∀ x ∈ l, x.f0.size ≤ 9223372036854775806) : Ev (fun k => ferruleref11_Right.f k l) (rightR l) := by
  unfold ferruleref11_Right.f
  by_cases h : l.length ≤ 32
  · refine Ev.congr (fun k => if_neg (by omega)) ?_
    rw [rightR_from, decide_eq_true h, Bool.and_true]
    exact rRight_l0 l h hs l.length 0 (by omega) (by omega)
  · refine Ev.congr (fun k => if_pos (by omega)) ?_
    unfold rightR
    rw [decide_eq_false h, Bool.and_false]
    exact Ev.now false
/-! Get -/
def getV (l : List S64) (key : ByteArray) : ByteArray × ByteArray × Int × Bool := if findI (keyIs key) l < 0 then (⟨#[]⟩, ⟨#[]⟩, 0, false) else ((l[(findI (keyIs key) l).toNat]!).f0, (l[(findI (keyIs key) l).toNat]!).f1, (l[(findI (keyIs key) l).toNat]!).f2, true)
theorem Get_eq (l : List S64) (key : ByteArray) : rows_Get.f l key = some (getV l key) := by
  unfold rows_Get.f rows_at.f getV
  simp only [Option.bind_some]
  have e : (fun x : S64 => x.f0.toList == key.toList) = keyIs key := rfl
  rw [e]
  rcases findI_ways (keyIs key) l with h | ⟨i, hi, h⟩
  · rw [h]; rfl
  · rw [h, if_neg (by omega), if_pos (by omega), if_pos (by omega), if_neg (by omega), rd_row l i hi]; rfl
theorem keyIs_iff (key : ByteArray) (x : S64) : (x.f0.toList = key.toList) = (keyIs key x = true) := by
  unfold keyIs; exact propext beq_iff_eq.symm
theorem rGet_l0 (l : List S64) (key : ByteArray) (hl : l.length < 9223372036854775806) : ∀ (d j : Nat), d = l.length - j → j ≤ l.length → (∀ k, k < j → keyIs key (l[k]!) = false) → Ev (fun q => ferruleref11_Get.l0 q l key (j : Int)) (getV l key) := by
  intro d
  induction d with
  | zero =>
    intro j hd hj hno
    have hn := findI_no (keyIs key) l (fun k hk => hno k (by omega))
    refine Ev.step (f := fun _ => some (getV l key)) (fun k => ?_) (Ev.now _)
    simp only [ferruleref11_Get.l0]
    rw [if_neg (show ¬ (j : Int) < l.length by omega)]
    unfold getV
    rw [hn]; rfl
  | succ d ih =>
    intro j hd hj hno
    have hlt : j < l.length := by omega
    cases hk : keyIs key (l[j]!) with
    | true =>
      have hn := findI_at (keyIs key) l j hlt hk hno
      refine Ev.step (f := fun _ => some (getV l key)) (fun k => ?_) (Ev.now _)
      simp only [ferruleref11_Get.l0]
      rw [if_pos (show (j : Int) < l.length by omega), if_pos (show (0 : Int) ≤ j by omega), rd_row l j hlt, if_pos (by rw [keyIs_iff]; exact hk)]
      unfold getV
      rw [hn, if_neg (by omega)]; rfl
    | false =>
      refine Ev.step (fun k => ?_) (ih (j + 1) (by omega) (by omega) (fun k hk2 => by
        by_cases e : k = j
        · rw [e]; exact hk
        · exact hno k (by omega)))
      simp only [ferruleref11_Get.l0]
      rw [if_pos (show (j : Int) < l.length by omega), if_pos (show (0 : Int) ≤ j by omega), rd_row l j hlt, if_neg (by rw [keyIs_iff, hk]; decide), wrap_up j (by omega)]
theorem rGet_ev (l : List S64) (key : ByteArray) (hl : l.length < 9223372036854775806) : Ev (fun k => ferruleref11_Get.f k l key) (getV l key) :=
  rGet_l0 l key hl l.length 0 (by omega) (by omega) (fun k hk => absurd hk (by omega))
/-! Same -/
theorem Same_l0 (a : List S64) (hl : a.length < 9223372036854775806) : ∀ (d j : Nat), d = a.length - j → j ≤ a.length → Ev (fun q => ferruleref11_Same.l0 q a a (j : Int)) true := by
  intro d
  induction d with
  | zero =>
    intro j hd hj
    exact Ev.step (f := fun _ => some true) (fun k => by simp only [ferruleref11_Same.l0]; rw [if_neg (show ¬ (j : Int) < a.length by omega)]) (Ev.now true)
  | succ d ih =>
    intro j hd hj
    refine Ev.step (fun k => ?_) (ih (j + 1) (by omega) (by omega))
    simp only [ferruleref11_Same.l0]
    rw [if_pos (show (j : Int) < a.length by omega), if_pos (show (0 : Int) ≤ j by omega), if_pos (show (j : Int) < a.length by omega), wrap_up j (by omega)]
    simp
theorem Same_ev (a : List S64) (hl : a.length < 9223372036854775806) : Ev (fun q => ferruleref11_Same.f q a a) true := by
  unfold ferruleref11_Same.f
  exact Ev.congr (fun k => if_pos rfl) (Same_l0 a hl a.length 0 (by omega) (by omega))
end Go.Proofs.Ythfkbfahpgdnfaa.PAll
end
section
/- A row of bytes that '[]byte(s)' made (it bears a mark behind its cells), appended to. -/
namespace Go.Proofs.Ythfkbfahpgdnfaa
open Go.RowKit Go.Proofs.YthfkbfahpgdnfaaW.PrintWords
set_option linter.unusedVariables false
/-- 'v' owns the bytes 'xs'; what its row has frozen lies within them or behind all cells. -/
def OwnM (w : World) (base : Nat) (v : Value) (n : Nat) (xs : List Value) : Prop :=
  xs.length = n ∧ ∃ g cap cur fz, v = .slice (some ⟨g, 0, none⟩) n cap ∧ base ≤ g ∧ w.heap[g]? = some (.cells cur 5 fz) ∧ (fz.2 ≤ n ∨ cap ≤ fz.1) ∧ n ≤ cap ∧ cap ≤ maxLen ∧ cur.size = cap ∧ cur.toList.take n = xs
theorem OwnM.kept {w w' : World} {base n : Nat} {v : Value} {xs : List Value} (h : OwnM w base v n xs) (hb : Below w.heap.size w w') : OwnM w' base v n xs := by
  obtain ⟨h1, g, cap, cur, fz, hv, hbg, hg, r⟩ := h
  exact ⟨h1, g, cap, cur, fz, hv, hbg, (hb.block g (Array.getElem?_eq_some_iff.1 hg).1).trans hg, r⟩
theorem OwnM.cells {w : World} {base n : Nat} {v : Value} {xs : List Value} (h : OwnM w base v n xs) : ∃ g cap, v = .slice (some ⟨g, 0, none⟩) n cap ∧ ∀ j u, xs[j]? = some u → w.cell? ((⟨g, 0, none⟩ : Addr).add j) = some u := by
  obtain ⟨h1, g, cap, cur, fz, hv, hbg, hg, hfz, hnc, hcm, hcs, ht⟩ := h
  refine ⟨g, cap, hv, fun j u hu => ?_⟩
  rw [Addr.add_lit, Nat.zero_add, cell_of_row w g j cur 5 fz hg]
  rw [← ht, List.getElem?_take] at hu
  split at hu
  · simpa using hu
  · cases hu
theorem storeCells_mark (P : Program) (g o : Nat) (t : TypeId) (fz : Nat × Nat) : ∀ (vs : List Value) (i : Nat) (cur : Array Value) (w : World), w.heap[g]? = some (.cells cur t fz) → cur.size ≤ fz.1 → o + i + vs.length ≤ cur.size → (∀ v ∈ vs, v.oneCell' = true) →
    (storeCells ⟨g, o, none⟩ vs i).run P w = .ok () (w.setRow g (cur.toList.take (o + i) ++ vs ++ cur.toList.drop (o + i + vs.length)).toArray)
  | [], i, cur, w, hg, _, _, _ => by
    simp only [storeCells, List.append_nil, List.length_nil, Nat.add_zero, List.take_append_drop, Array.toArray_toList]
    rw [setRow_self w g cur t fz hg]
    rfl
  | v :: rest, i, cur, w, hg, hfz, hl, h1 => by
    have hi : o + i < cur.size := by simp at hl; omega
    have hcell : w.cell? ⟨g, o + i, none⟩ = some cur[o + i] := by simp [World.cell?, hg, hi]
    have hfro : w.frozen? ⟨g, o + i, none⟩ = false := by
      obtain ⟨lo, hi'⟩ := fz
      simp only [World.frozen?, hg, Bool.and_eq_false_iff, decide_eq_false_iff_not]
      left
      simp only at hfz
      omega
    have hst : (store ((⟨g, o, none⟩ : Addr).add i) v).run P w = .ok () (w.setRow g (cur.setIfInBounds (o + i) v)) := by
      rw [Addr.add_lit, run_store P w _ v _ (h1 v (by simp)), hcell]
      simp [hfro, setCell_eq_setRow w g (o + i) cur t fz v hg]
    have ih := storeCells_mark P g o t fz rest (i + 1) (cur.setIfInBounds (o + i) v) (w.setRow g (cur.setIfInBounds (o + i) v)) (setRow_heap w g cur _ t _ hg) (by simpa using hfz) (by simp at hl ⊢; omega) (fun x hx => h1 x (by simp [hx]))
    simp only [storeCells, Sem.run_bind, hst, Result.andThen_ok, ih, setRow_setRow]
    congr 3
    have e := list_seg_step cur.toList (o + i) v rest (by simp at hl ⊢; omega)
    simpa [Array.toList_setIfInBounds, Nat.add_assoc] using e
theorem infoByteM : (Try.prog.info? 5).map (fun i => (i.zero, i.size, i.bytes)) = some (some (.int .u8 0), 1, 1) := by kernel_rfl
theorem run_append_M (w : World) (ty : TypeId) (base : Nat) (v : Value) (n : Nat) (xs : List Value) (hown : OwnM w base v n xs) (s : ByteArray) (hl : n + s.size ≤ 140737488355328) (hbase : base ≤ w.heap.size) :
    ∃ v' w', (Builtin.append_ #[99, 9] ty #[v, .string s]).run Try.prog w = .ok v' w' ∧ OwnM w' base v' (n + s.size) (xs ++ Lib.strCells s) ∧ Below base w w' := by
  obtain ⟨i, hi, hz, hs1, hby⟩ := info_parts infoByteM
  obtain ⟨hxl, g, cap, cur, fz, rfl, hbg, hg, hfz, hnc, hcm, hcs, htake⟩ := hown
  have ht := Try.underlying99
  have hu := Try.underlying9
  have hlen : (xs ++ Lib.strCells s).length = n + s.size := by rw [List.length_append, hxl, Lib.strCells_length]
  by_cases hroom : n + s.size ≤ cap
  · have hf := Lib.run_firstCells_string (P := Try.prog) w 1 s
    have hst : (storeCells ⟨g, n, none⟩ (Lib.strCells s) 0).run Try.prog w = .ok () (w.setRow g (cur.toList.take n ++ Lib.strCells s ++ cur.toList.drop (n + s.size)).toArray) := by
      rcases hfz with hfz | hfz
      · have := run_storeCells_atF Try.prog g n 5 fz (Lib.strCells s) 0 cur w hg (by simpa using hfz) (by simpa [Lib.strCells_length, hcs] using hroom) (Lib.strCells_oneCell s)
        simpa only [Nat.add_zero, Lib.strCells_length] using this
      · have := storeCells_mark Try.prog g n 5 fz (Lib.strCells s) 0 cur w hg (by omega) (by simpa [Lib.strCells_length, hcs] using hroom) (Lib.strCells_oneCell s)
        simpa only [Nat.add_zero, Lib.strCells_length] using this
    have hr : (Builtin.append_ #[99, 9] ty #[.slice (some ⟨g, 0, none⟩) n cap, .string s]).run Try.prog w = .ok (.slice (some ⟨g, 0, none⟩) (n + s.size) cap) (w.setRow g (cur.toList.take n ++ Lib.strCells s ++ cur.toList.drop (n + s.size)).toArray) := by
      simp [Builtin.append_, run_underlying ht, run_underlying hu, sizeOf, typeInfo, hi, hs1, Builtin.lenOf, hroom, hf, Addr.add_lit, hst]
    refine ⟨_, _, hr, ⟨hlen, g, cap, _, fz, rfl, hbg, setRow_heap w g cur _ 5 _ hg, ?_, hroom, hcm, ?_, ?_⟩, ?_⟩
    · rcases hfz with hfz | hfz
      · left; omega
      · right; exact hfz
    · simp only [List.size_toArray, List.length_append, List.length_take, List.length_drop, Array.length_toList, Lib.strCells_length]
      omega
    · rw [htake, ← hlen]
      exact List.take_left
    · exact (Below.refl base w).grown (grownBy_setRow _ _ _) hbase (fun k e => by cases e; exact hbg)
  · have holds : ∀ j u, xs[j]? = some u → w.cell? ((⟨g, 0, none⟩ : Addr).add j) = some u := fun j u hu => by
      rw [Addr.add_lit, Nat.zero_add, cell_of_row w g j cur 5 fz hg]
      rw [← htake, List.getElem?_take] at hu
      split at hu
      · simpa using hu
      · cases hu
    have hr := Lib.run_append_grow_string (P := Try.prog) w 99 9 ty 5 i (.int .u8 0) ht hu hi hz ⟨g, 0, none⟩ n cap xs (by rw [hs1]; simpa using hxl) holds s (by omega) (by omega) (by rw [hby]; exact growslice_fits (by omega) (by omega))
    have hge := grownCap_ge w (n + s.size) cap 5
    have hcm2 : grownCap w (n + s.size) cap 5 ≤ maxLen := grownCap_le_maxLen w (n + s.size) cap 5 (by unfold maxLen; omega)
    refine ⟨_, _, hr, ⟨hlen, w.heap.size, _, _, (0, 0), rfl, hbase, heap_alloc_new w.drew _, .inl (Nat.zero_le _), hge, hcm2, ?_, ?_⟩, ?_⟩
    · have hz1 : (Value.int IntKind.u8 0).cells.size = 1 := rfl
      simp only [Array.size_append, List.size_toArray, size_zeroCells, hz1, hxl, Lib.strCells_length]
      omega
    · simp only [Array.toList_append, List.append_assoc]
      rw [← List.append_assoc, ← hlen]
      exact List.take_left
    · exact ((Below.refl base w).drew).alloc hbase _
theorem wpList_append_M (w : World) {ops : Array Oper} {rest : List Oper} {o : Oper} {a : Act} {Q : Exit → Act → World → Prop} (hgd : o.guard = none) (sl x : Operand)
    (ho : o.op = .call { callee := .builtin .append, args := #[sl, x], argTypes := #[99, 9] }) (base : Nat) (v : Value) (n : Nat) (xs : List Value) (hs : a.eval sl = v) (hown : OwnM w base v n xs) (s : ByteArray) (hx : a.eval x = .string s)
    (hl : n + s.size ≤ 140737488355328) (hbase : base ≤ w.heap.size)
    (h : ∀ v' w', OwnM w' base v' (n + s.size) (xs ++ Lib.strCells s) → Below base w w' → wpList Try.prog ops Q rest (a.put o.dst v') w') : wpList Try.prog ops Q (o :: rest) a w := by
  refine wpList_plain hgd fun K hK => ?_
  obtain ⟨v', w', hr, h2, h3⟩ := run_append_M w o.type base v n xs hown s hl hbase
  unfold Oper.wp execOp
  simp only [ho, resolve, invoke, builtin, Sem.run_bind, Sem.run_pure, Result.andThen_ok, List.map_toArray, List.map_cons, List.map_nil, hs, hx, hr]
  exact hK _ _ (h v' w' h2 h3)
/-- '[]byte(s)'. -/
theorem bytes_M (w : World) (s : ByteArray) (hs : s.size ≤ 140737488355328) : ∃ v w', (convert 9 99 (.string s)).run Try.prog w = .ok v w' ∧ OwnM w' w.heap.size v s.size (Lib.strCells s) ∧ Below w.heap.size w w' := by
  have hr := Lib.run_convert_string_bytes (P := Try.prog) w 9 99 5 s Try.underlying9 Try.underlying99 Try.underlying5
  have hge := grownCap_ge w s.size 0 5
  have hcm : grownCap w s.size 0 5 ≤ maxLen := grownCap_le_maxLen w s.size 0 5 (by unfold maxLen; omega)
  have hsz : (Lib.bytesCells w 5 s).size = grownCap w s.size 0 5 := by
    unfold Lib.bytesCells
    rw [Array.size_append, Array.size_map, Array.size_replicate]
    have : s.data.size = s.size := rfl
    omega
  refine ⟨_, _, hr, ⟨Lib.strCells_length s, w.heap.size, _, _, _, rfl, Nat.le_refl _, Lib.bytesWorld_at_new w 5 s, .inr (by rw [hsz]; exact Nat.le_refl _), hge, hcm, hsz, ?_⟩, ?_⟩
  · unfold Lib.bytesCells
    rw [Array.toList_append, Array.toList_map, show (s.data.toList.map fun b => Value.int .u8 b.toNat) = Lib.strCells s from rfl, ← Lib.strCells_length s]
    exact List.take_left
  · exact Lib.below_freeze (((Below.refl w.heap.size w).drew).alloc (Nat.le_refl _) _) (p := ⟨w.heap.size, (Lib.bytesCells w 5 s).size, none⟩) (Nat.le_refl _) _
/-- 'string(b)'. -/
theorem string_M (w : World) (base : Nat) (v : Value) (l : List UInt8) (hown : OwnM w base v l.length (Lib.byteCells l)) : (convert 99 9 v).run Try.prog w = .ok (.string ⟨l.toArray⟩) w := by
  obtain ⟨g, cap, rfl, hc⟩ := hown.cells
  exact run_convert_bytes_back (P := Try.prog) w 99 9 5 ⟨g, 0, none⟩ cap l Try.underlying99 Try.underlying5 Try.underlying9 (fun j hj => hc j _ (by simp [Lib.byteCells, List.getElem?_eq_getElem hj]))
end Go.Proofs.Ythfkbfahpgdnfaa
end
