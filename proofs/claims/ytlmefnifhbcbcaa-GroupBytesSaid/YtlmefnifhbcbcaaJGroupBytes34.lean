/- Joined texts of the claim GroupBytes (part 34): contracts of functions and plain laws. -/
import Derived.Test.YtlmefnifhbcbcaaJGroupBytes32
import Derived.Test.YtlmefnifhbcbcaaJGroupBytes33
import Derived.Laws.Externs
import Derived.Laws.IdiomStrings
import Derived.Lib.ConvBytes
import Derived.Lib.FrozenHead
import Derived.Test.YtlmefnifhbcbcaaJGroupBytes13
import Derived.Test.YtlmefnifhbcbcaaJGroupBytes2
section
/- Plain laws of groups: the document's May. -/
namespace Go.Proofs.Ytlmefnifhbcbcaa.PAll
open Go.RowKit Go.Proofs.YtlmefnifhbcbcaaW.PrintWords Go.Proofs.YtlmefnifhbcbcaaW.PrintMore Go.Proofs.Ytlmefnifhbcbcaa
set_option linter.unusedVariables false
/-! May -/
theorem rMay_l0 (v l : List Int) (hv : v.length ≤ 9223372036854775806) (hl : l.length ≤ 9223372036854775806) : ∀ (d j : Nat), d = l.length - j → j ≤ l.length → Ev (fun q => ferruleref06_May.l0 q (j : Int) v l) ((l.drop j).all (fun x => !hasI v x)) := by
  intro d
  induction d with
  | zero =>
    intro j hd hj
    rw [List.drop_eq_nil_of_le (by omega)]
    exact Ev.step (f := fun _ => some true) (fun q => by simp only [ferruleref06_May.l0]; rw [if_neg (show ¬ (j : Int) < l.length by omega)]) (Ev.now true)
  | succ d ih =>
    intro j hd hj
    have hlt : j < l.length := by omega
    rw [dropGet l j hlt, List.all_cons]
    refine Ev.step (f := fun q => (ferruleref06_Has.f q v l[j]!).bind fun t => if t = true then some false else ferruleref06_May.l0 q ((j + 1 : Nat) : Int) v l) (fun q => by simp only [ferruleref06_May.l0]; rw [if_pos (show (j : Int) < l.length by omega), if_pos (show (0 : Int) ≤ j by omega), rd_int l j hlt, wrapUp j (by omega)]) ?_
    refine Ev.bind (Has_ev v _ hv) ?_
    cases hasI v l[j]! with
    | true => exact Ev.congr (fun q => if_pos rfl) (Ev.now false)
    | false => exact Ev.congr (fun q => if_neg (by decide)) (ih (j + 1) (by omega) (by omega))
theorem rMay_j0 (v l : List Int) (hv : v.length ≤ 9223372036854775806) (hl : l.length ≤ 9223372036854775806) (b : Bool) : Ev (fun q => ferruleref06_May.j0 q b v l) (!b && l.all (fun x => !hasI v x)) := by
  cases b with
  | true => exact Ev.step (f := fun _ => some false) (fun q => by simp only [ferruleref06_May.j0]; exact if_pos trivial) (Ev.now false)
  | false => exact Ev.step (f := fun q => ferruleref06_May.l0 q 0 v l) (fun q => by simp only [ferruleref06_May.j0]; exact if_neg (by decide)) (rMay_l0 v l hv hl l.length 0 (by omega) (by omega))
theorem rMay_ev (v l : List Int) (hv : v.length ≤ 9223372036854775806) (hl : l.length ≤ 9223372036854775806) : Ev (fun q => ferruleref06_May.f q v l) (mayV v l) := by
  unfold ferruleref06_May.f
  refine Ev.bind (rrises_ev v hv) ?_
  refine Ev.bind (rrises_ev l hl) ?_
  unfold mayV
  have h0 := rMay_j0 v l hv hl
  generalize risesB v = a
  generalize risesB l = b
  cases a with
  | false => exact Ev.congr (fun q => if_neg (by decide)) (ev_to (h0 true) (by simp))
  | true =>
    cases b with
    | false => exact Ev.congr (fun q => (if_pos rfl).trans (if_neg (by decide))) (ev_to (h0 true) (by simp))
    | true =>
      by_cases c1 : v.length < 1
      · exact Ev.congr (fun q => (if_pos rfl).trans ((if_pos rfl).trans (if_pos (by omega)))) (ev_to (h0 true) (by rw [decide_eq_false (show ¬ 1 ≤ v.length by omega)]; simp))
      · by_cases c2 : v.length > 7
        · exact Ev.congr (fun q => (if_pos rfl).trans ((if_pos rfl).trans ((if_neg (by omega)).trans (if_pos (by omega))))) (ev_to (h0 true) (by rw [decide_eq_false (show ¬ v.length ≤ 7 by omega)]; simp))
        · refine Ev.congr (fun q => (if_pos rfl).trans ((if_pos rfl).trans ((if_neg (by omega)).trans (if_neg (by omega))))) (ev_to (h0 (decide ((l.length : Int) > 3))) ?_)
          rw [decide_eq_true (show 1 ≤ v.length by omega), decide_eq_true (show v.length ≤ 7 by omega)]
          by_cases c3 : l.length ≤ 3
          · rw [decide_eq_true c3, decide_eq_false (show ¬ (l.length : Int) > 3 by omega)]; simp
          · rw [decide_eq_false c3, decide_eq_true (show (l.length : Int) > 3 by omega)]; simp
end Go.Proofs.Ytlmefnifhbcbcaa.PAll
end
section
/- A row of bytes that '[]byte(s)' made (it bears a mark behind its cells), appended to. -/
namespace Go.Proofs.Ytlmefnifhbcbcaa
open Go.RowKit Go.Proofs.YtlmefnifhbcbcaaW.PrintWords
set_option linter.unusedVariables false
/-- 'v' owns the bytes 'xs'; what its row has frozen lies within them or behind all cells. -/
def OwnM (w : World) (base : Nat) (v : Value) (n : Nat) (xs : List Value) : Prop :=
  xs.length = n ∧ ∃ g cap cur fz, v = .slice (some ⟨g, 0, none⟩) n cap ∧ base ≤ g ∧ w.heap[g]? = some (.cells cur 5 fz) ∧ (fz.2 ≤ n ∨ cap ≤ fz.1) ∧ n ≤ cap ∧ cap ≤ maxLen ∧ cur.size = cap ∧ cur.toList.take n = xs
theorem OwnM.kept {w w' : World} {base n : Nat} {v : Value} {xs : List Value} (h : OwnM w base v n xs) (hb : Below w.heap.size w w') : OwnM w' base v n xs := by
  obtain ⟨h1, g, cap, cur, fz, hv, hbg, hg, r⟩ := h
  exact ⟨h1, g, cap, cur, fz, hv, hbg, (hb.block g (Array.getElem?_eq_some_iff.1 hg).1).trans hg, r⟩
theorem OwnM.cells {w : World} {base n : Nat} {v : Value} {xs : List Value} (h : OwnM w base v n xs) : ∃ g cap, v = .slice (some ⟨g, 0, none⟩) n cap ∧ ∀ j u, xs[j]? = some u → w.cell? ((⟨g, 0, none⟩ : Addr).add j) = some u := by
  obtain ⟨h1, g, cap, cur, fz, hv, hbg, hg, hfz, hnc, hcm, hcs, ht⟩ := h
  refine ⟨g, cap, hv, fun j u hu => ?_⟩
  rw [Addr.add_lit, Nat.zero_add, cell_of_row w g j cur 5 fz hg]
  rw [← ht, List.getElem?_take] at hu
  split at hu
  · simpa using hu
  · cases hu
theorem storeCells_mark (P : Program) (g o : Nat) (t : TypeId) (fz : Nat × Nat) : ∀ (vs : List Value) (i : Nat) (cur : Array Value) (w : World), w.heap[g]? = some (.cells cur t fz) → cur.size ≤ fz.1 → o + i + vs.length ≤ cur.size → (∀ v ∈ vs, v.oneCell' = true) →
    (storeCells ⟨g, o, none⟩ vs i).run P w = .ok () (w.setRow g (cur.toList.take (o + i) ++ vs ++ cur.toList.drop (o + i + vs.length)).toArray)
  | [], i, cur, w, hg, _, _, _ => by
    simp only [storeCells, List.append_nil, List.length_nil, Nat.add_zero, List.take_append_drop, Array.toArray_toList]
    rw [setRow_self w g cur t fz hg]
    rfl
  | v :: rest, i, cur, w, hg, hfz, hl, h1 => by
    have hi : o + i < cur.size := by simp at hl; omega
    have hcell : w.cell? ⟨g, o + i, none⟩ = some cur[o + i] := by simp [World.cell?, hg, hi]
    have hfro : w.frozen? ⟨g, o + i, none⟩ = false := by
      obtain ⟨lo, hi'⟩ := fz
      simp only [World.frozen?, hg, Bool.and_eq_false_iff, decide_eq_false_iff_not]
      left
      simp only at hfz
      omega
    have hst : (store ((⟨g, o, none⟩ : Addr).add i) v).run P w = .ok () (w.setRow g (cur.setIfInBounds (o + i) v)) := by
      rw [Addr.add_lit, run_store P w _ v _ (h1 v (by simp)), hcell]
      simp [hfro, setCell_eq_setRow w g (o + i) cur t fz v hg]
    have ih := storeCells_mark P g o t fz rest (i + 1) (cur.setIfInBounds (o + i) v) (w.setRow g (cur.setIfInBounds (o + i) v)) (setRow_heap w g cur _ t _ hg) (by simpa using hfz) (by simp at hl ⊢; omega) (fun x hx => h1 x (by simp [hx]))
    simp only [storeCells, Sem.run_bind, hst, Result.andThen_ok, ih, setRow_setRow]
    congr 3
    have e := list_seg_step cur.toList (o + i) v rest (by simp at hl ⊢; omega)
    simpa [Array.toList_setIfInBounds, Nat.add_assoc] using e
theorem infoByteM : (Try.prog.info? 5).map (fun i => (i.zero, i.size, i.bytes)) = some (some (.int .u8 0), 1, 1) := by kernel_rfl
theorem run_append_M (w : World) (ty : TypeId) (base : Nat) (v : Value) (n : Nat) (xs : List Value) (hown : OwnM w base v n xs) (s : ByteArray) (hl : n + s.size ≤ 140737488355328) (hbase : base ≤ w.heap.size) :
    ∃ v' w', (Builtin.append_ #[121, 9] ty #[v, .string s]).run Try.prog w = .ok v' w' ∧ OwnM w' base v' (n + s.size) (xs ++ Lib.strCells s) ∧ Below base w w' := by
  obtain ⟨i, hi, hz, hs1, hby⟩ := info_parts infoByteM
  obtain ⟨hxl, g, cap, cur, fz, rfl, hbg, hg, hfz, hnc, hcm, hcs, htake⟩ := hown
  have ht := Try.underlying121
  have hu := Try.underlying9
  have hlen : (xs ++ Lib.strCells s).length = n + s.size := by rw [List.length_append, hxl, Lib.strCells_length]
  by_cases hroom : n + s.size ≤ cap
  · have hf := Lib.run_firstCells_string (P := Try.prog) w 1 s
    have hst : (storeCells ⟨g, n, none⟩ (Lib.strCells s) 0).run Try.prog w = .ok () (w.setRow g (cur.toList.take n ++ Lib.strCells s ++ cur.toList.drop (n + s.size)).toArray) := by
      rcases hfz with hfz | hfz
      · have := run_storeCells_atF Try.prog g n 5 fz (Lib.strCells s) 0 cur w hg (by simpa using hfz) (by simpa [Lib.strCells_length, hcs] using hroom) (Lib.strCells_oneCell s)
        simpa only [Nat.add_zero, Lib.strCells_length] using this
      · have := storeCells_mark Try.prog g n 5 fz (Lib.strCells s) 0 cur w hg (by omega) (by simpa [Lib.strCells_length, hcs] using hroom) (Lib.strCells_oneCell s)
        simpa only [Nat.add_zero, Lib.strCells_length] using this
    have hr : (Builtin.append_ #[121, 9] ty #[.slice (some ⟨g, 0, none⟩) n cap, .string s]).run Try.prog w = .ok (.slice (some ⟨g, 0, none⟩) (n + s.size) cap) (w.setRow g (cur.toList.take n ++ Lib.strCells s ++ cur.toList.drop (n + s.size)).toArray) := by
      simp [Builtin.append_, run_underlying ht, run_underlying hu, sizeOf, typeInfo, hi, hs1, Builtin.lenOf, hroom, hf, Addr.add_lit, hst]
    refine ⟨_, _, hr, ⟨hlen, g, cap, _, fz, rfl, hbg, setRow_heap w g cur _ 5 _ hg, ?_, hroom, hcm, ?_, ?_⟩, ?_⟩
    · rcases hfz with hfz | hfz
      · left; omega
      · right; exact hfz
    · simp only [List.size_toArray, List.length_append, List.length_take, List.length_drop, Array.length_toList, Lib.strCells_length]
      omega
    · rw [htake, ← hlen]
      exact List.take_left
    · exact (Below.refl base w).grown (grownBy_setRow _ _ _) hbase (fun k e => by cases e; exact hbg)
  · have holds : ∀ j u, xs[j]? = some u → w.cell? ((⟨g, 0, none⟩ : Addr).add j) = some u := fun j u hu => by
      rw [Addr.add_lit, Nat.zero_add, cell_of_row w g j cur 5 fz hg]
      rw [← htake, List.getElem?_take] at hu
      split at hu
      · simpa using hu
      · cases hu
    have hr := Lib.run_append_grow_string (P := Try.prog) w 121 9 ty 5 i (.int .u8 0) ht hu hi hz ⟨g, 0, none⟩ n cap xs (by rw [hs1]; simpa using hxl) holds s (by omega) (by omega) (by rw [hby]; exact growslice_fits (by omega) (by omega))
    have hge := grownCap_ge w (n + s.size) cap 5
    have hcm2 : grownCap w (n + s.size) cap 5 ≤ maxLen := grownCap_le_maxLen w (n + s.size) cap 5 (by unfold maxLen; omega)
    refine ⟨_, _, hr, ⟨hlen, w.heap.size, _, _, (0, 0), rfl, hbase, heap_alloc_new w.drew _, .inl (Nat.zero_le _), hge, hcm2, ?_, ?_⟩, ?_⟩
    · have hz1 : (Value.int IntKind.u8 0).cells.size = 1 := rfl
      simp only [Array.size_append, List.size_toArray, size_zeroCells, hz1, hxl, Lib.strCells_length]
      omega
    · simp only [Array.toList_append, List.append_assoc]
      rw [← List.append_assoc, ← hlen]
      exact List.take_left
    · exact ((Below.refl base w).drew).alloc hbase _
theorem wpList_append_M (w : World) {ops : Array Oper} {rest : List Oper} {o : Oper} {a : Act} {Q : Exit → Act → World → Prop} (hgd : o.guard = none) (sl x : Operand)
    (ho : o.op = .call { callee := .builtin .append, args := #[sl, x], argTypes := #[121, 9] }) (base : Nat) (v : Value) (n : Nat) (xs : List Value) (hs : a.eval sl = v) (hown : OwnM w base v n xs) (s : ByteArray) (hx : a.eval x = .string s)
    (hl : n + s.size ≤ 140737488355328) (hbase : base ≤ w.heap.size)
    (h : ∀ v' w', OwnM w' base v' (n + s.size) (xs ++ Lib.strCells s) → Below base w w' → wpList Try.prog ops Q rest (a.put o.dst v') w') : wpList Try.prog ops Q (o :: rest) a w := by
  refine wpList_plain hgd fun K hK => ?_
  obtain ⟨v', w', hr, h2, h3⟩ := run_append_M w o.type base v n xs hown s hl hbase
  unfold Oper.wp execOp
  simp only [ho, resolve, invoke, builtin, Sem.run_bind, Sem.run_pure, Result.andThen_ok, List.map_toArray, List.map_cons, List.map_nil, hs, hx, hr]
  exact hK _ _ (h v' w' h2 h3)
/-- '[]byte(s)'. -/
theorem bytes_M (w : World) (s : ByteArray) (hs : s.size ≤ 140737488355328) : ∃ v w', (convert 9 121 (.string s)).run Try.prog w = .ok v w' ∧ OwnM w' w.heap.size v s.size (Lib.strCells s) ∧ Below w.heap.size w w' := by
  have hr := Lib.run_convert_string_bytes (P := Try.prog) w 9 121 5 s Try.underlying9 Try.underlying121 Try.underlying5
  have hge := grownCap_ge w s.size 0 5
  have hcm : grownCap w s.size 0 5 ≤ maxLen := grownCap_le_maxLen w s.size 0 5 (by unfold maxLen; omega)
  have hsz : (Lib.bytesCells w 5 s).size = grownCap w s.size 0 5 := by
    unfold Lib.bytesCells
    rw [Array.size_append, Array.size_map, Array.size_replicate]
    have : s.data.size = s.size := rfl
    omega
  refine ⟨_, _, hr, ⟨Lib.strCells_length s, w.heap.size, _, _, _, rfl, Nat.le_refl _, Lib.bytesWorld_at_new w 5 s, .inr (by rw [hsz]; exact Nat.le_refl _), hge, hcm, hsz, ?_⟩, ?_⟩
  · unfold Lib.bytesCells
    rw [Array.toList_append, Array.toList_map, show (s.data.toList.map fun b => Value.int .u8 b.toNat) = Lib.strCells s from rfl, ← Lib.strCells_length s]
    exact List.take_left
  · exact Lib.below_freeze (((Below.refl w.heap.size w).drew).alloc (Nat.le_refl _) _) (p := ⟨w.heap.size, (Lib.bytesCells w 5 s).size, none⟩) (Nat.le_refl _) _
/-- 'string(b)'. -/
theorem string_M (w : World) (base : Nat) (v : Value) (l : List UInt8) (hown : OwnM w base v l.length (Lib.byteCells l)) : (convert 121 9 v).run Try.prog w = .ok (.string ⟨l.toArray⟩) w := by
  obtain ⟨g, cap, rfl, hc⟩ := hown.cells
  exact run_convert_bytes_back (P := Try.prog) w 121 9 5 ⟨g, 0, none⟩ cap l Try.underlying121 Try.underlying5 Try.underlying9 (fun j hj => hc j _ (by simp [Lib.byteCells, List.getElem?_eq_getElem hj]))
end Go.Proofs.Ytlmefnifhbcbcaa
end
