/- Joined texts of the claim RowsBytes (part 4): contracts of functions and plain laws. -/
import Derived.Test.YthfkbfahpgdnfaaJRowsBytes2
import Derived.Test.YthfkbfahpgdnfaaJRowsBytes3
import Derived.WalkLawsBesides
import Derived.Test.YthfkbfahpgdnfaaJRowsBytes0
import Derived.Maps.OwnSet
import Derived.Maps.Views
import Derived.StringKeys
import Derived.LoopTactic
section
-- Printed by this session's pr.sh (the kit's print.py, several laws in one namespace). Not trusted: Lean checks it.
namespace Go.Proofs.Ythfkbfahpgdnfaa.PAll
open Go.RowKit Go.Proofs.YthfkbfahpgdnfaaW.PrintWords Go.Proofs.YthfkbfahpgdnfaaW.PrintLast Go.Proofs.YthfkbfahpgdnfaaW.PrintMore
attribute [local go_sem] max2_int min2_int max_two min_two max_three min_three max_four min_four   -- for this text's walks alone
set_option linter.unusedVariables false
set_option linter.unusedSimpArgs false

theorem eqA64 (d : Nat) (w : World) (x0 y0 : ByteArray) (x1 y1 : ByteArray) (x2 y2 : Int) :
    (Op.equalIn (d + 2) 64 (.agg #[.string x0, .string x1, .int .u64 x2]) (.agg #[.string y0, .string y1, .int .u64 y2])).run Try.prog w = .ok (x0.toList == y0.toList && (x1.toList == y1.toList && (x2 == y2))) w := by
  refine eqA_of Try.underlying64 (by kernel_rfl) ?_
  refine eqf_cons (by rfl) (by go_simp; rfl) (by go_simp; rfl) (by go_simp) ?_
  refine eqf_cons (by rfl) (by go_simp; rfl) (by go_simp; rfl) (by go_simp) ?_
  exact eqf_last (by rfl) (by go_simp; rfl) (by go_simp; rfl) (by go_simp)
end Go.Proofs.Ythfkbfahpgdnfaa.PAll
end
section
/- Contracts of slices.Clone, slices.IndexFunc at rows, and of rows.at, as the printed texts call them; the closures of rows.at and rows.Do. -/
namespace Go.Proofs.Ythfkbfahpgdnfaa.PAll
open Go.RowKit Go.Proofs.YthfkbfahpgdnfaaW.PrintWords Go.Proofs.Ythfkbfahpgdnfaa
set_option linter.unusedVariables false
def api_Row_57.f (l0 : List S64) : Option (List S64) := if l0.length < 3518437208883 then some l0 else none
theorem api_Row_57.calls (A0 : Option Addr) (c0 : Nat) (l0 : List S64) (r : List S64) (w : World) (hr0 : Kd.C k64 w A0 l0.length l0) (hc0 : l0.length ≤ c0) (h : api_Row_57.f l0 = some r) :
    Calls Try.prog 57 #[.slice A0 l0.length c0] w fun e w' => ∃ v0_ : Value, e = .returned (v0_) ∧ Kd.R k64 64 w' w.heap.size (fun _ => True) v0_ r ∧ Below w.heap.size w w' := by
  unfold api_Row_57.f at h
  split at h
  · obtain rfl := Option.some.inj h
    refine (CloneRow _ (l0.map enc64) w (flat64.sl ⟨A0, c0, rfl, hc0, hr0⟩) (by rw [List.length_map]; omega)).mono ?_
    rintro e w' ⟨v, he, ho, hb⟩
    exact ⟨v, he, flat64.R ho (fun _ _ => trivial), hb⟩
  · cases h
theorem rowsAt1 (B : Nat) (text : ByteArray) (x : S64) (W : World) (hB : W.cell? ⟨B, 0, none⟩ = some (.string text)) :
    Calls Try.prog 76 #[.agg (enc64 x).toArray, .pointer (some ⟨B, 0, none⟩)] W fun e W' => e = .returned (.bool (x.f0.toList == text.toList)) ∧ Below W.heap.size W W' := by
  unfold enc64
  have hlt := World.block_lt_of_cell? W _ hB
  have hc : (W.alloc (.cells #[.string x.f0, .string x.f1, .int .u64 x.f2] 64)).cell? ⟨B, 0, none⟩ = some (.string text) := (Below.cell ((Below.refl _ W).alloc (Nat.le_refl _) _) hlt).trans hB
  go_enter Try.func76, Try.ntmps76
  go_wp2
  go_ret
  exact ⟨rfl, (Below.refl _ W).alloc (Nat.le_refl _) _⟩
theorem rowsDo1 (B : Nat) (text : ByteArray) (x : S64) (W : World) (hB : W.cell? ⟨B, 0, none⟩ = some (.string text)) :
    Calls Try.prog 59 #[.agg (enc64 x).toArray, .pointer (some ⟨B, 0, none⟩)] W fun e W' => e = .returned (.bool (x.f0.toList == text.toList)) ∧ Below W.heap.size W W' := by
  unfold enc64
  have hlt := World.block_lt_of_cell? W _ hB
  have hc : (W.alloc (.cells #[.string x.f0, .string x.f1, .int .u64 x.f2] 64)).cell? ⟨B, 0, none⟩ = some (.string text) := (Below.cell ((Below.refl _ W).alloc (Nat.le_refl _) _) hlt).trans hB
  go_enter Try.func59, Try.ntmps59
  go_wp2
  go_ret
  exact ⟨rfl, (Below.refl _ W).alloc (Nat.le_refl _) _⟩
theorem rowsDo2 (B : Nat) (text : ByteArray) (x : S64) (W : World) (hB : W.cell? ⟨B, 0, none⟩ = some (.string text)) :
    Calls Try.prog 62 #[.agg (enc64 x).toArray, .pointer (some ⟨B, 0, none⟩)] W fun e W' => e = .returned (.bool (!Op.bytesLess x.f0.toList text.toList && !x.f0.toList == text.toList)) ∧ Below W.heap.size W W' := by
  unfold enc64
  have hlt := World.block_lt_of_cell? W _ hB
  have hc : (W.alloc (.cells #[.string x.f0, .string x.f1, .int .u64 x.f2] 64)).cell? ⟨B, 0, none⟩ = some (.string text) := (Below.cell ((Below.refl _ W).alloc (Nat.le_refl _) _) hlt).trans hB
  go_enter Try.func62, Try.ntmps62
  go_wp2
  go_ret
  exact ⟨rfl, (Below.refl _ W).alloc (Nat.le_refl _) _⟩
def rows_at.f (l0 : List S64) (a1 : ByteArray) : Option Int := some (findI (fun x : S64 => x.f0.toList == a1.toList) l0)
theorem rows_at_sl (v : Value) (l0 : List S64) (a1 : ByteArray) (w : World) (hv : Sl k64 w v l0) :
    Calls Try.prog 60 #[v, .string a1] w fun e w' => e = .returned (.int .i64 (findI (fun x : S64 => x.f0.toList == a1.toList) l0)) ∧ Below w.heap.size w w' := by
  have HV := Aside0.mk hv
  clear hv
  go_enter Try.func60, Try.ntmps60
  have hcell : (w.alloc (.cells #[.string a1] 9)).cell? ⟨w.heap.size, 0, none⟩ = some (.string a1) := cell_row (cs := [.string a1]) (heap_alloc_new w _) 0
  have HP := Aside0.mk (show Pred Try.prog 76 #[.pointer (some ⟨w.heap.size, 0, none⟩)] (fun cs => .agg cs.toArray) k64 (w.alloc (.cells #[.string a1] 9)) l0 (fun x => x.f0.toList == a1.toList) from fun W x cs hb _ hK => by
    obtain rfl := flat64.openK _ _ _ hK
    exact rowsAt1 w.heap.size a1 x W ((hb.cell (World.block_lt_of_cell? _ _ hcell)).trans hcell))
  clear hcell
  go_wp2_with (go_at_call 61; refine (IndexFuncRow k64 rfl (fun x => x.f0.toList == a1.toList) 76 #[.pointer (some ⟨w.heap.size, 0, none⟩)] (enters_of Try.func76 (by kernel_rfl) rfl) v l0 _ (HV.out.below ((Below.refl _ w).alloc (Nat.le_refl _) _)) HP.out).mono ?_; rintro e w2 ⟨rfl, hb2⟩)
  go_ret
  exact ⟨rfl, ((Below.refl _ w).alloc (Nat.le_refl _) _).trans (hb2.mono (by simp))⟩
theorem rows_at.calls (A0 : Option Addr) (c0 : Nat) (l0 : List S64) (a1 : ByteArray) (r : Int) (w : World) (hr0 : Kd.C k64 w A0 l0.length l0) (hc0 : l0.length ≤ c0) (h : rows_at.f l0 a1 = some r) :
    Calls Try.prog 60 #[.slice A0 l0.length c0, .string a1] w fun e w' => e = .returned (.int .i64 r) ∧ Below w.heap.size w w' := by
  obtain rfl := Option.some.inj h
  exact rows_at_sl _ l0 a1 w ⟨A0, c0, rfl, hc0, hr0⟩
end Go.Proofs.Ythfkbfahpgdnfaa.PAll
end
section
/- rows.Fits, as the printed texts call it. -/
namespace Go.Proofs.Ythfkbfahpgdnfaa.PAll
open Go.RowKit Go.WideMaps Go.Maps Go.Proofs.YthfkbfahpgdnfaaW.PrintWords Go.Proofs.Ythfkbfahpgdnfaa
set_option linter.unusedVariables false
/-- A put that can't be done, whatever others there are. -/
def badPut (x : S52) : Bool := !(decide (1 ≤ x.f0.size) && decide (x.f0.size ≤ 16)) || decide (32 < x.f1.size) || (x.f2 && !(x.f1.toList == []))
def hasKey (p : List S52) (s : ByteArray) : Bool := p.any (fun y => y.f0.toList == s.toList)
def fitsGo : List S52 → List S52 → Int
  | [], _ => 0
  | x :: r, done => if badPut x || hasKey done x.f0 then 1 else fitsGo r (done ++ [x])
def fitsV (p : List S52) : Int := if 8 < p.length then 4 else fitsGo p []
def rows_Fits.f (l0 : List S52) : Option Int := some (fitsV l0)
def keyLit (s : ByteArray) : Lit := .string s.toList
def hadD (p : List S52) : DataW Nat := p.foldl (fun D x => D.put (keyLit x.f0) (.lit (.bool true))) (.map [])
theorem hadD_snoc (p : List S52) (x : S52) : hadD (p ++ [x]) = (hadD p).put (keyLit x.f0) (.lit (.bool true)) := by simp [hadD]
theorem hadD_map : ∀ (p : List S52) (D : DataW Nat), IsMap D → IsMap (p.foldl (fun D x => D.put (keyLit x.f0) (.lit (.bool true))) D)
  | [], D, h => h
  | x :: r, D, h => hadD_map r _ (by obtain ⟨es, rfl⟩ := h; exact ⟨_, rfl⟩)
theorem hadD_at (s : ByteArray) : ∀ (p : List S52) (D : DataW Nat), IsMap D → (p.foldl (fun D x => D.put (keyLit x.f0) (.lit (.bool true))) D).atKey (keyLit s) (.lit (.bool false)) = if hasKey p s then .lit (.bool true) else D.atKey (keyLit s) (.lit (.bool false))
  | [], D, h => by simp [hasKey]
  | x :: r, D, h => by
    rw [List.foldl_cons, hadD_at s r _ (by obtain ⟨es, rfl⟩ := h; exact ⟨_, rfl⟩)]
    by_cases hr : hasKey r s = true
    · rw [if_pos hr, if_pos (by unfold hasKey at hr ⊢; rw [List.any_cons, hr, Bool.or_true])]
    · rw [if_neg hr]
      by_cases hx : x.f0.toList = s.toList
      · rw [if_pos (by unfold hasKey; rw [List.any_cons, beq_iff_eq.2 hx, Bool.true_or]), show keyLit s = keyLit x.f0 by unfold keyLit; rw [hx], atKey_put_same h (show WideAt.IsKeyLit (keyLit x.f0) from trivial)]
      · rw [if_neg (by unfold hasKey at hr ⊢; rw [List.any_cons, beq_eq_false_iff_ne.2 hx, Bool.false_or]; exact hr), atKey_put_other (by unfold keyLit; intro e; exact hx (Lit.string.inj e).symm)]
theorem zeroB (w : World) : (zeroValue 4).run Try.prog w = .ok (.bool false) w := by kernel_rfl
theorem ownsMap_below {H : Type} {P : Program} {k : TypeId} {R : Value → Option (DataW H × List MemPlace)} {w w' : World} {b n q : Nat} {D : DataW H} (h : w.ownsMap P k R b n D) (hb : Below q w w') (hlt : b < q) : w'.ownsMap P k R b n D := by
  obtain ⟨es, clock, h1, h2⟩ := h
  exact ⟨es, clock, (hb.block b hlt).trans h1, h2⟩
theorem plainBool_inv {P : Program} {e : TypeId} (he : P.underlying e = some .bool) {v : Value} {z : DataW Nat × List MemPlace} (h : plainElem P e v = some z) : ∃ x, v = .bool x ∧ z.1 = .lit (.bool x) := by
  unfold plainElem at h
  rw [he] at h
  cases v <;> simp at h
  exact ⟨_, rfl, by rw [← h]⟩
theorem had_lookup {p : List S52} {w : World} {b n : Nat} (h : w.ownsMap Try.prog 9 (plainElem Try.prog 4) b n (hadD p)) (s : ByteArray) (hs : s.size ≤ 16) :
    (Instr.lookup 89 (.map (some b)) (.string s) false).run Try.prog w = .ok (.bool (hasKey p s)) w := by
  have hkey : keyOf Try.prog 9 (.string s) = some (keyLit s) := by
    have := keyOf_string_mk (P := Try.prog) Try.underlying9 (s := s) (by unfold maxLen; omega)
    rw [this]; unfold keyLit; rw [ByteArray.toList_eq]
  obtain ⟨v, ps, h1, h2⟩ := h.lookup (string_keyed Try.underlying9) Try.underlying89 (zeroB w) (plainElem_bool Try.underlying4 false) hkey
  obtain ⟨x, rfl, hx⟩ := plainBool_inv Try.underlying4 h2
  rw [h1]
  have := hadD_at s p (.map []) ⟨[], rfl⟩
  dsimp only at hx
  rw [show hadD p = p.foldl (fun D x => D.put (keyLit x.f0) (.lit (.bool true))) (.map []) from rfl, this] at hx
  by_cases hk : hasKey p s = true
  · rw [if_pos hk] at hx; cases hx; rw [hk]
  · rw [if_neg hk] at hx; cases hx; rw [Bool.eq_false_iff.2 hk]
end Go.Proofs.Ythfkbfahpgdnfaa.PAll
end
section
/- rows.Fits, walked. -/
namespace Go.Proofs.Ythfkbfahpgdnfaa.PAll
open Go.RowKit Go.WideMaps Go.Maps Go.Proofs.YthfkbfahpgdnfaaW.PrintWords Go.Proofs.Ythfkbfahpgdnfaa
set_option linter.unusedVariables false
theorem fitsGo_step (l : List S52) (j : Nat) (hj : j < l.length) : fitsGo (l.drop j) (l.take j) = if badPut (l[j]!) || hasKey (l.take j) (l[j]!).f0 then 1 else fitsGo (l.drop (j + 1)) (l.take (j + 1)) := by
  rw [List.drop_eq_getElem_cons hj, fitsGo, List.take_succ_eq_append_getElem hj, getElem!_pos l j hj]
theorem cell_at {W : World} {b i : Nat} {cs : Array Value} {t : TypeId} {v : Value} (h : W.heap[b]? = some (.cells cs t)) (hv : cs[i]? = some v) : W.cell? ⟨b, i, none⟩ = some v := by
  simp [World.cell?, h, hv]
theorem key_ok (s : ByteArray) (hs : s.size ≤ 16) : keyOf Try.prog 9 (.string s) = some (keyLit s) := by
  have := keyOf_string_mk (P := Try.prog) Try.underlying9 (s := s) (by unfold maxLen; omega)
  rw [this]; unfold keyLit; rw [ByteArray.toList_eq]
theorem named_val (s : ByteArray) : rows_named.f s = some (decide (1 ≤ s.size) && decide (s.size ≤ 16)) := by
  unfold rows_named.f
  by_cases h : (s.size : Int) ≥ 1
  · rw [if_pos h, decide_eq_true (show 1 ≤ s.size by omega)]
    simp; omega
  · rw [if_neg h, decide_eq_false (show ¬ 1 ≤ s.size by omega)]
    rfl
set_option maxRecDepth 100000 in
set_option maxHeartbeats 4000000 in
theorem rows_Fits.calls (A0 : Option Addr) (c0 : Nat) (l0 : List S52) (r : Int) (w : World) (hr0 : Kd.C k52 w A0 l0.length l0) (hc0 : l0.length ≤ c0) (h : rows_Fits.f l0 = some r) :
    Calls Try.prog 31 #[.slice A0 l0.length c0] w fun e w' => e = .returned (.int .i64 r) ∧ Below w.heap.size w w' := by
  obtain rfl := Option.some.inj h
  have HR := Aside0.mk hr0
  clear h hr0
  have hmm := @run_makeMap Try.prog
  by_cases hbig : 8 < l0.length
  · have hv : fitsV l0 = 4 := by unfold fitsV; rw [if_pos hbig]
    rw [hv]
    have hbigz : (8 : Int) < (l0.length : Int) := by omega
    go_enter Try.func31, Try.ntmps31
    go_wp2
    go_ret
    exact ⟨rfl, Below.refl _ _⟩
  · have hv : fitsV l0 = fitsGo (l0.drop 0) (l0.take 0) := by unfold fitsV; rw [if_neg hbig, List.drop_zero, List.take_zero]
    rw [hv]
    have hbigz : ¬ (8 : Int) < (l0.length : Int) := by omega
    generalize hr : fitsGo (l0.drop 0) (l0.take 0) = r
    go_enter Try.func31, Try.ntmps31
    go_wp2
    go_loopw [12] (fun i wr => ∃ j : Nat, j ≤ l0.length ∧ i = .int .i64 j ∧ Aside0 (fitsGo (l0.drop j) (l0.take j) = r) ∧ Aside0 (wr.ownsMap Try.prog 9 (plainElem Try.prog 4) w.heap.size j (hadD (l0.take j))) ∧ Aside0 (Below w.heap.size w wr)) (fun i _ => l0.length - (intOf i).toNat)
    case atStart => exact ⟨0, Nat.zero_le _, rfl, ⟨hr⟩, ⟨World.ownsMap_made _ _ _ _⟩, ⟨(Below.refl _ _).alloc (Nat.le_refl _) _⟩⟩
    case round =>
      obtain ⟨j, hj, rfl, HF, HM, HB⟩ := hrel
      by_cases hlt : j < l0.length
      · have hltz : (j : Int) < (l0.length : Int) := by omega
        obtain ⟨b, o, rfl, hrow⟩ := C_row (Kd.C_below HR.out HB.out) (by decide) (by omega)
        obtain ⟨cs, hcs, hK, hrg⟩ := hrow j hlt
        obtain rfl := flat52.openK _ _ _ hK
        have hc0_ : wr.cell? ⟨b, o + j * 3, none⟩ = some (.string (l0[j]!).f0) := hrg 0 _ rfl
        have hc1_ : wr.cell? ⟨b, o + j * 3 + 1, none⟩ = some (.string (l0[j]!).f1) := hrg 1 _ rfl
        have hc2_ : wr.cell? ⟨b, o + j * 3 + 2, none⟩ = some (.bool (l0[j]!).f2) := hrg 2 _ rfl
        have HS := Aside0.mk (fitsGo_step l0 j hlt)
        have HT : Aside0 (hadD (l0.take (j + 1)) = (hadD (l0.take j)).put (keyLit (l0[j]!).f0) (.lit (.bool true))) := ⟨by rw [List.take_succ_eq_append_getElem hlt, hadD_snoc, getElem!_pos l0 j hlt]⟩
        clear hrow hrg hK hcs HR
        generalize l0[j]! = x at *
        have HN := Aside0.mk (named_val x.f0)
        obtain ⟨nb, hnb⟩ : ∃ nb, nb = (decide (1 ≤ x.f0.size) && decide (x.f0.size ≤ 16)) := ⟨_, rfl⟩
        rw [← hnb] at HN
        have HNB := Aside0.mk hnb
        clear hnb
        have hr1 (hb : (badPut x || hasKey (l0.take j) x.f0) = true) : r = 1 := by rw [← HF.out, HS.out, if_pos hb]
        cases nb with
        | false =>
          have hb : (badPut x || hasKey (l0.take j) x.f0) = true := by unfold badPut; rw [← HNB.out]; rfl
          obtain rfl := hr1 hb
          go_wp2_with (go_at_call 56; refine (rows_named.calls _ _ _ HN.out).mono ?_; rintro e w1 ⟨rfl, hd⟩; have hb1 := hd.below; clear hd)
          go_ret
          exact ⟨rfl, (HB.out.alloc HB.out.size _).trans (hb1.mono (by simp; have := HB.out.size; omega))⟩
        | true =>
          have h16 : x.f0.size ≤ 16 := by
            have := HNB.out.symm
            rw [Bool.and_eq_true] at this
            exact of_decide_eq_true this.2
          have hbad : badPut x = true ↔ ((32 : Int) < x.f1.size ∨ (x.f2 = true ∧ ¬ x.f1.toList = [])) := by
            have e32 : ((32 : Int) < (x.f1.size : Int)) = (32 < x.f1.size) := propext (by omega)
            unfold badPut
            rw [← HNB.out, e32, Bool.or_eq_true, Bool.or_eq_true, Bool.and_eq_true, decide_eq_true_eq]
            simp
          have HX := Aside0.mk ((MapKept.heap_alloc wr (.cells #[.string x.f0, .string x.f1, .bool x.f2] 52)).1)
          go_wp2_with (first
            | (go_at_call 56; refine (rows_named.calls _ _ _ HN.out).mono ?_; rintro e w1 ⟨rfl, hd⟩; have hb1 := hd.below; clear hd; have hM1 := ownsMap_below (World.ownsMap.alloc HM.out _) hb1 (by simp; have := HM.out.lt; omega); have hlk := had_lookup hM1 x.f0 h16; have hbx := (hb1.block wr.heap.size (by simp)).trans HX.out; have hx0 : w1.cell? ⟨wr.heap.size, 0, none⟩ = some (.string x.f0) := cell_at hbx rfl; have hx1 : w1.cell? ⟨wr.heap.size, 1, none⟩ = some (.string x.f1) := cell_at hbx rfl; have hx2 : w1.cell? ⟨wr.heap.size, 2, none⟩ = some (.bool x.f2) := cell_at hbx rfl; have HB1 := Aside0.mk ((HB.out.alloc HB.out.size (.cells #[.string x.f0, .string x.f1, .bool x.f2] 52)).trans (hb1.mono (by simp; have := HB.out.size; omega))); have HM1 := Aside0.mk hM1; clear hM1 hbx hb1)
            | (at_mapUpdate; refine wpList_mapUpdate_own _ rfl _ _ _ 89 rfl 9 4 (string_keyed Try.underlying9) Try.underlying89 _ w.heap.size j (hadD (l0.take j)) rfl HM1.out (by unfold maxLen; omega) _ _ (keyLit x.f0) rfl rfl (key_ok x.f0 h16) (.lit (.bool true)) [] (plainElem_bool Try.underlying4 true) ?_; intro w2 hM2 hg2; have HM2 := Aside0.mk hM2; have HG2 := Aside0.mk hg2; clear hM2 hg2))
          all_goals first
            | (have e : r = 1 := hr1 (by rw [Bool.or_eq_true, hbad]; clear HN HNB HX hlk hx0 hx1 hx2 HB1 HM1 HF HM HB HS HT hmm; grind)
               subst e
               go_ret
               exact ⟨rfl, HB1.out⟩)
            | (have e : ¬ (badPut x || hasKey (l0.take j) x.f0) = true := by rw [Bool.or_eq_true, hbad]; clear HN HNB HX hlk hx0 hx1 hx2 HB1 HM1 HM2 HG2 HF HM HB HS HT hmm; grind
               exact ⟨⟨j + 1, by omega, by simp, ⟨by rw [← HF.out, HS.out, if_neg e]⟩, ⟨by rw [HT.out]; exact HM2.out⟩, ⟨HB1.out.grown HG2.out HB1.out.size (fun k e => by cases e; exact Nat.le_refl _)⟩⟩, by simp [intOf]; omega⟩)
      · obtain rfl : j = l0.length := by omega
        go_wp2
        go_ret
        have hf := HF.out
        rw [List.drop_length] at hf
        have h0 : (0 : Int) = r := hf
        subst h0
        exact ⟨rfl, HB.out⟩
end Go.Proofs.Ythfkbfahpgdnfaa.PAll
end
