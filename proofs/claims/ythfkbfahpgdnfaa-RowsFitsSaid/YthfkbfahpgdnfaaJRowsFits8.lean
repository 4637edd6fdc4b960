/- Joined texts of the claim RowsFits (part 8): contracts of functions and plain laws. -/
import Derived.Test.YthfkbfahpgdnfaaJRowsFits2
import Derived.Test.YthfkbfahpgdnfaaJRowsFits6
import Derived.WalkLawsBesides
import Derived.Test.YthfkbfahpgdnfaaJRowsFits0
import Derived.Maps.OwnSet
import Derived.Maps.Views
import Derived.StringKeys
import Derived.LoopTactic
section
/- Contracts of slices.Clone, slices.IndexFunc at rows, and of rows.at, as the printed texts call them; the closures of rows.at and rows.Do. -/
namespace Go.Proofs.Ythfkbfahpgdnfaa.PAll
open Go.RowKit Go.Proofs.YthfkbfahpgdnfaaW.PrintWords Go.Proofs.Ythfkbfahpgdnfaa
set_option linter.unusedVariables false
def api_Row_57.f (l0 : List S64) : Option (List S64) := if l0.length < 3518437208883 then some l0 else none
theorem api_Row_57.calls (A0 : Option Addr) (c0 : Nat) (l0 : List S64) (r : List S64) (w : World) (hr0 : Kd.C k64 w A0 l0.length l0) (hc0 : l0.length ≤ c0) (h : api_Row_57.f l0 = some r) :
    Calls Try.prog 57 #[.slice A0 l0.length c0] w fun e w' => ∃ v0_ : Value, e = .returned (v0_) ∧ Kd.R k64 64 w' w.heap.size (fun _ => True) v0_ r ∧ Below w.heap.size w w' := by
  unfold api_Row_57.f at h
  split at h
  · obtain rfl := Option.some.inj h
    refine (CloneRow _ (l0.map enc64) w (flat64.sl ⟨A0, c0, rfl, hc0, hr0⟩) (by rw [List.length_map]; omega)).mono ?_
    rintro e w' ⟨v, he, ho, hb⟩
    exact ⟨v, he, flat64.R ho (fun _ _ => trivial), hb⟩
  · cases h
theorem rowsAt1 (B : Nat) (text : ByteArray) (x : S64) (W : World) (hB : W.cell? ⟨B, 0, none⟩ = some (.string text)) :
    Calls Try.prog 76 #[.agg (enc64 x).toArray, .pointer (some ⟨B, 0, none⟩)] W fun e W' => e = .returned (.bool (x.f0.toList == text.toList)) ∧ Below W.heap.size W W' := by
  unfold enc64
  have hlt := World.block_lt_of_cell? W _ hB
  have hc : (W.alloc (.cells #[.string x.f0, .string x.f1, .int .u64 x.f2] 64)).cell? ⟨B, 0, none⟩ = some (.string text) := (Below.cell ((Below.refl _ W).alloc (Nat.le_refl _) _) hlt).trans hB
  go_enter Try.func76, Try.ntmps76
  go_wp2
  go_ret
  exact ⟨rfl, (Below.refl _ W).alloc (Nat.le_refl _) _⟩
theorem rowsDo1 (B : Nat) (text : ByteArray) (x : S64) (W : World) (hB : W.cell? ⟨B, 0, none⟩ = some (.string text)) :
    Calls Try.prog 59 #[.agg (enc64 x).toArray, .pointer (some ⟨B, 0, none⟩)] W fun e W' => e = .returned (.bool (x.f0.toList == text.toList)) ∧ Below W.heap.size W W' := by
  unfold enc64
  have hlt := World.block_lt_of_cell? W _ hB
  have hc : (W.alloc (.cells #[.string x.f0, .string x.f1, .int .u64 x.f2] 64)).cell? ⟨B, 0, none⟩ = some (.string text) := (Below.cell ((Below.refl _ W).alloc (Nat.le_refl _) _) hlt).trans hB
  go_enter Try.func59, Try.ntmps59
  go_wp2
  go_ret
  exact ⟨rfl, (Below.refl _ W).alloc (Nat.le_refl _) _⟩
theorem rowsDo2 (B : Nat) (text : ByteArray) (x : S64) (W : World) (hB : W.cell? ⟨B, 0, none⟩ = some (.string text)) :
    Calls Try.prog 62 #[.agg (enc64 x).toArray, .pointer (some ⟨B, 0, none⟩)] W fun e W' => e = .returned (.bool (!Op.bytesLess x.f0.toList text.toList && !x.f0.toList == text.toList)) ∧ Below W.heap.size W W' := by
  unfold enc64
  have hlt := World.block_lt_of_cell? W _ hB
  have hc : (W.alloc (.cells #[.string x.f0, .string x.f1, .int .u64 x.f2] 64)).cell? ⟨B, 0, none⟩ = some (.string text) := (Below.cell ((Below.refl _ W).alloc (Nat.le_refl _) _) hlt).trans hB
  go_enter Try.func62, Try.ntmps62
  go_wp2
  go_ret
  exact ⟨rfl, (Below.refl _ W).alloc (Nat.le_refl _) _⟩
def rows_at.f (l0 : List S64) (a1 : ByteArray) : Option Int := some (findI (fun x : S64 => x.f0.toList == a1.toList) l0)
theorem rows_at_sl (v : Value) (l0 : List S64) (a1 : ByteArray) (w : World) (hv : Sl k64 w v l0) :
    Calls Try.prog 60 #[v, .string a1] w fun e w' => e = .returned (.int .i64 (findI (fun x : S64 => x.f0.toList == a1.toList) l0)) ∧ Below w.heap.size w w' := by
  have HV := Aside0.mk hv
  clear hv
  go_enter Try.func60, Try.ntmps60
  have hcell : (w.alloc (.cells #[.string a1] 9)).cell? ⟨w.heap.size, 0, none⟩ = some (.string a1) := cell_row (cs := [.string a1]) (heap_alloc_new w _) 0
  have HP := Aside0.mk (show Pred Try.prog 76 #[.pointer (some ⟨w.heap.size, 0, none⟩)] (fun cs => .agg cs.toArray) k64 (w.alloc (.cells #[.string a1] 9)) l0 (fun x => x.f0.toList == a1.toList) from fun W x cs hb _ hK => by
    obtain rfl := flat64.openK _ _ _ hK
    exact rowsAt1 w.heap.size a1 x W ((hb.cell (World.block_lt_of_cell? _ _ hcell)).trans hcell))
  clear hcell
  go_wp2_with (go_at_call 61; refine (IndexFuncRow k64 rfl (fun x => x.f0.toList == a1.toList) 76 #[.pointer (some ⟨w.heap.size, 0, none⟩)] (enters_of Try.func76 (by kernel_rfl) rfl) v l0 _ (HV.out.below ((Below.refl _ w).alloc (Nat.le_refl _) _)) HP.out).mono ?_; rintro e w2 ⟨rfl, hb2⟩)
  go_ret
  exact ⟨rfl, ((Below.refl _ w).alloc (Nat.le_refl _) _).trans (hb2.mono (by simp))⟩
theorem rows_at.calls (A0 : Option Addr) (c0 : Nat) (l0 : List S64) (a1 : ByteArray) (r : Int) (w : World) (hr0 : Kd.C k64 w A0 l0.length l0) (hc0 : l0.length ≤ c0) (h : rows_at.f l0 a1 = some r) :
    Calls Try.prog 60 #[.slice A0 l0.length c0, .string a1] w fun e w' => e = .returned (.int .i64 r) ∧ Below w.heap.size w w' := by
  obtain rfl := Option.some.inj h
  exact rows_at_sl _ l0 a1 w ⟨A0, c0, rfl, hc0, hr0⟩
end Go.Proofs.Ythfkbfahpgdnfaa.PAll
end
section
/- rows.Fits, as the printed texts call it. -/
namespace Go.Proofs.Ythfkbfahpgdnfaa.PAll
open Go.RowKit Go.WideMaps Go.Maps Go.Proofs.YthfkbfahpgdnfaaW.PrintWords Go.Proofs.Ythfkbfahpgdnfaa
set_option linter.unusedVariables false
/-- A put that can't be done, whatever others there are. -/
def badPut (x : S52) : Bool := !(decide (1 ≤ x.f0.size) && decide (x.f0.size ≤ 16)) || decide (32 < x.f1.size) || (x.f2 && !(x.f1.toList == []))
def hasKey (p : List S52) (s : ByteArray) : Bool := p.any (fun y => y.f0.toList == s.toList)
def fitsGo : List S52 → List S52 → Int
  | [], _ => 0
  | x :: r, done => if badPut x || hasKey done x.f0 then 1 else fitsGo r (done ++ [x])
def fitsV (p : List S52) : Int := if 8 < p.length then 4 else fitsGo p []
def rows_Fits.f (l0 : List S52) : Option Int := some (fitsV l0)
def keyLit (s : ByteArray) : Lit := .string s.toList
def hadD (p : List S52) : DataW Nat := p.foldl (fun D x => D.put (keyLit x.f0) (.lit (.bool true))) (.map [])
theorem hadD_snoc (p : List S52) (x : S52) : hadD (p ++ [x]) = (hadD p).put (keyLit x.f0) (.lit (.bool true)) := by simp [hadD]
theorem hadD_map : ∀ (p : List S52) (D : DataW Nat), IsMap D → IsMap (p.foldl (fun D x => D.put (keyLit x.f0) (.lit (.bool true))) D)
  | [], D, h => h
  | x :: r, D, h => hadD_map r _ (by obtain ⟨es, rfl⟩ := h; exact ⟨_, rfl⟩)
theorem hadD_at (s : ByteArray) : ∀ (p : List S52) (D : DataW Nat), IsMap D → (p.foldl (fun D x => D.put (keyLit x.f0) (.lit (.bool true))) D).atKey (keyLit s) (.lit (.bool false)) = if hasKey p s then .lit (.bool true) else D.atKey (keyLit s) (.lit (.bool false))
  | [], D, h => by simp [hasKey]
  | x :: r, D, h => by
    rw [List.foldl_cons, hadD_at s r _ (by obtain ⟨es, rfl⟩ := h; exact ⟨_, rfl⟩)]
    by_cases hr : hasKey r s = true
    · rw [if_pos hr, if_pos (by unfold hasKey at hr ⊢; rw [List.any_cons, hr, Bool.or_true])]
    · rw [if_neg hr]
      by_cases hx : x.f0.toList = s.toList
      · rw [if_pos (by unfold hasKey; rw [List.any_cons, beq_iff_eq.2 hx, Bool.true_or]), show keyLit s = keyLit x.f0 by unfold keyLit; rw [hx], atKey_put_same h (show WideAt.IsKeyLit (keyLit x.f0) from trivial)]
      · rw [if_neg (by unfold hasKey at hr ⊢; rw [List.any_cons, beq_eq_false_iff_ne.2 hx, Bool.false_or]; exact hr), atKey_put_other (by unfold keyLit; intro e; exact hx (Lit.string.inj e).symm)]
theorem zeroB (w : World) : (zeroValue 4).run Try.prog w = .ok (.bool false) w := by kernel_rfl
theorem ownsMap_below {H : Type} {P : Program} {k : TypeId} {R : Value → Option (DataW H × List MemPlace)} {w w' : World} {b n q : Nat} {D : DataW H} (h : w.ownsMap P k R b n D) (hb : Below q w w') (hlt : b < q) : w'.ownsMap P k R b n D := by
  obtain ⟨es, clock, h1, h2⟩ := h
  exact ⟨es, clock, (hb.block b hlt).trans h1, h2⟩
theorem plainBool_inv {P : Program} {e : TypeId} (he : P.underlying e = some .bool) {v : Value} {z : DataW Nat × List MemPlace} (h : plainElem P e v = some z) : ∃ x, v = .bool x ∧ z.1 = .lit (.bool x) := by
  unfold plainElem at h
  rw [he] at h
  cases v <;> simp at h
  exact ⟨_, rfl, by rw [← h]⟩
theorem had_lookup {p : List S52} {w : World} {b n : Nat} (h : w.ownsMap Try.prog 9 (plainElem Try.prog 4) b n (hadD p)) (s : ByteArray) (hs : s.size ≤ 16) :
    (Instr.lookup 89 (.map (some b)) (.string s) false).run Try.prog w = .ok (.bool (hasKey p s)) w := by
  have hkey : keyOf Try.prog 9 (.string s) = some (keyLit s) := by
    have := keyOf_string_mk (P := Try.prog) Try.underlying9 (s := s) (by unfold maxLen; omega)
    rw [this]; unfold keyLit; rw [ByteArray.toList_eq]
  obtain ⟨v, ps, h1, h2⟩ := h.lookup (string_keyed Try.underlying9) Try.underlying89 (zeroB w) (plainElem_bool Try.underlying4 false) hkey
  obtain ⟨x, rfl, hx⟩ := plainBool_inv Try.underlying4 h2
  rw [h1]
  have := hadD_at s p (.map []) ⟨[], rfl⟩
  dsimp only at hx
  rw [show hadD p = p.foldl (fun D x => D.put (keyLit x.f0) (.lit (.bool true))) (.map []) from rfl, this] at hx
  by_cases hk : hasKey p s = true
  · rw [if_pos hk] at hx; cases hx; rw [hk]
  · rw [if_neg hk] at hx; cases hx; rw [Bool.eq_false_iff.2 hk]
end Go.Proofs.Ythfkbfahpgdnfaa.PAll
end
