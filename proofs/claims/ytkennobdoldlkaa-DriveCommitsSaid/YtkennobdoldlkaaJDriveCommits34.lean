/- Joined texts of the claim DriveCommits (part 34): contracts of functions and plain laws. -/
import Derived.LoopTactic
import Derived.Maps.OwnSet
import Derived.Maps.Views
import Derived.StringKeys
import Derived.Test.YtkennobdoldlkaaJDriveCommits14
import Derived.Test.YtkennobdoldlkaaJDriveCommits2
import Derived.Test.YtkennobdoldlkaaJDriveCommits33
section
/- rows.Fits, as the printed texts call it. -/
namespace Go.Proofs.Ytkennobdoldlkaa.PAll
open Go.RowKit Go.WideMaps Go.Maps Go.Proofs.YtkennobdoldlkaaW.PrintWords Go.Proofs.Ytkennobdoldlkaa
set_option linter.unusedVariables false
/-- A put that can't be done, whatever others there are. -/
def badPut (x : S74) : Bool := !(decide (1 ≤ x.f0.size) && decide (x.f0.size ≤ 16)) || decide (32 < x.f1.size) || (x.f2 && !(x.f1.toList == []))
def hasKey (p : List S74) (s : ByteArray) : Bool := p.any (fun y => y.f0.toList == s.toList)
def fitsGo : List S74 → List S74 → Int
  | [], _ => 0
  | x :: r, done => if badPut x || hasKey done x.f0 then 1 else fitsGo r (done ++ [x])
def fitsV (p : List S74) : Int := if 8 < p.length then 4 else fitsGo p []
def rows_Fits.f (l0 : List S74) : Option Int := some (fitsV l0)
def keyLit (s : ByteArray) : Lit := .string s.toList
def hadD (p : List S74) : DataW Nat := p.foldl (fun D x => D.put (keyLit x.f0) (.lit (.bool true))) (.map [])
theorem hadD_snoc (p : List S74) (x : S74) : hadD (p ++ [x]) = (hadD p).put (keyLit x.f0) (.lit (.bool true)) := by simp [hadD]
theorem hadD_at (s : ByteArray) : ∀ (p : List S74) (D : DataW Nat), IsMap D → (p.foldl (fun D x => D.put (keyLit x.f0) (.lit (.bool true))) D).atKey (keyLit s) (.lit (.bool false)) = if hasKey p s then .lit (.bool true) else D.atKey (keyLit s) (.lit (.bool false))
  | [], D, h => by simp [hasKey]
  | x :: r, D, h => by
    rw [List.foldl_cons, hadD_at s r _ (by obtain ⟨es, rfl⟩ := h; exact ⟨_, rfl⟩)]
    by_cases hr : hasKey r s = true
    · rw [if_pos hr, if_pos (by unfold hasKey at hr ⊢; rw [List.any_cons, hr, Bool.or_true])]
    · rw [if_neg hr]
      by_cases hx : x.f0.toList = s.toList
      · rw [if_pos (by unfold hasKey; rw [List.any_cons, beq_iff_eq.2 hx, Bool.true_or]), show keyLit s = keyLit x.f0 by unfold keyLit; rw [hx], atKey_put_same h (show WideAt.IsKeyLit (keyLit x.f0) from trivial)]
      · rw [if_neg (by unfold hasKey at hr ⊢; rw [List.any_cons, beq_eq_false_iff_ne.2 hx, Bool.false_or]; exact hr), atKey_put_other (by unfold keyLit; intro e; exact hx (Lit.string.inj e).symm)]
theorem zeroB (w : World) : (zeroValue 4).run Try.prog w = .ok (.bool false) w := by kernel_rfl
theorem ownsMap_below {H : Type} {P : Program} {k : TypeId} {R : Value → Option (DataW H × List MemPlace)} {w w' : World} {b n q : Nat} {D : DataW H} (h : w.ownsMap P k R b n D) (hb : Below q w w') (hlt : b < q) : w'.ownsMap P k R b n D := by
  obtain ⟨es, clock, h1, h2⟩ := h
  exact ⟨es, clock, (hb.block b hlt).trans h1, h2⟩
theorem plainBool_inv {P : Program} {e : TypeId} (he : P.underlying e = some .bool) {v : Value} {z : DataW Nat × List MemPlace} (h : plainElem P e v = some z) : ∃ x, v = .bool x ∧ z.1 = .lit (.bool x) := by
  unfold plainElem at h
  rw [he] at h
  cases v <;> simp at h
  exact ⟨_, rfl, by rw [← h]⟩
theorem had_lookup {p : List S74} {w : World} {b n : Nat} (h : w.ownsMap Try.prog 9 (plainElem Try.prog 4) b n (hadD p)) (s : ByteArray) (hs : s.size ≤ 16) :
    (Instr.lookup 89 (.map (some b)) (.string s) false).run Try.prog w = .ok (.bool (hasKey p s)) w := by
  have hkey : keyOf Try.prog 9 (.string s) = some (keyLit s) := by
    have := keyOf_string_mk (P := Try.prog) Try.underlying9 (s := s) (by unfold maxLen; omega)
    rw [this]; unfold keyLit; rw [ByteArray.toList_eq]
  obtain ⟨v, ps, h1, h2⟩ := h.lookup (string_keyed Try.underlying9) Try.underlying89 (zeroB w) (plainElem_bool Try.underlying4 false) hkey
  obtain ⟨x, rfl, hx⟩ := plainBool_inv Try.underlying4 h2
  rw [h1]
  have := hadD_at s p (.map []) ⟨[], rfl⟩
  dsimp only at hx
  rw [show hadD p = p.foldl (fun D x => D.put (keyLit x.f0) (.lit (.bool true))) (.map []) from rfl, this] at hx
  by_cases hk : hasKey p s = true
  · rw [if_pos hk] at hx; cases hx; rw [hk]
  · rw [if_neg hk] at hx; cases hx; rw [Bool.eq_false_iff.2 hk]
end Go.Proofs.Ytkennobdoldlkaa.PAll
end
