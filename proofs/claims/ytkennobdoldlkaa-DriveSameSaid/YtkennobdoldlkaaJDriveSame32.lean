/- Joined texts of the claim DriveSame (part 32): contracts of functions and plain laws. -/
import Derived.Test.YtkennobdoldlkaaJDriveSame31
import Derived.Test.YtkennobdoldlkaaJDriveSame14
import Derived.LoopTactic
import Derived.Maps.OwnSet
import Derived.Maps.Views
import Derived.StringKeys
import Derived.Test.YtkennobdoldlkaaJDriveSame1
section
/- drive.may: may a step be? -/
namespace Go.Proofs.Ytkennobdoldlkaa.PAll
open Go.RowKit Go.Proofs.YtkennobdoldlkaaW.PrintWords Go.Proofs.Ytkennobdoldlkaa
set_option linter.unusedVariables false
set_option linter.unusedSimpArgs false
def mayB (s : S53) : Bool := decide ((1 : Int) ≤ s.f0) && decide (s.f0 ≤ 63) && decide ((1 : Int) ≤ (s.f1.size : Int)) && decide ((s.f1.size : Int) ≤ 16) && decide ((s.f2.size : Int) ≤ 32) && (s.f3 || (s.f2.toList == [] && !s.f4)) && !(s.f4 && s.f2.toList != [])
set_option maxHeartbeats 4000000 in
set_option maxRecDepth 100000 in
theorem may_step (x : S53) (W : World) :
    Calls Try.prog 41 #[.agg #[.int .u64 x.f0, .string x.f1, .string x.f2, .bool x.f3, .bool x.f4]] W fun e W' => e = .returned (.bool (mayB x)) ∧ Below W.heap.size W W' := by
  obtain ⟨a, k, v, wr, gone⟩ := x
  dsimp only
  by_cases h1 : (1 : Int) ≤ a
  · by_cases h2 : a ≤ 63
    · by_cases h3 : (1 : Int) ≤ (k.size : Int)
      · by_cases h4 : (k.size : Int) ≤ 16
        · by_cases h5 : (v.size : Int) ≤ 32
          · cases wr
            · by_cases h6 : v.toList = []
              · cases gone
                · have h7 : (v.toList == ([] : List UInt8)) = true := by rw [h6]; rfl
                  go_enter Try.func41, Try.ntmps41
                  go_wp2
                  go_ret
                  refine ⟨congrArg (fun b => Ending.returned (Value.bool b)) ?_, (Below.refl _ W).alloc (Nat.le_refl _) _⟩
                  first | (simp [mayB, *]; done) | (simp [mayB, *]; intros; omega)
                · have h7 : (v.toList == ([] : List UInt8)) = true := by rw [h6]; rfl
                  go_enter Try.func41, Try.ntmps41
                  go_wp2
                  go_ret
                  refine ⟨congrArg (fun b => Ending.returned (Value.bool b)) ?_, (Below.refl _ W).alloc (Nat.le_refl _) _⟩
                  first | (simp [mayB, *]; done) | (simp [mayB, *]; intros; omega)
              · cases gone
                · have h7 : (v.toList == ([] : List UInt8)) = false := beq_eq_false_iff_ne.2 h6
                  go_enter Try.func41, Try.ntmps41
                  go_wp2
                  go_ret
                  refine ⟨congrArg (fun b => Ending.returned (Value.bool b)) ?_, (Below.refl _ W).alloc (Nat.le_refl _) _⟩
                  first | (simp [mayB, *]; done) | (simp [mayB, *]; intros; omega)
                · have h7 : (v.toList == ([] : List UInt8)) = false := beq_eq_false_iff_ne.2 h6
                  go_enter Try.func41, Try.ntmps41
                  go_wp2
                  go_ret
                  refine ⟨congrArg (fun b => Ending.returned (Value.bool b)) ?_, (Below.refl _ W).alloc (Nat.le_refl _) _⟩
                  first | (simp [mayB, *]; done) | (simp [mayB, *]; intros; omega)
            · by_cases h6 : v.toList = []
              · cases gone
                · have h7 : (v.toList == ([] : List UInt8)) = true := by rw [h6]; rfl
                  go_enter Try.func41, Try.ntmps41
                  go_wp2
                  go_ret
                  refine ⟨congrArg (fun b => Ending.returned (Value.bool b)) ?_, (Below.refl _ W).alloc (Nat.le_refl _) _⟩
                  first | (simp [mayB, *]; done) | (simp [mayB, *]; intros; omega)
                · have h7 : (v.toList == ([] : List UInt8)) = true := by rw [h6]; rfl
                  go_enter Try.func41, Try.ntmps41
                  go_wp2
                  go_ret
                  refine ⟨congrArg (fun b => Ending.returned (Value.bool b)) ?_, (Below.refl _ W).alloc (Nat.le_refl _) _⟩
                  first | (simp [mayB, *]; done) | (simp [mayB, *]; intros; omega)
              · cases gone
                · have h7 : (v.toList == ([] : List UInt8)) = false := beq_eq_false_iff_ne.2 h6
                  go_enter Try.func41, Try.ntmps41
                  go_wp2
                  go_ret
                  refine ⟨congrArg (fun b => Ending.returned (Value.bool b)) ?_, (Below.refl _ W).alloc (Nat.le_refl _) _⟩
                  first | (simp [mayB, *]; done) | (simp [mayB, *]; intros; omega)
                · have h7 : (v.toList == ([] : List UInt8)) = false := beq_eq_false_iff_ne.2 h6
                  go_enter Try.func41, Try.ntmps41
                  go_wp2
                  go_ret
                  refine ⟨congrArg (fun b => Ending.returned (Value.bool b)) ?_, (Below.refl _ W).alloc (Nat.le_refl _) _⟩
                  first | (simp [mayB, *]; done) | (simp [mayB, *]; intros; omega)
          · go_enter Try.func41, Try.ntmps41
            go_wp2
            go_ret
            refine ⟨congrArg (fun b => Ending.returned (Value.bool b)) ?_, (Below.refl _ W).alloc (Nat.le_refl _) _⟩
            first | (simp [mayB, *]; done) | (simp [mayB, *]; intros; omega)
        · go_enter Try.func41, Try.ntmps41
          go_wp2
          go_ret
          refine ⟨congrArg (fun b => Ending.returned (Value.bool b)) ?_, (Below.refl _ W).alloc (Nat.le_refl _) _⟩
          first | (simp [mayB, *]; done) | (simp [mayB, *]; intros; omega)
      · go_enter Try.func41, Try.ntmps41
        go_wp2
        go_ret
        refine ⟨congrArg (fun b => Ending.returned (Value.bool b)) ?_, (Below.refl _ W).alloc (Nat.le_refl _) _⟩
        first | (simp [mayB, *]; done) | (simp [mayB, *]; intros; omega)
    · go_enter Try.func41, Try.ntmps41
      go_wp2
      go_ret
      refine ⟨congrArg (fun b => Ending.returned (Value.bool b)) ?_, (Below.refl _ W).alloc (Nat.le_refl _) _⟩
      first | (simp [mayB, *]; done) | (simp [mayB, *]; intros; omega)
  · go_enter Try.func41, Try.ntmps41
    go_wp2
    go_ret
    refine ⟨congrArg (fun b => Ending.returned (Value.bool b)) ?_, (Below.refl _ W).alloc (Nat.le_refl _) _⟩
    first | (simp [mayB, *]; done) | (simp [mayB, *]; intros; omega)
end Go.Proofs.Ytkennobdoldlkaa.PAll
end
section
-- Printed by this session's pr.sh (the kit's print.py, several laws in one namespace). Not trusted: Lean checks it.
namespace Go.Proofs.Ytkennobdoldlkaa.PAll
open Go.RowKit Go.Proofs.YtkennobdoldlkaaW.PrintWords Go.Proofs.YtkennobdoldlkaaW.PrintLast Go.Proofs.YtkennobdoldlkaaW.PrintMore
attribute [local go_sem] max2_int min2_int max_two min_two max_three min_three max_four min_four   -- for this text's walks alone
set_option linter.unusedVariables false
set_option linter.unusedSimpArgs false

/-! ### rows_named: function 54 -/
def rows_named.f (a0 : ByteArray) : Option (Bool) := if (a0.size : Int) ≥ 1 then (some (decide ((a0.size : Int) ≤ 16))) else (some false)
set_option maxHeartbeats 8000000 in
set_option maxRecDepth 100000 in
theorem rows_named.calls (a0 : ByteArray) (r : Bool) (w : World) (h : rows_named.f a0 = some r) :
    Calls Try.prog 54 #[.string a0] w fun e w' => e = .returned (.bool r) ∧ Drawn0 w w' := by
  have H : (if (a0.size : Int) ≥ 1 then (some (decide ((a0.size : Int) ≤ 16))) else (some false)) = some r := h
  clear h
  by_cases c2 : (a0.size : Int) ≥ 1
  · rw [if_pos c2] at H
    have c2b0 : decide (1 ≤ (a0.size : Int)) = true := decide_eq_true c2
    have c2b1 : decide (1 ≤ a0.size) = true := decide_eq_true (by omega)
    clear c2
    obtain rfl := Option.some.inj H
    go_enter Try.func54, Try.ntmps54
    go_wp2
    go_ret
    exact ⟨by first | rfl | (simp; done) | (simp [*]; done), by repeat (first | exact Drawn0.refl _ | apply Drawn0.step)⟩
  · rw [if_neg c2] at H
    have c2b0 : decide (1 ≤ (a0.size : Int)) = false := decide_eq_false c2
    have c2b1 : decide (1 ≤ a0.size) = false := decide_eq_false (by omega)
    clear c2
    obtain rfl := Option.some.inj H
    go_enter Try.func54, Try.ntmps54
    go_wp2
    go_ret
    exact ⟨by first | rfl | (simp; done) | (simp [*]; done), by repeat (first | exact Drawn0.refl _ | apply Drawn0.step)⟩

end Go.Proofs.Ytkennobdoldlkaa.PAll
end
section
/- rows.Fits, as the printed texts call it. -/
namespace Go.Proofs.Ytkennobdoldlkaa.PAll
open Go.RowKit Go.WideMaps Go.Maps Go.Proofs.YtkennobdoldlkaaW.PrintWords Go.Proofs.Ytkennobdoldlkaa
set_option linter.unusedVariables false
/-- A put that can't be done, whatever others there are. -/
def badPut (x : S74) : Bool := !(decide (1 ≤ x.f0.size) && decide (x.f0.size ≤ 16)) || decide (32 < x.f1.size) || (x.f2 && !(x.f1.toList == []))
def hasKey (p : List S74) (s : ByteArray) : Bool := p.any (fun y => y.f0.toList == s.toList)
def fitsGo : List S74 → List S74 → Int
  | [], _ => 0
  | x :: r, done => if badPut x || hasKey done x.f0 then 1 else fitsGo r (done ++ [x])
def fitsV (p : List S74) : Int := if 8 < p.length then 4 else fitsGo p []
def rows_Fits.f (l0 : List S74) : Option Int := some (fitsV l0)
def keyLit (s : ByteArray) : Lit := .string s.toList
def hadD (p : List S74) : DataW Nat := p.foldl (fun D x => D.put (keyLit x.f0) (.lit (.bool true))) (.map [])
theorem hadD_snoc (p : List S74) (x : S74) : hadD (p ++ [x]) = (hadD p).put (keyLit x.f0) (.lit (.bool true)) := by simp [hadD]
theorem hadD_at (s : ByteArray) : ∀ (p : List S74) (D : DataW Nat), IsMap D → (p.foldl (fun D x => D.put (keyLit x.f0) (.lit (.bool true))) D).atKey (keyLit s) (.lit (.bool false)) = if hasKey p s then .lit (.bool true) else D.atKey (keyLit s) (.lit (.bool false))
  | [], D, h => by simp [hasKey]
  | x :: r, D, h => by
    rw [List.foldl_cons, hadD_at s r _ (by obtain ⟨es, rfl⟩ := h; exact ⟨_, rfl⟩)]
    by_cases hr : hasKey r s = true
    · rw [if_pos hr, if_pos (by unfold hasKey at hr ⊢; rw [List.any_cons, hr, Bool.or_true])]
    · rw [if_neg hr]
      by_cases hx : x.f0.toList = s.toList
      · rw [if_pos (by unfold hasKey; rw [List.any_cons, beq_iff_eq.2 hx, Bool.true_or]), show keyLit s = keyLit x.f0 by unfold keyLit; rw [hx], atKey_put_same h (show WideAt.IsKeyLit (keyLit x.f0) from trivial)]
      · rw [if_neg (by unfold hasKey at hr ⊢; rw [List.any_cons, beq_eq_false_iff_ne.2 hx, Bool.false_or]; exact hr), atKey_put_other (by unfold keyLit; intro e; exact hx (Lit.string.inj e).symm)]
theorem zeroB (w : World) : (zeroValue 4).run Try.prog w = .ok (.bool false) w := by kernel_rfl
theorem ownsMap_below {H : Type} {P : Program} {k : TypeId} {R : Value → Option (DataW H × List MemPlace)} {w w' : World} {b n q : Nat} {D : DataW H} (h : w.ownsMap P k R b n D) (hb : Below q w w') (hlt : b < q) : w'.ownsMap P k R b n D := by
  obtain ⟨es, clock, h1, h2⟩ := h
  exact ⟨es, clock, (hb.block b hlt).trans h1, h2⟩
theorem plainBool_inv {P : Program} {e : TypeId} (he : P.underlying e = some .bool) {v : Value} {z : DataW Nat × List MemPlace} (h : plainElem P e v = some z) : ∃ x, v = .bool x ∧ z.1 = .lit (.bool x) := by
  unfold plainElem at h
  rw [he] at h
  cases v <;> simp at h
  exact ⟨_, rfl, by rw [← h]⟩
theorem had_lookup {p : List S74} {w : World} {b n : Nat} (h : w.ownsMap Try.prog 9 (plainElem Try.prog 4) b n (hadD p)) (s : ByteArray) (hs : s.size ≤ 16) :
    (Instr.lookup 89 (.map (some b)) (.string s) false).run Try.prog w = .ok (.bool (hasKey p s)) w := by
  have hkey : keyOf Try.prog 9 (.string s) = some (keyLit s) := by
    have := keyOf_string_mk (P := Try.prog) Try.underlying9 (s := s) (by unfold maxLen; omega)
    rw [this]; unfold keyLit; rw [ByteArray.toList_eq]
  obtain ⟨v, ps, h1, h2⟩ := h.lookup (string_keyed Try.underlying9) Try.underlying89 (zeroB w) (plainElem_bool Try.underlying4 false) hkey
  obtain ⟨x, rfl, hx⟩ := plainBool_inv Try.underlying4 h2
  rw [h1]
  have := hadD_at s p (.map []) ⟨[], rfl⟩
  dsimp only at hx
  rw [show hadD p = p.foldl (fun D x => D.put (keyLit x.f0) (.lit (.bool true))) (.map []) from rfl, this] at hx
  by_cases hk : hasKey p s = true
  · rw [if_pos hk] at hx; cases hx; rw [hk]
  · rw [if_neg hk] at hx; cases hx; rw [Bool.eq_false_iff.2 hk]
end Go.Proofs.Ytkennobdoldlkaa.PAll
end
