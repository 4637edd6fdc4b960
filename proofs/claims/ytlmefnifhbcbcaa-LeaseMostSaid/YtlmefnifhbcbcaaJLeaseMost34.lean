/- Joined texts of the claim LeaseMost (part 34): contracts of functions and plain laws. -/
import Derived.Maps.Keyed
import Derived.Maps.OwnSet
import Derived.Maps.Views
import Derived.Test.YtlmefnifhbcbcaaJLeaseMost1
section
/- A map of bools that the call has made: what it says of a key. -/
namespace Go.Proofs.Ytlmefnifhbcbcaa
open Go.RowKit Go.WideMaps Go.Maps Go.Proofs.YtlmefnifhbcbcaaW.PrintWords
set_option linter.unusedVariables false
/-- Block b is a map of at most n entries that says S of the keys; no entry is false. -/
def BoolMap {κ : Type} (kl : κ → Lit) (kt : TypeId) (w : World) (b n : Nat) (S : κ → Bool) : Prop :=
  ∃ D : DataW Nat, w.ownsMap Try.prog kt (plainElem Try.prog 4) b n D ∧ ∀ x, D.atKey (kl x) (.lit (.bool false)) = .lit (.bool (S x))
section
variable {κ : Type} {kl : κ → Lit} {kt : TypeId} {w : World} {b n : Nat} {S : κ → Bool}
theorem BoolMap.lt (h : BoolMap kl kt w b n S) : b < w.heap.size := by
  obtain ⟨D, h1, _⟩ := h
  exact h1.lt
theorem BoolMap.below {q : Nat} {w' : World} (h : BoolMap kl kt w b n S) (hb : Below q w w') (hlt : b < q) : BoolMap kl kt w' b n S := by
  obtain ⟨D, ⟨es, clock, h1, h2⟩, h3⟩ := h
  exact ⟨D, ⟨es, clock, (hb.block b hlt).trans h1, h2⟩, h3⟩
theorem BoolMap.kept {w' : World} (h : BoolMap kl kt w b n S) (hb : Below w.heap.size w w') : BoolMap kl kt w' b n S := h.below hb h.lt
theorem BoolMap.grown {w' : World} {row : Option Nat} (h : BoolMap kl kt w b n S) (hb : w.grownBy w' row) (hne : some b ≠ row) : BoolMap kl kt w' b n S := by
  have hlt := h.lt
  obtain ⟨D, ⟨es, clock, h1, h2⟩, h3⟩ := h
  exact ⟨D, ⟨es, clock, (hb.block b hlt hne).trans h1, h2⟩, h3⟩
end
section
variable {κ : Type} [DecidableEq κ] {kl : κ → Lit} {kt : TypeId} {b n : Nat} {S : κ → Bool}
end
end Go.Proofs.Ytlmefnifhbcbcaa
end
