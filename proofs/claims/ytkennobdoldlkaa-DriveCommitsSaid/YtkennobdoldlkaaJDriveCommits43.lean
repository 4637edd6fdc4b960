/- Joined texts of the claim DriveCommits (part 43): contracts of functions and plain laws. -/
import Derived.Test.YtkennobdoldlkaaJDriveCommits42
section
/- drive.Orphan. -/
namespace Go.Proofs.Ytkennobdoldlkaa.PAll
open Go.RowKit Go.Proofs.YtkennobdoldlkaaW.PrintWords Go.Proofs.Ytkennobdoldlkaa
set_option linter.unusedVariables false
set_option linter.unusedSimpArgs false
theorem ownSlice20 {k e base : Nat} {w : World} {v : Value} {css : List (List Value)} (h : Own k e w base v css) : ∃ A n c, v = .slice A n c := by
  obtain ⟨A, c, e, _⟩ := own_sl20 h
  exact ⟨_, _, _, e⟩
end Go.Proofs.Ytkennobdoldlkaa.PAll
end
