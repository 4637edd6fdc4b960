/- Joined texts of the claim DriveSteps (part 6): contracts of functions and plain laws. -/
import Derived.Test.YtkennobdoldlkaaJDriveSteps0
import Derived.Test.YtkennobdoldlkaaJDriveSteps5
set_option linter.unusedVariables false
set_option linter.unusedSimpArgs false
section
namespace Go.Proofs.YtkennobdoldlkaaW.PrintWords
open Go.RowKit
namespace Kd
section
variable {α : Type} {d : Kd α} {e base g n c : Nat} {ok : Nat → Prop} {w w0 W : World} {A : Option Addr} {xs : List α}
end
end Kd
end Go.Proofs.YtkennobdoldlkaaW.PrintWords
end
