/- Joined texts of the claim ShardStays (part 4): contracts of functions and plain laws. -/
import Derived.Test.YtmcgcdpiceikeaaJShardStays0
import Derived.Test.YtmcgcdpiceikeaaJShardStays3
set_option linter.unusedVariables false
set_option linter.unusedSimpArgs false
section
namespace Go.Proofs.YtmcgcdpiceikeaaW.PrintWords
open Go.RowKit
namespace Kd
section
variable {α : Type} {d : Kd α} {e base g n c : Nat} {ok : Nat → Prop} {w w0 W : World} {A : Option Addr} {xs : List α}
end
end Kd
end Go.Proofs.YtmcgcdpiceikeaaW.PrintWords
end
