/- Joined texts of the claim LeaseMost (part 23): contracts of functions and plain laws. -/
import Derived.Test.YtlmefnifhbcbcaaJLeaseMost12
import Derived.Test.YtlmefnifhbcbcaaJLeaseMost19
section
/- The printed kinds as flat ones. -/
namespace Go.Proofs.Ytlmefnifhbcbcaa.PAll
open Go.RowKit Go.Proofs.YtlmefnifhbcbcaaW.PrintWords Go.Proofs.Ytlmefnifhbcbcaa
-- not of this seat: flat api.Letter
-- not of this seat: flat api.Row
-- not of this seat: flat api.Put
def enc39 (x : S39) : List Value := [.int .u64 x.f0, .int .u64 x.f1]
theorem flat39 : Flat k39 2 enc39 := ⟨rfl, fun w base ok x => k39_mkM w base ok x, fun w x => k39_mk w x, fun _ _ _ _ _ h => k39_openM h, fun _ _ _ h => k39_open h⟩
instance : Inhabited S39 := ⟨z39⟩
-- not of this seat: flat api.Tx
-- not of this seat: flat api.Hold
-- not of this seat: flat api.Done
-- not of this seat: flat api.Step
-- not of this seat: flat api.Saw
end Go.Proofs.Ytlmefnifhbcbcaa.PAll
end
