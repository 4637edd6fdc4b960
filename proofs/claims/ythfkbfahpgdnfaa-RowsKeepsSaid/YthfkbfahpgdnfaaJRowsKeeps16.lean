/- Joined texts of the claim RowsKeeps (part 16): contracts of functions and plain laws. -/
import Derived.Test.YthfkbfahpgdnfaaJRowsKeeps15
import Derived.Test.YthfkbfahpgdnfaaJRowsKeeps3
section
/- The printed kinds as flat ones. -/
namespace Go.Proofs.Ythfkbfahpgdnfaa.PAll
open Go.RowKit Go.Proofs.YthfkbfahpgdnfaaW.PrintWords Go.Proofs.Ythfkbfahpgdnfaa
instance : Inhabited S79 := ⟨z79⟩
def enc64 (x : S64) : List Value := [.string x.f0, .string x.f1, .int .u64 x.f2]
theorem flat64 : Flat k64 3 enc64 := ⟨rfl, fun w base ok x => k64_mkM w base ok x, fun w x => k64_mk w x, fun _ _ _ _ _ h => k64_openM h, fun _ _ _ h => k64_open h⟩
instance : Inhabited S64 := ⟨z64⟩
def enc52 (x : S52) : List Value := [.string x.f0, .string x.f1, .bool x.f2]
theorem flat52 : Flat k52 3 enc52 := ⟨rfl, fun w base ok x => k52_mkM w base ok x, fun w x => k52_mk w x, fun _ _ _ _ _ h => k52_openM h, fun _ _ _ h => k52_open h⟩
instance : Inhabited S52 := ⟨z52⟩
end Go.Proofs.Ythfkbfahpgdnfaa.PAll
end
