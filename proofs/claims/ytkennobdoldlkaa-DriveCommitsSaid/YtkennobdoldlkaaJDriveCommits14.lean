/- Joined texts of the claim DriveCommits (part 14): contracts of functions and plain laws. -/
import Derived.Test.YtkennobdoldlkaaJDriveCommits13
import Derived.Test.YtkennobdoldlkaaJDriveCommits3
section
/- The printed kinds as flat ones. -/
namespace Go.Proofs.Ytkennobdoldlkaa.PAll
open Go.RowKit Go.Proofs.YtkennobdoldlkaaW.PrintWords Go.Proofs.Ytkennobdoldlkaa
-- not of this seat: flat api.Letter
-- not of this seat: flat api.Row
def enc74 (x : S74) : List Value := [.string x.f0, .string x.f1, .bool x.f2]
theorem flat74 : Flat k74 3 enc74 := ⟨rfl, fun w base ok x => k74_mkM w base ok x, fun w x => k74_mk w x, fun _ _ _ _ _ h => k74_openM h, fun _ _ _ h => k74_open h⟩
instance : Inhabited S74 := ⟨z74⟩
-- not of this seat: flat api.Mark
instance : Inhabited S24 := ⟨z24⟩
-- not of this seat: flat api.Hold
-- not of this seat: flat api.Done
def enc53 (x : S53) : List Value := [.int .u64 x.f0, .string x.f1, .string x.f2, .bool x.f3, .bool x.f4]
theorem flat53 : Flat k53 5 enc53 := ⟨rfl, fun w base ok x => k53_mkM w base ok x, fun w x => k53_mk w x, fun _ _ _ _ _ h => k53_openM h, fun _ _ _ h => k53_open h⟩
instance : Inhabited S53 := ⟨z53⟩
def enc51 (x : S51) : List Value := [.int .u64 x.f0, .string x.f1, .string x.f2, .int .u64 x.f3, .bool x.f4]
theorem flat51 : Flat k51 5 enc51 := ⟨rfl, fun w base ok x => k51_mkM w base ok x, fun w x => k51_mk w x, fun _ _ _ _ _ h => k51_openM h, fun _ _ _ h => k51_open h⟩
instance : Inhabited S51 := ⟨z51⟩
def encu64 (x : Int) : List Value := [Value.int .u64 x]
theorem flatu64 : Flat (Kd.int .u64) 1 encu64 := ⟨rfl, fun _ _ _ _ => rfl, fun _ _ => rfl, fun _ _ _ _ _ h => h, fun _ _ _ h => h⟩
end Go.Proofs.Ytkennobdoldlkaa.PAll
end
