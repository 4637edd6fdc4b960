/- Joined texts of the claim RowsKeeps (part 38): contracts of functions and plain laws. -/
import Derived.Test.YthfkbfahpgdnfaaJRowsKeeps17
import Derived.Test.YthfkbfahpgdnfaaJRowsKeeps20
import Derived.Test.YthfkbfahpgdnfaaJRowsKeeps37
section
/- What the laws of rows have in common. -/
namespace Go.Proofs.Ythfkbfahpgdnfaa.PAll
open Go.RowKit Go.Proofs.YthfkbfahpgdnfaaW.PrintWords Go.Proofs.YthfkbfahpgdnfaaW.PrintMore Go.Proofs.Ythfkbfahpgdnfaa
set_option linter.unusedVariables false
theorem shown11_ok : ∃ k, ferrulelaw11_shown.f k = some true := ⟨60, by kernel_rfl⟩
theorem bytesRow : Try.prog.bytesOf 64 = 40 := by kernel_rfl
theorem bytesPut : Try.prog.bytesOf 52 = 40 := by kernel_rfl
end Go.Proofs.Ythfkbfahpgdnfaa.PAll
end
