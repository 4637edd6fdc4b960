/- Joined texts of the claim DriveSteps (part 39): contracts of functions and plain laws. -/
import Derived.Test.YtkennobdoldlkaaJDriveSteps16
import Derived.Test.YtkennobdoldlkaaJDriveSteps38
set_option linter.unusedVariables false
set_option linter.unusedSimpArgs false
section
namespace Go.Proofs.Ytkennobdoldlkaa.PAll
open Go.RowKit Go.Proofs.YtkennobdoldlkaaW.PrintWords Go.Proofs.Ytkennobdoldlkaa
instance : Inhabited S33 := ⟨⟨0, ⟨#[]⟩, 0, false, false⟩⟩
theorem stepBytes : Try.prog.bytesOf 53 = 48 := by kernel_rfl
theorem wf_u64s {n : Int} (h : (Lit.int .u64 n).wf = true) : 0 ≤ n ∧ n ≤ 18446744073709551615 := by
  simp [Lit.wf, IntKind.min, IntKind.max, IntKind.signed, IntKind.bits] at h
  omega
theorem stepsOk {l : List S53} (h : l.length * Try.prog.bytesOf 53 ≤ 140737488351232 ∧ ∀ x ∈ l, ok53 x) : l.length ≤ 3000000000000 ∧ ∀ s ∈ l, 0 ≤ s.f0 ∧ s.f0 ≤ 18446744073709551615 := by
  rw [stepBytes] at h
  exact ⟨by omega, fun s hs => wf_u64s (h.2 s hs).1⟩
theorem planOk {x : S27} (h : ok27 x) : x.f1.length ≤ 3000000000000 ∧ ∀ s ∈ x.f1, 0 ≤ s.f0 ∧ s.f0 ≤ 18446744073709551615 := stepsOk h.2
end Go.Proofs.Ytkennobdoldlkaa.PAll
end
