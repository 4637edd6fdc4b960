/- Joined texts of the claim GroupBack (part 35): contracts of functions and plain laws. -/
import Derived.Test.YtlmefnifhbcbcaaJGroupBack14
import Derived.Test.YtlmefnifhbcbcaaJGroupBack23
import Derived.Test.YtlmefnifhbcbcaaJGroupBack34
section
/- What the laws of groups have in common. -/
namespace Go.Proofs.Ytlmefnifhbcbcaa.PAll
open Go.RowKit Go.Proofs.YtlmefnifhbcbcaaW.PrintWords Go.Proofs.YtlmefnifhbcbcaaW.PrintMore Go.Proofs.Ytlmefnifhbcbcaa
set_option linter.unusedVariables false
theorem shown06_ev : Ev (fun _ => ferrulelaw06_shown.f) true := Ev.now true
theorem bytesU64 : Try.prog.bytesOf 22 = 8 := by kernel_rfl
theorem confCells {cs : Array Value} {x : S28} {w : World} (h : k28.K w x cs.toList) : ∃ A0 c0 A1 c1, cs = #[.slice A0 x.f0.length c0, .slice A1 x.f1.length c1] ∧ x.f0.length ≤ c0 ∧ Kd.C (Kd.int .u64) w A0 x.f0.length x.f0 ∧ x.f1.length ≤ c1 ∧ Kd.C (Kd.int .u64) w A1 x.f1.length x.f1 := by
  obtain ⟨_, _, hcs, ⟨A0, c0, rfl, l0, g0⟩, ⟨A1, c1, rfl, l1, g1⟩⟩ := h
  exact ⟨A0, c0, A1, c1, Array.toList_inj.1 hcs, l0, g0, l1, g1⟩
end Go.Proofs.Ytlmefnifhbcbcaa.PAll
end
