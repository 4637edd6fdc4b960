/- Joined texts of the claim LeaseLess (part 34): contracts of functions and plain laws. -/
import Derived.LoopTactic
import Derived.Outline
import Derived.Test.YtlmefnifhbcbcaaJLeaseLess25
import Derived.Test.YtlmefnifhbcbcaaJLeaseLess32
import Derived.Test.YtlmefnifhbcbcaaJLeaseLess33
section
/- Groups: Most, as the printed texts call it. -/
namespace Go.Proofs.Ytlmefnifhbcbcaa.PAll
open Go.RowKit Go.WideMaps Go.Maps Go.Proofs.YtlmefnifhbcbcaaW.PrintWords Go.Proofs.YtlmefnifhbcbcaaW.PrintMore Go.Proofs.Ytlmefnifhbcbcaa
set_option linter.unusedVariables false
theorem cell_ofI {w : World} {A : Option Addr} {l : List Int} (h : Kd.C (Kd.int .u64) w A l.length l) (j : Nat) (hj : j < l.length) : ∃ b o, A = some ⟨b, o, none⟩ ∧ w.cell? ⟨b, o + j, none⟩ = some (.int .u64 l[j]!) := by
  obtain ⟨b, o, rfl, hrow⟩ := C_row h (by decide) (by omega)
  obtain ⟨cs, hcs, hK, hrg⟩ := hrow j hj
  obtain rfl : cs = [.int .u64 l[j]!] := hK
  refine ⟨b, o, rfl, ?_⟩
  have := hrg 0 _ rfl
  rwa [show (Kd.int .u64).sz = 1 from rfl, Nat.mul_one, Nat.add_zero] at this
theorem need_val (l m : List Int) (h : l.length ≤ 4611686018427387904) : group_Need.f l m = some ((l.length : Int) / 2 + 1) := by
  unfold group_Need.f
  congr 1
  unfold wrap64
  omega
end Go.Proofs.Ytlmefnifhbcbcaa.PAll
end
