/- Joined texts of the claim LeaseMost (part 36): contracts of functions and plain laws. -/
import Derived.LoopTactic
import Derived.Outline
import Derived.Test.YtlmefnifhbcbcaaJLeaseMost27
import Derived.Test.YtlmefnifhbcbcaaJLeaseMost34
import Derived.Test.YtlmefnifhbcbcaaJLeaseMost35
section
/- Groups: Most, as the printed texts call it. -/
namespace Go.Proofs.Ytlmefnifhbcbcaa.PAll
open Go.RowKit Go.WideMaps Go.Maps Go.Proofs.YtlmefnifhbcbcaaW.PrintWords Go.Proofs.YtlmefnifhbcbcaaW.PrintMore Go.Proofs.Ytlmefnifhbcbcaa
set_option linter.unusedVariables false
def mostGo : (Int → Bool) → List Int → Int
  | _, [] => 0
  | S, x :: r => if S x = true then mostGo (fun y => if y = x then false else S y) r + 1 else mostGo S r
def mostV (v ids : List Int) : Bool := decide (mostGo (hasI ids) v ≥ (v.length : Int) / 2 + 1)
theorem cell_ofI {w : World} {A : Option Addr} {l : List Int} (h : Kd.C (Kd.int .u64) w A l.length l) (j : Nat) (hj : j < l.length) : ∃ b o, A = some ⟨b, o, none⟩ ∧ w.cell? ⟨b, o + j, none⟩ = some (.int .u64 l[j]!) := by
  obtain ⟨b, o, rfl, hrow⟩ := C_row h (by decide) (by omega)
  obtain ⟨cs, hcs, hK, hrg⟩ := hrow j hj
  obtain rfl : cs = [.int .u64 l[j]!] := hK
  refine ⟨b, o, rfl, ?_⟩
  have := hrg 0 _ rfl
  rwa [show (Kd.int .u64).sz = 1 from rfl, Nat.mul_one, Nat.add_zero] at this
theorem need_val (l m : List Int) (h : l.length ≤ 4611686018427387904) : group_Need.f l m = some ((l.length : Int) / 2 + 1) := by
  unfold group_Need.f
  congr 1
  unfold wrap64
  omega
end Go.Proofs.Ytlmefnifhbcbcaa.PAll
end
