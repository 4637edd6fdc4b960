/- Joined texts of the claim LeaseMost (part 48): contracts of functions and plain laws. -/
import Derived.Test.YtlmefnifhbcbcaaJLeaseMost12
import Derived.Test.YtlmefnifhbcbcaaJLeaseMost21
import Derived.Test.YtlmefnifhbcbcaaJLeaseMost27
import Derived.Test.YtlmefnifhbcbcaaJLeaseMost30
import Derived.Test.YtlmefnifhbcbcaaJLeaseMost38
import Derived.Test.YtlmefnifhbcbcaaJLeaseMost40
import Derived.Test.YtlmefnifhbcbcaaJLeaseMost41
import Derived.Test.YtlmefnifhbcbcaaJLeaseMost42
import Derived.Test.YtlmefnifhbcbcaaJLeaseMost43
import Derived.Test.YtlmefnifhbcbcaaJLeaseMost45
import Derived.Test.YtlmefnifhbcbcaaJLeaseMost47
section
/- Every configuration, every marks, every numbers: how long the leader may believe is told by the code as the document defines it. -/
namespace Go.Proofs.Ytlmefnifhbcbcaa.PAll
open Go.RowKit Go.Proofs.YtlmefnifhbcbcaaW.PrintWords Go.Proofs.YtlmefnifhbcbcaaW.PrintMore Go.Proofs.Ytlmefnifhbcbcaa
set_option linter.unusedVariables false
theorem lbytesMark : Try.prog.bytesOf 39 = 16 := by kernel_rfl
theorem lbytesU64 : Try.prog.bytesOf 22 = 8 := by kernel_rfl
theorem natM_ok {m : List S39} (h : ∀ x ∈ m, ok39 x) : natM m = true := by
  unfold natM
  rw [List.all_eq_true]
  exact fun x hx => decide_eq_true (wf_u64 (h x hx).2).1
theorem untOk_of {v : List Int} {m : List S39} {id now span d : Int} (hv : v.length ≤ 17592186044404) (hm : m.length < 8796093022208) (hn : natM m = true) (hnow : 0 ≤ now) (hs : 0 ≤ span ∧ span < 18446744073709551616) (hd : 0 ≤ d ∧ d < 18446744073709551616) : untOk v m id now span d :=
  ⟨hv, hm, setV_nat id now hnow m hn, hs, hd, agr_nat _ _⟩
theorem gH_eq {v l : List Int} {m : List S39} {id now span d : Int} (h : untOk v m id now span d) (hl : l.length ≤ 9223372036854775806) : lease_Holds.f v l id now m span d = some (holdsV v l m id now span.toNat d.toNat) := by unfold lease_Holds.f; rw [if_pos ⟨h, hl⟩]
end Go.Proofs.Ytlmefnifhbcbcaa.PAll
end
