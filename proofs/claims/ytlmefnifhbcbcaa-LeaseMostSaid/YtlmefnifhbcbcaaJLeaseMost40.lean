/- Joined texts of the claim LeaseMost (part 40): contracts of functions and plain laws. -/
import Derived.Test.YtlmefnifhbcbcaaJLeaseMost27
import Derived.Test.YtlmefnifhbcbcaaJLeaseMost31
import Derived.Test.YtlmefnifhbcbcaaJLeaseMost38
import Derived.Test.YtlmefnifhbcbcaaJLeaseMost39
section
/- Plain laws of groups: Set, as the code does it. -/
namespace Go.Proofs.Ytlmefnifhbcbcaa.PAll
open Go.RowKit Go.Proofs.YtlmefnifhbcbcaaW.PrintWords Go.Proofs.YtlmefnifhbcbcaaW.PrintMore Go.Proofs.Ytlmefnifhbcbcaa
set_option linter.unusedVariables false
/-! Mark -/
def isM (id : Int) : S39 → Bool := fun x => x.f0 == id
theorem isM_t {id : Int} {x : S39} (h : x.f0 = id) : isM id x = true := beq_iff_eq.2 h
/-! Set -/
def setV (m : List S39) (id v : Int) : List S39 := if findI (isM id) m < 0 then m ++ [⟨id, v⟩] else m.set (findI (isM id) m).toNat ⟨(m[(findI (isM id) m).toNat]!).f0, v⟩
theorem gSet_eq (m : List S39) (id v : Int) (hm : m.length < 8796093022208) : group_Set.f m id v = some (setV m id v) := by
  unfold group_Set.f api_Mark_68.f group_of.f setV
  rw [if_pos (by omega)]
  simp only [Option.bind_some]
  show (if findI (isM id) m ≥ 0 then _ else _) = _
  rcases findI_two (isM id) m with h | ⟨i, hi, h⟩
  · rw [show findI (fun x : S39 => x.f0 == id) m = -1 from h, h, if_neg (by omega), if_pos hm, if_pos (by omega)]
  · rw [show findI (fun x : S39 => x.f0 == id) m = i from h, h, if_pos (by omega), if_pos (by omega), if_pos (by omega), if_neg (by omega), rd_mark m i hi, Int.toNat_natCast]
end Go.Proofs.Ytlmefnifhbcbcaa.PAll
end
