/- Joined texts of the claim RowsRight (part 29): contracts of functions and plain laws. -/
import Derived.Test.YthfkbfahpgdnfaaJRowsRight3
import Derived.Test.YthfkbfahpgdnfaaJRowsRight22
import Derived.Test.YthfkbfahpgdnfaaJRowsRight28
section
/- What the laws of rows have in common. -/
namespace Go.Proofs.Ythfkbfahpgdnfaa.PAll
open Go.RowKit Go.Proofs.YthfkbfahpgdnfaaW.PrintWords Go.Proofs.YthfkbfahpgdnfaaW.PrintMore Go.Proofs.Ythfkbfahpgdnfaa
set_option linter.unusedVariables false
theorem shown11_ok : ∃ k, ferrulelaw11_shown.f k = some true := ⟨60, by kernel_rfl⟩
theorem shown11_ev : Ev (fun k => ferrulelaw11_shown.f k) true := by
  obtain ⟨k, h⟩ := shown11_ok
  exact Ev.of ferrulelaw11_shown.mono h
theorem bytesRow : Try.prog.bytesOf 64 = 40 := by kernel_rfl
theorem bytesPut : Try.prog.bytesOf 52 = 40 := by kernel_rfl
theorem putCells {cs : Array Value} {x : S52} {w : World} (h : k52.K w x cs.toList) : cs = #[.string x.f0, .string x.f1, .bool x.f2] := by
  have := flat52.openK _ _ _ h
  exact Array.toList_inj.1 this
theorem doV_len2 (l : List S64) (x : S52) (ver : Int) (h : l.length < 3518437208800) : (doV l x ver).1.length < 9223372036854775806 := by
  have := doV_len l x ver
  omega
theorem allV_len (l : List S64) (p : List S52) (ver : Int) : (allV l p ver).1.length ≤ l.length + p.length + p.length := by
  unfold allV
  split
  · simp
  · split
    · have h1 := putsV_len ver true p l
      have h2 := putsV_len ver false p (putsV ver true p l).1
      omega
    · simp
end Go.Proofs.Ythfkbfahpgdnfaa.PAll
end
