/- Joined texts of the claim DriveCommits (part 48): contracts of functions and plain laws. -/
import Derived.Test.YtkennobdoldlkaaJDriveCommits15
import Derived.Test.YtkennobdoldlkaaJDriveCommits46
import Derived.Test.YtkennobdoldlkaaJDriveCommits47
section
/- What the laws of drives are handed: plans, rows of answers. -/
namespace Go.Proofs.Ytkennobdoldlkaa.PAll
open Go.RowKit Go.Proofs.YtkennobdoldlkaaW.PrintWords Go.Proofs.Ytkennobdoldlkaa
set_option linter.unusedVariables false
instance : Inhabited S33 := ⟨⟨0, ⟨#[]⟩, 0, false, false⟩⟩
theorem planArg {w : World} {cs : Array Value} {x : S27} (hx : k27.K w x cs.toList) : ∃ A c, cs = #[.int .u64 x.f0.f0, .int .u64 x.f0.f1, .slice A x.f1.length c] ∧ x.f1.length ≤ c ∧ Kd.C k53 w A x.f1.length x.f1 := by
  obtain ⟨A, c, h, h1, h2⟩ := k27_open hx
  exact ⟨A, c, Array.toList_inj.1 h, h1, h2⟩
theorem stepBytes : Try.prog.bytesOf 53 = 48 := by kernel_rfl
theorem wf_u64s {n : Int} (h : (Lit.int .u64 n).wf = true) : 0 ≤ n ∧ n ≤ 18446744073709551615 := by
  simp [Lit.wf, IntKind.min, IntKind.max, IntKind.signed, IntKind.bits] at h
  omega
theorem stepsOk {l : List S53} (h : l.length * Try.prog.bytesOf 53 ≤ 140737488351232 ∧ ∀ x ∈ l, ok53 x) : l.length ≤ 3000000000000 ∧ ∀ s ∈ l, 0 ≤ s.f0 ∧ s.f0 ≤ 18446744073709551615 := by
  rw [stepBytes] at h
  exact ⟨by omega, fun s hs => wf_u64s (h.2 s hs).1⟩
theorem planOk {x : S27} (h : ok27 x) : x.f1.length ≤ 3000000000000 ∧ ∀ s ∈ x.f1, 0 ≤ s.f0 ∧ s.f0 ≤ 18446744073709551615 := stepsOk h.2
theorem ansRow {W : World} {l : List S33} {A : Option Addr} (h : Kd.C k33 W A l.length l) (j : Nat) (hj : j < l.length) : ∃ b o, A = some ⟨b, o, none⟩ ∧ W.cell? ⟨b, o + j * 5, none⟩ = some (.int .i64 (l[j]!).f0) ∧ W.cell? ⟨b, o + j * 5 + 1, none⟩ = some (.string (l[j]!).f1) ∧ W.cell? ⟨b, o + j * 5 + 2, none⟩ = some (.int .u64 (l[j]!).f2) ∧ W.cell? ⟨b, o + j * 5 + 3, none⟩ = some (.bool (l[j]!).f3) ∧ W.cell? ⟨b, o + j * 5 + 4, none⟩ = some (.bool (l[j]!).f4) := by
  obtain ⟨b, o, rfl, hrow⟩ := C_row h (by decide) (by omega)
  obtain ⟨cs, hcs, hK, hrg⟩ := hrow j hj
  obtain ⟨_, _, rfl, rfl, ⟨_, _, rfl, rfl, ⟨_, _, rfl, rfl, ⟨_, _, rfl, rfl, rfl⟩⟩⟩⟩ := hK
  exact ⟨b, o, rfl, hrg 0 _ rfl, hrg 1 _ rfl, hrg 2 _ rfl, hrg 3 _ rfl, hrg 4 _ rfl⟩
end Go.Proofs.Ytkennobdoldlkaa.PAll
end
