/- Joined texts of the claim DriveSame (part 51): contracts of functions and plain laws. -/
import Derived.Test.YtkennobdoldlkaaJDriveSame44
import Derived.Test.YtkennobdoldlkaaJDriveSame50
section
/- What the laws of drives are handed: drives. -/
namespace Go.Proofs.Ytkennobdoldlkaa.PAll
open Go.RowKit Go.Proofs.YtkennobdoldlkaaW.PrintWords Go.Proofs.Ytkennobdoldlkaa
set_option linter.unusedVariables false
theorem sawBytes : Try.prog.bytesOf 51 = 56 := by kernel_rfl
theorem drvOpen {w : World} {cs : List Value} {x : S30} (hx : k30.K w x cs) : ∃ A c B e9, cs = [.int .u64 x.f0.f0.f0, .int .u64 x.f0.f0.f1, .slice A x.f0.f1.length c, .int .i64 x.f1, .int .i64 x.f2, .bool x.f3, .bool x.f4, .bool x.f5, .slice B x.f6.length e9] ∧ x.f0.f1.length ≤ c ∧ k53.C w A x.f0.f1.length x.f0.f1 ∧ x.f6.length ≤ e9 ∧ k51.C w B x.f6.length x.f6 := by
  obtain ⟨l0, r0, rfl, h0, ⟨l1, r1, rfl, rfl, ⟨l2, r2, rfl, rfl, ⟨l3, r3, rfl, rfl, ⟨l4, r4, rfl, rfl, ⟨l5, r5, rfl, rfl, h6⟩⟩⟩⟩⟩⟩ := hx
  obtain ⟨A, c, rfl, hc, hA⟩ := k27_open h0
  obtain ⟨B, e9, rfl, he, hB⟩ := h6
  exact ⟨A, c, B, e9, rfl, hc, hA, he, hB⟩
theorem drvArg {w : World} {cs : Array Value} {x : S30} (hx : k30.K w x cs.toList) (hs : ok30 x) : ∃ d A c B e9, cs = #[.int .u64 d.ta, .int .u64 d.ti, .slice A d.st.length c, .int .i64 d.ph, .int .i64 d.ap, .bool d.fa, .bool d.og, .bool d.cm, .slice B d.sw.length e9] ∧ DRows w d A c B e9 ∧ d.st.length ≤ 3000000000000 ∧ d.sw.length ≤ 2600000000000 ∧ (∀ x ∈ d.st, 0 ≤ x.f0 ∧ x.f0 ≤ 18446744073709551615) ∧ (-9223372036854775808 ≤ d.ap ∧ d.ap ≤ 9223372036854775807) := by
  obtain ⟨A, c, B, e9, h, h1, h2, h3, h4⟩ := drvOpen hx
  obtain ⟨hp, _, hap, _, _, _, hsw⟩ := hs
  obtain ⟨p1, p2⟩ := planOk hp
  have hb := hsw.1
  rw [sawBytes] at hb
  refine ⟨⟨x.f0.f0.f0, x.f0.f0.f1, x.f0.f1, x.f1, x.f2, x.f3, x.f4, x.f5, x.f6⟩, A, c, B, e9, Array.toList_inj.1 h, ⟨h2, h1, h4, h3⟩, p1, ?_, p2, ?_⟩
  · show x.f6.length ≤ 2600000000000
    omega
  · simp [Lit.wf, IntKind.min, IntKind.max, IntKind.signed, IntKind.bits] at hap
    show -9223372036854775808 ≤ x.f2 ∧ x.f2 ≤ 9223372036854775807
    omega
end Go.Proofs.Ytkennobdoldlkaa.PAll
end
