/- Joined texts of the claim DriveSame (part 44): contracts of functions and plain laws. -/
import Derived.Test.YtkennobdoldlkaaJDriveSame41
import Derived.Test.YtkennobdoldlkaaJDriveSame15
import Derived.Test.YtkennobdoldlkaaJDriveSame43
import Derived.Test.YtkennobdoldlkaaJDriveSame14
section
/- Plain laws of drives: how a drive goes on. -/
namespace Go.Proofs.Ytkennobdoldlkaa.PAll
open Go.RowKit Go.Proofs.YtkennobdoldlkaaW.PrintWords Go.Proofs.Ytkennobdoldlkaa
set_option linter.unusedVariables false
set_option linter.unusedSimpArgs false
structure DI (st : List S53) (d : Drv) : Prop where
  hst : d.st = st
  hsw : d.sw.length ≤ st.length
  hap : 0 ≤ d.ap
  hcs : (d.ph = 0 ∧ d.fa = false ∧ (d.sw.length : Int) = d.ap ∧ d.ap < (st.length : Int)) ∨ (d.ph = 1 ∧ d.fa = false ∧ d.sw.length = st.length ∧ d.ap = 0) ∨ (d.ph = 2 ∧ d.fa = false ∧ d.ap < ((partsV st).length : Int)) ∨ (d.ph = 3 ∧ d.ap = 0) ∨ (d.ph = 4 ∧ d.ap < ((partsV st).length : Int)) ∨ d.ph = 5
theorem may_facts {ta ti : Int} {st : List S53} (h : mayV ta ti st = true) : 1 ≤ st.length ∧ st.length ≤ 12 ∧ (partsV st).length ≤ 8 ∧ 1 ≤ (partsV st).length := by
  unfold mayV at h
  simp only [Bool.and_eq_true, decide_eq_true_eq] at h
  refine ⟨h.1.1.1.1.1.1, h.1.1.1.1.1.2, h.1.1.1.1.2, ?_⟩
  have h1 := h.1.1.1.1.1.1
  cases st with
  | nil => simp at h1
  | cons x r =>
    have : x.f0 ∈ partsV (x :: r) := (mem_partsV _ _).2 ⟨x, List.mem_cons_self .., rfl⟩
    exact List.length_pos_of_mem this
theorem next_is {d : Drv} (h : (askedV d).2.2 = true) : (nextV d).2.2 = true := by unfold nextV; rw [if_pos h]
theorem partV_in {st : List S53} {ap : Int} (h0 : 0 ≤ ap) (h1 : ap < ((partsV st).length : Int)) : (partV st ap).2 = true := by unfold partV; rw [if_neg (by omega)]
theorem DI.is {st : List S53} {d : Drv} (h : DI st d) : (nextV d).2.2 = !decide (d.ph = 5) := by
  obtain ⟨h1, h2, h3, hc⟩ := h
  rcases hc with ⟨e, _, _, a⟩ | ⟨e, _⟩ | ⟨e, _, a⟩ | ⟨e, _⟩ | ⟨e, a⟩ | e
  · rw [next_is, e]; rfl
    unfold askedV; rw [if_pos e, if_neg (by rw [h1]; omega)]
  · rw [next_is, e]; rfl
    unfold askedV; rw [e]; rfl
  · rw [next_is, e]; rfl
    unfold askedV; rw [e, h1]; exact partV_in h3 a
  · rw [next_is, e]; rfl
    unfold askedV; rw [e, if_neg (by omega), if_neg (by omega), if_neg (by omega), if_pos rfl]
    split <;> rfl
  · rw [next_is, e]; rfl
    unfold askedV; rw [e, h1]; exact partV_in h3 a
  · rw [e]
    unfold nextV askedV; rw [e]; rfl
theorem DI.ok {ta ti : Int} {st : List S53} (hm : mayV ta ti st = true) (hg : ∀ x ∈ st, 0 ≤ x.f0 ∧ x.f0 ≤ 18446744073709551615) {d : Drv} (h : DI st d) : DOk d := by
  obtain ⟨m1, m2, m3, m4⟩ := may_facts hm
  exact ⟨by rw [h.hst]; omega, by rw [h.hst]; exact hg, by have := h.hsw; omega⟩
end Go.Proofs.Ytkennobdoldlkaa.PAll
end
section
/- What the laws of drives are handed: plans, rows of answers. -/
namespace Go.Proofs.Ytkennobdoldlkaa.PAll
open Go.RowKit Go.Proofs.YtkennobdoldlkaaW.PrintWords Go.Proofs.Ytkennobdoldlkaa
set_option linter.unusedVariables false
instance : Inhabited S33 := ⟨⟨0, ⟨#[]⟩, 0, false, false⟩⟩
theorem stepBytes : Try.prog.bytesOf 53 = 48 := by kernel_rfl
theorem wf_u64s {n : Int} (h : (Lit.int .u64 n).wf = true) : 0 ≤ n ∧ n ≤ 18446744073709551615 := by
  simp [Lit.wf, IntKind.min, IntKind.max, IntKind.signed, IntKind.bits] at h
  omega
theorem stepsOk {l : List S53} (h : l.length * Try.prog.bytesOf 53 ≤ 140737488351232 ∧ ∀ x ∈ l, ok53 x) : l.length ≤ 3000000000000 ∧ ∀ s ∈ l, 0 ≤ s.f0 ∧ s.f0 ≤ 18446744073709551615 := by
  rw [stepBytes] at h
  exact ⟨by omega, fun s hs => wf_u64s (h.2 s hs).1⟩
theorem planOk {x : S27} (h : ok27 x) : x.f1.length ≤ 3000000000000 ∧ ∀ s ∈ x.f1, 0 ≤ s.f0 ∧ s.f0 ≤ 18446744073709551615 := stepsOk h.2
end Go.Proofs.Ytkennobdoldlkaa.PAll
end
section
-- Printed by this session's pr.sh (the kit's print.py, several laws in one namespace). Not trusted: Lean checks it.
namespace Go.Proofs.Ytkennobdoldlkaa.PAll
open Go.RowKit Go.Proofs.YtkennobdoldlkaaW.PrintWords Go.Proofs.YtkennobdoldlkaaW.PrintLast Go.Proofs.YtkennobdoldlkaaW.PrintMore
attribute [local go_sem] max2_int min2_int max_two min_two max_three min_three max_four min_four   -- for this text's walks alone
set_option linter.unusedVariables false
set_option linter.unusedSimpArgs false

theorem eqA24 (d : Nat) (w : World) (x0 y0 : Int) (x1 y1 : Int) :
    (Op.equalIn (d + 2) 24 (.agg #[.int .u64 x0, .int .u64 x1]) (.agg #[.int .u64 y0, .int .u64 y1])).run Try.prog w = .ok (x0 == y0 && (x1 == y1)) w := by
  refine eqA_of Try.underlying24 (by kernel_rfl) ?_
  refine eqf_cons (by rfl) (by go_simp; rfl) (by go_simp; rfl) (by go_simp) ?_
  exact eqf_last (by rfl) (by go_simp; rfl) (by go_simp; rfl) (by go_simp)
end Go.Proofs.Ytkennobdoldlkaa.PAll
end
section
-- Printed by this session's pr.sh (the kit's print.py, several laws in one namespace). Not trusted: Lean checks it.
namespace Go.Proofs.Ytkennobdoldlkaa.PAll
open Go.RowKit Go.Proofs.YtkennobdoldlkaaW.PrintWords Go.Proofs.YtkennobdoldlkaaW.PrintLast Go.Proofs.YtkennobdoldlkaaW.PrintMore
attribute [local go_sem] max2_int min2_int max_two min_two max_three min_three max_four min_four   -- for this text's walks alone
set_option linter.unusedVariables false
set_option linter.unusedSimpArgs false

theorem eqA51 (d : Nat) (w : World) (x0 y0 : Int) (x1 y1 : ByteArray) (x2 y2 : ByteArray) (x3 y3 : Int) (x4 y4 : Bool) :
    (Op.equalIn (d + 2) 51 (.agg #[.int .u64 x0, .string x1, .string x2, .int .u64 x3, .bool x4]) (.agg #[.int .u64 y0, .string y1, .string y2, .int .u64 y3, .bool y4])).run Try.prog w = .ok (x0 == y0 && (x1.toList == y1.toList && (x2.toList == y2.toList && (x3 == y3 && (x4 == y4))))) w := by
  refine eqA_of Try.underlying51 (by kernel_rfl) ?_
  refine eqf_cons (by rfl) (by go_simp; rfl) (by go_simp; rfl) (by go_simp) ?_
  refine eqf_cons (by rfl) (by go_simp; rfl) (by go_simp; rfl) (by go_simp) ?_
  refine eqf_cons (by rfl) (by go_simp; rfl) (by go_simp; rfl) (by go_simp) ?_
  refine eqf_cons (by rfl) (by go_simp; rfl) (by go_simp; rfl) (by go_simp) ?_
  exact eqf_last (by rfl) (by go_simp; rfl) (by go_simp; rfl) (by go_simp)
end Go.Proofs.Ytkennobdoldlkaa.PAll
end
section
-- Printed by this session's pr.sh (the kit's print.py, several laws in one namespace). Not trusted: Lean checks it.
namespace Go.Proofs.Ytkennobdoldlkaa.PAll
open Go.RowKit Go.Proofs.YtkennobdoldlkaaW.PrintWords Go.Proofs.YtkennobdoldlkaaW.PrintLast Go.Proofs.YtkennobdoldlkaaW.PrintMore
attribute [local go_sem] max2_int min2_int max_two min_two max_three min_three max_four min_four   -- for this text's walks alone
set_option linter.unusedVariables false
set_option linter.unusedSimpArgs false

theorem eqA53 (d : Nat) (w : World) (x0 y0 : Int) (x1 y1 : ByteArray) (x2 y2 : ByteArray) (x3 y3 : Bool) (x4 y4 : Bool) :
    (Op.equalIn (d + 2) 53 (.agg #[.int .u64 x0, .string x1, .string x2, .bool x3, .bool x4]) (.agg #[.int .u64 y0, .string y1, .string y2, .bool y3, .bool y4])).run Try.prog w = .ok (x0 == y0 && (x1.toList == y1.toList && (x2.toList == y2.toList && (x3 == y3 && (x4 == y4))))) w := by
  refine eqA_of Try.underlying53 (by kernel_rfl) ?_
  refine eqf_cons (by rfl) (by go_simp; rfl) (by go_simp; rfl) (by go_simp) ?_
  refine eqf_cons (by rfl) (by go_simp; rfl) (by go_simp; rfl) (by go_simp) ?_
  refine eqf_cons (by rfl) (by go_simp; rfl) (by go_simp; rfl) (by go_simp) ?_
  refine eqf_cons (by rfl) (by go_simp; rfl) (by go_simp; rfl) (by go_simp) ?_
  exact eqf_last (by rfl) (by go_simp; rfl) (by go_simp; rfl) (by go_simp)
end Go.Proofs.Ytkennobdoldlkaa.PAll
end
