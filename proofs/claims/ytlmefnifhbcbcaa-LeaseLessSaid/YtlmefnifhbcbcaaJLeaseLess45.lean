/- Joined texts of the claim LeaseLess (part 45): contracts of functions and plain laws. -/
import Derived.Test.YtlmefnifhbcbcaaJLeaseLess41
import Derived.Test.YtlmefnifhbcbcaaJLeaseLess43
import Derived.Test.YtlmefnifhbcbcaaJLeaseLess44
section
/- Every numbers: a bound is below its span, rises with it, and with less drift; without drift that is known there is none. -/
namespace Go.Proofs.Ytlmefnifhbcbcaa.PAll
open Go.RowKit Go.Proofs.YtlmefnifhbcbcaaW.PrintWords Go.Proofs.YtlmefnifhbcbcaaW.PrintMore Go.Proofs.Ytlmefnifhbcbcaa
set_option linter.unusedVariables false
theorem Less_j0 (s d wd : Int) (hs : 0 ≤ s ∧ s < 18446744073709551616) (hd : 0 ≤ d ∧ d < 18446744073709551616) (hw : 0 ≤ wd ∧ wd < 18446744073709551616) (h2 : 2 ≤ d) (hle : s ≤ wd) : Ev (fun q => ferrulelaw10_LeaseLess.j0 q s d true ((bndN s.toNat d.toNat : Nat) : Int) wd) true := by
  have a1 : ((bndN wd.toNat d.toNat : Nat) : Int) ≥ ((bndN s.toNat d.toNat : Nat) : Int) := by
    have := bnd_span (d := d.toNat) (show s.toNat ≤ wd.toNat by omega); omega
  have a3 : s = 0 ∨ ((bndN s.toNat d.toNat : Nat) : Int) < s := by
    rcases Int.lt_or_le 0 s with c | c
    · right; have := bnd_lt (d := d.toNat) (show 0 < s.toNat by omega); omega
    · left; omega
  have a4 : s = 0 → ((bndN s.toNat d.toNat : Nat) : Int) = 0 := fun h => by subst h; show ((bndN 0 d.toNat : Nat) : Int) = 0; rw [bnd_zero]; rfl
  refine Ev.step (fun q => by simp only [ferrulelaw10_LeaseLess.j0]; rfl) ?_
  rw [gB_eq hw hd, gB_eq hs hd]
  have hb : (IntKind.u64.wrap (d + 1) ≠ 0 → lease_Bound.f s (IntKind.u64.wrap (d + 1)) = some ((bndN s.toNat (d.toNat + 1) : Nat) : Int)) := fun h => by
    have e : IntKind.u64.wrap (d + 1) = d + 1 := by rw [IntKind.wrap_u64] at h ⊢; omega
    rw [e, gB_eq hs (by rw [IntKind.wrap_u64] at h; omega), show (d + 1).toNat = d.toNat + 1 by omega]
  have a2 : ((bndN s.toNat (d.toNat + 1) : Nat) : Int) ≥ ((bndN s.toNat d.toNat : Nat) : Int) := by
    have := bnd_drift s.toNat d.toNat (by omega); omega
  simp only [Option.bind_some]
  refine Ev.congr (fun q => ?_) (Ev.now true)
  by_cases c : IntKind.u64.wrap (d + 1) = 0
  · rw [if_pos c, if_pos trivial, if_pos a1]
    rcases a3 with h0 | hlt
    · by_cases c2 : ((bndN s.toNat d.toNat : Nat) : Int) < s
      · rw [if_pos c2]; simp
      · rw [if_neg c2, if_pos h0, if_pos (a4 h0)]; simp
    · rw [if_pos hlt]; simp
  · rw [if_neg c, if_pos trivial, hb c, if_pos a1]
    simp only [Option.bind_some]
    rcases a3 with h0 | hlt
    · by_cases c2 : ((bndN s.toNat d.toNat : Nat) : Int) < s
      · rw [if_pos c2, decide_eq_true a2]
      · rw [if_neg c2, if_pos h0, if_pos (a4 h0), decide_eq_true a2]
    · rw [if_pos hlt, decide_eq_true a2]
theorem Less_ev (s m d : Int) (hs : 0 ≤ s ∧ s < 18446744073709551616) (hm : 0 ≤ m ∧ m < 18446744073709551616) (hd : 0 ≤ d ∧ d < 18446744073709551616) : Ev (fun q => ferrulelaw10_LeaseLess.f q s m d) true := by
  refine Ev.bind (show Ev (fun _ => ferrulelaw10_shown.f) true from Ev.now true) ?_
  refine Ev.bind (show Ev (fun _ => lease_Bound.f s d) _ from ⟨0, fun _ _ => gB_eq hs hd⟩) ?_
  by_cases c : d < 2
  · refine Ev.congr (fun _ => (if_pos c).trans (if_pos rfl)) ?_
    refine Ev.congr (fun _ => congrArg some ?_) (Ev.now true)
    have : bndN s.toNat d.toNat = 0 := by unfold bndN; rw [if_pos (by omega)]
    rw [this]; rfl
  · refine Ev.congr (fun _ => if_neg c) ?_
    by_cases c2 : IntKind.u64.wrap (s + m) < s
    · refine Ev.congr (fun _ => if_pos c2) ?_
      exact Less_j0 s d s hs hd hs (by omega) (by omega)
    · refine Ev.congr (fun _ => if_neg c2) ?_
      exact Less_j0 s d _ hs hd (by rw [IntKind.wrap_u64]; omega) (by omega) (by omega)
theorem LeaseLess_walk {w : World} (a0 : Int) (w0 : (Lit.int .u64 a0).wf = true) (a1 : Int) (w1 : (Lit.int .u64 a1).wf = true) (a2 : Int) (w2 : (Lit.int .u64 a2).wf = true) :
    Calls Try.prog 5 #[.int .u64 a0, .int .u64 a1, .int .u64 a2] w fun e w' => e = .returned (.bool true) ∧ Below w.heap.size w w' := by
  obtain ⟨k, hk⟩ := (Less_ev a0 a1 a2 (wf_u64 w0) (wf_u64 w1) (wf_u64 w2)).rounds
  exact ferrulelaw10_LeaseLess.calls k a0 a1 a2 true w hk
end Go.Proofs.Ytlmefnifhbcbcaa.PAll
end
