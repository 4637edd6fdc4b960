/- Every marks: nodes' numbers are asked for and set as the document defines it. No condition beside the form's own. -/
import Derived.Test.YtlmefnifhbcbcaaJGroupMarks21
import Derived.Test.YtlmefnifhbcbcaaJGroupMarks29
import Derived.Test.YtlmefnifhbcbcaaJGroupMarks30
import Derived.Test.YtlmefnifhbcbcaaRows
import Derived.WalkKit
import Derived.ProofKit
import Derived.OpenShut
import Derived.ShutString
import Derived.ChangeOld
import Derived.Below
import Derived.SizedLaws
section
/- Every marks: nodes' numbers are asked for and set by the code as the document defines it. -/
namespace Go.Proofs.Ytlmefnifhbcbcaa.PAll
open Go.RowKit Go.Proofs.YtlmefnifhbcbcaaW.PrintWords Go.Proofs.YtlmefnifhbcbcaaW.PrintMore Go.Proofs.Ytlmefnifhbcbcaa
set_option linter.unusedVariables false
theorem GroupMarks_pure (m : List S39) (id v : Int) (hm : m.length < 8796093022208) : Ev (fun k => ferrulelaw06_GroupMarks.f k m id v) true := by
  refine Ev.bind shown06_ev ?_
  refine Ev.bind (show Ev (fun _ => group_Mark.f m id) _ from ⟨0, fun _ _ => Mark_eq m id⟩) ?_
  refine Ev.bind (rMark_ev m id (by omega)) ?_
  refine Ev.bind (show Ev (fun _ => group_Set.f m id v) _ from ⟨0, fun _ _ => gSet_eq m id v hm⟩) ?_
  refine Ev.bind (rSet_ev m id v hm) ?_
  refine Ev.bind (rMarks_ev _ (by have := setV_len m id v; omega)) ?_
  exact Ev.congr (fun _ => (if_pos rfl).trans ((if_pos rfl).trans (if_pos (beq_self_eq_true _)))) (Ev.now true)
theorem GroupMarks_walk {w : World} (A : Option Addr) (c : Nat) (l : List S39) (hr : Kd.C k39 w A l.length l) (hc : l.length ≤ c) (hs : l.length * Try.prog.bytesOf 39 ≤ 140737488351232 ∧ ∀ x ∈ l, ok39 x) (id : Int) (hid : (Lit.int .u64 id).wf = true) (v : Int) (hv : (Lit.int .u64 v).wf = true) :
    Calls Try.prog 11 #[.slice A l.length c, .int .u64 id, .int .u64 v] w fun e w' => e = .returned (.bool true) ∧ Below w.heap.size w w' := by
  rw [bytesMark] at hs
  obtain ⟨k, hk⟩ := (GroupMarks_pure l id v (by omega)).rounds
  exact ferrulelaw06_GroupMarks.calls k A c l id v true w hr hc hk
end Go.Proofs.Ytlmefnifhbcbcaa.PAll
end
section
namespace Go.Proofs.Ytlmefnifhbcbcaa.groupMarks
open Go.ChangeShapes Go.WideShapes Go.ChangeAt Go.RowKit Go.Proofs.YtlmefnifhbcbcaaW.PrintWords Go.Proofs.Ytlmefnifhbcbcaa Go.Proofs.Ytlmefnifhbcbcaa.PAll
open Go.ChangeMaps (open_string shut_string)
set_option linter.unusedVariables false
set_option linter.unusedSimpArgs false
theorem own : ownKnob Try.prog.godebug = none := by kernel_rfl
theorem laidOut : laidOutB Try.prog = true := by kernel_rfl
set_option maxRecDepth 100000 in
theorem lifted (os : Os) (started : os.Started) (H : Type) (enc : TypeId × Value → H) :
    ReturnsInHanded {} Try.checked os 11 .any (Rows.groupMarksSpec.pre6 enc Try.prog Try.f11 Rows.groupMarksRow.domain false) (Rows.groupMarksSpec.post enc Try.prog Try.f11 false true false false) := by
  refine returnsInHanded_of_change_sized (C := Try.checked) own started (by kernel_rfl) Try.func11
    (ChangeSpec.witness6 (enc := enc) (C := Try.checked) false ⟨#[], #[.slice none 0 0, .int .u64 0, .int .u64 0], []⟩ 8 (by kernel_rfl) (by kernel_rfl) (by kernel_rfl) (by kernel_rfl)) ?_
  intro W base args ds gs before hval0 hW hcnd hsz0 _
  have hsz : (DataW.weightsEach Try.prog (Try.f11.params.toList ++ Rows.groupMarksSpec.plain.varTypes Try.prog) (ds ++ gs)).all (· ≤ reachBytes) = true := hsz0
  have hval : ∀ (j : Nat) t v, Try.f11.params[j]? = some t → args[j]? = some v → Value.okWide Try.prog W .any base t v := hval0
  have hW' := hW
  obtain ⟨p, q, hA0, hV, rfl, hfz, hnd⟩ := hW
  have hA : DataW.TrodAll enc Try.prog W 0 (fun _ => true) true Try.f11.params.toList args.toList ds p := hA0
  rw [Try.params11] at hA hval hsz
  obtain ⟨v0, vs0, d0, ds0, p0, q0, hargs, rfl, rfl, h0, r0⟩ := trodAll_cons hA
  obtain ⟨v1, vs1, d1, ds1, p1, q1, rfl, rfl, rfl, h1, r1⟩ := trodAll_cons r0
  obtain ⟨v2, vs2, d2, ds2, p2, q2, rfl, rfl, rfl, h2, r2⟩ := trodAll_cons r1
  obtain ⟨rfl, rfl, rfl⟩ := trodAll_nil r2
  obtain rfl : args = #[v0, v1, v2] := by cases args; simp_all
  obtain ⟨rfl, rfl⟩ := trodVars_none hV
  have hw0 := weights_of 0 hsz (t := 29) (d := d0) rfl rfl
  obtain ⟨a0, len0, cap0, rfl⟩ := okWide_slice Try.underlying29 (hval 0 29 v0 rfl rfl)
  have k0 := h0
  have lt0 : ∀ x ∈ p0, x.block < W.heap.size := by obtain ⟨m, hm⟩ := k0; exact DataW.trod_lt m _ _ _ hm
  obtain ⟨l0, hl0, hr0, hc0, hs0⟩ : ∃ l, len0 = l.length ∧ Kd.C k39 W a0 l.length l ∧ l.length ≤ cap0 ∧ (fun l => l.length * Try.prog.bytesOf 39 ≤ 140737488351232 ∧ ∀ x ∈ l, ok39 x) l := by
    obtain ⟨fuel, hf⟩ := h0
    obtain ⟨l, ⟨A, c, hv, hc, hr⟩, hS⟩ := (Opens.slice Try.underlying29 (by kernel_rfl) opens39) H enc W 0 _ _ fuel _ _ _ hf hw0
    simp [Value.cells] at hv
    obtain ⟨rfl, rfl, rfl⟩ := hv
    exact ⟨l, rfl, hr, hc, hS⟩
  subst hl0
  have hw1 := weights_of 1 hsz (t := 22) (d := d1) rfl rfl
  obtain ⟨a1, rfl, rfl, rfl, w1⟩ := open_int Try.underlying22 (hval 1 22 v1 rfl rfl) h1
  have hw2 := weights_of 2 hsz (t := 22) (d := d2) rfl rfl
  obtain ⟨a2, rfl, rfl, rfl, w2⟩ := open_int Try.underlying22 (hval 2 22 v2 rfl rfl) h2
  clear hA0 hval0 hsz0 hsz
  refine (GroupMarks_walk (w := W) a0 cap0 l0 hr0 hc0 hs0 a1 w1 a2 w2).mono fun e W' ⟨he, bel⟩ => ?_
  subst he
  exact ⟨_, rfl, _, _, _, [], _, [], hW', trodAll_mk1 (shut_bool Try.underlying4 _), (trodAll_cons_mk (Below.trod laidOut (by kernel_rfl) (of_decide_eq_true (by kernel_rfl)) k0 bel lt0) (trodAll_cons_mk (shut_int Try.underlying22 w1) (trodAll_cons_mk (shut_int Try.underlying22 w2) trodAll_mk0))), rfl, bel.frame _, fun h => by cases h⟩
theorem over : Rows.groupMarksRow.holds Try.pinned (OpenSpec.ofChange Rows.groupMarksSpec) :=
  OpenClaim.holds_of_wide 11 Try.f11 rfl rfl rfl rfl rfl rfl rfl ⟨rfl, rfl, rfl, rfl, rfl⟩ rfl rfl rfl rfl rfl (by kernel_rfl) Try.func11 (by kernel_rfl)
    (of_decide_eq_true (by kernel_rfl)) (by unfold Func.isWrapper; first | (rw [if_pos (by decide +kernel)]; kernel_rfl) | (rw [if_neg (by decide +kernel)]; exact ⟨rfl, rfl⟩))
    (fun os started H enc _ => lifted os started H enc)
theorem proved : Rows.GroupMarksSaid := over
#print axioms proved
end Go.Proofs.Ytlmefnifhbcbcaa.groupMarks
namespace Go.Proofs.Ytlmefnifhbcbcaa
/-- The row, under a short name, for the claim. -/
theorem groupMarks_holds : Rows.GroupMarksSaid := groupMarks.proved
end Go.Proofs.Ytlmefnifhbcbcaa
end
