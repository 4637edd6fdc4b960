/- Every configuration, every change: the configuration behind it is as the document defines it, or the change is refused. No condition beside the form's own. -/
import Derived.Test.YtlmefnifhbcbcaaJGroupChanges20
import Derived.Test.YtlmefnifhbcbcaaJGroupChanges29
import Derived.Test.YtlmefnifhbcbcaaJGroupChanges30
import Derived.Test.YtlmefnifhbcbcaaRows
import Derived.WalkKit
import Derived.ProofKit
import Derived.OpenShut
import Derived.ShutString
import Derived.ChangeOld
import Derived.Below
import Derived.SizedLaws
section
/- Every configuration, every change: the configuration behind it is told by the code as the document defines it, or the change is refused. -/
namespace Go.Proofs.Ytlmefnifhbcbcaa.PAll
open Go.RowKit Go.Proofs.YtlmefnifhbcbcaaW.PrintWords Go.Proofs.YtlmefnifhbcbcaaW.PrintMore Go.Proofs.Ytlmefnifhbcbcaa
set_option linter.unusedVariables false
theorem GroupChanges_pure (v l : List Int) (kd id : Int) (hv : v.length ≤ 4611686018427387904) (hl : l.length ≤ 4611686018427387904) : Ev (fun k => ferrulelaw06_GroupChanges.f k v l kd id) true := by
  have hn := nextV_len v l kd id
  refine Ev.bind shown06_ev ?_
  refine Ev.bind (gNext_ev v l kd id (by omega) (by omega)) ?_
  refine Ev.bind (rNext_ev v l kd id (by omega) (by omega)) ?_
  refine Ev.bind (rSame_ev _ _ (by omega) (by omega)) ?_
  exact Ev.congr (fun _ => (if_pos rfl).trans ((if_pos rfl).trans (congrArg some (beq_self_eq_true _)))) (Ev.now true)
theorem GroupChanges_walk {w : World} (cs : Array Value) (x : S28) (hx : k28.K w x cs.toList) (hsx : ok28 x) (cs2 : Array Value) (y : S47) (hy : k47.K w y cs2.toList) (hsy : ok47 y) :
    Calls Try.prog 10 #[.agg cs, .agg cs2] w fun e w' => e = .returned (.bool true) ∧ Below w.heap.size w w' := by
  obtain ⟨⟨h1, u1⟩, ⟨h2, u2⟩⟩ := hsx
  rw [bytesU64] at h1 h2
  obtain ⟨A0, c0, A1, c1, rfl, l0, g0, l1, g1⟩ := confCells hx
  obtain rfl := changeCells hy
  obtain ⟨k, hk⟩ := (GroupChanges_pure x.f0 x.f1 y.f0 y.f1 (by omega) (by omega)).rounds
  exact ferrulelaw06_GroupChanges.calls k A0 c0 x.f0 A1 c1 x.f1 y.f0 y.f1 true w g0 l0 g1 l1 hk
end Go.Proofs.Ytlmefnifhbcbcaa.PAll
end
section
namespace Go.Proofs.Ytlmefnifhbcbcaa.groupChanges
open Go.ChangeShapes Go.WideShapes Go.ChangeAt Go.RowKit Go.Proofs.YtlmefnifhbcbcaaW.PrintWords Go.Proofs.Ytlmefnifhbcbcaa Go.Proofs.Ytlmefnifhbcbcaa.PAll
open Go.ChangeMaps (open_string shut_string)
set_option linter.unusedVariables false
set_option linter.unusedSimpArgs false
theorem own : ownKnob Try.prog.godebug = none := by kernel_rfl
theorem laidOut : laidOutB Try.prog = true := by kernel_rfl
set_option maxRecDepth 100000 in
theorem lifted (os : Os) (started : os.Started) (H : Type) (enc : TypeId × Value → H) :
    ReturnsInHanded {} Try.checked os 10 .any (Rows.groupChangesSpec.pre6 enc Try.prog Try.f10 Rows.groupChangesRow.domain false) (Rows.groupChangesSpec.post enc Try.prog Try.f10 false true false false) := by
  refine returnsInHanded_of_change_sized (C := Try.checked) own started (by kernel_rfl) Try.func10
    (ChangeSpec.witness6 (enc := enc) (C := Try.checked) false ⟨#[], #[.agg #[.slice none 0 0, .slice none 0 0], .agg #[.int .i64 0, .int .u64 0]], []⟩ 8 (by kernel_rfl) (by kernel_rfl) (by kernel_rfl) (by kernel_rfl)) ?_
  intro W base args ds gs before hval0 hW hcnd hsz0 _
  have hsz : (DataW.weightsEach Try.prog (Try.f10.params.toList ++ Rows.groupChangesSpec.plain.varTypes Try.prog) (ds ++ gs)).all (· ≤ reachBytes) = true := hsz0
  have hval : ∀ (j : Nat) t v, Try.f10.params[j]? = some t → args[j]? = some v → Value.okWide Try.prog W .any base t v := hval0
  have hW' := hW
  obtain ⟨p, q, hA0, hV, rfl, hfz, hnd⟩ := hW
  have hA : DataW.TrodAll enc Try.prog W 0 (fun _ => true) true Try.f10.params.toList args.toList ds p := hA0
  rw [Try.params10] at hA hval hsz
  obtain ⟨v0, vs0, d0, ds0, p0, q0, hargs, rfl, rfl, h0, r0⟩ := trodAll_cons hA
  obtain ⟨v1, vs1, d1, ds1, p1, q1, rfl, rfl, rfl, h1, r1⟩ := trodAll_cons r0
  obtain ⟨rfl, rfl, rfl⟩ := trodAll_nil r1
  obtain rfl : args = #[v0, v1] := by cases args; simp_all
  obtain ⟨rfl, rfl⟩ := trodVars_none hV
  have hw0 := weights_of 0 hsz (t := 28) (d := d0) rfl rfl
  have k0 := h0
  have lt0 : ∀ x ∈ p0, x.block < W.heap.size := by obtain ⟨m, hm⟩ := k0; exact DataW.trod_lt m _ _ _ hm
  obtain ⟨cs0, rfl, hcz0⟩ := okWide_struct Try.underlying28 (hval 0 28 v0 rfl rfl)
  obtain ⟨x0, hx0, hs0⟩ : ∃ x, k28.K W x cs0.toList ∧ ok28 x := by
    obtain ⟨fuel, hf⟩ := h0
    exact opens28 H enc W 0 _ _ fuel _ _ _ hf hw0
  have hw1 := weights_of 1 hsz (t := 47) (d := d1) rfl rfl
  have k1 := h1
  have lt1 : ∀ x ∈ p1, x.block < W.heap.size := by obtain ⟨m, hm⟩ := k1; exact DataW.trod_lt m _ _ _ hm
  obtain ⟨cs1, rfl, hcz1⟩ := okWide_struct Try.underlying47 (hval 1 47 v1 rfl rfl)
  obtain ⟨x1, hx1, hs1⟩ : ∃ x, k47.K W x cs1.toList ∧ ok47 x := by
    obtain ⟨fuel, hf⟩ := h1
    exact opens47 H enc W 0 _ _ fuel _ _ _ hf hw1
  clear hA0 hval0 hsz0 hsz
  refine (GroupChanges_walk (w := W) cs0 x0 hx0 hs0 cs1 x1 hx1 hs1).mono fun e W' ⟨he, bel⟩ => ?_
  subst he
  exact ⟨_, rfl, _, _, _, [], _, [], hW', trodAll_mk1 (shut_bool Try.underlying4 _), (trodAll_cons_mk (Below.trod laidOut (by kernel_rfl) (of_decide_eq_true (by kernel_rfl)) k0 bel lt0) (trodAll_cons_mk (Below.trod laidOut (by kernel_rfl) (of_decide_eq_true (by kernel_rfl)) k1 bel lt1) trodAll_mk0)), rfl, bel.frame _, fun h => by cases h⟩
theorem over : Rows.groupChangesRow.holds Try.pinned (OpenSpec.ofChange Rows.groupChangesSpec) :=
  OpenClaim.holds_of_wide 10 Try.f10 rfl rfl rfl rfl rfl rfl rfl ⟨rfl, rfl, rfl, rfl, rfl⟩ rfl rfl rfl rfl rfl (by kernel_rfl) Try.func10 (by kernel_rfl)
    (of_decide_eq_true (by kernel_rfl)) (by unfold Func.isWrapper; first | (rw [if_pos (by decide +kernel)]; kernel_rfl) | (rw [if_neg (by decide +kernel)]; exact ⟨rfl, rfl⟩))
    (fun os started H enc _ => lifted os started H enc)
theorem proved : Rows.GroupChangesSaid := over
#print axioms proved
end Go.Proofs.Ytlmefnifhbcbcaa.groupChanges
namespace Go.Proofs.Ytlmefnifhbcbcaa
/-- The row, under a short name, for the claim. -/
theorem groupChanges_holds : Rows.GroupChangesSaid := groupChanges.proved
end Go.Proofs.Ytlmefnifhbcbcaa
end
