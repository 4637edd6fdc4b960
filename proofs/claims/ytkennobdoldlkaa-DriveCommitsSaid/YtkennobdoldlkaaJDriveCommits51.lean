/- A commit is asked for only when all steps, the begin and all prepares were answered OK; and all parts are told what the coordinator said. No condition beside the form's own. -/
import Derived.Below
import Derived.ChangeOld
import Derived.OpenShut
import Derived.ProofKit
import Derived.ShutString
import Derived.SizedLaws
import Derived.Test.YtkennobdoldlkaaJDriveCommits50
import Derived.Test.YtkennobdoldlkaaRows
import Derived.WalkKit
section
namespace Go.Proofs.Ytkennobdoldlkaa.driveCommits
open Go.ChangeShapes Go.WideShapes Go.ChangeAt Go.RowKit Go.Proofs.YtkennobdoldlkaaW.PrintWords Go.Proofs.Ytkennobdoldlkaa Go.Proofs.Ytkennobdoldlkaa.PAll
open Go.ChangeMaps (open_string shut_string)
set_option linter.unusedVariables false
set_option linter.unusedSimpArgs false
theorem own : ownKnob Try.prog.godebug = none := by kernel_rfl
theorem laidOut : laidOutB Try.prog = true := by kernel_rfl
set_option maxRecDepth 100000 in
theorem lifted (os : Os) (started : os.Started) (H : Type) (enc : TypeId × Value → H) :
    ReturnsInHanded {} Try.checked os 4 .any (Rows.driveCommitsSpec.pre6 enc Try.prog Try.f4 Rows.driveCommitsRow.domain false) (Rows.driveCommitsSpec.post enc Try.prog Try.f4 false true false false) := by
  refine returnsInHanded_of_change_sized (C := Try.checked) own started (by kernel_rfl) Try.func4
    (ChangeSpec.witness6 (enc := enc) (C := Try.checked) false ⟨#[], #[.agg #[.int .u64 0, .int .u64 0, .slice none 0 0], .slice none 0 0], []⟩ 8 (by kernel_rfl) (by kernel_rfl) (by kernel_rfl) (by kernel_rfl)) ?_
  intro W base args ds gs before hval0 hW hcnd hsz0 _
  have hsz : (DataW.weightsEach Try.prog (Try.f4.params.toList ++ Rows.driveCommitsSpec.plain.varTypes Try.prog) (ds ++ gs)).all (· ≤ reachBytes) = true := hsz0
  have hval : ∀ (j : Nat) t v, Try.f4.params[j]? = some t → args[j]? = some v → Value.okWide Try.prog W .any base t v := hval0
  have hW' := hW
  obtain ⟨p, q, hA0, hV, rfl, hfz, hnd⟩ := hW
  have hA : DataW.TrodAll enc Try.prog W 0 (fun _ => true) true Try.f4.params.toList args.toList ds p := hA0
  rw [Try.params4] at hA hval hsz
  obtain ⟨v0, vs0, d0, ds0, p0, q0, hargs, rfl, rfl, h0, r0⟩ := trodAll_cons hA
  obtain ⟨v1, vs1, d1, ds1, p1, q1, rfl, rfl, rfl, h1, r1⟩ := trodAll_cons r0
  obtain ⟨rfl, rfl, rfl⟩ := trodAll_nil r1
  obtain rfl : args = #[v0, v1] := by cases args; simp_all
  obtain ⟨rfl, rfl⟩ := trodVars_none hV
  have hw0 := weights_of 0 hsz (t := 27) (d := d0) rfl rfl
  have k0 := h0
  have lt0 : ∀ x ∈ p0, x.block < W.heap.size := by obtain ⟨m, hm⟩ := k0; exact DataW.trod_lt m _ _ _ hm
  obtain ⟨cs0, rfl, hcz0⟩ := okWide_struct Try.underlying27 (hval 0 27 v0 rfl rfl)
  obtain ⟨x0, hx0, hs0⟩ : ∃ x, k27.K W x cs0.toList ∧ ok27 x := by
    obtain ⟨fuel, hf⟩ := h0
    exact opens27 H enc W 0 _ _ fuel _ _ _ hf hw0
  have hw1 := weights_of 1 hsz (t := 45) (d := d1) rfl rfl
  obtain ⟨a1, len1, cap1, rfl⟩ := okWide_slice Try.underlying45 (hval 1 45 v1 rfl rfl)
  have k1 := h1
  have lt1 : ∀ x ∈ p1, x.block < W.heap.size := by obtain ⟨m, hm⟩ := k1; exact DataW.trod_lt m _ _ _ hm
  obtain ⟨l1, hl1, hr1, hc1, hs1⟩ : ∃ l, len1 = l.length ∧ Kd.C k33 W a1 l.length l ∧ l.length ≤ cap1 ∧ (fun l => l.length * Try.prog.bytesOf 33 ≤ 140737488351232 ∧ ∀ x ∈ l, ok33 x) l := by
    obtain ⟨fuel, hf⟩ := h1
    obtain ⟨l, ⟨A, c, hv, hc, hr⟩, hS⟩ := (Opens.slice Try.underlying45 (by kernel_rfl) opens33) H enc W 0 _ _ fuel _ _ _ hf hw1
    simp [Value.cells] at hv
    obtain ⟨rfl, rfl, rfl⟩ := hv
    exact ⟨l, rfl, hr, hc, hS⟩
  subst hl1
  clear hA0 hval0 hsz0 hsz
  refine (DriveCommits_walk (w := W) cs0 x0 hx0 hs0 a1 cap1 l1 hr1 hc1 hs1).mono fun e W' ⟨he, bel⟩ => ?_
  subst he
  exact ⟨_, rfl, _, _, _, [], _, [], hW', trodAll_mk1 (shut_bool Try.underlying4 _), (trodAll_cons_mk (Below.trod laidOut (by kernel_rfl) (of_decide_eq_true (by kernel_rfl)) k0 bel lt0) (trodAll_cons_mk (Below.trod laidOut (by kernel_rfl) (of_decide_eq_true (by kernel_rfl)) k1 bel lt1) trodAll_mk0)), rfl, bel.frame _, fun h => by cases h⟩
theorem over : Rows.driveCommitsRow.holds Try.pinned (OpenSpec.ofChange Rows.driveCommitsSpec) :=
  OpenClaim.holds_of_wide 4 Try.f4 rfl rfl rfl rfl rfl rfl rfl ⟨rfl, rfl, rfl, rfl, rfl⟩ rfl rfl rfl rfl rfl (by kernel_rfl) Try.func4 (by kernel_rfl)
    (of_decide_eq_true (by kernel_rfl)) (by unfold Func.isWrapper; first | (rw [if_pos (by decide +kernel)]; kernel_rfl) | (rw [if_neg (by decide +kernel)]; exact ⟨rfl, rfl⟩))
    (fun os started H enc _ => lifted os started H enc)
theorem proved : Rows.DriveCommitsSaid := over
#print axioms proved
end Go.Proofs.Ytkennobdoldlkaa.driveCommits
namespace Go.Proofs.Ytkennobdoldlkaa
/-- The row, under a short name, for the claim. -/
theorem driveCommits_holds : Rows.DriveCommitsSaid := driveCommits.proved
end Go.Proofs.Ytkennobdoldlkaa
end
