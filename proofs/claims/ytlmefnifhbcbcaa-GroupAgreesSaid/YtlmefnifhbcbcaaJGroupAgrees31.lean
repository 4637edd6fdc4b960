/- Every configuration, every marks: what a majority has is as the document defines it. No condition beside the form's own. -/
import Derived.Test.YtlmefnifhbcbcaaJGroupAgrees21
import Derived.Test.YtlmefnifhbcbcaaJGroupAgrees29
import Derived.Test.YtlmefnifhbcbcaaJGroupAgrees13
import Derived.Test.YtlmefnifhbcbcaaJGroupAgrees30
import Derived.Test.YtlmefnifhbcbcaaRows
import Derived.WalkKit
import Derived.ProofKit
import Derived.OpenShut
import Derived.ShutString
import Derived.ChangeOld
import Derived.Below
import Derived.SizedLaws
section
/- Every configuration, every marks: what a majority has is told by the code as the document defines it. -/
namespace Go.Proofs.Ytlmefnifhbcbcaa.PAll
open Go.RowKit Go.Proofs.YtlmefnifhbcbcaaW.PrintWords Go.Proofs.YtlmefnifhbcbcaaW.PrintMore Go.Proofs.Ytlmefnifhbcbcaa
set_option linter.unusedVariables false
theorem natM_of {m : List S39} (h : ∀ x ∈ m, ok39 x) : natM m = true := by
  unfold natM
  rw [List.all_eq_true]
  exact fun x hx => decide_eq_true (u64_wf (h x hx).2).1
theorem GroupAgrees_pure (v l : List Int) (m : List S39) (hv : v.length ≤ 17592186044404) (hm : m.length ≤ 9223372036854775806) (hn : natM m = true) : Ev (fun k => ferrulelaw06_GroupAgrees.f k v l m) true := by
  refine Ev.bind shown06_ev ?_
  refine Ev.congr (fun _ => if_pos rfl) ?_
  refine Ev.bind (show Ev (fun _ => group_Agreed.f v l m) (agrV v m) from ⟨0, fun _ _ => by unfold group_Agreed.f; rw [if_pos ⟨hn, hv⟩]⟩) ?_
  refine Ev.bind (rAgr_ev v l m (by omega) hm) ?_
  exact Ev.congr (fun _ => congrArg some (beq_self_eq_true _)) (Ev.now true)
theorem GroupAgrees_walk {w : World} (cs : Array Value) (x : S28) (hx : k28.K w x cs.toList) (hsx : ok28 x) (A : Option Addr) (c : Nat) (l : List S39) (hr : Kd.C k39 w A l.length l) (hc : l.length ≤ c) (hs : l.length * Try.prog.bytesOf 39 ≤ 140737488351232 ∧ ∀ x ∈ l, ok39 x) :
    Calls Try.prog 9 #[.agg cs, .slice A l.length c] w fun e w' => e = .returned (.bool true) ∧ Below w.heap.size w w' := by
  obtain ⟨⟨h1, u1⟩, ⟨h2, u2⟩⟩ := hsx
  obtain ⟨h3, u3⟩ := hs
  rw [bytesU64] at h1 h2
  rw [bytesMark] at h3
  obtain ⟨A0, c0, A1, c1, rfl, l0, g0, l1, g1⟩ := confCells hx
  obtain ⟨k, hk⟩ := (GroupAgrees_pure x.f0 x.f1 l (by omega) (by omega) (natM_of u3)).rounds
  exact ferrulelaw06_GroupAgrees.calls k A0 c0 x.f0 A1 c1 x.f1 A c l true w g0 l0 g1 l1 hr hc hk
end Go.Proofs.Ytlmefnifhbcbcaa.PAll
end
section
namespace Go.Proofs.Ytlmefnifhbcbcaa.groupAgrees
open Go.ChangeShapes Go.WideShapes Go.ChangeAt Go.RowKit Go.Proofs.YtlmefnifhbcbcaaW.PrintWords Go.Proofs.Ytlmefnifhbcbcaa Go.Proofs.Ytlmefnifhbcbcaa.PAll
open Go.ChangeMaps (open_string shut_string)
set_option linter.unusedVariables false
set_option linter.unusedSimpArgs false
theorem own : ownKnob Try.prog.godebug = none := by kernel_rfl
theorem laidOut : laidOutB Try.prog = true := by kernel_rfl
set_option maxRecDepth 100000 in
theorem lifted (os : Os) (started : os.Started) (H : Type) (enc : TypeId × Value → H) :
    ReturnsInHanded {} Try.checked os 9 .any (Rows.groupAgreesSpec.pre6 enc Try.prog Try.f9 Rows.groupAgreesRow.domain false) (Rows.groupAgreesSpec.post enc Try.prog Try.f9 false true false false) := by
  refine returnsInHanded_of_change_sized (C := Try.checked) own started (by kernel_rfl) Try.func9
    (ChangeSpec.witness6 (enc := enc) (C := Try.checked) false ⟨#[], #[.agg #[.slice none 0 0, .slice none 0 0], .slice none 0 0], []⟩ 8 (by kernel_rfl) (by kernel_rfl) (by kernel_rfl) (by kernel_rfl)) ?_
  intro W base args ds gs before hval0 hW hcnd hsz0 _
  have hsz : (DataW.weightsEach Try.prog (Try.f9.params.toList ++ Rows.groupAgreesSpec.plain.varTypes Try.prog) (ds ++ gs)).all (· ≤ reachBytes) = true := hsz0
  have hval : ∀ (j : Nat) t v, Try.f9.params[j]? = some t → args[j]? = some v → Value.okWide Try.prog W .any base t v := hval0
  have hW' := hW
  obtain ⟨p, q, hA0, hV, rfl, hfz, hnd⟩ := hW
  have hA : DataW.TrodAll enc Try.prog W 0 (fun _ => true) true Try.f9.params.toList args.toList ds p := hA0
  rw [Try.params9] at hA hval hsz
  obtain ⟨v0, vs0, d0, ds0, p0, q0, hargs, rfl, rfl, h0, r0⟩ := trodAll_cons hA
  obtain ⟨v1, vs1, d1, ds1, p1, q1, rfl, rfl, rfl, h1, r1⟩ := trodAll_cons r0
  obtain ⟨rfl, rfl, rfl⟩ := trodAll_nil r1
  obtain rfl : args = #[v0, v1] := by cases args; simp_all
  obtain ⟨rfl, rfl⟩ := trodVars_none hV
  have hw0 := weights_of 0 hsz (t := 28) (d := d0) rfl rfl
  have k0 := h0
  have lt0 : ∀ x ∈ p0, x.block < W.heap.size := by obtain ⟨m, hm⟩ := k0; exact DataW.trod_lt m _ _ _ hm
  obtain ⟨cs0, rfl, hcz0⟩ := okWide_struct Try.underlying28 (hval 0 28 v0 rfl rfl)
  obtain ⟨x0, hx0, hs0⟩ : ∃ x, k28.K W x cs0.toList ∧ ok28 x := by
    obtain ⟨fuel, hf⟩ := h0
    exact opens28 H enc W 0 _ _ fuel _ _ _ hf hw0
  have hw1 := weights_of 1 hsz (t := 29) (d := d1) rfl rfl
  obtain ⟨a1, len1, cap1, rfl⟩ := okWide_slice Try.underlying29 (hval 1 29 v1 rfl rfl)
  have k1 := h1
  have lt1 : ∀ x ∈ p1, x.block < W.heap.size := by obtain ⟨m, hm⟩ := k1; exact DataW.trod_lt m _ _ _ hm
  obtain ⟨l1, hl1, hr1, hc1, hs1⟩ : ∃ l, len1 = l.length ∧ Kd.C k39 W a1 l.length l ∧ l.length ≤ cap1 ∧ (fun l => l.length * Try.prog.bytesOf 39 ≤ 140737488351232 ∧ ∀ x ∈ l, ok39 x) l := by
    obtain ⟨fuel, hf⟩ := h1
    obtain ⟨l, ⟨A, c, hv, hc, hr⟩, hS⟩ := (Opens.slice Try.underlying29 (by kernel_rfl) opens39) H enc W 0 _ _ fuel _ _ _ hf hw1
    simp [Value.cells] at hv
    obtain ⟨rfl, rfl, rfl⟩ := hv
    exact ⟨l, rfl, hr, hc, hS⟩
  subst hl1
  clear hA0 hval0 hsz0 hsz
  refine (GroupAgrees_walk (w := W) cs0 x0 hx0 hs0 a1 cap1 l1 hr1 hc1 hs1).mono fun e W' ⟨he, bel⟩ => ?_
  subst he
  exact ⟨_, rfl, _, _, _, [], _, [], hW', trodAll_mk1 (shut_bool Try.underlying4 _), (trodAll_cons_mk (Below.trod laidOut (by kernel_rfl) (of_decide_eq_true (by kernel_rfl)) k0 bel lt0) (trodAll_cons_mk (Below.trod laidOut (by kernel_rfl) (of_decide_eq_true (by kernel_rfl)) k1 bel lt1) trodAll_mk0)), rfl, bel.frame _, fun h => by cases h⟩
theorem over : Rows.groupAgreesRow.holds Try.pinned (OpenSpec.ofChange Rows.groupAgreesSpec) :=
  OpenClaim.holds_of_wide 9 Try.f9 rfl rfl rfl rfl rfl rfl rfl ⟨rfl, rfl, rfl, rfl, rfl⟩ rfl rfl rfl rfl rfl (by kernel_rfl) Try.func9 (by kernel_rfl)
    (of_decide_eq_true (by kernel_rfl)) (by unfold Func.isWrapper; first | (rw [if_pos (by decide +kernel)]; kernel_rfl) | (rw [if_neg (by decide +kernel)]; exact ⟨rfl, rfl⟩))
    (fun os started H enc _ => lifted os started H enc)
theorem proved : Rows.GroupAgreesSaid := over
#print axioms proved
end Go.Proofs.Ytlmefnifhbcbcaa.groupAgrees
namespace Go.Proofs.Ytlmefnifhbcbcaa
/-- The row, under a short name, for the claim. -/
theorem groupAgrees_holds : Rows.GroupAgreesSaid := groupAgrees.proved
end Go.Proofs.Ytlmefnifhbcbcaa
end
