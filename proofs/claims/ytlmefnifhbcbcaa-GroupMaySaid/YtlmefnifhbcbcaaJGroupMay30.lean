/- Every configuration: whether it may be, and how many are a majority, is as the document defines it. No condition beside the form's own. -/
import Derived.Test.YtlmefnifhbcbcaaJGroupMay28
import Derived.Test.YtlmefnifhbcbcaaJGroupMay29
import Derived.Test.YtlmefnifhbcbcaaRows
import Derived.WalkKit
import Derived.ProofKit
import Derived.OpenShut
import Derived.ShutString
import Derived.ChangeOld
import Derived.Below
import Derived.SizedLaws
section
/- Every configuration: whether it may be, and how many are a majority, is told by the code as the document defines it. -/
namespace Go.Proofs.Ytlmefnifhbcbcaa.PAll
open Go.RowKit Go.Proofs.YtlmefnifhbcbcaaW.PrintWords Go.Proofs.YtlmefnifhbcbcaaW.PrintMore Go.Proofs.Ytlmefnifhbcbcaa
set_option linter.unusedVariables false
theorem GroupMay_pure (v l ids : List Int) (hv : v.length ≤ 4611686018427387904) (hl : l.length ≤ 4611686018427387904) (hi : ids.length ≤ 4611686018427387904) (uv : u64s v = true) (ui : u64s ids = true) : Ev (fun k => ferrulelaw06_GroupMay.f k v l ids) true := by
  refine Ev.bind shown06_ev ?_
  refine Ev.congr (fun _ => if_pos rfl) ?_
  refine Ev.bind (show Ev (fun _ => group_May.f v l) _ from ⟨0, fun _ _ => gMay_eq v l (by omega) (by omega)⟩) ?_
  refine Ev.bind (rMay_ev v l (by omega) (by omega)) ?_
  refine Ev.congr (fun _ => if_pos (beq_self_eq_true _)) ?_
  refine Ev.bind (show Ev (fun _ => group_Need.f v l) _ from ⟨0, fun _ _ => need_val v l hv⟩) ?_
  refine Ev.congr (fun _ => if_pos (by unfold wrap64; omega)) ?_
  refine Ev.bind (show Ev (fun _ => group_Most.f v l ids) (mostV v ids) from ⟨0, fun _ _ => by unfold group_Most.f; rw [if_pos ⟨uv, ui, hv, hi⟩]⟩) ?_
  refine Ev.bind (show Ev (fun _ => ferruleref06_Most.f v l ids) (rmostV v ids) from ⟨0, fun _ _ => by unfold ferruleref06_Most.f; rw [if_pos ⟨hv, hi⟩]⟩) ?_
  rw [most_same]
  exact Ev.congr (fun _ => congrArg some (beq_self_eq_true _)) (Ev.now true)
theorem GroupMay_walk {w : World} (cs : Array Value) (x : S28) (hx : k28.K w x cs.toList) (hsx : ok28 x) (A : Option Addr) (c : Nat) (l : List Int) (hr : Kd.C (Kd.int .u64) w A l.length l) (hc : l.length ≤ c) (hs : l.length * Try.prog.bytesOf 22 ≤ 140737488351232 ∧ ∀ x ∈ l, (Lit.int .u64 x).wf = true) :
    Calls Try.prog 12 #[.agg cs, .slice A l.length c] w fun e w' => e = .returned (.bool true) ∧ Below w.heap.size w w' := by
  obtain ⟨⟨h1, u1⟩, ⟨h2, u2⟩⟩ := hsx
  obtain ⟨h3, u3⟩ := hs
  rw [bytesU64] at h1 h2 h3
  obtain ⟨A0, c0, A1, c1, rfl, l0, g0, l1, g1⟩ := confCells hx
  obtain ⟨k, hk⟩ := (GroupMay_pure x.f0 x.f1 l (by omega) (by omega) (by omega) (u64s_of u1) (u64s_of u3)).rounds
  exact ferrulelaw06_GroupMay.calls k A0 c0 x.f0 A1 c1 x.f1 A c l true w g0 l0 g1 l1 hr hc hk
end Go.Proofs.Ytlmefnifhbcbcaa.PAll
end
section
namespace Go.Proofs.Ytlmefnifhbcbcaa.groupMay
open Go.ChangeShapes Go.WideShapes Go.ChangeAt Go.RowKit Go.Proofs.YtlmefnifhbcbcaaW.PrintWords Go.Proofs.Ytlmefnifhbcbcaa Go.Proofs.Ytlmefnifhbcbcaa.PAll
open Go.ChangeMaps (open_string shut_string)
set_option linter.unusedVariables false
set_option linter.unusedSimpArgs false
theorem own : ownKnob Try.prog.godebug = none := by kernel_rfl
theorem laidOut : laidOutB Try.prog = true := by kernel_rfl
set_option maxRecDepth 100000 in
theorem lifted (os : Os) (started : os.Started) (H : Type) (enc : TypeId × Value → H) :
    ReturnsInHanded {} Try.checked os 12 .any (Rows.groupMaySpec.pre6 enc Try.prog Try.f12 Rows.groupMayRow.domain false) (Rows.groupMaySpec.post enc Try.prog Try.f12 false true false false) := by
  refine returnsInHanded_of_change_sized (C := Try.checked) own started (by kernel_rfl) Try.func12
    (ChangeSpec.witness6 (enc := enc) (C := Try.checked) false ⟨#[], #[.agg #[.slice none 0 0, .slice none 0 0], .slice none 0 0], []⟩ 8 (by kernel_rfl) (by kernel_rfl) (by kernel_rfl) (by kernel_rfl)) ?_
  intro W base args ds gs before hval0 hW hcnd hsz0 _
  have hsz : (DataW.weightsEach Try.prog (Try.f12.params.toList ++ Rows.groupMaySpec.plain.varTypes Try.prog) (ds ++ gs)).all (· ≤ reachBytes) = true := hsz0
  have hval : ∀ (j : Nat) t v, Try.f12.params[j]? = some t → args[j]? = some v → Value.okWide Try.prog W .any base t v := hval0
  have hW' := hW
  obtain ⟨p, q, hA0, hV, rfl, hfz, hnd⟩ := hW
  have hA : DataW.TrodAll enc Try.prog W 0 (fun _ => true) true Try.f12.params.toList args.toList ds p := hA0
  rw [Try.params12] at hA hval hsz
  obtain ⟨v0, vs0, d0, ds0, p0, q0, hargs, rfl, rfl, h0, r0⟩ := trodAll_cons hA
  obtain ⟨v1, vs1, d1, ds1, p1, q1, rfl, rfl, rfl, h1, r1⟩ := trodAll_cons r0
  obtain ⟨rfl, rfl, rfl⟩ := trodAll_nil r1
  obtain rfl : args = #[v0, v1] := by cases args; simp_all
  obtain ⟨rfl, rfl⟩ := trodVars_none hV
  have hw0 := weights_of 0 hsz (t := 28) (d := d0) rfl rfl
  have k0 := h0
  have lt0 : ∀ x ∈ p0, x.block < W.heap.size := by obtain ⟨m, hm⟩ := k0; exact DataW.trod_lt m _ _ _ hm
  obtain ⟨cs0, rfl, hcz0⟩ := okWide_struct Try.underlying28 (hval 0 28 v0 rfl rfl)
  obtain ⟨x0, hx0, hs0⟩ : ∃ x, k28.K W x cs0.toList ∧ ok28 x := by
    obtain ⟨fuel, hf⟩ := h0
    exact opens28 H enc W 0 _ _ fuel _ _ _ hf hw0
  have hw1 := weights_of 1 hsz (t := 26) (d := d1) rfl rfl
  obtain ⟨a1, len1, cap1, rfl⟩ := okWide_slice Try.underlying26 (hval 1 26 v1 rfl rfl)
  have k1 := h1
  have lt1 : ∀ x ∈ p1, x.block < W.heap.size := by obtain ⟨m, hm⟩ := k1; exact DataW.trod_lt m _ _ _ hm
  obtain ⟨l1, hl1, hr1, hc1, hs1⟩ : ∃ l, len1 = l.length ∧ Kd.C (Kd.int .u64) W a1 l.length l ∧ l.length ≤ cap1 ∧ (fun l => l.length * Try.prog.bytesOf 22 ≤ 140737488351232 ∧ ∀ x ∈ l, (fun n : Int => (Lit.int .u64 n).wf = true) x) l := by
    obtain ⟨fuel, hf⟩ := h1
    obtain ⟨l, ⟨A, c, hv, hc, hr⟩, hS⟩ := (Opens.slice Try.underlying26 (by kernel_rfl) (Opens.int (k := .u64) Try.underlying22)) H enc W 0 _ _ fuel _ _ _ hf hw1
    simp [Value.cells] at hv
    obtain ⟨rfl, rfl, rfl⟩ := hv
    exact ⟨l, rfl, hr, hc, hS⟩
  subst hl1
  clear hA0 hval0 hsz0 hsz
  refine (GroupMay_walk (w := W) cs0 x0 hx0 hs0 a1 cap1 l1 hr1 hc1 hs1).mono fun e W' ⟨he, bel⟩ => ?_
  subst he
  exact ⟨_, rfl, _, _, _, [], _, [], hW', trodAll_mk1 (shut_bool Try.underlying4 _), (trodAll_cons_mk (Below.trod laidOut (by kernel_rfl) (of_decide_eq_true (by kernel_rfl)) k0 bel lt0) (trodAll_cons_mk (Below.trod laidOut (by kernel_rfl) (of_decide_eq_true (by kernel_rfl)) k1 bel lt1) trodAll_mk0)), rfl, bel.frame _, fun h => by cases h⟩
theorem over : Rows.groupMayRow.holds Try.pinned (OpenSpec.ofChange Rows.groupMaySpec) :=
  OpenClaim.holds_of_wide 12 Try.f12 rfl rfl rfl rfl rfl rfl rfl ⟨rfl, rfl, rfl, rfl, rfl⟩ rfl rfl rfl rfl rfl (by kernel_rfl) Try.func12 (by kernel_rfl)
    (of_decide_eq_true (by kernel_rfl)) (by unfold Func.isWrapper; first | (rw [if_pos (by decide +kernel)]; kernel_rfl) | (rw [if_neg (by decide +kernel)]; exact ⟨rfl, rfl⟩))
    (fun os started H enc _ => lifted os started H enc)
theorem proved : Rows.GroupMaySaid := over
#print axioms proved
end Go.Proofs.Ytlmefnifhbcbcaa.groupMay
namespace Go.Proofs.Ytlmefnifhbcbcaa
/-- The row, under a short name, for the claim. -/
theorem groupMay_holds : Rows.GroupMaySaid := groupMay.proved
end Go.Proofs.Ytlmefnifhbcbcaa
end
