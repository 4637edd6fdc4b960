/- Two majorities of one configuration have a node in common, and so have one of a configuration and one of the next one. No condition beside the form's own. -/
import Derived.Test.YtlmefnifhbcbcaaJGroupMeets24
import Derived.Test.YtlmefnifhbcbcaaJGroupMeets28
import Derived.Test.YtlmefnifhbcbcaaJGroupMeets29
import Derived.Test.YtlmefnifhbcbcaaRows
import Derived.WalkKit
import Derived.ProofKit
import Derived.OpenShut
import Derived.ShutString
import Derived.ChangeOld
import Derived.Below
import Derived.SizedLaws
section
/- Two majorities of one configuration have a node in common, and so have one of a configuration and one of the next one. -/
namespace Go.Proofs.Ytlmefnifhbcbcaa.PAll
open Go.RowKit Go.Proofs.YtlmefnifhbcbcaaW.PrintWords Go.Proofs.YtlmefnifhbcbcaaW.PrintMore Go.Proofs.Ytlmefnifhbcbcaa
set_option linter.unusedVariables false
theorem wf_small {x : Int} (h : 1 ≤ x ∧ x ≤ 63) : (Lit.int .u64 x).wf = true := by
  simp [Lit.wf, IntKind.min, IntKind.max, IntKind.signed, IntKind.bits]
  omega
theorem u64s_rises {l : List Int} (h : risesB l = true) : u64s l = true := u64s_of (fun x hx => wf_small (rises_val h x hx))
theorem gMost_ev (v l ids : List Int) (hv : v.length ≤ 4611686018427387904) (hi : ids.length ≤ 4611686018427387904) (uv : u64s v = true) (ui : u64s ids = true) : Ev (fun _ => group_Most.f v l ids) (mostV v ids) := ⟨0, fun _ _ => by unfold group_Most.f; rw [if_pos ⟨uv, ui, hv, hi⟩]⟩
theorem Meets_j1 (v l a b : List Int) (kd id : Int) (hv : v.length ≤ 4611686018427387904) (hl : l.length ≤ 4611686018427387904) (hb : b.length ≤ 4611686018427387904) (ub : u64s b = true) : Ev (fun q => ferrulelaw06_GroupMeets.j1 q b (mostV v a) (comV a b) false v l kd id) true := by
  refine Ev.step (fun q => by simp only [ferrulelaw06_GroupMeets.j1]; exact if_neg (by decide)) ?_
  refine Ev.bind (gNext_ev v l kd id (by omega) (by omega)) ?_
  by_cases c : (nextV v l kd id).2.2 = 0
  case neg => exact Ev.congr (fun _ => if_neg c) (Ev.now true)
  refine Ev.congr (fun _ => if_pos c) ?_
  obtain ⟨hd, hw, hm⟩ := nextV_ok c
  obtain ⟨d1, d2, d3, d4, d5, d6⟩ := mayV_ok hd
  refine Ev.bind (show Ev (fun _ => group_May.f _ _) _ from ⟨0, fun _ _ => gMay_eq _ _ (by omega) (by omega)⟩) ?_
  refine Ev.bind (gMost_ev _ _ b (by omega) hb (u64s_rises d4) ub) ?_
  refine Ev.congr (fun _ => if_pos hd) ?_
  by_cases c1 : mostV v a = true
  case neg => exact Ev.congr (fun _ => if_neg c1) (Ev.now true)
  by_cases c2 : mostV (nextV v l kd id).1 b = true
  case neg => exact Ev.congr (fun _ => (if_pos c1).trans (if_neg c2)) (Ev.now true)
  exact Ev.congr (fun _ => (if_pos c1).trans ((if_pos c2).trans (by rw [meet_next c c1 c2]))) (Ev.now true)
theorem GroupMeets_pure (v l a b : List Int) (kd id : Int) (hv : v.length ≤ 4611686018427387904) (hl : l.length ≤ 4611686018427387904) (ha : a.length ≤ 4611686018427387904) (hb : b.length ≤ 4611686018427387904) (uv : u64s v = true) (ua : u64s a = true) (ub : u64s b = true) : Ev (fun k => ferrulelaw06_GroupMeets.f k v l kd id a b) true := by
  refine Ev.bind shown06_ev ?_
  refine Ev.congr (fun _ => if_pos rfl) ?_
  refine Ev.bind (show Ev (fun _ => group_May.f v l) _ from ⟨0, fun _ _ => gMay_eq v l (by omega) (by omega)⟩) ?_
  by_cases hm : mayV v l = true
  case neg =>
    rw [Bool.not_eq_true] at hm
    rw [hm]
    exact Ev.step (f := fun _ => some true) (fun q => by simp only [ferrulelaw06_GroupMeets.j0]; exact if_pos (by decide)) (Ev.now true)
  rw [hm]
  refine Ev.step (fun q => by simp only [ferrulelaw06_GroupMeets.j0]; exact if_neg (by decide)) ?_
  refine Ev.bind (gMost_ev v l a hv ha uv ua) ?_
  refine Ev.bind (gMost_ev v l b hv hb uv ub) ?_
  refine Ev.bind (common_ev a b (by omega) (by omega)) ?_
  have hj := Meets_j1 v l a b kd id hv hl hb ub
  by_cases c1 : mostV v a = true
  case neg => exact Ev.congr (fun _ => if_neg c1) hj
  by_cases c2 : mostV v b = true
  case neg => exact Ev.congr (fun _ => (if_pos c1).trans (if_neg c2)) hj
  have hc := meet_one (mayV_ok hm).2.2.2.1 c1 c2
  exact Ev.congr (fun _ => (if_pos c1).trans ((if_pos c2).trans (by rw [show (!comV a b) = false by rw [hc]; rfl]))) hj
theorem GroupMeets_walk {w : World} (cs : Array Value) (x : S64) (hx : k64.K w x cs.toList) (hsx : ok64 x) :
    Calls Try.prog 13 #[.agg cs] w fun e w' => e = .returned (.bool true) ∧ Below w.heap.size w w' := by
  obtain ⟨⟨⟨h1, u1⟩, ⟨h2, u2⟩⟩, _, ⟨h3, u3⟩, ⟨h4, u4⟩⟩ := hsx
  rw [bytesU64] at h1 h2 h3 h4
  obtain ⟨_, _, hcs, ⟨_, _, rfl, ⟨A0, c0, rfl, l0, g0⟩, ⟨A1, c1, rfl, l1, g1⟩⟩, ⟨_, _, rfl, ⟨_, _, rfl, rfl, rfl⟩, ⟨_, _, rfl, ⟨A4, c4, rfl, l4, g4⟩, ⟨A5, c5, rfl, l5, g5⟩⟩⟩⟩ := hx
  obtain rfl : cs = #[.slice A0 x.f0.f0.length c0, .slice A1 x.f0.f1.length c1, .int .i64 x.f1.f0, .int .u64 x.f1.f1, .slice A4 x.f2.length c4, .slice A5 x.f3.length c5] := Array.toList_inj.1 hcs
  obtain ⟨k, hk⟩ := (GroupMeets_pure x.f0.f0 x.f0.f1 x.f2 x.f3 x.f1.f0 x.f1.f1 (by omega) (by omega) (by omega) (by omega) (u64s_of u1) (u64s_of u3) (u64s_of u4)).rounds
  exact ferrulelaw06_GroupMeets.calls k A0 c0 x.f0.f0 A1 c1 x.f0.f1 x.f1.f0 x.f1.f1 A4 c4 x.f2 A5 c5 x.f3 true w g0 l0 g1 l1 g4 l4 g5 l5 hk
end Go.Proofs.Ytlmefnifhbcbcaa.PAll
end
section
namespace Go.Proofs.Ytlmefnifhbcbcaa.groupMeets
open Go.ChangeShapes Go.WideShapes Go.ChangeAt Go.RowKit Go.Proofs.YtlmefnifhbcbcaaW.PrintWords Go.Proofs.Ytlmefnifhbcbcaa Go.Proofs.Ytlmefnifhbcbcaa.PAll
open Go.ChangeMaps (open_string shut_string)
set_option linter.unusedVariables false
set_option linter.unusedSimpArgs false
theorem own : ownKnob Try.prog.godebug = none := by kernel_rfl
theorem laidOut : laidOutB Try.prog = true := by kernel_rfl
set_option maxRecDepth 100000 in
theorem lifted (os : Os) (started : os.Started) (H : Type) (enc : TypeId × Value → H) :
    ReturnsInHanded {} Try.checked os 13 .any (Rows.groupMeetsSpec.pre6 enc Try.prog Try.f13 Rows.groupMeetsRow.domain false) (Rows.groupMeetsSpec.post enc Try.prog Try.f13 false true false false) := by
  refine returnsInHanded_of_change_sized (C := Try.checked) own started (by kernel_rfl) Try.func13
    (ChangeSpec.witness6 (enc := enc) (C := Try.checked) false ⟨#[], #[.agg #[.slice none 0 0, .slice none 0 0, .int .i64 0, .int .u64 0, .slice none 0 0, .slice none 0 0]], []⟩ 8 (by kernel_rfl) (by kernel_rfl) (by kernel_rfl) (by kernel_rfl)) ?_
  intro W base args ds gs before hval0 hW hcnd hsz0 _
  have hsz : (DataW.weightsEach Try.prog (Try.f13.params.toList ++ Rows.groupMeetsSpec.plain.varTypes Try.prog) (ds ++ gs)).all (· ≤ reachBytes) = true := hsz0
  have hval : ∀ (j : Nat) t v, Try.f13.params[j]? = some t → args[j]? = some v → Value.okWide Try.prog W .any base t v := hval0
  have hW' := hW
  obtain ⟨p, q, hA0, hV, rfl, hfz, hnd⟩ := hW
  have hA : DataW.TrodAll enc Try.prog W 0 (fun _ => true) true Try.f13.params.toList args.toList ds p := hA0
  rw [Try.params13] at hA hval hsz
  obtain ⟨v0, vs0, d0, ds0, p0, q0, hargs, rfl, rfl, h0, r0⟩ := trodAll_cons hA
  obtain ⟨rfl, rfl, rfl⟩ := trodAll_nil r0
  obtain rfl : args = #[v0] := by cases args; simp_all
  obtain ⟨rfl, rfl⟩ := trodVars_none hV
  have hw0 := weights_of 0 hsz (t := 64) (d := d0) rfl rfl
  have k0 := h0
  have lt0 : ∀ x ∈ p0, x.block < W.heap.size := by obtain ⟨m, hm⟩ := k0; exact DataW.trod_lt m _ _ _ hm
  obtain ⟨cs0, rfl, hcz0⟩ := okWide_struct Try.underlying64 (hval 0 64 v0 rfl rfl)
  obtain ⟨x0, hx0, hs0⟩ : ∃ x, k64.K W x cs0.toList ∧ ok64 x := by
    obtain ⟨fuel, hf⟩ := h0
    exact opens64 H enc W 0 _ _ fuel _ _ _ hf hw0
  clear hA0 hval0 hsz0 hsz
  refine (GroupMeets_walk (w := W) cs0 x0 hx0 hs0).mono fun e W' ⟨he, bel⟩ => ?_
  subst he
  exact ⟨_, rfl, _, _, _, [], _, [], hW', trodAll_mk1 (shut_bool Try.underlying4 _), (trodAll_cons_mk (Below.trod laidOut (by kernel_rfl) (of_decide_eq_true (by kernel_rfl)) k0 bel lt0) trodAll_mk0), rfl, bel.frame _, fun h => by cases h⟩
theorem over : Rows.groupMeetsRow.holds Try.pinned (OpenSpec.ofChange Rows.groupMeetsSpec) :=
  OpenClaim.holds_of_wide 13 Try.f13 rfl rfl rfl rfl rfl rfl rfl ⟨rfl, rfl, rfl, rfl, rfl⟩ rfl rfl rfl rfl rfl (by kernel_rfl) Try.func13 (by kernel_rfl)
    (of_decide_eq_true (by kernel_rfl)) (by unfold Func.isWrapper; first | (rw [if_pos (by decide +kernel)]; kernel_rfl) | (rw [if_neg (by decide +kernel)]; exact ⟨rfl, rfl⟩))
    (fun os started H enc _ => lifted os started H enc)
theorem proved : Rows.GroupMeetsSaid := over
#print axioms proved
end Go.Proofs.Ytlmefnifhbcbcaa.groupMeets
namespace Go.Proofs.Ytlmefnifhbcbcaa
/-- The row, under a short name, for the claim. -/
theorem groupMeets_holds : Rows.GroupMeetsSaid := groupMeets.proved
end Go.Proofs.Ytlmefnifhbcbcaa
end
