/- A configuration that may be is taken from its bytes as it was; a byte more is refused. No condition beside the form's own. -/
import Derived.Test.YtlmefnifhbcbcaaJGroupBack35
import Derived.Test.YtlmefnifhbcbcaaJGroupBack51
import Derived.Test.YtlmefnifhbcbcaaJGroupBack52
import Derived.Below
import Derived.ChangeOld
import Derived.OpenShut
import Derived.ProofKit
import Derived.ShutString
import Derived.SizedLaws
import Derived.Test.YtlmefnifhbcbcaaRows
import Derived.WalkKit
section
/- A configuration that may be is taken from its bytes as it was; a byte more is refused. -/
namespace Go.Proofs.Ytlmefnifhbcbcaa.PAll
open Go.RowKit Go.Proofs.YtlmefnifhbcbcaaW.PrintWords Go.Proofs.YtlmefnifhbcbcaaW.PrintMore Go.Proofs.Ytlmefnifhbcbcaa
set_option linter.unusedVariables false
theorem append_nil_B (s : ByteArray) : s ++ (⟨#[]⟩ : ByteArray) = s := by
  apply ByteArray.ext
  rw [ByteArray.data_append]
  show s.data ++ #[] = s.data
  simp
theorem GroupBack_pure (v l : List Int) (hv : v.length ≤ 4611686018427387904) (hl : l.length ≤ 4611686018427387904) : Ev (fun k => ferrulelaw06_GroupBack.f k v l) true := by
  refine Ev.bind shown06_ev ?_
  refine Ev.bind (gBytes_ev v l hv hl) ?_
  unfold confB
  by_cases hm : mayV v l = true
  · rw [if_pos hm]
    obtain ⟨m1, m2, m3, m4, m5, m6⟩ := mayV_ok hm
    have z1 := numsV_size v
    have z2 := numsV_size l
    refine Ev.congr (fun _ => if_pos rfl) ?_
    refine Ev.bind (gTake_ev _) ?_
    have e1 : confT (numsV v ++ numsV l) = (v, l, 0) := by
      have := conf_back (v := v) (l := l) ⟨#[]⟩ hm
      rw [if_pos (show (⟨#[]⟩ : ByteArray).size = 0 from rfl)] at this
      rw [append_nil_B] at this
      exact this
    have e2 : confT (numsV v ++ numsV l ++ ⟨#[0]⟩) = noConf := by
      rw [conf_back _ hm]
      exact if_neg (by decide)
    simp only []
    rw [e1]
    refine Ev.bind (rSame_ev v l (by omega) (by omega)) ?_
    refine Ev.congr (fun _ => if_pos (by rw [ByteArray.size_append]; omega)) ?_
    refine Ev.bind (gTake_ev _) ?_
    rw [e2]
    exact Ev.congr (fun _ => (if_pos trivial).trans ((if_pos rfl).trans (if_pos rfl))) (Ev.now true)
  · rw [if_neg hm]
    refine Ev.congr (fun _ => if_neg (by decide)) ?_
    refine Ev.bind (show Ev (fun _ => group_May.f v l) _ from ⟨0, fun _ _ => gMay_eq v l (by omega) (by omega)⟩) ?_
    refine Ev.congr (fun _ => (if_pos rfl).trans (if_neg hm)) ?_
    exact Ev.congr (fun _ => congrArg some (by rw [(toList_nil (⟨#[]⟩ : ByteArray)).2 rfl]; rfl)) (Ev.now true)
theorem GroupBack_walk {w : World} (cs : Array Value) (x : S28) (hx : k28.K w x cs.toList) (hsx : ok28 x) :
    Calls Try.prog 16 #[.agg cs] w fun e w' => e = .returned (.bool true) ∧ Below w.heap.size w w' := by
  obtain ⟨⟨h1, u1⟩, ⟨h2, u2⟩⟩ := hsx
  rw [bytesU64] at h1 h2
  obtain ⟨A0, c0, A1, c1, rfl, l0, g0, l1, g1⟩ := confCells hx
  obtain ⟨k, hk⟩ := (GroupBack_pure x.f0 x.f1 (by omega) (by omega)).rounds
  exact ferrulelaw06_GroupBack.calls k A0 c0 x.f0 A1 c1 x.f1 true w g0 l0 g1 l1 hk
end Go.Proofs.Ytlmefnifhbcbcaa.PAll
end
section
namespace Go.Proofs.Ytlmefnifhbcbcaa.groupBack
open Go.ChangeShapes Go.WideShapes Go.ChangeAt Go.RowKit Go.Proofs.YtlmefnifhbcbcaaW.PrintWords Go.Proofs.Ytlmefnifhbcbcaa Go.Proofs.Ytlmefnifhbcbcaa.PAll
open Go.ChangeMaps (open_string shut_string)
set_option linter.unusedVariables false
set_option linter.unusedSimpArgs false
theorem own : ownKnob Try.prog.godebug = none := by kernel_rfl
theorem laidOut : laidOutB Try.prog = true := by kernel_rfl
set_option maxRecDepth 100000 in
theorem lifted (os : Os) (started : os.Started) (H : Type) (enc : TypeId × Value → H) :
    ReturnsInHanded {} Try.checked os 16 .any (Rows.groupBackSpec.pre6 enc Try.prog Try.f16 Rows.groupBackRow.domain false) (Rows.groupBackSpec.post enc Try.prog Try.f16 false true false false) := by
  refine returnsInHanded_of_change_sized (C := Try.checked) own started (by kernel_rfl) Try.func16
    (ChangeSpec.witness6 (enc := enc) (C := Try.checked) false ⟨#[], #[.agg #[.slice none 0 0, .slice none 0 0]], []⟩ 8 (by kernel_rfl) (by kernel_rfl) (by kernel_rfl) (by kernel_rfl)) ?_
  intro W base args ds gs before hval0 hW hcnd hsz0 _
  have hsz : (DataW.weightsEach Try.prog (Try.f16.params.toList ++ Rows.groupBackSpec.plain.varTypes Try.prog) (ds ++ gs)).all (· ≤ reachBytes) = true := hsz0
  have hval : ∀ (j : Nat) t v, Try.f16.params[j]? = some t → args[j]? = some v → Value.okWide Try.prog W .any base t v := hval0
  have hW' := hW
  obtain ⟨p, q, hA0, hV, rfl, hfz, hnd⟩ := hW
  have hA : DataW.TrodAll enc Try.prog W 0 (fun _ => true) true Try.f16.params.toList args.toList ds p := hA0
  rw [Try.params16] at hA hval hsz
  obtain ⟨v0, vs0, d0, ds0, p0, q0, hargs, rfl, rfl, h0, r0⟩ := trodAll_cons hA
  obtain ⟨rfl, rfl, rfl⟩ := trodAll_nil r0
  obtain rfl : args = #[v0] := by cases args; simp_all
  obtain ⟨rfl, rfl⟩ := trodVars_none hV
  have hw0 := weights_of 0 hsz (t := 28) (d := d0) rfl rfl
  have k0 := h0
  have lt0 : ∀ x ∈ p0, x.block < W.heap.size := by obtain ⟨m, hm⟩ := k0; exact DataW.trod_lt m _ _ _ hm
  obtain ⟨cs0, rfl, hcz0⟩ := okWide_struct Try.underlying28 (hval 0 28 v0 rfl rfl)
  obtain ⟨x0, hx0, hs0⟩ : ∃ x, k28.K W x cs0.toList ∧ ok28 x := by
    obtain ⟨fuel, hf⟩ := h0
    exact opens28 H enc W 0 _ _ fuel _ _ _ hf hw0
  clear hA0 hval0 hsz0 hsz
  refine (GroupBack_walk (w := W) cs0 x0 hx0 hs0).mono fun e W' ⟨he, bel⟩ => ?_
  subst he
  exact ⟨_, rfl, _, _, _, [], _, [], hW', trodAll_mk1 (shut_bool Try.underlying4 _), (trodAll_cons_mk (Below.trod laidOut (by kernel_rfl) (of_decide_eq_true (by kernel_rfl)) k0 bel lt0) trodAll_mk0), rfl, bel.frame _, fun h => by cases h⟩
theorem over : Rows.groupBackRow.holds Try.pinned (OpenSpec.ofChange Rows.groupBackSpec) :=
  OpenClaim.holds_of_wide 16 Try.f16 rfl rfl rfl rfl rfl rfl rfl ⟨rfl, rfl, rfl, rfl, rfl⟩ rfl rfl rfl rfl rfl (by kernel_rfl) Try.func16 (by kernel_rfl)
    (of_decide_eq_true (by kernel_rfl)) (by unfold Func.isWrapper; first | (rw [if_pos (by decide +kernel)]; kernel_rfl) | (rw [if_neg (by decide +kernel)]; exact ⟨rfl, rfl⟩))
    (fun os started H enc _ => lifted os started H enc)
theorem proved : Rows.GroupBackSaid := over
#print axioms proved
end Go.Proofs.Ytlmefnifhbcbcaa.groupBack
namespace Go.Proofs.Ytlmefnifhbcbcaa
/-- The row, under a short name, for the claim. -/
theorem groupBack_holds : Rows.GroupBackSaid := groupBack.proved
end Go.Proofs.Ytlmefnifhbcbcaa
end
