/- A configuration's bytes, and the configuration of bytes, are as the document defines them. No condition beside the form's own. -/
import Derived.Test.YtlmefnifhbcbcaaJGroupBytes29
import Derived.Test.YtlmefnifhbcbcaaJGroupBytes51
import Derived.Test.YtlmefnifhbcbcaaJGroupBytes52
import Derived.Below
import Derived.ChangeOld
import Derived.OpenShut
import Derived.ProofKit
import Derived.ShutString
import Derived.SizedLaws
import Derived.Test.YtlmefnifhbcbcaaRows
import Derived.WalkKit
section
/- Every configuration, every bytes: a configuration's bytes, and the configuration of bytes, are told by the code as the document defines them. -/
namespace Go.Proofs.Ytlmefnifhbcbcaa.PAll
open Go.RowKit Go.Proofs.YtlmefnifhbcbcaaW.PrintWords Go.Proofs.YtlmefnifhbcbcaaW.PrintMore Go.Proofs.Ytlmefnifhbcbcaa
set_option linter.unusedVariables false
theorem GroupBytes_pure (v l : List Int) (s : ByteArray) (hv : v.length ≤ 4611686018427387904) (hl : l.length ≤ 4611686018427387904) : Ev (fun k => ferrulelaw06_GroupBytes.f k v l s) true := by
  have hn := confT_len s
  refine Ev.bind shown06_ev ?_
  refine Ev.bind (gBytes_ev v l hv hl) ?_
  refine Ev.bind (rBytes_ev v l hv hl) ?_
  refine Ev.bind (gTake_ev s) ?_
  refine Ev.bind (rTake_ev s) ?_
  refine Ev.bind (rSame_ev _ _ (by omega) (by omega)) ?_
  exact Ev.congr (fun _ => (if_pos rfl).trans ((if_pos rfl).trans ((if_pos rfl).trans ((if_pos rfl).trans (congrArg some (beq_self_eq_true _)))))) (Ev.now true)
theorem GroupBytes_walk {w : World} (cs : Array Value) (x : S28) (hx : k28.K w x cs.toList) (hsx : ok28 x) (s : ByteArray) (hz : s.size ≤ 140737488351232) :
    Calls Try.prog 15 #[.agg cs, .string s] w fun e w' => e = .returned (.bool true) ∧ Below w.heap.size w w' := by
  obtain ⟨⟨h1, u1⟩, ⟨h2, u2⟩⟩ := hsx
  rw [bytesU64] at h1 h2
  obtain ⟨A0, c0, A1, c1, rfl, l0, g0, l1, g1⟩ := confCells hx
  obtain ⟨k, hk⟩ := (GroupBytes_pure x.f0 x.f1 s (by omega) (by omega)).rounds
  exact ferrulelaw06_GroupBytes.calls k A0 c0 x.f0 A1 c1 x.f1 s true w g0 l0 g1 l1 hk
end Go.Proofs.Ytlmefnifhbcbcaa.PAll
end
section
namespace Go.Proofs.Ytlmefnifhbcbcaa.groupBytes
open Go.ChangeShapes Go.WideShapes Go.ChangeAt Go.RowKit Go.Proofs.YtlmefnifhbcbcaaW.PrintWords Go.Proofs.Ytlmefnifhbcbcaa Go.Proofs.Ytlmefnifhbcbcaa.PAll
open Go.ChangeMaps (open_string shut_string)
set_option linter.unusedVariables false
set_option linter.unusedSimpArgs false
theorem own : ownKnob Try.prog.godebug = none := by kernel_rfl
theorem laidOut : laidOutB Try.prog = true := by kernel_rfl
set_option maxRecDepth 100000 in
theorem lifted (os : Os) (started : os.Started) (H : Type) (enc : TypeId × Value → H) :
    ReturnsInHanded {} Try.checked os 15 .any (Rows.groupBytesSpec.pre6 enc Try.prog Try.f15 Rows.groupBytesRow.domain false) (Rows.groupBytesSpec.post enc Try.prog Try.f15 false true false false) := by
  refine returnsInHanded_of_change_sized (C := Try.checked) own started (by kernel_rfl) Try.func15
    (ChangeSpec.witness6 (enc := enc) (C := Try.checked) false ⟨#[], #[.agg #[.slice none 0 0, .slice none 0 0], .string ByteArray.empty], []⟩ 8 (by kernel_rfl) (by kernel_rfl) (by kernel_rfl) (by kernel_rfl)) ?_
  intro W base args ds gs before hval0 hW hcnd hsz0 _
  have hsz : (DataW.weightsEach Try.prog (Try.f15.params.toList ++ Rows.groupBytesSpec.plain.varTypes Try.prog) (ds ++ gs)).all (· ≤ reachBytes) = true := hsz0
  have hval : ∀ (j : Nat) t v, Try.f15.params[j]? = some t → args[j]? = some v → Value.okWide Try.prog W .any base t v := hval0
  have hW' := hW
  obtain ⟨p, q, hA0, hV, rfl, hfz, hnd⟩ := hW
  have hA : DataW.TrodAll enc Try.prog W 0 (fun _ => true) true Try.f15.params.toList args.toList ds p := hA0
  rw [Try.params15] at hA hval hsz
  obtain ⟨v0, vs0, d0, ds0, p0, q0, hargs, rfl, rfl, h0, r0⟩ := trodAll_cons hA
  obtain ⟨v1, vs1, d1, ds1, p1, q1, rfl, rfl, rfl, h1, r1⟩ := trodAll_cons r0
  obtain ⟨rfl, rfl, rfl⟩ := trodAll_nil r1
  obtain rfl : args = #[v0, v1] := by cases args; simp_all
  obtain ⟨rfl, rfl⟩ := trodVars_none hV
  have hw0 := weights_of 0 hsz (t := 28) (d := d0) rfl rfl
  have k0 := h0
  have lt0 : ∀ x ∈ p0, x.block < W.heap.size := by obtain ⟨m, hm⟩ := k0; exact DataW.trod_lt m _ _ _ hm
  obtain ⟨cs0, rfl, hcz0⟩ := okWide_struct Try.underlying28 (hval 0 28 v0 rfl rfl)
  obtain ⟨x0, hx0, hs0⟩ : ∃ x, k28.K W x cs0.toList ∧ ok28 x := by
    obtain ⟨fuel, hf⟩ := h0
    exact opens28 H enc W 0 _ _ fuel _ _ _ hf hw0
  have hw1 := weights_of 1 hsz (t := 9) (d := d1) rfl rfl
  obtain ⟨a1, rfl, rfl, rfl, y1⟩ := open_string Try.underlying9 (hval 1 9 v1 rfl rfl) h1
  have w1 : a1.size ≤ 140737488351232 := by
    have z := hw1 a1.data.toList.length (by simp [DataW.weights])
    rw [Array.length_toList] at z
    exact z
  clear hA0 hval0 hsz0 hsz
  refine (GroupBytes_walk (w := W) cs0 x0 hx0 hs0 a1 w1).mono fun e W' ⟨he, bel⟩ => ?_
  subst he
  exact ⟨_, rfl, _, _, _, [], _, [], hW', trodAll_mk1 (shut_bool Try.underlying4 _), (trodAll_cons_mk (Below.trod laidOut (by kernel_rfl) (of_decide_eq_true (by kernel_rfl)) k0 bel lt0) (trodAll_cons_mk (shut_string Try.underlying9 y1) trodAll_mk0)), rfl, bel.frame _, fun h => by cases h⟩
theorem over : Rows.groupBytesRow.holds Try.pinned (OpenSpec.ofChange Rows.groupBytesSpec) :=
  OpenClaim.holds_of_wide 15 Try.f15 rfl rfl rfl rfl rfl rfl rfl ⟨rfl, rfl, rfl, rfl, rfl⟩ rfl rfl rfl rfl rfl (by kernel_rfl) Try.func15 (by kernel_rfl)
    (of_decide_eq_true (by kernel_rfl)) (by unfold Func.isWrapper; first | (rw [if_pos (by decide +kernel)]; kernel_rfl) | (rw [if_neg (by decide +kernel)]; exact ⟨rfl, rfl⟩))
    (fun os started H enc _ => lifted os started H enc)
theorem proved : Rows.GroupBytesSaid := over
#print axioms proved
end Go.Proofs.Ytlmefnifhbcbcaa.groupBytes
namespace Go.Proofs.Ytlmefnifhbcbcaa
/-- The row, under a short name, for the claim. -/
theorem groupBytes_holds : Rows.GroupBytesSaid := groupBytes.proved
end Go.Proofs.Ytlmefnifhbcbcaa
end
