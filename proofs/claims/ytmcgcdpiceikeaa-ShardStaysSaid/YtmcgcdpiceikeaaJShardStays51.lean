/- From the empty shard on it is right behind each order, whatever it is ordered; its versions never fall. No condition beside the form's own. -/
import Derived.Below
import Derived.ChangeOld
import Derived.OpenShut
import Derived.ProofKit
import Derived.ShutString
import Derived.SizedLaws
import Derived.Test.YtmcgcdpiceikeaaJShardStays50
import Derived.Test.YtmcgcdpiceikeaaRows
import Derived.WalkKit
set_option linter.unusedVariables false
set_option linter.unusedSimpArgs false
section
namespace Go.Proofs.Ytmcgcdpiceikeaa.shardStays
open Go.ChangeShapes Go.WideShapes Go.ChangeAt Go.RowKit Go.Proofs.YtmcgcdpiceikeaaW.PrintWords Go.Proofs.Ytmcgcdpiceikeaa Go.Proofs.Ytmcgcdpiceikeaa.PAll
open Go.ChangeMaps (open_string shut_string)
theorem own : ownKnob Try.prog.godebug = none := by kernel_rfl
theorem laidOut : laidOutB Try.prog = true := by kernel_rfl
set_option maxRecDepth 100000 in
theorem lifted (os : Os) (started : os.Started) (H : Type) (enc : TypeId × Value → H) :
    ReturnsInHanded {} Try.checked os 4 .any (Rows.shardStaysSpec.pre6 enc Try.prog Try.f4 Rows.shardStaysRow.domain false) (Rows.shardStaysSpec.post enc Try.prog Try.f4 false true false false) := by
  refine returnsInHanded_of_change_sized (C := Try.checked) own started (by kernel_rfl) Try.func4
    (ChangeSpec.witness6 (enc := enc) (C := Try.checked) false ⟨#[], #[.slice none 0 0], []⟩ 8 (by kernel_rfl) (by kernel_rfl) (by kernel_rfl) (by kernel_rfl)) ?_
  intro W base args ds gs before hval0 hW hcnd hsz0 _
  have hsz : (DataW.weightsEach Try.prog (Try.f4.params.toList ++ Rows.shardStaysSpec.plain.varTypes Try.prog) (ds ++ gs)).all (· ≤ reachBytes) = true := hsz0
  have hval : ∀ (j : Nat) t v, Try.f4.params[j]? = some t → args[j]? = some v → Value.okWide Try.prog W .any base t v := hval0
  have hW' := hW
  obtain ⟨p, q, hA0, hV, rfl, hfz, hnd⟩ := hW
  have hA : DataW.TrodAll enc Try.prog W 0 (fun _ => true) true Try.f4.params.toList args.toList ds p := hA0
  rw [Try.params4] at hA hval hsz
  obtain ⟨v0, vs0, d0, ds0, p0, q0, hargs, rfl, rfl, h0, r0⟩ := trodAll_cons hA
  obtain ⟨rfl, rfl, rfl⟩ := trodAll_nil r0
  obtain rfl : args = #[v0] := by cases args; simp_all
  obtain ⟨rfl, rfl⟩ := trodVars_none hV
  have hw0 := weights_of 0 hsz (t := 43) (d := d0) rfl rfl
  obtain ⟨a0, len0, cap0, rfl⟩ := okWide_slice Try.underlying43 (hval 0 43 v0 rfl rfl)
  have k0 := h0
  have lt0 : ∀ x ∈ p0, x.block < W.heap.size := by obtain ⟨m, hm⟩ := k0; exact DataW.trod_lt m _ _ _ hm
  obtain ⟨l0, hl0, hr0, hc0, hs0⟩ : ∃ l, len0 = l.length ∧ Kd.C k34 W a0 l.length l ∧ l.length ≤ cap0 ∧ (fun l => l.length * Try.prog.bytesOf 34 ≤ 140737488351232 ∧ ∀ x ∈ l, ok34 x) l := by
    obtain ⟨fuel, hf⟩ := h0
    obtain ⟨l, ⟨A, c, hv, hc, hr⟩, hS⟩ := (Opens.slice Try.underlying43 (by kernel_rfl) opens34) H enc W 0 _ _ fuel _ _ _ hf hw0
    simp [Value.cells] at hv
    obtain ⟨rfl, rfl, rfl⟩ := hv
    exact ⟨l, rfl, hr, hc, hS⟩
  subst hl0
  clear hA0 hval0 hsz0 hsz
  refine (ShardStays_walk (w := W) a0 cap0 l0 hr0 hc0 hs0).mono fun e W' ⟨he, bel⟩ => ?_
  subst he
  exact ⟨_, rfl, _, _, _, [], _, [], hW', trodAll_mk1 (shut_bool Try.underlying4 _), (trodAll_cons_mk (Below.trod laidOut (by kernel_rfl) (of_decide_eq_true (by kernel_rfl)) k0 bel lt0) trodAll_mk0), rfl, bel.frame _, fun h => by cases h⟩
theorem over : Rows.shardStaysRow.holds Try.pinned (OpenSpec.ofChange Rows.shardStaysSpec) :=
  OpenClaim.holds_of_wide 4 Try.f4 rfl rfl rfl rfl rfl rfl rfl ⟨rfl, rfl, rfl, rfl, rfl⟩ rfl rfl rfl rfl rfl (by kernel_rfl) Try.func4 (by kernel_rfl)
    (of_decide_eq_true (by kernel_rfl)) (by unfold Func.isWrapper; first | (rw [if_pos (by decide +kernel)]; kernel_rfl) | (rw [if_neg (by decide +kernel)]; exact ⟨rfl, rfl⟩))
    (fun os started H enc _ => lifted os started H enc)
theorem proved : Rows.ShardStaysSaid := over
#print axioms proved
end Go.Proofs.Ytmcgcdpiceikeaa.shardStays
namespace Go.Proofs.Ytmcgcdpiceikeaa
theorem shardStays_holds : Rows.ShardStaysSaid := shardStays.proved
end Go.Proofs.Ytmcgcdpiceikeaa
end
