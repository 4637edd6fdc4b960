/- Every configuration, every marks, every numbers: how long the leader may believe is as the document defines it. No condition beside the form's own. -/
import Derived.Test.YtlmefnifhbcbcaaJLeaseUntil39
import Derived.Test.YtlmefnifhbcbcaaJLeaseUntil41
import Derived.Test.YtlmefnifhbcbcaaJLeaseUntil43
import Derived.Test.YtlmefnifhbcbcaaJLeaseUntil46
import Derived.Test.YtlmefnifhbcbcaaJLeaseUntil47
import Derived.Test.YtlmefnifhbcbcaaJLeaseUntil50
import Derived.Below
import Derived.ChangeOld
import Derived.OpenShut
import Derived.ProofKit
import Derived.ShutString
import Derived.SizedLaws
import Derived.Test.YtlmefnifhbcbcaaRows
import Derived.WalkKit
section
/- Every configuration, every marks, every numbers: how long the leader may believe is told by the code as the document defines it. -/
namespace Go.Proofs.Ytlmefnifhbcbcaa.PAll
open Go.RowKit Go.Proofs.YtlmefnifhbcbcaaW.PrintWords Go.Proofs.YtlmefnifhbcbcaaW.PrintMore Go.Proofs.Ytlmefnifhbcbcaa
set_option linter.unusedVariables false
theorem lbytesMark : Try.prog.bytesOf 39 = 16 := by kernel_rfl
theorem lbytesU64 : Try.prog.bytesOf 22 = 8 := by kernel_rfl
theorem natM_ok {m : List S39} (h : ∀ x ∈ m, ok39 x) : natM m = true := by
  unfold natM
  rw [List.all_eq_true]
  exact fun x hx => decide_eq_true (wf_u64 (h x hx).2).1
theorem untOk_of {v : List Int} {m : List S39} {id now span d : Int} (hv : v.length ≤ 17592186044404) (hm : m.length < 8796093022208) (hn : natM m = true) (hnow : 0 ≤ now) (hs : 0 ≤ span ∧ span < 18446744073709551616) (hd : 0 ≤ d ∧ d < 18446744073709551616) : untOk v m id now span d :=
  ⟨hv, hm, setV_nat id now hnow m hn, hs, hd, agr_nat _ _⟩
theorem gU_eq {v l : List Int} {m : List S39} {id now span d : Int} (h : untOk v m id now span d) : lease_Until.f v l id now m span d = some (untV v m id now span.toNat d.toNat) := by unfold lease_Until.f; rw [if_pos h]
theorem gH_eq {v l : List Int} {m : List S39} {id now span d : Int} (h : untOk v m id now span d) (hl : l.length ≤ 9223372036854775806) : lease_Holds.f v l id now m span d = some (holdsV v l m id now span.toNat d.toNat) := by unfold lease_Holds.f; rw [if_pos ⟨h, hl⟩]
theorem bnd_lim {span d : Nat} (hs : span < 18446744073709551616) : bndN span d < 18446744073709551616 := by
  have := bnd_le span d
  unfold bndN
  split <;> omega
theorem rUntil_ev (v l : List Int) (id now : Int) (m : List S39) (span d : Int) (h : untOk v m id now span d) : Ev (fun k => ferruleref10_Until.f k v l id now m span d) (untV v m id now span.toNat d.toNat) := by
  obtain ⟨hv, hm, hn, hs, hd, ha⟩ := h
  have hb := bnd_lim (span := span.toNat) (d := d.toNat) (by omega)
  refine Ev.bind (rSet_ev m id now hm) ?_
  refine Ev.bind (rAgr_ev v l (setV m id now) (by omega) (by have := setV_len m id now; omega)) ?_
  refine Ev.bind (show Ev (fun _ => ferruleref10_Bound.f span d) _ from ⟨0, fun _ _ => rB_eq hs hd⟩) ?_
  unfold untV
  generalize agrV v (setV m id now) = a at *
  generalize bndN span.toNat d.toNat = b at *
  have hw : IntKind.u64.wrap (18446744073709551615 - (b : Int)) = 18446744073709551615 - (b : Int) := by rw [IntKind.wrap_u64]; omega
  by_cases c1 : a = 0
  · refine Ev.congr (fun _ => if_pos c1) ?_
    rw [if_pos (Or.inr c1)]
    exact Ev.step (fun q => by simp only [ferruleref10_Until.j0]; exact if_pos trivial) (Ev.now 0)
  · refine Ev.congr (fun _ => if_neg c1) ?_
    by_cases c2 : b = 0
    · rw [if_pos (Or.inl c2)]
      exact Ev.step (fun q => by simp only [ferruleref10_Until.j0]; exact if_pos (by rw [c2]; rfl)) (Ev.now 0)
    · rw [if_neg (by omega)]
      by_cases c3 : 18446744073709551616 ≤ a + (b : Int)
      · rw [if_pos c3]
        refine Ev.step (fun q => by simp only [ferruleref10_Until.j0]; rw [if_neg (by simp; omega), hw, if_pos (by omega)]) (Ev.now _)
      · rw [if_neg c3]
        refine Ev.step (fun q => by simp only [ferruleref10_Until.j0]; rw [if_neg (by simp; omega), hw, if_neg (by omega), show IntKind.u64.wrap (a + (b : Int)) = a + (b : Int) by rw [IntKind.wrap_u64]; omega]) (Ev.now _)
theorem rHolds_ev (v l : List Int) (id now : Int) (m : List S39) (span d : Int) (h : untOk v m id now span d) (hl : l.length ≤ 9223372036854775806) : Ev (fun k => ferruleref10_Holds.f k v l id now m span d) (holdsV v l m id now span.toNat d.toNat) := by
  have hv := h.1
  refine Ev.bind (rMay_ev v l (by omega) hl) ?_
  refine Ev.bind (Has_ev v id (by omega)) ?_
  unfold holdsV
  by_cases c1 : mayV v l = true
  case neg =>
    rw [Bool.eq_false_iff.2 c1]
    exact Ev.congr (fun _ => if_neg (by decide)) (Ev.now false)
  by_cases c2 : hasI v id = true
  case neg =>
    rw [c1, Bool.eq_false_iff.2 c2]
    exact Ev.congr (fun _ => (if_pos rfl).trans (if_neg (by decide))) (Ev.now false)
  rw [c1, c2]
  refine Ev.congr (fun _ => (if_pos rfl).trans (if_pos rfl)) ?_
  refine Ev.bind (rUntil_ev v l id now m span d h) ?_
  exact Ev.now _
theorem LeaseUntil_pure (v l : List Int) (id now : Int) (m : List S39) (span d : Int) (h : untOk v m id now span d) (hl : l.length ≤ 9223372036854775806) : Ev (fun k => ferrulelaw10_LeaseUntil.f k v l id now m span d) true := by
  refine Ev.bind (show Ev (fun _ => ferrulelaw10_shown.f) true from Ev.now true) ?_
  refine Ev.bind (show Ev (fun _ => lease_Until.f v l id now m span d) _ from ⟨0, fun _ _ => gU_eq h⟩) ?_
  refine Ev.bind (show Ev (fun _ => lease_Holds.f v l id now m span d) _ from ⟨0, fun _ _ => gH_eq h hl⟩) ?_
  refine Ev.congr (fun _ => if_pos rfl) ?_
  refine Ev.bind (rUntil_ev v l id now m span d h) ?_
  refine Ev.congr (fun _ => if_pos rfl) ?_
  refine Ev.bind (rHolds_ev v l id now m span d h hl) ?_
  exact Ev.congr (fun _ => congrArg some (beq_self_eq_true _)) (Ev.now true)
theorem LeaseUntil_walk {w : World} (cs : Array Value) (x : S31) (hx : k31.K w x cs.toList) (hsx : ok31 x) :
    Calls Try.prog 4 #[.agg cs] w fun e w' => e = .returned (.bool true) ∧ Below w.heap.size w w' := by
  obtain ⟨⟨⟨h1, _⟩, ⟨h2, _⟩⟩, u2, u3, ⟨h4, u4⟩, u5, u6⟩ := hsx
  rw [lbytesU64] at h1 h2
  rw [lbytesMark] at h4
  obtain ⟨_, _, hcs, ⟨_, _, rfl, ⟨A0, c0, rfl, l0, g0⟩, ⟨A1, c1, rfl, l1, g1⟩⟩, ⟨_, _, rfl, rfl, ⟨_, _, rfl, rfl, ⟨_, _, rfl, ⟨A4, c4, rfl, l4, g4⟩, ⟨_, _, rfl, rfl, rfl⟩⟩⟩⟩⟩ := hx
  obtain rfl : cs = #[.slice A0 x.f0.f0.length c0, .slice A1 x.f0.f1.length c1, .int .u64 x.f1, .int .u64 x.f2, .slice A4 x.f3.length c4, .int .u64 x.f4, .int .u64 x.f5] := Array.toList_inj.1 hcs
  obtain ⟨k, hk⟩ := (LeaseUntil_pure x.f0.f0 x.f0.f1 x.f1 x.f2 x.f3 x.f4 x.f5 (untOk_of (by omega) (by omega) (natM_ok u4) (wf_u64 u3).1 (wf_u64 u5) (wf_u64 u6)) (by omega)).rounds
  exact ferrulelaw10_LeaseUntil.calls k A0 c0 x.f0.f0 A1 c1 x.f0.f1 x.f1 x.f2 A4 c4 x.f3 x.f4 x.f5 true w g0 l0 g1 l1 g4 l4 hk
end Go.Proofs.Ytlmefnifhbcbcaa.PAll
end
section
namespace Go.Proofs.Ytlmefnifhbcbcaa.leaseUntil
open Go.ChangeShapes Go.WideShapes Go.ChangeAt Go.RowKit Go.Proofs.YtlmefnifhbcbcaaW.PrintWords Go.Proofs.Ytlmefnifhbcbcaa Go.Proofs.Ytlmefnifhbcbcaa.PAll
open Go.ChangeMaps (open_string shut_string)
set_option linter.unusedVariables false
set_option linter.unusedSimpArgs false
theorem own : ownKnob Try.prog.godebug = none := by kernel_rfl
theorem laidOut : laidOutB Try.prog = true := by kernel_rfl
set_option maxRecDepth 100000 in
theorem lifted (os : Os) (started : os.Started) (H : Type) (enc : TypeId × Value → H) :
    ReturnsInHanded {} Try.checked os 4 .any (Rows.leaseUntilSpec.pre6 enc Try.prog Try.f4 Rows.leaseUntilRow.domain false) (Rows.leaseUntilSpec.post enc Try.prog Try.f4 false true false false) := by
  refine returnsInHanded_of_change_sized (C := Try.checked) own started (by kernel_rfl) Try.func4
    (ChangeSpec.witness6 (enc := enc) (C := Try.checked) false ⟨#[], #[.agg #[.slice none 0 0, .slice none 0 0, .int .u64 0, .int .u64 0, .slice none 0 0, .int .u64 0, .int .u64 0]], []⟩ 8 (by kernel_rfl) (by kernel_rfl) (by kernel_rfl) (by kernel_rfl)) ?_
  intro W base args ds gs before hval0 hW hcnd hsz0 _
  have hsz : (DataW.weightsEach Try.prog (Try.f4.params.toList ++ Rows.leaseUntilSpec.plain.varTypes Try.prog) (ds ++ gs)).all (· ≤ reachBytes) = true := hsz0
  have hval : ∀ (j : Nat) t v, Try.f4.params[j]? = some t → args[j]? = some v → Value.okWide Try.prog W .any base t v := hval0
  have hW' := hW
  obtain ⟨p, q, hA0, hV, rfl, hfz, hnd⟩ := hW
  have hA : DataW.TrodAll enc Try.prog W 0 (fun _ => true) true Try.f4.params.toList args.toList ds p := hA0
  rw [Try.params4] at hA hval hsz
  obtain ⟨v0, vs0, d0, ds0, p0, q0, hargs, rfl, rfl, h0, r0⟩ := trodAll_cons hA
  obtain ⟨rfl, rfl, rfl⟩ := trodAll_nil r0
  obtain rfl : args = #[v0] := by cases args; simp_all
  obtain ⟨rfl, rfl⟩ := trodVars_none hV
  have hw0 := weights_of 0 hsz (t := 31) (d := d0) rfl rfl
  have k0 := h0
  have lt0 : ∀ x ∈ p0, x.block < W.heap.size := by obtain ⟨m, hm⟩ := k0; exact DataW.trod_lt m _ _ _ hm
  obtain ⟨cs0, rfl, hcz0⟩ := okWide_struct Try.underlying31 (hval 0 31 v0 rfl rfl)
  obtain ⟨x0, hx0, hs0⟩ : ∃ x, k31.K W x cs0.toList ∧ ok31 x := by
    obtain ⟨fuel, hf⟩ := h0
    exact opens31 H enc W 0 _ _ fuel _ _ _ hf hw0
  clear hA0 hval0 hsz0 hsz
  refine (LeaseUntil_walk (w := W) cs0 x0 hx0 hs0).mono fun e W' ⟨he, bel⟩ => ?_
  subst he
  exact ⟨_, rfl, _, _, _, [], _, [], hW', trodAll_mk1 (shut_bool Try.underlying4 _), (trodAll_cons_mk (Below.trod laidOut (by kernel_rfl) (of_decide_eq_true (by kernel_rfl)) k0 bel lt0) trodAll_mk0), rfl, bel.frame _, fun h => by cases h⟩
theorem over : Rows.leaseUntilRow.holds Try.pinned (OpenSpec.ofChange Rows.leaseUntilSpec) :=
  OpenClaim.holds_of_wide 4 Try.f4 rfl rfl rfl rfl rfl rfl rfl ⟨rfl, rfl, rfl, rfl, rfl⟩ rfl rfl rfl rfl rfl (by kernel_rfl) Try.func4 (by kernel_rfl)
    (of_decide_eq_true (by kernel_rfl)) (by unfold Func.isWrapper; first | (rw [if_pos (by decide +kernel)]; kernel_rfl) | (rw [if_neg (by decide +kernel)]; exact ⟨rfl, rfl⟩))
    (fun os started H enc _ => lifted os started H enc)
theorem proved : Rows.LeaseUntilSaid := over
#print axioms proved
end Go.Proofs.Ytlmefnifhbcbcaa.leaseUntil
namespace Go.Proofs.Ytlmefnifhbcbcaa
/-- The row, under a short name, for the claim. -/
theorem leaseUntil_holds : Rows.LeaseUntilSaid := leaseUntil.proved
end Go.Proofs.Ytlmefnifhbcbcaa
end
