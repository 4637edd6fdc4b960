/- What is agreed is had by each of a majority; and a number that rises lets it not fall. No condition beside the form's own. -/
import Derived.Test.YtlmefnifhbcbcaaJGroupRises22
import Derived.Test.YtlmefnifhbcbcaaJGroupRises28
import Derived.Test.YtlmefnifhbcbcaaJGroupRises14
import Derived.Test.YtlmefnifhbcbcaaJGroupRises29
import Derived.Test.YtlmefnifhbcbcaaRows
import Derived.WalkKit
import Derived.ProofKit
import Derived.OpenShut
import Derived.ShutString
import Derived.ChangeOld
import Derived.Below
import Derived.SizedLaws
section
/- What is agreed is had by each of a majority; and a number that rises lets it not fall. -/
namespace Go.Proofs.Ytlmefnifhbcbcaa.PAll
open Go.RowKit Go.Proofs.YtlmefnifhbcbcaaW.PrintWords Go.Proofs.YtlmefnifhbcbcaaW.PrintMore Go.Proofs.Ytlmefnifhbcbcaa
set_option linter.unusedVariables false
theorem natM_of {m : List S39} (h : ∀ x ∈ m, ok39 x) : natM m = true := by
  unfold natM
  rw [List.all_eq_true]
  exact fun x hx => decide_eq_true (u64_wf (h x hx).2).1
theorem u64s_filter {l : List Int} (p : Int → Bool) (h : u64s l = true) : u64s (l.filter p) = true := by
  unfold u64s at *
  rw [List.all_eq_true] at *
  exact fun x hx => h x (List.mem_filter.1 hx).1
theorem gAgr_ev (v l : List Int) (m : List S39) (hn : natM m = true) (hv : v.length ≤ 17592186044404) : Ev (fun _ => group_Agreed.f v l m) (agrV v m) := ⟨0, fun _ _ => by unfold group_Agreed.f; rw [if_pos ⟨hn, hv⟩]⟩
theorem gSet_ev (m : List S39) (id v : Int) (hm : m.length < 8796093022208) : Ev (fun _ => group_Set.f m id v) (setV m id v) := ⟨0, fun _ _ => gSet_eq m id v hm⟩
theorem set_up (v : List Int) (m : List S39) (id w : Int) (h : markV m id ≤ w) : agrV v m ≤ agrV v (setV m id w) := agr_rises v m _ (fun x _ => by
  rw [markV_set]
  split
  · rename_i e; rw [e]; exact h
  · exact Int.le_refl _)
theorem Rises_tail (v l : List Int) (m : List S39) (id more : Int) (hv : v.length ≤ 17592186044404) (hl : l.length ≤ 4611686018427387904) (hm : m.length < 8796093022208) (hn : natM m = true) (uv : u64s v = true) (hmore : 0 ≤ more) :
    Ev (fun k => ferrulelaw06_GroupRises.l0 k m id more true (agrV v m) (havV v m) (v.length : Int) v l) true := by
  refine Ev.step (fun q => by simp only [ferrulelaw06_GroupRises.l0]; exact if_neg (by omega)) ?_
  have hh : (havV v m).length ≤ v.length := List.length_filter_le _ _
  refine Ev.bind (show Ev (fun _ => group_Most.f v l (havV v m)) (mostV v (havV v m)) from ⟨0, fun _ _ => by unfold group_Most.f; rw [if_pos ⟨uv, u64s_filter _ uv, by omega, by omega⟩]⟩) ?_
  refine Ev.bind (show Ev (fun _ => group_May.f v l) _ from ⟨0, fun _ _ => gMay_eq v l (by omega) (by omega)⟩) ?_
  refine Ev.bind (show Ev (fun _ => group_Mark.f m id) _ from ⟨0, fun _ _ => Mark_eq m id⟩) ?_
  have h0 := markV_nat id m hn
  have hset : ∀ w, markV m id ≤ w → Ev (fun k => (group_Set.f m id w).bind fun t => (group_Agreed.f v l t).bind fun t2 => some (decide (t2 ≥ agrV v m))) true := fun w hw => by
    refine Ev.bind (gSet_ev m id w hm) ?_
    refine Ev.bind (gAgr_ev v l _ (setV_nat id w (by omega) m hn) hv) ?_
    exact Ev.congr (fun _ => congrArg some (decide_eq_true (set_up v m id w hw))) (Ev.now true)
  by_cases c : IntKind.u64.wrap (markV m id + more) < markV m id
  · refine Ev.congr (fun _ => (if_pos c).trans (if_pos trivial)) ?_
    by_cases hmay : mayV v l = true
    · exact Ev.congr (fun _ => (if_pos hmay).trans (if_pos (hav_most hmay hn))) (hset _ (Int.le_refl _))
    · exact Ev.congr (fun _ => if_neg hmay) (hset _ (Int.le_refl _))
  · refine Ev.congr (fun _ => (if_neg c).trans (if_pos trivial)) ?_
    by_cases hmay : mayV v l = true
    · exact Ev.congr (fun _ => (if_pos hmay).trans (if_pos (hav_most hmay hn))) (hset (IntKind.u64.wrap (markV m id + more)) (Int.not_lt.1 c))
    · exact Ev.congr (fun _ => if_neg hmay) (hset (IntKind.u64.wrap (markV m id + more)) (Int.not_lt.1 c))
theorem Rises_l0 (v l : List Int) (m : List S39) (id more : Int) (hv : v.length ≤ 17592186044404) (hl : l.length ≤ 4611686018427387904) (hm : m.length < 8796093022208) (hn : natM m = true) (uv : u64s v = true) (hmore : 0 ≤ more) : ∀ (d j : Nat), d = v.length - j → j ≤ v.length →
    Ev (fun k => ferrulelaw06_GroupRises.l0 k m id more true (agrV v m) ((v.take j).filter (fun x => decide (agrV v m ≤ markV m x))) (j : Int) v l) true := by
  intro d
  induction d with
  | zero =>
    intro j hd hj
    obtain rfl : j = v.length := by omega
    rw [List.take_length]
    exact Rises_tail v l m id more hv hl hm hn uv hmore
  | succ d ih =>
    intro j hd hj
    have hlt : j < v.length := by omega
    have ih' := ih (j + 1) (by omega) (by omega)
    have hle : ((v.take j).filter (fun x => decide (agrV v m ≤ markV m x))).length ≤ j := by
      refine Nat.le_trans (List.length_filter_le _ _) ?_
      rw [List.length_take]
      omega
    rw [takeGet v j hlt, List.filter_append] at ih'
    refine Ev.step (fun q => by simp only [ferrulelaw06_GroupRises.l0]; exact (if_pos (show (j : Int) < v.length by omega)).trans ((if_pos (show (0 : Int) ≤ j by omega)).trans (by rw [rd_int v j hlt, wrapUp j (by omega)]))) ?_
    refine Ev.bind (show Ev (fun _ => group_Mark.f m v[j]!) _ from ⟨0, fun _ _ => Mark_eq m _⟩) ?_
    by_cases c : agrV v m ≤ markV m v[j]!
    · rw [List.filter_cons_of_pos (p := fun x => decide (agrV v m ≤ markV m x)) (decide_eq_true c), List.filter_nil] at ih'
      exact Ev.congr (fun _ => (if_pos c).trans (if_pos (by omega))) ih'
    · rw [List.filter_cons_of_neg (p := fun x => decide (agrV v m ≤ markV m x)) (by simpa using c), List.filter_nil, List.append_nil] at ih'
      exact Ev.congr (fun _ => if_neg c) ih'
theorem GroupRises_pure (v l : List Int) (m : List S39) (id more : Int) (hv : v.length ≤ 17592186044404) (hl : l.length ≤ 4611686018427387904) (hm : m.length < 8796093022208) (hn : natM m = true) (uv : u64s v = true) (hmore : 0 ≤ more) : Ev (fun k => ferrulelaw06_GroupRises.f k v l m id more) true := by
  refine Ev.bind shown06_ev ?_
  refine Ev.bind (gAgr_ev v l m hn hv) ?_
  exact Rises_l0 v l m id more hv hl hm hn uv hmore v.length 0 (by omega) (by omega)
theorem GroupRises_walk {w : World} (cs : Array Value) (x : S68) (hx : k68.K w x cs.toList) (hsx : ok68 x) :
    Calls Try.prog 14 #[.agg cs] w fun e w' => e = .returned (.bool true) ∧ Below w.heap.size w w' := by
  obtain ⟨⟨⟨h1, u1⟩, ⟨h2, u2⟩⟩, ⟨h3, u3⟩, hid, hmore⟩ := hsx
  rw [bytesU64] at h1 h2
  rw [bytesMark] at h3
  obtain ⟨_, _, hcs, ⟨_, _, rfl, ⟨A0, c0, rfl, l0, g0⟩, ⟨A1, c1, rfl, l1, g1⟩⟩, ⟨_, _, rfl, ⟨A2, c2, rfl, l2, g2⟩, ⟨_, _, rfl, rfl, rfl⟩⟩⟩ := hx
  obtain rfl : cs = #[.slice A0 x.f0.f0.length c0, .slice A1 x.f0.f1.length c1, .slice A2 x.f1.length c2, .int .u64 x.f2, .int .u64 x.f3] := Array.toList_inj.1 hcs
  obtain ⟨k, hk⟩ := (GroupRises_pure x.f0.f0 x.f0.f1 x.f1 x.f2 x.f3 (by omega) (by omega) (by omega) (natM_of u3) (u64s_of u1) (u64_wf hmore).1).rounds
  exact ferrulelaw06_GroupRises.calls k A0 c0 x.f0.f0 A1 c1 x.f0.f1 A2 c2 x.f1 x.f2 x.f3 true w g0 l0 g1 l1 g2 l2 hk
end Go.Proofs.Ytlmefnifhbcbcaa.PAll
end
section
namespace Go.Proofs.Ytlmefnifhbcbcaa.groupRises
open Go.ChangeShapes Go.WideShapes Go.ChangeAt Go.RowKit Go.Proofs.YtlmefnifhbcbcaaW.PrintWords Go.Proofs.Ytlmefnifhbcbcaa Go.Proofs.Ytlmefnifhbcbcaa.PAll
open Go.ChangeMaps (open_string shut_string)
set_option linter.unusedVariables false
set_option linter.unusedSimpArgs false
theorem own : ownKnob Try.prog.godebug = none := by kernel_rfl
theorem laidOut : laidOutB Try.prog = true := by kernel_rfl
set_option maxRecDepth 100000 in
theorem lifted (os : Os) (started : os.Started) (H : Type) (enc : TypeId × Value → H) :
    ReturnsInHanded {} Try.checked os 14 .any (Rows.groupRisesSpec.pre6 enc Try.prog Try.f14 Rows.groupRisesRow.domain false) (Rows.groupRisesSpec.post enc Try.prog Try.f14 false true false false) := by
  refine returnsInHanded_of_change_sized (C := Try.checked) own started (by kernel_rfl) Try.func14
    (ChangeSpec.witness6 (enc := enc) (C := Try.checked) false ⟨#[], #[.agg #[.slice none 0 0, .slice none 0 0, .slice none 0 0, .int .u64 0, .int .u64 0]], []⟩ 8 (by kernel_rfl) (by kernel_rfl) (by kernel_rfl) (by kernel_rfl)) ?_
  intro W base args ds gs before hval0 hW hcnd hsz0 _
  have hsz : (DataW.weightsEach Try.prog (Try.f14.params.toList ++ Rows.groupRisesSpec.plain.varTypes Try.prog) (ds ++ gs)).all (· ≤ reachBytes) = true := hsz0
  have hval : ∀ (j : Nat) t v, Try.f14.params[j]? = some t → args[j]? = some v → Value.okWide Try.prog W .any base t v := hval0
  have hW' := hW
  obtain ⟨p, q, hA0, hV, rfl, hfz, hnd⟩ := hW
  have hA : DataW.TrodAll enc Try.prog W 0 (fun _ => true) true Try.f14.params.toList args.toList ds p := hA0
  rw [Try.params14] at hA hval hsz
  obtain ⟨v0, vs0, d0, ds0, p0, q0, hargs, rfl, rfl, h0, r0⟩ := trodAll_cons hA
  obtain ⟨rfl, rfl, rfl⟩ := trodAll_nil r0
  obtain rfl : args = #[v0] := by cases args; simp_all
  obtain ⟨rfl, rfl⟩ := trodVars_none hV
  have hw0 := weights_of 0 hsz (t := 68) (d := d0) rfl rfl
  have k0 := h0
  have lt0 : ∀ x ∈ p0, x.block < W.heap.size := by obtain ⟨m, hm⟩ := k0; exact DataW.trod_lt m _ _ _ hm
  obtain ⟨cs0, rfl, hcz0⟩ := okWide_struct Try.underlying68 (hval 0 68 v0 rfl rfl)
  obtain ⟨x0, hx0, hs0⟩ : ∃ x, k68.K W x cs0.toList ∧ ok68 x := by
    obtain ⟨fuel, hf⟩ := h0
    exact opens68 H enc W 0 _ _ fuel _ _ _ hf hw0
  clear hA0 hval0 hsz0 hsz
  refine (GroupRises_walk (w := W) cs0 x0 hx0 hs0).mono fun e W' ⟨he, bel⟩ => ?_
  subst he
  exact ⟨_, rfl, _, _, _, [], _, [], hW', trodAll_mk1 (shut_bool Try.underlying4 _), (trodAll_cons_mk (Below.trod laidOut (by kernel_rfl) (of_decide_eq_true (by kernel_rfl)) k0 bel lt0) trodAll_mk0), rfl, bel.frame _, fun h => by cases h⟩
theorem over : Rows.groupRisesRow.holds Try.pinned (OpenSpec.ofChange Rows.groupRisesSpec) :=
  OpenClaim.holds_of_wide 14 Try.f14 rfl rfl rfl rfl rfl rfl rfl ⟨rfl, rfl, rfl, rfl, rfl⟩ rfl rfl rfl rfl rfl (by kernel_rfl) Try.func14 (by kernel_rfl)
    (of_decide_eq_true (by kernel_rfl)) (by unfold Func.isWrapper; first | (rw [if_pos (by decide +kernel)]; kernel_rfl) | (rw [if_neg (by decide +kernel)]; exact ⟨rfl, rfl⟩))
    (fun os started H enc _ => lifted os started H enc)
theorem proved : Rows.GroupRisesSaid := over
#print axioms proved
end Go.Proofs.Ytlmefnifhbcbcaa.groupRises
namespace Go.Proofs.Ytlmefnifhbcbcaa
/-- The row, under a short name, for the claim. -/
theorem groupRises_holds : Rows.GroupRisesSaid := groupRises.proved
end Go.Proofs.Ytlmefnifhbcbcaa
end
