/- Every list of puts: which puts may be done is told by the code as the document defines it. No condition beside the form's own. -/
import Derived.Test.YthfkbfahpgdnfaaJRowsFits3
import Derived.Test.YthfkbfahpgdnfaaJRowsFits23
import Derived.Test.YthfkbfahpgdnfaaJRowsFits30
import Derived.Test.YthfkbfahpgdnfaaJRowsFits2
import Derived.Test.YthfkbfahpgdnfaaJRowsFits13
import Derived.Test.YthfkbfahpgdnfaaJRowsFits9
import Derived.Test.YthfkbfahpgdnfaaRows
import Derived.WalkKit
import Derived.ProofKit
import Derived.OpenShut
import Derived.ShutString
import Derived.ChangeOld
import Derived.Below
import Derived.SizedLaws
section
/- What the laws of rows have in common. -/
namespace Go.Proofs.Ythfkbfahpgdnfaa.PAll
open Go.RowKit Go.Proofs.YthfkbfahpgdnfaaW.PrintWords Go.Proofs.YthfkbfahpgdnfaaW.PrintMore Go.Proofs.Ythfkbfahpgdnfaa
set_option linter.unusedVariables false
theorem shown11_ok : ∃ k, ferrulelaw11_shown.f k = some true := ⟨60, by kernel_rfl⟩
theorem shown11_ev : Ev (fun k => ferrulelaw11_shown.f k) true := by
  obtain ⟨k, h⟩ := shown11_ok
  exact Ev.of ferrulelaw11_shown.mono h
theorem bytesRow : Try.prog.bytesOf 64 = 40 := by kernel_rfl
theorem bytesPut : Try.prog.bytesOf 52 = 40 := by kernel_rfl
theorem putCells {cs : Array Value} {x : S52} {w : World} (h : k52.K w x cs.toList) : cs = #[.string x.f0, .string x.f1, .bool x.f2] := by
  have := flat52.openK _ _ _ h
  exact Array.toList_inj.1 this
theorem doV_len2 (l : List S64) (x : S52) (ver : Int) (h : l.length < 3518437208800) : (doV l x ver).1.length < 9223372036854775806 := by
  have := doV_len l x ver
  omega
theorem allV_len (l : List S64) (p : List S52) (ver : Int) : (allV l p ver).1.length ≤ l.length + p.length + p.length := by
  unfold allV
  split
  · simp
  · split
    · have h1 := putsV_len ver true p l
      have h2 := putsV_len ver false p (putsV ver true p l).1
      omega
    · simp
end Go.Proofs.Ythfkbfahpgdnfaa.PAll
end
section
-- Printed by this session's pr.sh (the kit's print.py, several laws in one namespace). Not trusted: Lean checks it.
namespace Go.Proofs.Ythfkbfahpgdnfaa.PAll
open Go.RowKit Go.Proofs.YthfkbfahpgdnfaaW.PrintWords Go.Proofs.YthfkbfahpgdnfaaW.PrintLast Go.Proofs.YthfkbfahpgdnfaaW.PrintMore
attribute [local go_sem] max2_int min2_int max_two min_two max_three min_three max_four min_four   -- for this text's walks alone
set_option linter.unusedVariables false
set_option linter.unusedSimpArgs false

/-! ### ferrulelaw11_RowsFits: function 7 -/
def ferrulelaw11_RowsFits.f (k : Nat) (l0 : List (S52)) : Option (Bool) := (ferrulelaw11_shown.f k).bind fun t308 => (if t308 = true then ((rows_Fits.f l0).bind fun t309 => ((ferruleref11_Fits.f l0).bind fun t310 => (some (t309 == t310)))) else (some false))
theorem ferrulelaw11_RowsFits.mono : ∀ a0 k, LeO (ferrulelaw11_RowsFits.f k a0) (ferrulelaw11_RowsFits.f (k + 1) a0) := by
  intro a0 k
  unfold ferrulelaw11_RowsFits.f
  repeat' first
      | (with_reducible exact ferrulelaw11_shown.mono _)
      | (with_reducible exact LeO.refl _)
      | (with_reducible exact LeO.none _)
      | (with_reducible refine LeO.ite ?_ ?_)
      | (with_reducible refine LeO.bind ?_ (fun _ => ?_))
      | exact ferrulelaw11_shown.mono _
      | exact LeO.none _
      | refine LeO.ite ?_ ?_
      | refine LeO.bind ?_ (fun _ => ?_)
set_option maxHeartbeats 8000000 in
set_option maxRecDepth 100000 in
theorem ferrulelaw11_RowsFits.calls (k : Nat) (A0 : Option Addr) (c0 : Nat) (l0 : List (S52)) (r : Bool) (w : World) (hr0 : Kd.C k52 w A0 l0.length l0) (hc0 : l0.length ≤ c0) (h : ferrulelaw11_RowsFits.f k l0 = some r) :
    Calls Try.prog 7 #[.slice A0 l0.length c0] w fun e w' => e = .returned (.bool r) ∧ Below w.heap.size w w' := by
  have HR0 := Aside0.mk hr0
  have HC0 := Aside0.mk hc0
  clear hr0 hc0
  have HB := Aside0.mk (Below.refl w.heap.size w)
  have H : ((ferrulelaw11_shown.f k).bind fun t308 => (if t308 = true then ((rows_Fits.f l0).bind fun t309 => ((ferruleref11_Fits.f l0).bind fun t310 => (some (t309 == t310)))) else (some false))) = some r := h
  clear h
  replace H := Option.bind_eq_some_iff.mp H
  obtain ⟨t308, A20, H⟩ := H
  replace H : (if t308 = true then ((rows_Fits.f l0).bind fun t309 => ((ferruleref11_Fits.f l0).bind fun t310 => (some (t309 == t310)))) else (some false)) = some r := H
  have A2 := Aside0.mk A20
  clear A20
  by_cases c3 : t308 = true
  · subst c3
    have H1 : ((rows_Fits.f l0).bind fun t309 => ((ferruleref11_Fits.f l0).bind fun t310 => (some (t309 == t310)))) = some r := by rw [if_pos rfl] at H; exact H
    clear H
    have H := H1
    clear H1
    replace H := Option.bind_eq_some_iff.mp H
    obtain ⟨t309, A40, H⟩ := H
    replace H : ((ferruleref11_Fits.f l0).bind fun t310 => (some (t309 == t310))) = some r := H
    have A4 := Aside0.mk A40
    clear A40
    replace H := Option.bind_eq_some_iff.mp H
    obtain ⟨t310, A50, H⟩ := H
    replace H : (some (t309 == t310)) = some r := H
    have A5 := Aside0.mk A50
    clear A50
    obtain rfl := Option.some.inj H
    go_enter Try.func7, Try.ntmps7
    go_wp2_with (first | ((with_reducible refine gate_callee (f := 30) rfl ?_); refine goesL_ (some 4) rfl rfl Try.func30 (by kernel_rfl) rfl #[] rfl (by (try simp only [List.map_toArray, List.map_cons, List.map_nil]); first | done | rfl | (simp only [List.length_drop, List.length_take]; rfl)) ?_; (with_reducible refine (ferrulelaw11_shown.calls k  true _ A2.out).mono ?_); rintro e w6 ⟨rfl, hb⟩; refine ⟨_, rfl, ?_⟩; have n0_ := Aside0.mk (below_step (by repeat (first | (with_reducible first | exact HB.out | apply below_alloc | apply pw_below_drewN | apply below_drew1) | exact HB.out)) hb); clear HB; have HB := n0_; clear n0_; (try clear hb); (try clear hb2); (try clear hk); (try clear hi)) | (go_at_call 31; (with_reducible refine (rows_Fits.calls _ _ l0 t309 _ ?side1 ?side2 A4.out).mono ?_); (case side1 => repeat (first | exact (Kd.C_below HR0.out HB.out) | (with_reducible refine Kd.C_alloc ?_ _) | (with_reducible refine Kd.C_drewN ?_ _) | (with_reducible refine Kd.C_drew ?_))); (case side2 => exact HC0.out); rintro e w7 ⟨rfl, hb⟩; have n0_ := Aside0.mk (below_step (by repeat (first | (with_reducible first | exact HB.out | apply below_alloc | apply pw_below_drewN | apply below_drew1) | exact HB.out)) hb); clear HB; have HB := n0_; clear n0_; (try clear hb); (try clear hb2); (try clear hk); (try clear hi)) | (go_at_call 32; (with_reducible refine (ferruleref11_Fits.calls _ _ l0 t310 _ ?side1 ?side2 A5.out).mono ?_); (case side1 => repeat (first | exact (Kd.C_below HR0.out HB.out) | (with_reducible refine Kd.C_alloc ?_ _) | (with_reducible refine Kd.C_drewN ?_ _) | (with_reducible refine Kd.C_drew ?_))); (case side2 => exact HC0.out); rintro e w8 ⟨rfl, hb⟩; have n0_ := Aside0.mk (below_step (by repeat (first | (with_reducible first | exact HB.out | apply below_alloc | apply pw_below_drewN | apply below_drew1) | exact HB.out)) hb); clear HB; have HB := n0_; clear n0_; (try clear hb); (try clear hb2); (try clear hk); (try clear hi)))
    go_ret
    exact ⟨by first | rfl | (simp [errW_none, errW_some] <;> rfl) | (simp [*, errW_none, errW_some] <;> rfl), by repeat (first | (with_reducible first | exact HB.out | apply below_alloc | apply pw_below_drewN | apply below_drew1) | exact HB.out)⟩
  · replace c3 := Bool.eq_false_iff.mpr c3
    subst c3
    have H1 : (some false) = some r := by rw [if_neg (show ¬ (false = true) by decide)] at H; exact H
    clear H
    have H := H1
    clear H1
    obtain rfl := Option.some.inj H
    go_enter Try.func7, Try.ntmps7
    go_wp2_with (first | ((with_reducible refine gate_callee (f := 30) rfl ?_); refine goesL_ (some 4) rfl rfl Try.func30 (by kernel_rfl) rfl #[] rfl (by (try simp only [List.map_toArray, List.map_cons, List.map_nil]); first | done | rfl | (simp only [List.length_drop, List.length_take]; rfl)) ?_; (with_reducible refine (ferrulelaw11_shown.calls k  false _ A2.out).mono ?_); rintro e w9 ⟨rfl, hb⟩; refine ⟨_, rfl, ?_⟩; have n0_ := Aside0.mk (below_step (by repeat (first | (with_reducible first | exact HB.out | apply below_alloc | apply pw_below_drewN | apply below_drew1) | exact HB.out)) hb); clear HB; have HB := n0_; clear n0_; (try clear hb); (try clear hb2); (try clear hk); (try clear hi)))
    go_ret
    exact ⟨by first | rfl | (simp [errW_none, errW_some] <;> rfl) | (simp [*, errW_none, errW_some] <;> rfl), by repeat (first | (with_reducible first | exact HB.out | apply below_alloc | apply pw_below_drewN | apply below_drew1) | exact HB.out)⟩

end Go.Proofs.Ythfkbfahpgdnfaa.PAll
end
section
/- Every list of puts: which puts may be done is told by the code as the document defines it. -/
namespace Go.Proofs.Ythfkbfahpgdnfaa.PAll
open Go.RowKit Go.Proofs.YthfkbfahpgdnfaaW.PrintWords Go.Proofs.YthfkbfahpgdnfaaW.PrintMore Go.Proofs.Ythfkbfahpgdnfaa
set_option linter.unusedVariables false
theorem RowsFits_pure (p : List S52) : Ev (fun k => ferrulelaw11_RowsFits.f k p) true := by
  refine Ev.bind shown11_ev ?_
  refine Ev.congr (fun _ => if_pos rfl) ?_
  refine Ev.bind (show Ev (fun _ => rows_Fits.f p) (fitsV p) from Ev.now _) ?_
  refine Ev.bind (show Ev (fun _ => ferruleref11_Fits.f p) (fitsV p) from Ev.now _) ?_
  exact Ev.congr (fun _ => congrArg some (beq_self_eq_true _)) (Ev.now true)
theorem RowsFits_walk {w : World} (A : Option Addr) (c : Nat) (l : List S52) (hr : Kd.C k52 w A l.length l) (hc : l.length ≤ c) (hs : l.length * Try.prog.bytesOf 52 ≤ 140737488351232 ∧ ∀ x ∈ l, ok52 x) :
    Calls Try.prog 7 #[.slice A l.length c] w fun e w' => e = .returned (.bool true) ∧ Below w.heap.size w w' := by
  obtain ⟨k, hk⟩ := (RowsFits_pure l).rounds
  exact ferrulelaw11_RowsFits.calls k A c l true w hr hc hk
end Go.Proofs.Ythfkbfahpgdnfaa.PAll
end
section
namespace Go.Proofs.Ythfkbfahpgdnfaa.rowsFits
open Go.ChangeShapes Go.WideShapes Go.ChangeAt Go.RowKit Go.Proofs.YthfkbfahpgdnfaaW.PrintWords Go.Proofs.Ythfkbfahpgdnfaa Go.Proofs.Ythfkbfahpgdnfaa.PAll
open Go.ChangeMaps (open_string shut_string)
set_option linter.unusedVariables false
set_option linter.unusedSimpArgs false
theorem own : ownKnob Try.prog.godebug = none := by kernel_rfl
theorem laidOut : laidOutB Try.prog = true := by kernel_rfl
set_option maxRecDepth 100000 in
theorem lifted (os : Os) (started : os.Started) (H : Type) (enc : TypeId × Value → H) :
    ReturnsInHanded {} Try.checked os 7 .any (Rows.rowsFitsSpec.pre6 enc Try.prog Try.f7 Rows.rowsFitsRow.domain false) (Rows.rowsFitsSpec.post enc Try.prog Try.f7 false true false false) := by
  refine returnsInHanded_of_change_sized (C := Try.checked) own started (by kernel_rfl) Try.func7
    (ChangeSpec.witness6 (enc := enc) (C := Try.checked) false ⟨#[], #[.slice none 0 0], []⟩ 8 (by kernel_rfl) (by kernel_rfl) (by kernel_rfl) (by kernel_rfl)) ?_
  intro W base args ds gs before hval0 hW hcnd hsz0 _
  have hsz : (DataW.weightsEach Try.prog (Try.f7.params.toList ++ Rows.rowsFitsSpec.plain.varTypes Try.prog) (ds ++ gs)).all (· ≤ reachBytes) = true := hsz0
  have hval : ∀ (j : Nat) t v, Try.f7.params[j]? = some t → args[j]? = some v → Value.okWide Try.prog W .any base t v := hval0
  have hW' := hW
  obtain ⟨p, q, hA0, hV, rfl, hfz, hnd⟩ := hW
  have hA : DataW.TrodAll enc Try.prog W 0 (fun _ => true) true Try.f7.params.toList args.toList ds p := hA0
  rw [Try.params7] at hA hval hsz
  obtain ⟨v0, vs0, d0, ds0, p0, q0, hargs, rfl, rfl, h0, r0⟩ := trodAll_cons hA
  obtain ⟨rfl, rfl, rfl⟩ := trodAll_nil r0
  obtain rfl : args = #[v0] := by cases args; simp_all
  obtain ⟨rfl, rfl⟩ := trodVars_none hV
  have hw0 := weights_of 0 hsz (t := 46) (d := d0) rfl rfl
  obtain ⟨a0, len0, cap0, rfl⟩ := okWide_slice Try.underlying46 (hval 0 46 v0 rfl rfl)
  have k0 := h0
  have lt0 : ∀ x ∈ p0, x.block < W.heap.size := by obtain ⟨m, hm⟩ := k0; exact DataW.trod_lt m _ _ _ hm
  obtain ⟨l0, hl0, hr0, hc0, hs0⟩ : ∃ l, len0 = l.length ∧ Kd.C k52 W a0 l.length l ∧ l.length ≤ cap0 ∧ (fun l => l.length * Try.prog.bytesOf 52 ≤ 140737488351232 ∧ ∀ x ∈ l, ok52 x) l := by
    obtain ⟨fuel, hf⟩ := h0
    obtain ⟨l, ⟨A, c, hv, hc, hr⟩, hS⟩ := (Opens.slice Try.underlying46 (by kernel_rfl) opens52) H enc W 0 _ _ fuel _ _ _ hf hw0
    simp [Value.cells] at hv
    obtain ⟨rfl, rfl, rfl⟩ := hv
    exact ⟨l, rfl, hr, hc, hS⟩
  subst hl0
  clear hA0 hval0 hsz0 hsz
  refine (RowsFits_walk (w := W) a0 cap0 l0 hr0 hc0 hs0).mono fun e W' ⟨he, bel⟩ => ?_
  subst he
  exact ⟨_, rfl, _, _, _, [], _, [], hW', trodAll_mk1 (shut_bool Try.underlying4 _), (trodAll_cons_mk (Below.trod laidOut (by kernel_rfl) (of_decide_eq_true (by kernel_rfl)) k0 bel lt0) trodAll_mk0), rfl, bel.frame _, fun h => by cases h⟩
theorem over : Rows.rowsFitsRow.holds Try.pinned (OpenSpec.ofChange Rows.rowsFitsSpec) :=
  OpenClaim.holds_of_wide 7 Try.f7 rfl rfl rfl rfl rfl rfl rfl ⟨rfl, rfl, rfl, rfl, rfl⟩ rfl rfl rfl rfl rfl (by kernel_rfl) Try.func7 (by kernel_rfl)
    (of_decide_eq_true (by kernel_rfl)) (by unfold Func.isWrapper; first | (rw [if_pos (by decide +kernel)]; kernel_rfl) | (rw [if_neg (by decide +kernel)]; exact ⟨rfl, rfl⟩))
    (fun os started H enc _ => lifted os started H enc)
theorem proved : Rows.RowsFitsSaid := over
#print axioms proved
end Go.Proofs.Ythfkbfahpgdnfaa.rowsFits
namespace Go.Proofs.Ythfkbfahpgdnfaa
/-- The row, under a short name, for the claim. -/
theorem rowsFits_holds : Rows.RowsFitsSaid := rowsFits.proved
end Go.Proofs.Ythfkbfahpgdnfaa
end
