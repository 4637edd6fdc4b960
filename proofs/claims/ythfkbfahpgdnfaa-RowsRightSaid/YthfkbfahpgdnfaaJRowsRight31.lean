/- Every list: which lists are right, and a key's row, are told by the code as the document defines them. No condition beside the form's own. -/
import Derived.Test.YthfkbfahpgdnfaaJRowsRight29
import Derived.Test.YthfkbfahpgdnfaaJRowsRight30
import Derived.Test.YthfkbfahpgdnfaaRows
import Derived.WalkKit
import Derived.ProofKit
import Derived.OpenShut
import Derived.ShutString
import Derived.ChangeOld
import Derived.Below
import Derived.SizedLaws
section
/- Every list: which lists are right, and a key's row, are told by the code as the document defines them. -/
namespace Go.Proofs.Ythfkbfahpgdnfaa.PAll
open Go.RowKit Go.Proofs.YthfkbfahpgdnfaaW.PrintWords Go.Proofs.YthfkbfahpgdnfaaW.PrintMore Go.Proofs.Ythfkbfahpgdnfaa
set_option linter.unusedVariables false
theorem RowsRight_pure (l : List S64) (key : ByteArray) (hl : l.length < 3518437208800) (hs : ∀ x ∈ l, x.f0.size ≤ 9223372036854775806) : Ev (fun k => ferrulelaw11_RowsRight.f k l key) true := by
  refine Ev.bind shown11_ev ?_
  refine Ev.bind (show Ev (fun _ => rows_Get.f l key) (getV l key) from ⟨0, fun _ _ => Get_eq l key⟩) ?_
  refine Ev.bind (rGet_ev l key (by omega)) ?_
  refine Ev.congr (fun _ => if_pos rfl) ?_
  refine Ev.bind (show Ev (fun _ => rows_Right.f l) (rightR l) from Ev.now _) ?_
  refine Ev.bind (rRight_ev l hs) ?_
  refine Ev.congr (fun _ => (if_pos (beq_self_eq_true _)).trans (if_pos ?_)) ?_
  · simp
  · exact Ev.congr (fun _ => congrArg some (beq_self_eq_true _)) (Ev.now true)
theorem RowsRight_walk {w : World} (A : Option Addr) (c : Nat) (l : List S64) (hr : Kd.C k64 w A l.length l) (hc : l.length ≤ c) (hs : l.length * Try.prog.bytesOf 64 ≤ 140737488351232 ∧ ∀ x ∈ l, ok64 x) (key : ByteArray) (hk : key.size ≤ 140737488351232) :
    Calls Try.prog 10 #[.slice A l.length c, .string key] w fun e w' => e = .returned (.bool true) ∧ Below w.heap.size w w' := by
  rw [bytesRow] at hs
  obtain ⟨k, hk⟩ := (RowsRight_pure l key (by omega) (fun x hx => by have := (hs.2 x hx).1; omega)).rounds
  exact ferrulelaw11_RowsRight.calls k A c l key true w hr hc hk
end Go.Proofs.Ythfkbfahpgdnfaa.PAll
end
section
namespace Go.Proofs.Ythfkbfahpgdnfaa.rowsRight
open Go.ChangeShapes Go.WideShapes Go.ChangeAt Go.RowKit Go.Proofs.YthfkbfahpgdnfaaW.PrintWords Go.Proofs.Ythfkbfahpgdnfaa Go.Proofs.Ythfkbfahpgdnfaa.PAll
open Go.ChangeMaps (open_string shut_string)
set_option linter.unusedVariables false
set_option linter.unusedSimpArgs false
theorem own : ownKnob Try.prog.godebug = none := by kernel_rfl
theorem laidOut : laidOutB Try.prog = true := by kernel_rfl
set_option maxRecDepth 100000 in
theorem lifted (os : Os) (started : os.Started) (H : Type) (enc : TypeId × Value → H) :
    ReturnsInHanded {} Try.checked os 10 .any (Rows.rowsRightSpec.pre6 enc Try.prog Try.f10 Rows.rowsRightRow.domain false) (Rows.rowsRightSpec.post enc Try.prog Try.f10 false true false false) := by
  refine returnsInHanded_of_change_sized (C := Try.checked) own started (by kernel_rfl) Try.func10
    (ChangeSpec.witness6 (enc := enc) (C := Try.checked) false ⟨#[], #[.slice none 0 0, .string ByteArray.empty], []⟩ 8 (by kernel_rfl) (by kernel_rfl) (by kernel_rfl) (by kernel_rfl)) ?_
  intro W base args ds gs before hval0 hW hcnd hsz0 _
  have hsz : (DataW.weightsEach Try.prog (Try.f10.params.toList ++ Rows.rowsRightSpec.plain.varTypes Try.prog) (ds ++ gs)).all (· ≤ reachBytes) = true := hsz0
  have hval : ∀ (j : Nat) t v, Try.f10.params[j]? = some t → args[j]? = some v → Value.okWide Try.prog W .any base t v := hval0
  have hW' := hW
  obtain ⟨p, q, hA0, hV, rfl, hfz, hnd⟩ := hW
  have hA : DataW.TrodAll enc Try.prog W 0 (fun _ => true) true Try.f10.params.toList args.toList ds p := hA0
  rw [Try.params10] at hA hval hsz
  obtain ⟨v0, vs0, d0, ds0, p0, q0, hargs, rfl, rfl, h0, r0⟩ := trodAll_cons hA
  obtain ⟨v1, vs1, d1, ds1, p1, q1, rfl, rfl, rfl, h1, r1⟩ := trodAll_cons r0
  obtain ⟨rfl, rfl, rfl⟩ := trodAll_nil r1
  obtain rfl : args = #[v0, v1] := by cases args; simp_all
  obtain ⟨rfl, rfl⟩ := trodVars_none hV
  have hw0 := weights_of 0 hsz (t := 50) (d := d0) rfl rfl
  obtain ⟨a0, len0, cap0, rfl⟩ := okWide_slice Try.underlying50 (hval 0 50 v0 rfl rfl)
  have k0 := h0
  have lt0 : ∀ x ∈ p0, x.block < W.heap.size := by obtain ⟨m, hm⟩ := k0; exact DataW.trod_lt m _ _ _ hm
  obtain ⟨l0, hl0, hr0, hc0, hs0⟩ : ∃ l, len0 = l.length ∧ Kd.C k64 W a0 l.length l ∧ l.length ≤ cap0 ∧ (fun l => l.length * Try.prog.bytesOf 64 ≤ 140737488351232 ∧ ∀ x ∈ l, ok64 x) l := by
    obtain ⟨fuel, hf⟩ := h0
    obtain ⟨l, ⟨A, c, hv, hc, hr⟩, hS⟩ := (Opens.slice Try.underlying50 (by kernel_rfl) opens64) H enc W 0 _ _ fuel _ _ _ hf hw0
    simp [Value.cells] at hv
    obtain ⟨rfl, rfl, rfl⟩ := hv
    exact ⟨l, rfl, hr, hc, hS⟩
  subst hl0
  have hw1 := weights_of 1 hsz (t := 9) (d := d1) rfl rfl
  obtain ⟨a1, rfl, rfl, rfl, y1⟩ := open_string Try.underlying9 (hval 1 9 v1 rfl rfl) h1
  have w1 : a1.size ≤ 140737488351232 := by
    have z := hw1 a1.data.toList.length (by simp [DataW.weights])
    rw [Array.length_toList] at z
    exact z
  clear hA0 hval0 hsz0 hsz
  refine (RowsRight_walk (w := W) a0 cap0 l0 hr0 hc0 hs0 a1 w1).mono fun e W' ⟨he, bel⟩ => ?_
  subst he
  exact ⟨_, rfl, _, _, _, [], _, [], hW', trodAll_mk1 (shut_bool Try.underlying4 _), (trodAll_cons_mk (Below.trod laidOut (by kernel_rfl) (of_decide_eq_true (by kernel_rfl)) k0 bel lt0) (trodAll_cons_mk (shut_string Try.underlying9 y1) trodAll_mk0)), rfl, bel.frame _, fun h => by cases h⟩
theorem over : Rows.rowsRightRow.holds Try.pinned (OpenSpec.ofChange Rows.rowsRightSpec) :=
  OpenClaim.holds_of_wide 10 Try.f10 rfl rfl rfl rfl rfl rfl rfl ⟨rfl, rfl, rfl, rfl, rfl⟩ rfl rfl rfl rfl rfl (by kernel_rfl) Try.func10 (by kernel_rfl)
    (of_decide_eq_true (by kernel_rfl)) (by unfold Func.isWrapper; first | (rw [if_pos (by decide +kernel)]; kernel_rfl) | (rw [if_neg (by decide +kernel)]; exact ⟨rfl, rfl⟩))
    (fun os started H enc _ => lifted os started H enc)
theorem proved : Rows.RowsRightSaid := over
#print axioms proved
end Go.Proofs.Ythfkbfahpgdnfaa.rowsRight
namespace Go.Proofs.Ythfkbfahpgdnfaa
/-- The row, under a short name, for the claim. -/
theorem rowsRight_holds : Rows.RowsRightSaid := rowsRight.proved
end Go.Proofs.Ythfkbfahpgdnfaa
end
