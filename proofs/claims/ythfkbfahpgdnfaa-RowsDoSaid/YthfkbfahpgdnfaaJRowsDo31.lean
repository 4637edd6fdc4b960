/- Every list, every put: a put changes the list, or is refused, as the document defines it. No condition beside the form's own. -/
import Derived.Test.YthfkbfahpgdnfaaJRowsDo29
import Derived.Test.YthfkbfahpgdnfaaJRowsDo30
import Derived.Test.YthfkbfahpgdnfaaRows
import Derived.WalkKit
import Derived.ProofKit
import Derived.OpenShut
import Derived.ShutString
import Derived.ChangeOld
import Derived.Below
import Derived.SizedLaws
section
/- Every list, every put: a put changes the list, or is refused, as the document defines it. -/
namespace Go.Proofs.Ythfkbfahpgdnfaa.PAll
open Go.RowKit Go.Proofs.YthfkbfahpgdnfaaW.PrintWords Go.Proofs.YthfkbfahpgdnfaaW.PrintMore Go.Proofs.Ythfkbfahpgdnfaa
set_option linter.unusedVariables false
theorem RowsDo_pure (l : List S64) (p : S52) (ver : Int) (hl : l.length < 3518437208800) (hp : p.f0.size ≤ 9223372036854775806) : Ev (fun k => ferrulelaw11_RowsDo.f k l p.f0 p.f1 p.f2 ver) true := by
  refine Ev.bind shown11_ev ?_
  refine Ev.bind (show Ev (fun _ => rows_Do.f l p.f0 p.f1 p.f2 ver) (doV l p ver) from ⟨0, fun _ _ => by unfold rows_Do.f; rw [if_pos (by omega)]⟩) ?_
  refine Ev.bind (rDo_ev l p ver (by omega) hp) ?_
  refine Ev.bind (Same_ev (doV l p ver).1 (doV_len2 l p ver hl)) ?_
  refine Ev.congr (fun _ => (if_pos rfl).trans (if_pos rfl)) ?_
  exact Ev.congr (fun _ => congrArg some (beq_self_eq_true _)) (Ev.now true)
theorem RowsDo_walk {w : World} (A : Option Addr) (c : Nat) (l : List S64) (hr : Kd.C k64 w A l.length l) (hc : l.length ≤ c) (hs : l.length * Try.prog.bytesOf 64 ≤ 140737488351232 ∧ ∀ x ∈ l, ok64 x) (cs : Array Value) (x : S52) (hx : k52.K w x cs.toList) (hsx : ok52 x) (ver : Int) (hv : (Lit.int .u64 ver).wf = true) :
    Calls Try.prog 8 #[.slice A l.length c, .agg cs, .int .u64 ver] w fun e w' => e = .returned (.bool true) ∧ Below w.heap.size w w' := by
  rw [bytesRow] at hs
  obtain rfl := putCells hx
  obtain ⟨k, hk⟩ := (RowsDo_pure l x ver (by omega) (by have := hsx.1; omega)).rounds
  exact ferrulelaw11_RowsDo.calls k A c l x.f0 x.f1 x.f2 ver true w hr hc hk
end Go.Proofs.Ythfkbfahpgdnfaa.PAll
end
section
namespace Go.Proofs.Ythfkbfahpgdnfaa.rowsDo
open Go.ChangeShapes Go.WideShapes Go.ChangeAt Go.RowKit Go.Proofs.YthfkbfahpgdnfaaW.PrintWords Go.Proofs.Ythfkbfahpgdnfaa Go.Proofs.Ythfkbfahpgdnfaa.PAll
open Go.ChangeMaps (open_string shut_string)
set_option linter.unusedVariables false
set_option linter.unusedSimpArgs false
theorem own : ownKnob Try.prog.godebug = none := by kernel_rfl
theorem laidOut : laidOutB Try.prog = true := by kernel_rfl
set_option maxRecDepth 100000 in
theorem lifted (os : Os) (started : os.Started) (H : Type) (enc : TypeId × Value → H) :
    ReturnsInHanded {} Try.checked os 8 .any (Rows.rowsDoSpec.pre6 enc Try.prog Try.f8 Rows.rowsDoRow.domain false) (Rows.rowsDoSpec.post enc Try.prog Try.f8 false true false false) := by
  refine returnsInHanded_of_change_sized (C := Try.checked) own started (by kernel_rfl) Try.func8
    (ChangeSpec.witness6 (enc := enc) (C := Try.checked) false ⟨#[], #[.slice none 0 0, .agg #[.string ByteArray.empty, .string ByteArray.empty, .bool false], .int .u64 0], []⟩ 8 (by kernel_rfl) (by kernel_rfl) (by kernel_rfl) (by kernel_rfl)) ?_
  intro W base args ds gs before hval0 hW hcnd hsz0 _
  have hsz : (DataW.weightsEach Try.prog (Try.f8.params.toList ++ Rows.rowsDoSpec.plain.varTypes Try.prog) (ds ++ gs)).all (· ≤ reachBytes) = true := hsz0
  have hval : ∀ (j : Nat) t v, Try.f8.params[j]? = some t → args[j]? = some v → Value.okWide Try.prog W .any base t v := hval0
  have hW' := hW
  obtain ⟨p, q, hA0, hV, rfl, hfz, hnd⟩ := hW
  have hA : DataW.TrodAll enc Try.prog W 0 (fun _ => true) true Try.f8.params.toList args.toList ds p := hA0
  rw [Try.params8] at hA hval hsz
  obtain ⟨v0, vs0, d0, ds0, p0, q0, hargs, rfl, rfl, h0, r0⟩ := trodAll_cons hA
  obtain ⟨v1, vs1, d1, ds1, p1, q1, rfl, rfl, rfl, h1, r1⟩ := trodAll_cons r0
  obtain ⟨v2, vs2, d2, ds2, p2, q2, rfl, rfl, rfl, h2, r2⟩ := trodAll_cons r1
  obtain ⟨rfl, rfl, rfl⟩ := trodAll_nil r2
  obtain rfl : args = #[v0, v1, v2] := by cases args; simp_all
  obtain ⟨rfl, rfl⟩ := trodVars_none hV
  have hw0 := weights_of 0 hsz (t := 50) (d := d0) rfl rfl
  obtain ⟨a0, len0, cap0, rfl⟩ := okWide_slice Try.underlying50 (hval 0 50 v0 rfl rfl)
  have k0 := h0
  have lt0 : ∀ x ∈ p0, x.block < W.heap.size := by obtain ⟨m, hm⟩ := k0; exact DataW.trod_lt m _ _ _ hm
  obtain ⟨l0, hl0, hr0, hc0, hs0⟩ : ∃ l, len0 = l.length ∧ Kd.C k64 W a0 l.length l ∧ l.length ≤ cap0 ∧ (fun l => l.length * Try.prog.bytesOf 64 ≤ 140737488351232 ∧ ∀ x ∈ l, ok64 x) l := by
    obtain ⟨fuel, hf⟩ := h0
    obtain ⟨l, ⟨A, c, hv, hc, hr⟩, hS⟩ := (Opens.slice Try.underlying50 (by kernel_rfl) opens64) H enc W 0 _ _ fuel _ _ _ hf hw0
    simp [Value.cells] at hv
    obtain ⟨rfl, rfl, rfl⟩ := hv
    exact ⟨l, rfl, hr, hc, hS⟩
  subst hl0
  have hw1 := weights_of 1 hsz (t := 52) (d := d1) rfl rfl
  have k1 := h1
  have lt1 : ∀ x ∈ p1, x.block < W.heap.size := by obtain ⟨m, hm⟩ := k1; exact DataW.trod_lt m _ _ _ hm
  obtain ⟨cs1, rfl, hcz1⟩ := okWide_struct Try.underlying52 (hval 1 52 v1 rfl rfl)
  obtain ⟨x1, hx1, hs1⟩ : ∃ x, k52.K W x cs1.toList ∧ ok52 x := by
    obtain ⟨fuel, hf⟩ := h1
    exact opens52 H enc W 0 _ _ fuel _ _ _ hf hw1
  have hw2 := weights_of 2 hsz (t := 53) (d := d2) rfl rfl
  obtain ⟨a2, rfl, rfl, rfl, w2⟩ := open_int Try.underlying53 (hval 2 53 v2 rfl rfl) h2
  clear hA0 hval0 hsz0 hsz
  refine (RowsDo_walk (w := W) a0 cap0 l0 hr0 hc0 hs0 cs1 x1 hx1 hs1 a2 w2).mono fun e W' ⟨he, bel⟩ => ?_
  subst he
  exact ⟨_, rfl, _, _, _, [], _, [], hW', trodAll_mk1 (shut_bool Try.underlying4 _), (trodAll_cons_mk (Below.trod laidOut (by kernel_rfl) (of_decide_eq_true (by kernel_rfl)) k0 bel lt0) (trodAll_cons_mk (Below.trod laidOut (by kernel_rfl) (of_decide_eq_true (by kernel_rfl)) k1 bel lt1) (trodAll_cons_mk (shut_int Try.underlying53 w2) trodAll_mk0))), rfl, bel.frame _, fun h => by cases h⟩
theorem over : Rows.rowsDoRow.holds Try.pinned (OpenSpec.ofChange Rows.rowsDoSpec) :=
  OpenClaim.holds_of_wide 8 Try.f8 rfl rfl rfl rfl rfl rfl rfl ⟨rfl, rfl, rfl, rfl, rfl⟩ rfl rfl rfl rfl rfl (by kernel_rfl) Try.func8 (by kernel_rfl)
    (of_decide_eq_true (by kernel_rfl)) (by unfold Func.isWrapper; first | (rw [if_pos (by decide +kernel)]; kernel_rfl) | (rw [if_neg (by decide +kernel)]; exact ⟨rfl, rfl⟩))
    (fun os started H enc _ => lifted os started H enc)
theorem proved : Rows.RowsDoSaid := over
#print axioms proved
end Go.Proofs.Ythfkbfahpgdnfaa.rowsDo
namespace Go.Proofs.Ythfkbfahpgdnfaa
/-- The row, under a short name, for the claim. -/
theorem rowsDo_holds : Rows.RowsDoSaid := rowsDo.proved
end Go.Proofs.Ythfkbfahpgdnfaa
end
