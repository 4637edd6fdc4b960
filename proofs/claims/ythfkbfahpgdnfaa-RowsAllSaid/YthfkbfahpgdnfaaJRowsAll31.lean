/- Every list, every puts: they change the list, or are refused, as the document defines it. No condition beside the form's own. -/
import Derived.Test.YthfkbfahpgdnfaaJRowsAll29
import Derived.Test.YthfkbfahpgdnfaaJRowsAll30
import Derived.Test.YthfkbfahpgdnfaaRows
import Derived.WalkKit
import Derived.ProofKit
import Derived.OpenShut
import Derived.ShutString
import Derived.ChangeOld
import Derived.Below
import Derived.SizedLaws
section
/- Every list, every puts: they change the list, or are refused, as the document defines it. -/
namespace Go.Proofs.Ythfkbfahpgdnfaa.PAll
open Go.RowKit Go.Proofs.YthfkbfahpgdnfaaW.PrintWords Go.Proofs.YthfkbfahpgdnfaaW.PrintMore Go.Proofs.Ythfkbfahpgdnfaa
set_option linter.unusedVariables false
theorem RowsAll_pure (l : List S64) (p : List S52) (ver : Int) (hl : l.length < 3518437208800) (hp : p.length < 3518437208800) (hk : ∀ x ∈ p, x.f0.size ≤ 9223372036854775806) : Ev (fun k => ferrulelaw11_RowsAll.f k l p ver) true := by
  refine Ev.bind shown11_ev ?_
  refine Ev.bind (All_ev l p ver hl) ?_
  refine Ev.bind (rAll_ev l p ver hl hk) ?_
  refine Ev.bind (Same_ev (allV l p ver).1 (by have := allV_len l p ver; omega)) ?_
  refine Ev.congr (fun _ => (if_pos rfl).trans (if_pos rfl)) ?_
  exact Ev.congr (fun _ => congrArg some (beq_self_eq_true _)) (Ev.now true)
theorem RowsAll_walk {w : World} (A : Option Addr) (c : Nat) (l : List S64) (hr : Kd.C k64 w A l.length l) (hc : l.length ≤ c) (hs : l.length * Try.prog.bytesOf 64 ≤ 140737488351232 ∧ ∀ x ∈ l, ok64 x) (B : Option Addr) (d : Nat) (p : List S52) (hr2 : Kd.C k52 w B p.length p) (hc2 : p.length ≤ d) (hs2 : p.length * Try.prog.bytesOf 52 ≤ 140737488351232 ∧ ∀ x ∈ p, ok52 x) (ver : Int) (hv : (Lit.int .u64 ver).wf = true) :
    Calls Try.prog 9 #[.slice A l.length c, .slice B p.length d, .int .u64 ver] w fun e w' => e = .returned (.bool true) ∧ Below w.heap.size w w' := by
  rw [bytesRow] at hs
  rw [bytesPut] at hs2
  obtain ⟨k, hk⟩ := (RowsAll_pure l p ver (by omega) (by omega) (fun x hx => by have := (hs2.2 x hx).1; omega)).rounds
  exact ferrulelaw11_RowsAll.calls k A c l B d p ver true w hr hc hr2 hc2 hk
end Go.Proofs.Ythfkbfahpgdnfaa.PAll
end
section
namespace Go.Proofs.Ythfkbfahpgdnfaa.rowsAll
open Go.ChangeShapes Go.WideShapes Go.ChangeAt Go.RowKit Go.Proofs.YthfkbfahpgdnfaaW.PrintWords Go.Proofs.Ythfkbfahpgdnfaa Go.Proofs.Ythfkbfahpgdnfaa.PAll
open Go.ChangeMaps (open_string shut_string)
set_option linter.unusedVariables false
set_option linter.unusedSimpArgs false
theorem own : ownKnob Try.prog.godebug = none := by kernel_rfl
theorem laidOut : laidOutB Try.prog = true := by kernel_rfl
set_option maxRecDepth 100000 in
theorem lifted (os : Os) (started : os.Started) (H : Type) (enc : TypeId × Value → H) :
    ReturnsInHanded {} Try.checked os 9 .any (Rows.rowsAllSpec.pre6 enc Try.prog Try.f9 Rows.rowsAllRow.domain false) (Rows.rowsAllSpec.post enc Try.prog Try.f9 false true false false) := by
  refine returnsInHanded_of_change_sized (C := Try.checked) own started (by kernel_rfl) Try.func9
    (ChangeSpec.witness6 (enc := enc) (C := Try.checked) false ⟨#[], #[.slice none 0 0, .slice none 0 0, .int .u64 0], []⟩ 8 (by kernel_rfl) (by kernel_rfl) (by kernel_rfl) (by kernel_rfl)) ?_
  intro W base args ds gs before hval0 hW hcnd hsz0 _
  have hsz : (DataW.weightsEach Try.prog (Try.f9.params.toList ++ Rows.rowsAllSpec.plain.varTypes Try.prog) (ds ++ gs)).all (· ≤ reachBytes) = true := hsz0
  have hval : ∀ (j : Nat) t v, Try.f9.params[j]? = some t → args[j]? = some v → Value.okWide Try.prog W .any base t v := hval0
  have hW' := hW
  obtain ⟨p, q, hA0, hV, rfl, hfz, hnd⟩ := hW
  have hA : DataW.TrodAll enc Try.prog W 0 (fun _ => true) true Try.f9.params.toList args.toList ds p := hA0
  rw [Try.params9] at hA hval hsz
  obtain ⟨v0, vs0, d0, ds0, p0, q0, hargs, rfl, rfl, h0, r0⟩ := trodAll_cons hA
  obtain ⟨v1, vs1, d1, ds1, p1, q1, rfl, rfl, rfl, h1, r1⟩ := trodAll_cons r0
  obtain ⟨v2, vs2, d2, ds2, p2, q2, rfl, rfl, rfl, h2, r2⟩ := trodAll_cons r1
  obtain ⟨rfl, rfl, rfl⟩ := trodAll_nil r2
  obtain rfl : args = #[v0, v1, v2] := by cases args; simp_all
  obtain ⟨rfl, rfl⟩ := trodVars_none hV
  have hw0 := weights_of 0 hsz (t := 50) (d := d0) rfl rfl
  obtain ⟨a0, len0, cap0, rfl⟩ := okWide_slice Try.underlying50 (hval 0 50 v0 rfl rfl)
  have k0 := h0
  have lt0 : ∀ x ∈ p0, x.block < W.heap.size := by obtain ⟨m, hm⟩ := k0; exact DataW.trod_lt m _ _ _ hm
  obtain ⟨l0, hl0, hr0, hc0, hs0⟩ : ∃ l, len0 = l.length ∧ Kd.C k64 W a0 l.length l ∧ l.length ≤ cap0 ∧ (fun l => l.length * Try.prog.bytesOf 64 ≤ 140737488351232 ∧ ∀ x ∈ l, ok64 x) l := by
    obtain ⟨fuel, hf⟩ := h0
    obtain ⟨l, ⟨A, c, hv, hc, hr⟩, hS⟩ := (Opens.slice Try.underlying50 (by kernel_rfl) opens64) H enc W 0 _ _ fuel _ _ _ hf hw0
    simp [Value.cells] at hv
    obtain ⟨rfl, rfl, rfl⟩ := hv
    exact ⟨l, rfl, hr, hc, hS⟩
  subst hl0
  have hw1 := weights_of 1 hsz (t := 46) (d := d1) rfl rfl
  obtain ⟨a1, len1, cap1, rfl⟩ := okWide_slice Try.underlying46 (hval 1 46 v1 rfl rfl)
  have k1 := h1
  have lt1 : ∀ x ∈ p1, x.block < W.heap.size := by obtain ⟨m, hm⟩ := k1; exact DataW.trod_lt m _ _ _ hm
  obtain ⟨l1, hl1, hr1, hc1, hs1⟩ : ∃ l, len1 = l.length ∧ Kd.C k52 W a1 l.length l ∧ l.length ≤ cap1 ∧ (fun l => l.length * Try.prog.bytesOf 52 ≤ 140737488351232 ∧ ∀ x ∈ l, ok52 x) l := by
    obtain ⟨fuel, hf⟩ := h1
    obtain ⟨l, ⟨A, c, hv, hc, hr⟩, hS⟩ := (Opens.slice Try.underlying46 (by kernel_rfl) opens52) H enc W 0 _ _ fuel _ _ _ hf hw1
    simp [Value.cells] at hv
    obtain ⟨rfl, rfl, rfl⟩ := hv
    exact ⟨l, rfl, hr, hc, hS⟩
  subst hl1
  have hw2 := weights_of 2 hsz (t := 53) (d := d2) rfl rfl
  obtain ⟨a2, rfl, rfl, rfl, w2⟩ := open_int Try.underlying53 (hval 2 53 v2 rfl rfl) h2
  clear hA0 hval0 hsz0 hsz
  refine (RowsAll_walk (w := W) a0 cap0 l0 hr0 hc0 hs0 a1 cap1 l1 hr1 hc1 hs1 a2 w2).mono fun e W' ⟨he, bel⟩ => ?_
  subst he
  exact ⟨_, rfl, _, _, _, [], _, [], hW', trodAll_mk1 (shut_bool Try.underlying4 _), (trodAll_cons_mk (Below.trod laidOut (by kernel_rfl) (of_decide_eq_true (by kernel_rfl)) k0 bel lt0) (trodAll_cons_mk (Below.trod laidOut (by kernel_rfl) (of_decide_eq_true (by kernel_rfl)) k1 bel lt1) (trodAll_cons_mk (shut_int Try.underlying53 w2) trodAll_mk0))), rfl, bel.frame _, fun h => by cases h⟩
theorem over : Rows.rowsAllRow.holds Try.pinned (OpenSpec.ofChange Rows.rowsAllSpec) :=
  OpenClaim.holds_of_wide 9 Try.f9 rfl rfl rfl rfl rfl rfl rfl ⟨rfl, rfl, rfl, rfl, rfl⟩ rfl rfl rfl rfl rfl (by kernel_rfl) Try.func9 (by kernel_rfl)
    (of_decide_eq_true (by kernel_rfl)) (by unfold Func.isWrapper; first | (rw [if_pos (by decide +kernel)]; kernel_rfl) | (rw [if_neg (by decide +kernel)]; exact ⟨rfl, rfl⟩))
    (fun os started H enc _ => lifted os started H enc)
theorem proved : Rows.RowsAllSaid := over
#print axioms proved
end Go.Proofs.Ythfkbfahpgdnfaa.rowsAll
namespace Go.Proofs.Ythfkbfahpgdnfaa
/-- The row, under a short name, for the claim. -/
theorem rowsAll_holds : Rows.RowsAllSaid := rowsAll.proved
end Go.Proofs.Ythfkbfahpgdnfaa
end
