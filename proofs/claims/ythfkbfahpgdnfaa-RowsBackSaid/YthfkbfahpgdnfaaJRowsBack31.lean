/- A right list is taken from its bytes as it was, whatever stands behind them. No condition beside the form's own. -/
import Derived.Test.YthfkbfahpgdnfaaJRowsBack20
import Derived.Test.YthfkbfahpgdnfaaJRowsBack29
import Derived.Test.YthfkbfahpgdnfaaJRowsBack30
import Derived.Test.YthfkbfahpgdnfaaRows
import Derived.WalkKit
import Derived.ProofKit
import Derived.OpenShut
import Derived.ShutString
import Derived.ChangeOld
import Derived.Below
import Derived.SizedLaws
section
/- A right list is taken from its bytes as it was, whatever stands behind them. -/
namespace Go.Proofs.Ythfkbfahpgdnfaa.PAll
open Go.RowKit Go.Proofs.YthfkbfahpgdnfaaW.PrintWords Go.Proofs.YthfkbfahpgdnfaaW.PrintMore Go.Proofs.Ythfkbfahpgdnfaa
set_option linter.unusedVariables false
theorem of_wfu64 {n : Int} (h : (Lit.int .u64 n).wf = true) : 0 ≤ n ∧ n < 18446744073709551616 := by
  simp [Lit.wf, IntKind.min, IntKind.max, IntKind.signed, IntKind.bits] at h
  omega
theorem nat_of {l : List S64} (h : ∀ x ∈ l, ok64 x) : natR l = true := by
  unfold natR
  rw [List.all_eq_true]
  intro x hx
  exact decide_eq_true (of_wfu64 (h x hx).2.2).1
theorem RowsBack_pure (l : List S64) (more : ByteArray) (hn : natR l = true) (hs : ∀ x ∈ l, x.f0.size ≤ 9223372036854775806) (hz : more.size ≤ 140737488351232) : Ev (fun k => ferrulelaw11_RowsBack.f k l more) true := by
  refine Ev.bind shown11_ev ?_
  refine Ev.bind (show Ev (fun _ => rows_Bytes.f l) (bytesO l) from ⟨0, fun _ _ => Bytes_eq l hn⟩) ?_
  unfold bytesO
  by_cases c : rightR l = true
  · rw [if_pos c]
    have hl := (right_ok c).1
    have hz2 := bytesV_size l c hn
    refine Ev.congr (fun _ => (if_pos rfl).trans (if_pos (by simp only []; omega))) ?_
    refine Ev.bind (Take_ev _ (by simp only [ByteArray.size_append]; omega)) ?_
    rw [takeL_back l more c hn]
    refine Ev.bind (Same_ev l (by omega)) ?_
    refine Ev.congr (fun _ => (if_pos rfl).trans ((if_pos rfl).trans (if_pos rfl))) ?_
    exact Ev.now true
  · rw [if_neg c]
    refine Ev.congr (fun _ => (if_neg (by decide)).trans (if_pos rfl)) ?_
    refine Ev.bind (show Ev (fun _ => rows_Right.f l) (rightR l) from Ev.now _) ?_
    rw [Bool.not_eq_true] at c
    rw [c]
    exact Ev.now true
theorem RowsBack_walk {w : World} (A : Option Addr) (c : Nat) (l : List S64) (hr : Kd.C k64 w A l.length l) (hc : l.length ≤ c) (hs : l.length * Try.prog.bytesOf 64 ≤ 140737488351232 ∧ ∀ x ∈ l, ok64 x) (s : ByteArray) (hz : s.size ≤ 140737488351232) :
    Calls Try.prog 13 #[.slice A l.length c, .string s] w fun e w' => e = .returned (.bool true) ∧ Below w.heap.size w w' := by
  obtain ⟨k, hk⟩ := (RowsBack_pure l s (nat_of hs.2) (fun x hx => by have := (hs.2 x hx).1; omega) hz).rounds
  exact ferrulelaw11_RowsBack.calls k A c l s true w hr hc hk
end Go.Proofs.Ythfkbfahpgdnfaa.PAll
end
section
namespace Go.Proofs.Ythfkbfahpgdnfaa.rowsBack
open Go.ChangeShapes Go.WideShapes Go.ChangeAt Go.RowKit Go.Proofs.YthfkbfahpgdnfaaW.PrintWords Go.Proofs.Ythfkbfahpgdnfaa Go.Proofs.Ythfkbfahpgdnfaa.PAll
open Go.ChangeMaps (open_string shut_string)
set_option linter.unusedVariables false
set_option linter.unusedSimpArgs false
theorem own : ownKnob Try.prog.godebug = none := by kernel_rfl
theorem laidOut : laidOutB Try.prog = true := by kernel_rfl
set_option maxRecDepth 100000 in
theorem lifted (os : Os) (started : os.Started) (H : Type) (enc : TypeId × Value → H) :
    ReturnsInHanded {} Try.checked os 13 .any (Rows.rowsBackSpec.pre6 enc Try.prog Try.f13 Rows.rowsBackRow.domain false) (Rows.rowsBackSpec.post enc Try.prog Try.f13 false true false false) := by
  refine returnsInHanded_of_change_sized (C := Try.checked) own started (by kernel_rfl) Try.func13
    (ChangeSpec.witness6 (enc := enc) (C := Try.checked) false ⟨#[], #[.slice none 0 0, .string ByteArray.empty], []⟩ 8 (by kernel_rfl) (by kernel_rfl) (by kernel_rfl) (by kernel_rfl)) ?_
  intro W base args ds gs before hval0 hW hcnd hsz0 _
  have hsz : (DataW.weightsEach Try.prog (Try.f13.params.toList ++ Rows.rowsBackSpec.plain.varTypes Try.prog) (ds ++ gs)).all (· ≤ reachBytes) = true := hsz0
  have hval : ∀ (j : Nat) t v, Try.f13.params[j]? = some t → args[j]? = some v → Value.okWide Try.prog W .any base t v := hval0
  have hW' := hW
  obtain ⟨p, q, hA0, hV, rfl, hfz, hnd⟩ := hW
  have hA : DataW.TrodAll enc Try.prog W 0 (fun _ => true) true Try.f13.params.toList args.toList ds p := hA0
  rw [Try.params13] at hA hval hsz
  obtain ⟨v0, vs0, d0, ds0, p0, q0, hargs, rfl, rfl, h0, r0⟩ := trodAll_cons hA
  obtain ⟨v1, vs1, d1, ds1, p1, q1, rfl, rfl, rfl, h1, r1⟩ := trodAll_cons r0
  obtain ⟨rfl, rfl, rfl⟩ := trodAll_nil r1
  obtain rfl : args = #[v0, v1] := by cases args; simp_all
  obtain ⟨rfl, rfl⟩ := trodVars_none hV
  have hw0 := weights_of 0 hsz (t := 50) (d := d0) rfl rfl
  obtain ⟨a0, len0, cap0, rfl⟩ := okWide_slice Try.underlying50 (hval 0 50 v0 rfl rfl)
  have k0 := h0
  have lt0 : ∀ x ∈ p0, x.block < W.heap.size := by obtain ⟨m, hm⟩ := k0; exact DataW.trod_lt m _ _ _ hm
  obtain ⟨l0, hl0, hr0, hc0, hs0⟩ : ∃ l, len0 = l.length ∧ Kd.C k64 W a0 l.length l ∧ l.length ≤ cap0 ∧ (fun l => l.length * Try.prog.bytesOf 64 ≤ 140737488351232 ∧ ∀ x ∈ l, ok64 x) l := by
    obtain ⟨fuel, hf⟩ := h0
    obtain ⟨l, ⟨A, c, hv, hc, hr⟩, hS⟩ := (Opens.slice Try.underlying50 (by kernel_rfl) opens64) H enc W 0 _ _ fuel _ _ _ hf hw0
    simp [Value.cells] at hv
    obtain ⟨rfl, rfl, rfl⟩ := hv
    exact ⟨l, rfl, hr, hc, hS⟩
  subst hl0
  have hw1 := weights_of 1 hsz (t := 9) (d := d1) rfl rfl
  obtain ⟨a1, rfl, rfl, rfl, y1⟩ := open_string Try.underlying9 (hval 1 9 v1 rfl rfl) h1
  have w1 : a1.size ≤ 140737488351232 := by
    have z := hw1 a1.data.toList.length (by simp [DataW.weights])
    rw [Array.length_toList] at z
    exact z
  clear hA0 hval0 hsz0 hsz
  refine (RowsBack_walk (w := W) a0 cap0 l0 hr0 hc0 hs0 a1 w1).mono fun e W' ⟨he, bel⟩ => ?_
  subst he
  exact ⟨_, rfl, _, _, _, [], _, [], hW', trodAll_mk1 (shut_bool Try.underlying4 _), (trodAll_cons_mk (Below.trod laidOut (by kernel_rfl) (of_decide_eq_true (by kernel_rfl)) k0 bel lt0) (trodAll_cons_mk (shut_string Try.underlying9 y1) trodAll_mk0)), rfl, bel.frame _, fun h => by cases h⟩
theorem over : Rows.rowsBackRow.holds Try.pinned (OpenSpec.ofChange Rows.rowsBackSpec) :=
  OpenClaim.holds_of_wide 13 Try.f13 rfl rfl rfl rfl rfl rfl rfl ⟨rfl, rfl, rfl, rfl, rfl⟩ rfl rfl rfl rfl rfl (by kernel_rfl) Try.func13 (by kernel_rfl)
    (of_decide_eq_true (by kernel_rfl)) (by unfold Func.isWrapper; first | (rw [if_pos (by decide +kernel)]; kernel_rfl) | (rw [if_neg (by decide +kernel)]; exact ⟨rfl, rfl⟩))
    (fun os started H enc _ => lifted os started H enc)
theorem proved : Rows.RowsBackSaid := over
#print axioms proved
end Go.Proofs.Ythfkbfahpgdnfaa.rowsBack
namespace Go.Proofs.Ythfkbfahpgdnfaa
/-- The row, under a short name, for the claim. -/
theorem rowsBack_holds : Rows.RowsBackSaid := rowsBack.proved
end Go.Proofs.Ythfkbfahpgdnfaa
end
