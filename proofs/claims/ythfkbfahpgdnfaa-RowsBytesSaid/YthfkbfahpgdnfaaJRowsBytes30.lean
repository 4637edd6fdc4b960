/- Every list, every bytes: a list's bytes, and the list that bytes begin with, are as the document defines them. No condition beside the form's own. -/
import Derived.Test.YthfkbfahpgdnfaaJRowsBytes13
import Derived.Test.YthfkbfahpgdnfaaJRowsBytes28
import Derived.Test.YthfkbfahpgdnfaaJRowsBytes29
import Derived.Test.YthfkbfahpgdnfaaRows
import Derived.WalkKit
import Derived.ProofKit
import Derived.OpenShut
import Derived.ShutString
import Derived.ChangeOld
import Derived.Below
import Derived.SizedLaws
section
/- Every list, every bytes: a list's bytes, and the list that bytes begin with, are as the document defines them. -/
namespace Go.Proofs.Ythfkbfahpgdnfaa.PAll
open Go.RowKit Go.Proofs.YthfkbfahpgdnfaaW.PrintWords Go.Proofs.YthfkbfahpgdnfaaW.PrintMore Go.Proofs.Ythfkbfahpgdnfaa
set_option linter.unusedVariables false
theorem of_wfu64 {n : Int} (h : (Lit.int .u64 n).wf = true) : 0 ≤ n ∧ n < 18446744073709551616 := by
  simp [Lit.wf, IntKind.min, IntKind.max, IntKind.signed, IntKind.bits] at h
  omega
theorem nat_of {l : List S64} (h : ∀ x ∈ l, ok64 x) : natR l = true := by
  unfold natR
  rw [List.all_eq_true]
  intro x hx
  exact decide_eq_true (of_wfu64 (h x hx).2.2).1
theorem takeRows_len : ∀ (d : Nat) (s : ByteArray) (out : List S64), (takeRows d s out).1.length ≤ out.length + d
  | 0, s, out => by
    unfold takeRows
    split
    · exact Nat.le_refl _
    · exact Nat.zero_le _
  | d + 1, s, out => by
    unfold takeRows
    repeat' split
    · have := takeRows_len d (takeV (takeT (takeT s).2.1).2.1).2.1 (out ++ [⟨(takeT s).1, (takeT (takeT s).2.1).1, (takeV (takeT (takeT s).2.1).2.1).1⟩])
      simp only [List.length_append, List.length_cons, List.length_nil] at this
      omega
    all_goals exact Nat.zero_le _
theorem takeL_len (s : ByteArray) : (takeL s).1.length ≤ 32 := by
  unfold takeL
  repeat' split
  · exact Nat.zero_le _
  · have := takeRows_len (takeV s).1.toNat (takeV s).2.1 []
    simp only [List.length_nil] at this
    omega
  · exact Nat.zero_le _
theorem RowsBytes_pure (l : List S64) (s : ByteArray) (hn : natR l = true) (hs : ∀ x ∈ l, x.f0.size ≤ 9223372036854775806) (hz : s.size ≤ 9223372036854775806) : Ev (fun k => ferrulelaw11_RowsBytes.f k l s) true := by
  refine Ev.bind shown11_ev ?_
  refine Ev.bind (show Ev (fun _ => rows_Bytes.f l) (bytesO l) from ⟨0, fun _ _ => Bytes_eq l hn⟩) ?_
  refine Ev.bind (rBytes_ev l hn hs) ?_
  refine Ev.bind (Take_ev s hz) ?_
  refine Ev.bind (rTake_ev s hz) ?_
  refine Ev.bind (Same_ev (takeL s).1 (by have := takeL_len s; omega)) ?_
  refine Ev.congr (fun _ => (if_pos rfl).trans ((if_pos rfl).trans ((if_pos rfl).trans ((if_pos rfl).trans (if_pos rfl))))) ?_
  exact Ev.congr (fun _ => congrArg some (beq_self_eq_true _)) (Ev.now true)
theorem RowsBytes_walk {w : World} (A : Option Addr) (c : Nat) (l : List S64) (hr : Kd.C k64 w A l.length l) (hc : l.length ≤ c) (hs : l.length * Try.prog.bytesOf 64 ≤ 140737488351232 ∧ ∀ x ∈ l, ok64 x) (s : ByteArray) (hz : s.size ≤ 140737488351232) :
    Calls Try.prog 12 #[.slice A l.length c, .string s] w fun e w' => e = .returned (.bool true) ∧ Below w.heap.size w w' := by
  obtain ⟨k, hk⟩ := (RowsBytes_pure l s (nat_of hs.2) (fun x hx => by have := (hs.2 x hx).1; omega) (by omega)).rounds
  exact ferrulelaw11_RowsBytes.calls k A c l s true w hr hc hk
end Go.Proofs.Ythfkbfahpgdnfaa.PAll
end
section
namespace Go.Proofs.Ythfkbfahpgdnfaa.rowsBytes
open Go.ChangeShapes Go.WideShapes Go.ChangeAt Go.RowKit Go.Proofs.YthfkbfahpgdnfaaW.PrintWords Go.Proofs.Ythfkbfahpgdnfaa Go.Proofs.Ythfkbfahpgdnfaa.PAll
open Go.ChangeMaps (open_string shut_string)
set_option linter.unusedVariables false
set_option linter.unusedSimpArgs false
theorem own : ownKnob Try.prog.godebug = none := by kernel_rfl
theorem laidOut : laidOutB Try.prog = true := by kernel_rfl
set_option maxRecDepth 100000 in
theorem lifted (os : Os) (started : os.Started) (H : Type) (enc : TypeId × Value → H) :
    ReturnsInHanded {} Try.checked os 12 .any (Rows.rowsBytesSpec.pre6 enc Try.prog Try.f12 Rows.rowsBytesRow.domain false) (Rows.rowsBytesSpec.post enc Try.prog Try.f12 false true false false) := by
  refine returnsInHanded_of_change_sized (C := Try.checked) own started (by kernel_rfl) Try.func12
    (ChangeSpec.witness6 (enc := enc) (C := Try.checked) false ⟨#[], #[.slice none 0 0, .string ByteArray.empty], []⟩ 8 (by kernel_rfl) (by kernel_rfl) (by kernel_rfl) (by kernel_rfl)) ?_
  intro W base args ds gs before hval0 hW hcnd hsz0 _
  have hsz : (DataW.weightsEach Try.prog (Try.f12.params.toList ++ Rows.rowsBytesSpec.plain.varTypes Try.prog) (ds ++ gs)).all (· ≤ reachBytes) = true := hsz0
  have hval : ∀ (j : Nat) t v, Try.f12.params[j]? = some t → args[j]? = some v → Value.okWide Try.prog W .any base t v := hval0
  have hW' := hW
  obtain ⟨p, q, hA0, hV, rfl, hfz, hnd⟩ := hW
  have hA : DataW.TrodAll enc Try.prog W 0 (fun _ => true) true Try.f12.params.toList args.toList ds p := hA0
  rw [Try.params12] at hA hval hsz
  obtain ⟨v0, vs0, d0, ds0, p0, q0, hargs, rfl, rfl, h0, r0⟩ := trodAll_cons hA
  obtain ⟨v1, vs1, d1, ds1, p1, q1, rfl, rfl, rfl, h1, r1⟩ := trodAll_cons r0
  obtain ⟨rfl, rfl, rfl⟩ := trodAll_nil r1
  obtain rfl : args = #[v0, v1] := by cases args; simp_all
  obtain ⟨rfl, rfl⟩ := trodVars_none hV
  have hw0 := weights_of 0 hsz (t := 50) (d := d0) rfl rfl
  obtain ⟨a0, len0, cap0, rfl⟩ := okWide_slice Try.underlying50 (hval 0 50 v0 rfl rfl)
  have k0 := h0
  have lt0 : ∀ x ∈ p0, x.block < W.heap.size := by obtain ⟨m, hm⟩ := k0; exact DataW.trod_lt m _ _ _ hm
  obtain ⟨l0, hl0, hr0, hc0, hs0⟩ : ∃ l, len0 = l.length ∧ Kd.C k64 W a0 l.length l ∧ l.length ≤ cap0 ∧ (fun l => l.length * Try.prog.bytesOf 64 ≤ 140737488351232 ∧ ∀ x ∈ l, ok64 x) l := by
    obtain ⟨fuel, hf⟩ := h0
    obtain ⟨l, ⟨A, c, hv, hc, hr⟩, hS⟩ := (Opens.slice Try.underlying50 (by kernel_rfl) opens64) H enc W 0 _ _ fuel _ _ _ hf hw0
    simp [Value.cells] at hv
    obtain ⟨rfl, rfl, rfl⟩ := hv
    exact ⟨l, rfl, hr, hc, hS⟩
  subst hl0
  have hw1 := weights_of 1 hsz (t := 9) (d := d1) rfl rfl
  obtain ⟨a1, rfl, rfl, rfl, y1⟩ := open_string Try.underlying9 (hval 1 9 v1 rfl rfl) h1
  have w1 : a1.size ≤ 140737488351232 := by
    have z := hw1 a1.data.toList.length (by simp [DataW.weights])
    rw [Array.length_toList] at z
    exact z
  clear hA0 hval0 hsz0 hsz
  refine (RowsBytes_walk (w := W) a0 cap0 l0 hr0 hc0 hs0 a1 w1).mono fun e W' ⟨he, bel⟩ => ?_
  subst he
  exact ⟨_, rfl, _, _, _, [], _, [], hW', trodAll_mk1 (shut_bool Try.underlying4 _), (trodAll_cons_mk (Below.trod laidOut (by kernel_rfl) (of_decide_eq_true (by kernel_rfl)) k0 bel lt0) (trodAll_cons_mk (shut_string Try.underlying9 y1) trodAll_mk0)), rfl, bel.frame _, fun h => by cases h⟩
theorem over : Rows.rowsBytesRow.holds Try.pinned (OpenSpec.ofChange Rows.rowsBytesSpec) :=
  OpenClaim.holds_of_wide 12 Try.f12 rfl rfl rfl rfl rfl rfl rfl ⟨rfl, rfl, rfl, rfl, rfl⟩ rfl rfl rfl rfl rfl (by kernel_rfl) Try.func12 (by kernel_rfl)
    (of_decide_eq_true (by kernel_rfl)) (by unfold Func.isWrapper; first | (rw [if_pos (by decide +kernel)]; kernel_rfl) | (rw [if_neg (by decide +kernel)]; exact ⟨rfl, rfl⟩))
    (fun os started H enc _ => lifted os started H enc)
theorem proved : Rows.RowsBytesSaid := over
#print axioms proved
end Go.Proofs.Ythfkbfahpgdnfaa.rowsBytes
namespace Go.Proofs.Ythfkbfahpgdnfaa
/-- The row, under a short name, for the claim. -/
theorem rowsBytes_holds : Rows.RowsBytesSaid := rowsBytes.proved
end Go.Proofs.Ythfkbfahpgdnfaa
end
