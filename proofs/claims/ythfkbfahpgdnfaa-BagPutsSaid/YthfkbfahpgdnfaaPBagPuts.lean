/- Whatever bag there is, a text more, one less, one doubled, one looked at, are told by the code as the document defines them. No condition beside the form's own. -/
import Derived.Test.YthfkbfahpgdnfaaPB3
import Derived.Test.YthfkbfahpgdnfaaO1
import Derived.Test.YthfkbfahpgdnfaaPAllx27
namespace Go.Proofs.Ythfkbfahpgdnfaa.PAll
open Go.RowKit Go.Proofs.YthfkbfahpgdnfaaW.PrintWords Go.Proofs.YthfkbfahpgdnfaaW.PrintMore Go.Proofs.Ythfkbfahpgdnfaa
set_option linter.unusedVariables false
theorem of_wf64 {n : Int} (h : (Lit.int .i64 n).wf = true) : -9223372036854775808 ≤ n ∧ n ≤ 9223372036854775807 := by
  simp [Lit.wf, IntKind.min, IntKind.max, IntKind.signed, IntKind.bits] at h
  omega
theorem BagPuts_pure (l : List S79) (text : ByteArray) (k : Int) (hl : l.length < 5864062014635) (ht : text.size ≤ 140737488351232) (hk : k ≤ 9223372036854775807) (hx : ∀ x ∈ l, x.f1 ≤ 9223372036854775807) : Ev (fun q => ferrulelaw18_BagPuts.f q l text k) true := by
  obtain ⟨k0, h0⟩ := shown_ok
  refine Ev.bind (Ev.of (ferrulelaw18_shown.mono) h0) ?_
  refine Ev.bind (Pick_ev l (by omega) k hk) ?_
  refine Ev.bind (rPick_ev l (by omega) k hk) ?_
  refine Ev.bind (Take_ev l (by omega) k hk hx) ?_
  refine Ev.bind (show Ev (fun _ => ferruleref18_Take.f l k) (takeB l k) from ⟨0, fun _ _ => rTake_eq l (by omega) k hk hx⟩) ?_
  refine Ev.bind (Copy_ev l (by omega) k hk) ?_
  refine Ev.bind (rCopy_ev l (by omega) k hk) ?_
  refine Ev.bind (show Ev (fun _ => bag_Put.f l text) (putB l text) from ⟨0, fun _ _ => by unfold bag_Put.f; rw [if_pos (by omega)]⟩) ?_
  refine Ev.bind (rPut_ev l text (by omega) (by omega)) ?_
  refine Ev.bind (Same_ev (putB l text) (by have := putB_len l text; omega)) ?_
  refine Ev.bind (Same_ev (takeB l k).1 (by
    unfold takeB
    rcases plI_bound l k with h | ⟨i, hi, h⟩
    · rw [h]; simp; omega
    · rw [h, if_neg (by omega)]; have := takeR_len l i hi; simpa using (by omega))) ?_
  refine Ev.bind (Same_ev (copyR l k).1 (by unfold copyR; split <;> simp <;> omega)) ?_
  simp only [if_true, beq_self_eq_true]
  exact Ev.now _
theorem BagPuts_walk {w : World} (A : Option Addr) (c : Nat) (l : List S79) (hr : Kd.C k79 w A l.length l) (hc : l.length ≤ c) (hs : l.length * Try.prog.bytesOf 79 ≤ 140737488351232 ∧ ∀ x ∈ l, ok79 x) (text : ByteArray) (ht : text.size ≤ 140737488351232) (k : Int) (hk : (Lit.int .i64 k).wf = true) :
    Calls Try.prog 5 #[.slice A l.length c, .string text, .int .i64 k] w fun e w' => e = .returned (.bool true) ∧ Below w.heap.size w w' := by
  have hb : Try.prog.bytesOf 79 = 24 := by kernel_rfl
  rw [hb] at hs
  have hk' := (of_wf64 hk).2
  obtain ⟨n, hn⟩ := (BagPuts_pure l text k (by omega) ht hk' (fun x hx => (of_wf64 (hs.2 x hx).2).2)).rounds
  exact ferrulelaw18_BagPuts.calls n A c l text k true w hr hc hn
end Go.Proofs.Ythfkbfahpgdnfaa.PAll
