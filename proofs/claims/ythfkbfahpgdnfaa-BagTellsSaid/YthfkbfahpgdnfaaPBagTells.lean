/- Every bag: which bags are right, and how many texts there are, is told by the code as the document defines it. No condition beside the form's own. -/
import Derived.Test.YthfkbfahpgdnfaaPB1
import Derived.Test.YthfkbfahpgdnfaaO1
import Derived.Test.YthfkbfahpgdnfaaPAllx16
namespace Go.Proofs.Ythfkbfahpgdnfaa.PAll
open Go.RowKit Go.Proofs.YthfkbfahpgdnfaaW.PrintWords Go.Proofs.YthfkbfahpgdnfaaW.PrintMore Go.Proofs.Ythfkbfahpgdnfaa
set_option linter.unusedVariables false
theorem BagTells_pure (l : List S79) (hl : l.length < 5864062014806) (hs : ∀ x ∈ l, x.f0.size ≤ 140737488351232) : Ev (fun k => ferrulelaw18_BagTells.f k l) true := by
  obtain ⟨k0, h0⟩ := shown_ok
  refine Ev.bind (Ev.of (ferrulelaw18_shown.mono) h0) ?_
  refine Ev.congr (fun _ => if_pos rfl) ?_
  refine Ev.bind (Ev.now (rightB l)) ?_
  refine Ev.bind (rRight_ev l 140737488351232 (by omega) hl hs) ?_
  refine Ev.congr (fun _ => if_pos (beq_self_eq_true _)) ?_
  refine Ev.bind (Len_ev l hl) ?_
  refine Ev.bind (rLen_ev l hl) ?_
  exact Ev.congr (fun _ => congrArg some (beq_self_eq_true _)) (Ev.now true)
theorem BagTells_walk {w : World} (A : Option Addr) (c : Nat) (l : List S79) (hr : Kd.C k79 w A l.length l) (hc : l.length ≤ c) (hs : l.length * Try.prog.bytesOf 79 ≤ 140737488351232 ∧ ∀ x ∈ l, ok79 x) :
    Calls Try.prog 3 #[.slice A l.length c] w fun e w' => e = .returned (.bool true) ∧ Below w.heap.size w w' := by
  have hb : Try.prog.bytesOf 79 = 24 := by kernel_rfl
  rw [hb] at hs
  obtain ⟨k, hk⟩ := (BagTells_pure l (by omega) (fun x hx => (hs.2 x hx).1)).rounds
  exact ferrulelaw18_BagTells.calls k A c l true w hr hc hk
end Go.Proofs.Ythfkbfahpgdnfaa.PAll
