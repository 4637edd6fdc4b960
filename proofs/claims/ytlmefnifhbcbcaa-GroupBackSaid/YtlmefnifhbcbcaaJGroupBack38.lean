/- Joined texts of the claim GroupBack (part 38): contracts of functions and plain laws. -/
import Derived.Test.YtlmefnifhbcbcaaJGroupBack17
import Derived.Test.YtlmefnifhbcbcaaJGroupBack36
import Derived.Test.YtlmefnifhbcbcaaJGroupBack37
import Derived.Test.YtlmefnifhbcbcaaJGroupBack26
import Derived.Test.YtlmefnifhbcbcaaJGroupBack19
import Derived.Test.YtlmefnifhbcbcaaJGroupBack29
import Derived.Test.YtlmefnifhbcbcaaJGroupBack30
import Derived.Test.YtlmefnifhbcbcaaJGroupBack31
import Derived.Test.YtlmefnifhbcbcaaJGroupBack32
import Derived.Test.YtlmefnifhbcbcaaJGroupBack16
import Derived.Test.YtlmefnifhbcbcaaJGroupBack33
import Derived.Laws.Externs
import Derived.Laws.IdiomStrings
import Derived.Lib.ConvBytes
import Derived.Lib.FrozenHead
import Derived.Test.YtlmefnifhbcbcaaJGroupBack14
import Derived.Test.YtlmefnifhbcbcaaJGroupBack3
section
/- Plain laws of groups: a configuration is the same as itself. -/
namespace Go.Proofs.Ytlmefnifhbcbcaa.PAll
open Go.RowKit Go.Proofs.YtlmefnifhbcbcaaW.PrintWords Go.Proofs.YtlmefnifhbcbcaaW.PrintMore Go.Proofs.Ytlmefnifhbcbcaa
set_option linter.unusedVariables false
theorem rSame1_l0 (l : List Int) (hl : l.length ≤ 9223372036854775806) : ∀ (d j : Nat), d = l.length - j → j ≤ l.length → Ev (fun q => ferruleref01_Same.l0 q l l (j : Int)) true := by
  intro d
  induction d with
  | zero =>
    intro j hd hj
    exact Ev.step (f := fun _ => some true) (fun q => by simp only [ferruleref01_Same.l0]; rw [if_neg (show ¬ (j : Int) < l.length by omega)]) (Ev.now true)
  | succ d ih =>
    intro j hd hj
    exact Ev.step (f := fun q => ferruleref01_Same.l0 q l l ((j + 1 : Nat) : Int)) (fun q => by simp only [ferruleref01_Same.l0]; rw [if_pos (show (j : Int) < l.length by omega), if_pos (show (0 : Int) ≤ j by omega), if_pos (show (j : Int) < l.length by omega), if_pos trivial, wrapUp j (by omega)]) (ih (j + 1) (by omega) (by omega))
theorem rSame1_ev (l : List Int) (hl : l.length ≤ 9223372036854775806) : Ev (fun q => ferruleref01_Same.f q l l) true := by
  unfold ferruleref01_Same.f
  exact Ev.congr (fun _ => if_pos rfl) (rSame1_l0 l hl l.length 0 (by omega) (by omega))
theorem rSame_ev (v l : List Int) (hv : v.length ≤ 9223372036854775806) (hl : l.length ≤ 9223372036854775806) : Ev (fun q => ferruleref06_Same.f q v l v l) true := by
  unfold ferruleref06_Same.f
  refine Ev.bind (rSame1_ev v hv) ?_
  refine Ev.congr (fun _ => if_pos rfl) ?_
  exact Ev.bind (rSame1_ev l hl) (Ev.now true)
end Go.Proofs.Ytlmefnifhbcbcaa.PAll
end
section
/- Plain laws of groups: May, as the code tells it. -/
namespace Go.Proofs.Ytlmefnifhbcbcaa.PAll
open Go.RowKit Go.Proofs.YtlmefnifhbcbcaaW.PrintWords Go.Proofs.YtlmefnifhbcbcaaW.PrintMore Go.Proofs.Ytlmefnifhbcbcaa
set_option linter.unusedVariables false
theorem gMay_eq (v l : List Int) (hv : v.length ≤ 9223372036854775806) (hl : l.length ≤ 9223372036854775806) : group_May.f v l = some (mayV v l) := by unfold group_May.f; rw [if_pos ⟨hv, hl⟩]
end Go.Proofs.Ytlmefnifhbcbcaa.PAll
end
section
/- Plain laws of groups: lists that rise; a node put into one, or taken out of it. -/
namespace Go.Proofs.Ytlmefnifhbcbcaa.PAll
open Go.RowKit Go.Proofs.YtlmefnifhbcbcaaW.PrintWords Go.Proofs.YtlmefnifhbcbcaaW.PrintMore Go.Proofs.Ytlmefnifhbcbcaa
set_option linter.unusedVariables false
/-! lists that rise -/
theorem rises_val {l : List Int} (h : risesB l = true) : ∀ x ∈ l, 1 ≤ x ∧ x ≤ 63 := by
  intro x hx
  obtain ⟨j, hj, rfl⟩ := List.getElem_of_mem hx
  have := (allN_iff l l.length 0).1 h j (Nat.zero_le _) (by omega)
  unfold okN at this
  simp only [Bool.and_eq_true, Bool.or_eq_true, decide_eq_true_eq] at this
  rw [getElem!_pos l j hj] at this
  omega
/-! the code's put: sorted -/
end Go.Proofs.Ytlmefnifhbcbcaa.PAll
end
section
/- Plain laws of groups: a configuration behind a change, as the code tells it. -/
namespace Go.Proofs.Ytlmefnifhbcbcaa.PAll
open Go.RowKit Go.Proofs.YtlmefnifhbcbcaaW.PrintWords Go.Proofs.YtlmefnifhbcbcaaW.PrintMore Go.Proofs.Ytlmefnifhbcbcaa
set_option linter.unusedVariables false
theorem mayV_ok {v l : List Int} (h : mayV v l = true) : 1 ≤ v.length ∧ v.length ≤ 7 ∧ l.length ≤ 3 ∧ risesB v = true ∧ risesB l = true ∧ ∀ x ∈ l, hasI v x = false := by
  unfold mayV at h
  simp only [Bool.and_eq_true, decide_eq_true_eq, List.all_eq_true, Bool.not_eq_true'] at h
  obtain ⟨⟨⟨⟨⟨h1, h2⟩, h3⟩, h4⟩, h5⟩, h6⟩ := h
  exact ⟨h1, h2, h3, h4, h5, h6⟩
end Go.Proofs.Ytlmefnifhbcbcaa.PAll
end
section
/- A row of bytes that '[]byte(s)' made (it bears a mark behind its cells), appended to. -/
namespace Go.Proofs.Ytlmefnifhbcbcaa
open Go.RowKit Go.Proofs.YtlmefnifhbcbcaaW.PrintWords
set_option linter.unusedVariables false
/-- 'v' owns the bytes 'xs'; what its row has frozen lies within them or behind all cells. -/
def OwnM (w : World) (base : Nat) (v : Value) (n : Nat) (xs : List Value) : Prop :=
  xs.length = n ∧ ∃ g cap cur fz, v = .slice (some ⟨g, 0, none⟩) n cap ∧ base ≤ g ∧ w.heap[g]? = some (.cells cur 5 fz) ∧ (fz.2 ≤ n ∨ cap ≤ fz.1) ∧ n ≤ cap ∧ cap ≤ maxLen ∧ cur.size = cap ∧ cur.toList.take n = xs
theorem OwnM.kept {w w' : World} {base n : Nat} {v : Value} {xs : List Value} (h : OwnM w base v n xs) (hb : Below w.heap.size w w') : OwnM w' base v n xs := by
  obtain ⟨h1, g, cap, cur, fz, hv, hbg, hg, r⟩ := h
  exact ⟨h1, g, cap, cur, fz, hv, hbg, (hb.block g (Array.getElem?_eq_some_iff.1 hg).1).trans hg, r⟩
theorem OwnM.cells {w : World} {base n : Nat} {v : Value} {xs : List Value} (h : OwnM w base v n xs) : ∃ g cap, v = .slice (some ⟨g, 0, none⟩) n cap ∧ ∀ j u, xs[j]? = some u → w.cell? ((⟨g, 0, none⟩ : Addr).add j) = some u := by
  obtain ⟨h1, g, cap, cur, fz, hv, hbg, hg, hfz, hnc, hcm, hcs, ht⟩ := h
  refine ⟨g, cap, hv, fun j u hu => ?_⟩
  rw [Addr.add_lit, Nat.zero_add, cell_of_row w g j cur 5 fz hg]
  rw [← ht, List.getElem?_take] at hu
  split at hu
  · simpa using hu
  · cases hu
end Go.Proofs.Ytlmefnifhbcbcaa
end
