/- Joined texts of the claim ShardOnce (part 35): contracts of functions and plain laws. -/
import Derived.Test.YtmcgcdpiceikeaaJShardOnce24
section
/- Rows of opens: what is left when a transaction's are struck. -/
namespace Go.Proofs.Ytmcgcdpiceikeaa.PAll
open Go.RowKit Go.Proofs.YtmcgcdpiceikeaaW.PrintWords Go.Proofs.YtmcgcdpiceikeaaW.PrintMore Go.Proofs.Ytmcgcdpiceikeaa
set_option linter.unusedVariables false
theorem OpenRow.uncons {w : World} {x : S48} {l : List S48} {c : List Value} {cs : List (List Value)} (h : OpenRow w (x :: l) (c :: cs)) : k48.K w x c ∧ OpenRow w l cs := by
  refine ⟨by have := h.2 0 (by simp); simpa using this, by have := h.1; simpa using this, fun j hj => ?_⟩
  have := h.2 (j + 1) (by simp; omega)
  simpa using this
theorem OpenRow.cons {w : World} {x : S48} {l : List S48} {c : List Value} {cs : List (List Value)} (hx : k48.K w x c) (h : OpenRow w l cs) : OpenRow w (x :: l) (c :: cs) := by
  refine ⟨by simp [h.1], fun j hj => ?_⟩
  cases j with
  | zero => simpa using hx
  | succ j =>
    have := h.2 j (by simp at hj; omega)
    simpa using this
def isTxC (t : S30) (c : List Value) : Bool := match c with
  | .int .u64 a :: .int .u64 b :: _ => a == t.f0 && b == t.f1
  | _ => false
theorem OpenRow.struck {w : World} (t : S30) : ∀ {l : List S48} {css : List (List Value)}, OpenRow w l css → OpenRow w (l.filter (fun x => !sameTx x.f0 t)) (css.filter (fun c => !isTxC t c))
  | [], [], h => h
  | [], _ :: _, h => by have := h.1; simp at this
  | _ :: _, [], h => by have := h.1; simp at this
  | x :: l, c :: cs, h => by
    obtain ⟨h1, h2⟩ := h.uncons
    have ih := OpenRow.struck t h2
    obtain ⟨B, n, rfl, _, _⟩ := openCells h1
    have e : isTxC t (openC x B n) = sameTx x.f0 t := rfl
    unfold openC at e
    rw [List.filter_cons, List.filter_cons, e]
    cases sameTx x.f0 t with
    | true => exact ih
    | false => exact OpenRow.cons h1 ih
end Go.Proofs.Ytmcgcdpiceikeaa.PAll
end
