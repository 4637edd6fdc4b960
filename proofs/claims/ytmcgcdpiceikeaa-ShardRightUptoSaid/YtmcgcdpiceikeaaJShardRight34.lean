/- Joined texts of the claim ShardRight (part 34): contracts of functions and plain laws. -/
import Derived.Test.YtmcgcdpiceikeaaJShardRight14
import Derived.Test.YtmcgcdpiceikeaaJShardRight25
import Derived.Test.YtmcgcdpiceikeaaJShardRight28
import Derived.Test.YtmcgcdpiceikeaaJShardRight31
section
/- Plain laws of rows: Do as the document tells it. -/
namespace Go.Proofs.Ytmcgcdpiceikeaa.PAll
open Go.RowKit Go.Proofs.YtmcgcdpiceikeaaW.PrintWords Go.Proofs.YtmcgcdpiceikeaaW.PrintMore Go.Proofs.Ytmcgcdpiceikeaa
set_option linter.unusedVariables false
def putRow (row : S50) : List S50 → List S50
  | [] => [row]
  | x :: r => if keyIs row.f0 x then row :: r else x :: putRow row r
def insRow (row : S50) : List S50 → List S50
  | [] => [row]
  | x :: r => if Op.bytesLess row.f0.toList x.f0.toList then row :: x :: r else x :: insRow row r
theorem putRow_set (row : S50) : ∀ l : List S50, l.findIdx (keyIs row.f0) < l.length → putRow row l = l.set (l.findIdx (keyIs row.f0)) row
  | [], h => by simp at h
  | x :: r, h => by
    rw [putRow, List.findIdx_cons]
    cases hk : keyIs row.f0 x with
    | true => simp
    | false =>
      rw [List.findIdx_cons, hk] at h
      simp only [cond_false, List.length_cons] at h ⊢
      rw [if_neg (by decide), List.set_cons_succ, putRow_set row r (by omega)]
theorem insRow_at (row : S50) : ∀ l : List S50, insRow row l = l.take (l.findIdx (fun x => Op.bytesLess row.f0.toList x.f0.toList)) ++ row :: l.drop (l.findIdx (fun x => Op.bytesLess row.f0.toList x.f0.toList))
  | [] => rfl
  | x :: r => by
    rw [insRow, List.findIdx_cons]
    cases hk : Op.bytesLess row.f0.toList x.f0.toList with
    | true => simp
    | false =>
      simp only [cond_false]
      rw [if_neg (by decide), insRow_at row r, List.take_succ_cons, List.drop_succ_cons, List.cons_append]
theorem keyOver_less (s : ByteArray) : keyOver s = fun x => Op.bytesLess s.toList x.f0.toList := by
  funext x
  unfold keyOver
  rw [less_flip s.toList x.f0.toList]
theorem findI_idx {α : Type} (p : α → Bool) (l : List α) : (if findI p l < 0 then l.length else (findI p l).toNat) = l.findIdx p := by
  unfold findI
  by_cases h : l.findIdx p < l.length
  · rw [if_pos h, if_neg (by omega)]; rfl
  · rw [if_neg h, if_pos (by decide)]
    have := List.findIdx_le_length (p := p) (xs := l)
    omega
section
variable (l : List S50) (k v : ByteArray) (ver : Int)
end
end Go.Proofs.Ytmcgcdpiceikeaa.PAll
end
