/- Joined texts of the claim ShardRight (part 21): contracts of functions and plain laws. -/
import Derived.Test.YtmcgcdpiceikeaaJShardRight18
import Derived.Test.YtmcgcdpiceikeaaJShardRight19
import Derived.Test.YtmcgcdpiceikeaaJShardRight20
section
/- lock.Ask, as it is computed: plain words; what it calls. -/
namespace Go.Proofs.Ytmcgcdpiceikeaa.PAll
open Go.RowKit Go.WideMaps Go.Maps Go.Proofs.YtmcgcdpiceikeaaW.PrintWords Go.Proofs.YtmcgcdpiceikeaaW.PrintMore Go.Proofs.Ytmcgcdpiceikeaa
set_option linter.unusedVariables false
def hasTx (l : List S30) (t : S30) : Bool := l.any (fun x => sameTx x t)
def inWayB (x : S75) (t : S30) (key : ByteArray) (wr : Bool) : Bool := (x.f0.toList == key.toList) && (!sameTx x.f1 t && (x.f2 || wr))
def elderB (a b : S30) : Bool := decide (a.f0 < b.f0) || (decide (a.f0 = b.f0) && decide (a.f1 < b.f1))
def goAsk (t : S30) (key : ByteArray) (wr : Bool) (firm : List S30) : List S75 → List S30 → Option (List S30)
  | [], out => some out
  | x :: r, out => if inWayB x t key wr then (if hasTx firm x.f1 || !elderB t x.f1 then none else goAsk t key wr firm r (if hasTx out x.f1 then out else out ++ [x.f1])) else goAsk t key wr firm r out
def restV (l : List S75) (out : List S30) : List S75 := l.filter (fun x => !hasTx out x.f1)
def atI (l : List S75) (i : Int) : S75 := l[i.toNat]!
/-- A list in which a transaction's first hold of a key is to write. -/
def askUp (m : List S75) (t : S30) (key : ByteArray) : List S75 := m.set (findI (isHK t key) m).toNat ⟨(atI m (findI (isHK t key) m)).f0, (atI m (findI (isHK t key) m)).f1, true⟩
def askFin (l : List S75) (t : S30) (key : ByteArray) (wr : Bool) : Option (List S30) → List S75 × List S30 × Int
  | none => (l, [], 11)
  | some out => if 0 ≤ findI (isHK t key) (restV l out) then (askUp (restV l out) t key, out, 0)
      else if 48 ≤ (restV l out).length then (l, [], 5) else (restV l out ++ [⟨key, t, wr⟩], out, 0)
def askV (l : List S75) (t : S30) (key : ByteArray) (wr : Bool) (firm : List S30) : List S75 × List S30 × Int :=
  if 0 ≤ findI (isHK t key) l ∧ ((atI l (findI (isHK t key) l)).f2 || !wr) = true then (l, [], 0) else askFin l t key wr (goAsk t key wr firm l [])
theorem inWay_val (x : S75) (t : S30) (key : ByteArray) (wr : Bool) : lock_inWay.f x.f0 x.f1.f0 x.f1.f1 x.f2 t.f0 t.f1 key wr = some (inWayB x t key wr) := by
  unfold lock_inWay.f inWayB sameTx
  by_cases h1 : x.f0.toList = key.toList
  · rw [if_pos h1, beq_iff_eq.2 h1, Bool.true_and]
    by_cases h2 : (!(x.f1.f0 == t.f0) || !(x.f1.f1 == t.f1)) = true
    · rw [if_pos h2]
      have h3 : (!(x.f1.f0 == t.f0 && x.f1.f1 == t.f1)) = true := by rw [Bool.not_and]; exact h2
      rw [h3, Bool.true_and]
      cases x.f2 <;> rfl
    · rw [if_neg h2]
      have h3 : (!(x.f1.f0 == t.f0 && x.f1.f1 == t.f1)) = false := by rw [Bool.not_and]; exact Bool.eq_false_iff.2 h2
      rw [h3]; rfl
  · rw [if_neg h1, beq_eq_false_iff_ne.2 h1]; rfl
theorem elder_val (a b : S30) : lock_Elder.f a.f0 a.f1 b.f0 b.f1 = some (elderB a b) := by
  unfold lock_Elder.f elderB
  by_cases h1 : a.f0 < b.f0
  · rw [if_pos h1, decide_eq_true h1]; rfl
  · rw [if_neg h1, decide_eq_false h1]
    by_cases h2 : a.f0 = b.f0
    · rw [if_pos h2, decide_eq_true h2]; rfl
    · rw [if_neg h2, decide_eq_false h2]; rfl
/-- What a row of the call's own becomes by one element more. -/
theorem own_push {P : Program} {k : Nat} {e t : TypeId} {z : Value} {bytes base : Nat} {W : World} {v : Value} {css : List (List Value)} {c : List Value} {ops : Array Oper} {rest : List Oper} {o : Oper} {a : Act} {Q : Exit → Act → World → Prop} (hgd : o.guard = none) (s x : Operand)
    (ho : o.op = .call { callee := .builtin .append, args := #[s, x], argTypes := #[t, t] }) (ht : P.underlying t = some (.slice e)) (hinfo : (P.info? e).map (fun i => (i.zero, i.size, i.bytes)) = some (some z, k, bytes)) (hz : z.cells.size = k) (hs0 : 0 < k) (hb0 : 0 < bytes)
    (hs : a.eval s = v) (hx : a.eval x = .slice (some ⟨W.heap.size, 0, none⟩) 1 1) (hc : c.length = k ∧ ∀ u ∈ c, u.oneCell' = true) (HO : Own k e W base v css) (hbase : base ≤ W.heap.size) (hl : (css.length + 1) * bytes ≤ 140737488355328)
    (h : ∀ v1 w1, Own k e w1 base v1 (css ++ [c]) → W.grownBy w1 v.ownBlock → wpList P ops Q rest (a.put o.dst v1) w1) :
    wpList P ops Q (o :: rest) a (W.alloc (.cells c.toArray e)) := by
  refine Kd.R_append (raw k) (w0 := W) base hgd s x t e z bytes ho ht hinfo hz hs0 hb0 v css c c (fun _ => True) (fun _ => False) hs hx ⟨rfl, hc⟩ (fun _ h => h.elim) (fun _ _ => trivial) HO.R (Below.refl base W) hbase hl ?_
  intro v1 w1 ho1 hb1 hg1 _
  exact h v1 w1 (Own.of_R ho1) hg1
theorem gob_below {B : Nat} {w W w1 : World} {r : Option Nat} (h : Below B w W) (hg : W.grownBy w1 r) (hB : B ≤ W.heap.size) (hr : ∀ k, r = some k → B ≤ k) : Below B w w1 := h.grown hg hB hr
theorem any_snoc {α : Type} (p : α → Bool) (l : List α) (x : α) : (l ++ [x]).any p = (l.any p || p x) := by simp
theorem holdCells {W : World} {l : List S75} {A : Option Addr} (h : Kd.C k75 W A l.length l) (j : Nat) (hj : j < l.length) : ∃ b o, A = some ⟨b, o, none⟩ ∧ W.cell? ⟨b, o + j * 4, none⟩ = some (.string (l[j]!).f0) ∧ W.cell? ⟨b, o + j * 4 + 1, none⟩ = some (.int .u64 (l[j]!).f1.f0) ∧ W.cell? ⟨b, o + j * 4 + 2, none⟩ = some (.int .u64 (l[j]!).f1.f1) ∧ W.cell? ⟨b, o + j * 4 + 3, none⟩ = some (.bool (l[j]!).f2) := by
  obtain ⟨b, o, rfl, hrow⟩ := C_row h (by decide) (by omega)
  obtain ⟨cs, hcs, hK, hrg⟩ := hrow j hj
  obtain rfl := flat75.openK _ _ _ hK
  exact ⟨b, o, rfl, hrg 0 _ rfl, hrg 1 _ rfl, hrg 2 _ rfl, hrg 3 _ rfl⟩
theorem findI_range {α : Type} (p : α → Bool) (l : List α) (h : 0 ≤ findI p l) : ∃ i : Nat, i < l.length ∧ findI p l = (i : Int) := by
  unfold findI at *
  by_cases c : l.findIdx p < l.length
  · rw [if_pos c]; exact ⟨_, c, rfl⟩
  · rw [if_neg c] at h; omega
theorem findI_neg {α : Type} (p : α → Bool) (l : List α) (h : ¬ 0 ≤ findI p l) : findI p l = -1 := by
  unfold findI at *
  by_cases c : l.findIdx p < l.length
  · rw [if_pos c] at h; omega
  · rw [if_neg c]
end Go.Proofs.Ytmcgcdpiceikeaa.PAll
end
