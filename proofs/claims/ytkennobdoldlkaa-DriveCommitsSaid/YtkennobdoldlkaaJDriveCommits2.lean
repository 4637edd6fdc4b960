/- Joined texts of the claim DriveCommits (part 2): contracts of functions and plain laws. -/
import Derived.Deep.MidRow
import Derived.KernelRfl
import Derived.Test.YtkennobdoldlkaaJDriveCommits0
import Derived.Test.YtkennobdoldlkaaProg
import Derived.WalkKit
section
/- How these data stand in memory: the kinds. -/
namespace Go.Proofs.Ytkennobdoldlkaa
open Go.RowKit Go.Proofs.YtkennobdoldlkaaW.PrintWords
set_option linter.unusedVariables false
set_option linter.unusedSimpArgs false
-- not of this seat: kind Letter api.Letter Text:str N:i64
-- not of this seat: kind Row api.Row Key:str Val:str Ver:u64
theorem infoPut : (Try.prog.info? 74).map (fun i => (i.zero, i.size, i.bytes)) = some (some (.agg #[(.string ⟨#[]⟩), (.string ⟨#[]⟩), (.bool false)]), 3, 40) := by kernel_rfl
-- not of this seat: kind u64 uint64
-- not of this seat: kind Mark api.Mark Id:u64 N:u64
-- not of this seat: kind Hold api.Hold Key:str T:Tx Write:bool
-- not of this seat: kind Done api.Done T:Tx Commit:bool
-- not of this seat: kind Open api.Open T:Tx Firm:bool Wounded:bool Puts:[]Put
theorem infoStep : (Try.prog.info? 53).map (fun i => (i.zero, i.size, i.bytes)) = some (some (.agg #[(.int .u64 0), (.string ⟨#[]⟩), (.string ⟨#[]⟩), (.bool false), (.bool false)]), 5, 48) := by kernel_rfl
theorem infoSaw : (Try.prog.info? 51).map (fun i => (i.zero, i.size, i.bytes)) = some (some (.agg #[(.int .u64 0), (.string ⟨#[]⟩), (.string ⟨#[]⟩), (.int .u64 0), (.bool false)]), 5, 56) := by kernel_rfl
/-- v is a slice that reads as l in w. -/
def Sl {α : Type} (k : Kd α) (w : World) (v : Value) (l : List α) : Prop := ∃ A c, v = .slice A l.length c ∧ l.length ≤ c ∧ Kd.C k w A l.length l
theorem Sl.below {α : Type} {k : Kd α} {w w' : World} {v : Value} {l : List α} (h : Sl k w v l) (hb : Below w.heap.size w w') : Sl k w' v l := by
  obtain ⟨A, c, rfl, hc, h⟩ := h
  exact ⟨A, c, rfl, hc, Kd.C_below h hb⟩
theorem Sl.of_R {α : Type} {k : Kd α} {w : World} {v : Value} {l : List α} {e base : Nat} {ok : Nat → Prop} (h : Kd.R k e w base ok v l) : Sl k w v l := by
  obtain ⟨A, c, he, hc, hr⟩ := Kd.R_reads h
  exact ⟨A, c, he, hc, hr⟩
theorem Sl.nil {α : Type} (k : Kd α) (w : World) : Sl k w (.slice none 0 0) [] := ⟨none, 0, rfl, Nat.le_refl _, Kd.C_nil k w⟩
theorem C_none {α : Type} {k : Kd α} {w : World} {l : List α} (h : Kd.C k w none l.length l) : l = [] := by
  rcases Nat.eq_zero_or_pos l.length with h0 | h0
  · exact List.eq_nil_of_length_eq_zero h0
  · obtain ⟨ad, e, _⟩ := h.2.2 h0
    cases e
/-- A function value g (captured: lb) that tells p of each x of l, in every world that has what w had. -/
def Pred {α : Type} (P : Program) (g : Nat) (lb : Array Value) (arg : List Value → Value) (k : Kd α) (w : World) (l : List α) (p : α → Bool) : Prop :=
  ∀ (W : World) (x : α) (cs : List Value), Below w.heap.size w W → x ∈ l → k.K W x cs → Calls P g (#[arg cs] ++ lb) W fun e W' => e = .returned (.bool (p x)) ∧ Below W.heap.size W W'
/-- The place of the first x of which p holds; -1: there is none. -/
def findI {α : Type} (p : α → Bool) (l : List α) : Int := if l.findIdx p < l.length then (l.findIdx p : Int) else -1
theorem findI_hit {α : Type} [Inhabited α] (p : α → Bool) (l : List α) (k : Nat) (hk : k < l.length) (hp : p l[k]! = true) (hno : ∀ j, j < k → p l[j]! = false) : findI p l = (k : Int) := by
  have e : l.findIdx p = k := by
    rw [List.findIdx_eq hk]
    refine ⟨by simpa [getElem!_pos l k hk] using hp, fun j hj => ?_⟩
    have h := hno j hj
    rwa [getElem!_pos l j (by omega)] at h
  unfold findI
  rw [e, if_pos hk]
theorem findI_miss {α : Type} [Inhabited α] (p : α → Bool) (l : List α) (hno : ∀ j, j < l.length → p l[j]! = false) : findI p l = -1 := by
  unfold findI
  rw [if_neg]
  intro h
  have h1 := List.findIdx_getElem (w := h)
  have h2 := hno _ h
  rw [getElem!_pos l _ h] at h2
  rw [h1] at h2
  cases h2
theorem below_then {B : Nat} {w w1 w2 : World} (h : Below B w w1) (h2 : Below w1.heap.size w1 w2) (hB : B ≤ w1.heap.size) : Below B w w2 := h.trans (h2.mono hB)
/-- A slice that reads, of at least one element: where it lies; each element's cells. -/
theorem C_row {α : Type} [Inhabited α] {d : Kd α} {w : World} {A : Option Addr} {l : List α} (h : Kd.C d w A l.length l) (hs : 0 < d.sz) (hp : 0 < l.length) :
    ∃ b o, A = some ⟨b, o, none⟩ ∧ ∀ j, j < l.length → ∃ cs, cs.length = d.sz ∧ d.K w l[j]! cs ∧ w.rangeAt b (o + j * d.sz) cs := by
  obtain ⟨⟨b, o, m⟩, e, hc⟩ := h.2.2 (by omega)
  have hm : m = none := by
    obtain ⟨cs, hl, _, hcell⟩ := hc 0 _ (List.getElem?_eq_getElem hp)
    have := hcell 0 _ (List.getElem?_eq_getElem (show 0 < cs.length by omega))
    cases m with
    | none => rfl
    | some q =>
      simp only [Nat.zero_mul, Nat.zero_add, Addr.add, if_pos, World.cell?] at this
      split at this <;> simp at this
  subst hm
  refine ⟨b, o, e, fun j hj => ?_⟩
  obtain ⟨cs, hl, hK, hcell⟩ := hc j _ (List.getElem?_eq_getElem hj)
  refine ⟨cs, hl, by rw [getElem!_pos l j hj]; exact hK, fun i u hu => ?_⟩
  have := hcell i u hu
  rwa [Addr.add_lit, ← Nat.add_assoc] at this
theorem grown_of_below {w w' : World} {row : Option Nat} (h : Below w.heap.size w w') : w.grownBy w' row := ⟨h.os, h.tape, h.output, h.size, fun k hk _ => h.block k hk⟩
theorem len1 {cs : List Value} (h : cs.length = 1) : ∃ c0, cs = [c0] := by
  match cs, h with
  | [c0], _ => exact ⟨_, rfl⟩
end Go.Proofs.Ytkennobdoldlkaa
end
