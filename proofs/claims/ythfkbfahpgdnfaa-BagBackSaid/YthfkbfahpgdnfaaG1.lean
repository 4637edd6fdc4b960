/- Contracts of slices.Clone, slices.Delete at a bag's letters, as the printed texts call them. -/
import Derived.Test.YthfkbfahpgdnfaaG0
import Derived.Test.YthfkbfahpgdnfaaA2
import Derived.Test.YthfkbfahpgdnfaaA5
import Derived.Test.YthfkbfahpgdnfaaWKept
namespace Go.Proofs.Ythfkbfahpgdnfaa.PAll
open Go.RowKit Go.Proofs.YthfkbfahpgdnfaaW.PrintWords Go.Proofs.Ythfkbfahpgdnfaa
set_option linter.unusedVariables false
def api_Letter_50.f (l0 : List S79) : Option (List S79) := if l0.length < 5864062014805 then some l0 else none
theorem api_Letter_50.calls (A0 : Option Addr) (c0 : Nat) (l0 : List S79) (r : List S79) (w : World) (hr0 : Kd.C k79 w A0 l0.length l0) (hc0 : l0.length ≤ c0) (h : api_Letter_50.f l0 = some r) :
    Calls Try.prog 50 #[.slice A0 l0.length c0] w fun e w' => ∃ v0_ : Value, e = .returned (v0_) ∧ Kd.R k79 79 w' w.heap.size (fun _ => True) v0_ r ∧ Below w.heap.size w w' := by
  unfold api_Letter_50.f at h
  split at h
  · obtain rfl := Option.some.inj h
    refine (CloneLetter _ (l0.map enc79) w (flat79.sl ⟨A0, c0, rfl, hc0, hr0⟩) (by rw [List.length_map]; omega)).mono ?_
    rintro e w' ⟨v, he, ho, hb⟩
    exact ⟨v, he, flat79.R ho (fun _ _ => trivial), hb⟩
  · cases h
def api_Letter_51.f (l0 : List S79) (a1 a2 : Int) : Option (List S79) := if 0 ≤ a1 ∧ a1 < a2 ∧ a2 ≤ l0.length then some (l0.take a1.toNat ++ l0.drop a2.toNat) else none
theorem api_Letter_51.calls (P0_ : Nat → Prop) (u9000_ : Value) (l0 : List S79) (a1 a2 : Int) (r : List S79) (w0 w : World) (hB : Below w0.heap.size w0 w) (ho0 : Kd.R k79 79 w w0.heap.size P0_ u9000_ l0) (h : api_Letter_51.f l0 a1 a2 = some r) :
    Calls Try.prog 51 #[u9000_, .int .i64 a1, .int .i64 a2] w fun e w' => ∃ v0_ : Value, e = .returned (v0_) ∧ Kd.R k79 79 w' w0.heap.size (fun k_ => (P0_ k_ ∨ w.heap.size ≤ k_)) v0_ r ∧ Below w0.heap.size w0 w' ∧ Kept w w' (fun k_ => P0_ k_) := by
  unfold api_Letter_51.f at h
  split at h
  · rename_i hc
    obtain rfl := Option.some.inj h
    obtain ⟨i, rfl⟩ := Int.eq_ofNat_of_zero_le hc.1
    obtain ⟨j, rfl⟩ := Int.eq_ofNat_of_zero_le (show 0 ≤ a2 by omega)
    have hO := flat79.own ho0
    have hok := ho0.1
    have hbs := hO.base
    refine (DeleteLetter u9000_ (l0.map enc79) i j w0.heap.size w hO (by omega) (by rw [List.length_map]; omega)).mono ?_
    rintro e w' ⟨v', rfl, ho, hg, hob⟩
    refine ⟨v', rfl, ?_, hB.grown hg hB.size hbs, ⟨hg.size, fun q hq hS => hg.block q hq (fun e => hS (hok q e.symm))⟩⟩
    rw [← List.map_take, ← List.map_drop, ← List.map_append] at ho
    exact flat79.R ho (fun b hb => .inl (hok b (by rw [← hob]; exact hb)))
  · cases h
end Go.Proofs.Ythfkbfahpgdnfaa.PAll
