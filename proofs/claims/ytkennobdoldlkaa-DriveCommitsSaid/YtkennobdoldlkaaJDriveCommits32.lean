/- Joined texts of the claim DriveCommits (part 32): contracts of functions and plain laws. -/
import Derived.Test.YtkennobdoldlkaaJDriveCommits31
section
/- drive.may: may a step be? -/
namespace Go.Proofs.Ytkennobdoldlkaa.PAll
open Go.RowKit Go.Proofs.YtkennobdoldlkaaW.PrintWords Go.Proofs.Ytkennobdoldlkaa
set_option linter.unusedVariables false
set_option linter.unusedSimpArgs false
def mayB (s : S53) : Bool := decide ((1 : Int) ≤ s.f0) && decide (s.f0 ≤ 63) && decide ((1 : Int) ≤ (s.f1.size : Int)) && decide ((s.f1.size : Int) ≤ 16) && decide ((s.f2.size : Int) ≤ 32) && (s.f3 || (s.f2.toList == [] && !s.f4)) && !(s.f4 && s.f2.toList != [])
set_option maxHeartbeats 4000000 in
set_option maxRecDepth 100000 in
theorem may_step (x : S53) (W : World) :
    Calls Try.prog 41 #[.agg #[.int .u64 x.f0, .string x.f1, .string x.f2, .bool x.f3, .bool x.f4]] W fun e W' => e = .returned (.bool (mayB x)) ∧ Below W.heap.size W W' := by
  obtain ⟨a, k, v, wr, gone⟩ := x
  dsimp only
  by_cases h1 : (1 : Int) ≤ a
  · by_cases h2 : a ≤ 63
    · by_cases h3 : (1 : Int) ≤ (k.size : Int)
      · by_cases h4 : (k.size : Int) ≤ 16
        · by_cases h5 : (v.size : Int) ≤ 32
          · cases wr
            · by_cases h6 : v.toList = []
              · cases gone
                · have h7 : (v.toList == ([] : List UInt8)) = true := by rw [h6]; rfl
                  go_enter Try.func41, Try.ntmps41
                  go_wp2
                  go_ret
                  refine ⟨congrArg (fun b => Ending.returned (Value.bool b)) ?_, (Below.refl _ W).alloc (Nat.le_refl _) _⟩
                  first | (simp [mayB, *]; done) | (simp [mayB, *]; intros; omega)
                · have h7 : (v.toList == ([] : List UInt8)) = true := by rw [h6]; rfl
                  go_enter Try.func41, Try.ntmps41
                  go_wp2
                  go_ret
                  refine ⟨congrArg (fun b => Ending.returned (Value.bool b)) ?_, (Below.refl _ W).alloc (Nat.le_refl _) _⟩
                  first | (simp [mayB, *]; done) | (simp [mayB, *]; intros; omega)
              · cases gone
                · have h7 : (v.toList == ([] : List UInt8)) = false := beq_eq_false_iff_ne.2 h6
                  go_enter Try.func41, Try.ntmps41
                  go_wp2
                  go_ret
                  refine ⟨congrArg (fun b => Ending.returned (Value.bool b)) ?_, (Below.refl _ W).alloc (Nat.le_refl _) _⟩
                  first | (simp [mayB, *]; done) | (simp [mayB, *]; intros; omega)
                · have h7 : (v.toList == ([] : List UInt8)) = false := beq_eq_false_iff_ne.2 h6
                  go_enter Try.func41, Try.ntmps41
                  go_wp2
                  go_ret
                  refine ⟨congrArg (fun b => Ending.returned (Value.bool b)) ?_, (Below.refl _ W).alloc (Nat.le_refl _) _⟩
                  first | (simp [mayB, *]; done) | (simp [mayB, *]; intros; omega)
            · by_cases h6 : v.toList = []
              · cases gone
                · have h7 : (v.toList == ([] : List UInt8)) = true := by rw [h6]; rfl
                  go_enter Try.func41, Try.ntmps41
                  go_wp2
                  go_ret
                  refine ⟨congrArg (fun b => Ending.returned (Value.bool b)) ?_, (Below.refl _ W).alloc (Nat.le_refl _) _⟩
                  first | (simp [mayB, *]; done) | (simp [mayB, *]; intros; omega)
                · have h7 : (v.toList == ([] : List UInt8)) = true := by rw [h6]; rfl
                  go_enter Try.func41, Try.ntmps41
                  go_wp2
                  go_ret
                  refine ⟨congrArg (fun b => Ending.returned (Value.bool b)) ?_, (Below.refl _ W).alloc (Nat.le_refl _) _⟩
                  first | (simp [mayB, *]; done) | (simp [mayB, *]; intros; omega)
              · cases gone
                · have h7 : (v.toList == ([] : List UInt8)) = false := beq_eq_false_iff_ne.2 h6
                  go_enter Try.func41, Try.ntmps41
                  go_wp2
                  go_ret
                  refine ⟨congrArg (fun b => Ending.returned (Value.bool b)) ?_, (Below.refl _ W).alloc (Nat.le_refl _) _⟩
                  first | (simp [mayB, *]; done) | (simp [mayB, *]; intros; omega)
                · have h7 : (v.toList == ([] : List UInt8)) = false := beq_eq_false_iff_ne.2 h6
                  go_enter Try.func41, Try.ntmps41
                  go_wp2
                  go_ret
                  refine ⟨congrArg (fun b => Ending.returned (Value.bool b)) ?_, (Below.refl _ W).alloc (Nat.le_refl _) _⟩
                  first | (simp [mayB, *]; done) | (simp [mayB, *]; intros; omega)
          · go_enter Try.func41, Try.ntmps41
            go_wp2
            go_ret
            refine ⟨congrArg (fun b => Ending.returned (Value.bool b)) ?_, (Below.refl _ W).alloc (Nat.le_refl _) _⟩
            first | (simp [mayB, *]; done) | (simp [mayB, *]; intros; omega)
        · go_enter Try.func41, Try.ntmps41
          go_wp2
          go_ret
          refine ⟨congrArg (fun b => Ending.returned (Value.bool b)) ?_, (Below.refl _ W).alloc (Nat.le_refl _) _⟩
          first | (simp [mayB, *]; done) | (simp [mayB, *]; intros; omega)
      · go_enter Try.func41, Try.ntmps41
        go_wp2
        go_ret
        refine ⟨congrArg (fun b => Ending.returned (Value.bool b)) ?_, (Below.refl _ W).alloc (Nat.le_refl _) _⟩
        first | (simp [mayB, *]; done) | (simp [mayB, *]; intros; omega)
    · go_enter Try.func41, Try.ntmps41
      go_wp2
      go_ret
      refine ⟨congrArg (fun b => Ending.returned (Value.bool b)) ?_, (Below.refl _ W).alloc (Nat.le_refl _) _⟩
      first | (simp [mayB, *]; done) | (simp [mayB, *]; intros; omega)
  · go_enter Try.func41, Try.ntmps41
    go_wp2
    go_ret
    refine ⟨congrArg (fun b => Ending.returned (Value.bool b)) ?_, (Below.refl _ W).alloc (Nat.le_refl _) _⟩
    first | (simp [mayB, *]; done) | (simp [mayB, *]; intros; omega)
end Go.Proofs.Ytkennobdoldlkaa.PAll
end
