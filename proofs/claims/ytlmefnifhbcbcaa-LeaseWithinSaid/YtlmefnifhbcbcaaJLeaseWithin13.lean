/- Joined texts of the claim LeaseWithin (part 13): contracts of functions and plain laws. -/
import Derived.Laws.Externs
import Derived.Test.YtlmefnifhbcbcaaJLeaseWithin12
section
/- Leases: products compared, and a number more. -/
namespace Go.Proofs.Ytlmefnifhbcbcaa.PAll
open Go.RowKit Go.Proofs.YtlmefnifhbcbcaaW.PrintWords Go.Proofs.YtlmefnifhbcbcaaW.PrintMore Go.Proofs.Ytlmefnifhbcbcaa
set_option linter.unusedVariables false
theorem add64 (x y : Int) (hx : 0 ≤ x) (hy : 0 ≤ y) (w : World) : (callFunc 53 #[.int .u64 x, .int .u64 y, .int .u64 0]).run Try.prog w = .ok (.value (.tuple #[.int .u64 ((x + y) % 18446744073709551616), .int .u64 ((x + y) / 18446744073709551616)])) w := by
  rw [run_callFunc_extern Try.func53 (by kernel_rfl) (by kernel_rfl) (by kernel_rfl) (e := add64Entry) (by kernel_rfl), run_add64 x y 0 hx hy (by omega) (by omega), Int.add_zero]
  simp only [Result.andThen]
theorem ret_b3 {a b : Bool} (h : a = b) : Ending.returned (.bool a) = .returned (.bool b) := by rw [h]
def mostW (h1 l1 h2 l2 : Int) : Bool := decide (h1 < h2) || (decide (h1 = h2) && decide (l1 ≤ l2))
set_option maxHeartbeats 2000000 in
set_option maxRecDepth 100000 in
theorem most_calls (h1 l1 h2 l2 : Int) (w : World) : Calls Try.prog 57 #[.agg #[.int .u64 h1, .int .u64 l1], .agg #[.int .u64 h2, .int .u64 l2]] w fun e w' => e = .returned (.bool (mostW h1 l1 h2 l2)) ∧ Below w.heap.size w w' := by
  have HB := Aside0.mk (((Below.refl w.heap.size w).alloc (Nat.le_refl _) (.cells #[.int .u64 h1, .int .u64 l1] 79)).alloc (by simp) (.cells #[.int .u64 h2, .int .u64 l2] 79))
  by_cases c1 : h1 < h2
  · go_enter Try.func57, Try.ntmps57
    go_wp2
    go_ret
    exact ⟨ret_b3 (by unfold mostW; rw [decide_eq_true c1]; rfl), HB.out⟩
  · by_cases c2 : h1 = h2
    · subst c2
      go_enter Try.func57, Try.ntmps57
      go_wp2
      go_ret
      exact ⟨ret_b3 (by unfold mostW; rw [decide_eq_false (Int.lt_irrefl h1)]; simp), HB.out⟩
    · have C1 := Aside0.mk c1
      have C2 := Aside0.mk c2
      go_enter Try.func57, Try.ntmps57
      go_wp2
      go_ret
      exact ⟨ret_b3 (by unfold mostW; rw [decide_eq_false (Int.not_lt.2 C1.out), decide_eq_false C2.out]; rfl), HB.out⟩
set_option maxHeartbeats 2000000 in
set_option maxRecDepth 100000 in
theorem more_calls (hi lo a : Int) (hlo : 0 ≤ lo) (ha : 0 ≤ a) (w : World) : Calls Try.prog 58 #[.agg #[.int .u64 hi, .int .u64 lo], .int .u64 a] w fun e w' => e = .returned (.agg #[.int .u64 (IntKind.u64.wrap (hi + (lo + a) / 18446744073709551616)), .int .u64 ((lo + a) % 18446744073709551616)]) ∧ Below w.heap.size w w' := by
  go_enter Try.func58, Try.ntmps58
  go_wp2_with (simp only [add64 lo a hlo ha])
  have HX := heap_alloc_new (w.alloc (.cells #[.int .u64 hi, .int .u64 lo] 79)) (.cells #[.int .u64 (IntKind.u64.wrap (hi + (lo + a) / 18446744073709551616)), .int .u64 ((lo + a) % 18446744073709551616)] 79)
  rw [World.size_alloc] at HX
  refine bodyPost_ret (results_c1 rfl _ _ (w.heap.size + 1) 79 #[.int .u64 (IntKind.u64.wrap (hi + (lo + a) / 18446744073709551616)), .int .u64 ((lo + a) % 18446744073709551616)] (0, 0) _ rfl HX Try.underlying79 rfl (by kernel_rfl)) rfl ?_
  exact ⟨rfl, ((Below.refl w.heap.size w).alloc (Nat.le_refl _) _).alloc (by simp) _⟩
end Go.Proofs.Ytlmefnifhbcbcaa.PAll
end
