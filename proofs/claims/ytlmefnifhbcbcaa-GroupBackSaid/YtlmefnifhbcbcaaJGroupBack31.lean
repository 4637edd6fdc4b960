/- Joined texts of the claim GroupBack (part 31): contracts of functions and plain laws. -/
import Derived.LoopTactic
import Derived.Outline
import Derived.Test.YtlmefnifhbcbcaaJGroupBack19
import Derived.Test.YtlmefnifhbcbcaaJGroupBack28
import Derived.Test.YtlmefnifhbcbcaaJGroupBack30
section
/- slices.Sort of at most twelve numbers, as the printed texts call it. -/
namespace Go.Proofs.Ytlmefnifhbcbcaa.PAll
open Go.RowKit Go.Proofs.YtlmefnifhbcbcaaW.PrintWords Go.Proofs.YtlmefnifhbcbcaaW.PrintMore Go.Proofs.Ytlmefnifhbcbcaa
set_option linter.unusedVariables false
def slices_Sort_uint64_uint64.f (k : Nat) (l0 : List Int) : Option (List Int) := if l0.length ≤ 12 then slices_insertionSortOrdered_uint64.f k l0 0 l0.length else none
set_option maxHeartbeats 2000000 in
set_option maxRecDepth 100000 in
theorem pdq_small (k : Nat) (P0_ : Nat → Prop) (u9000_ : Value) (l0 : List Int) (lim : Int) (r : List Int) (w0 w : World) (hB : Below w0.heap.size w0 w) (ho0 : Kd.R (Kd.int .u64) 22 w w0.heap.size P0_ u9000_ l0) (hl : l0.length ≤ 12) (h : slices_insertionSortOrdered_uint64.f k l0 0 l0.length = some r) :
    Calls Try.prog 105 #[u9000_, .int .i64 0, .int .i64 l0.length, .int .i64 lim] w fun e w' => e = .returned (.tuple #[]) ∧ Kd.R (Kd.int .u64) 22 w' w0.heap.size (fun k_ => (P0_ k_ ∨ w.heap.size ≤ k_)) u9000_ r ∧ Below w0.heap.size w0 w' ∧ Kept w w' (fun k_ => P0_ k_) := by
  have HB := Aside0.mk hB
  have HO := Aside0.mk ho0
  have HH := Aside0.mk h
  have h12 : decide ((l0.length : Int) ≤ 12) = true := decide_eq_true (by omega)
  have h12b : (l0.length : Int) ≤ 12 := by omega
  have h12c : decide (l0.length ≤ 12) = true := decide_eq_true hl
  clear hB ho0 h
  go_enter Try.func105, Try.ntmps105
  go_wp2
  refine wp_loop_rounds 1 ?_
  rw [rounds_succ]
  go_wp2_with (go_at_call 115; refine (slices_insertionSortOrdered_uint64.calls k P0_ u9000_ l0 0 l0.length r w0 _ HB.out HO.out HH.out).mono ?_; rintro e w2 ⟨rfl, hr, hb, hk⟩)
  refine bodyPost_ret (results_none rfl _ _ _) rfl ?_
  exact ⟨rfl, hr, hb, hk⟩
theorem len_some (n : Nat) (h : n ≤ 12) : ∃ b, bits_Len.f (n : Int) = some b := by
  unfold bits_Len.f bits_Len64.f
  rw [if_pos ⟨by omega, by omega⟩]
  exact ⟨_, rfl⟩
set_option maxHeartbeats 2000000 in
set_option maxRecDepth 100000 in
theorem slices_Sort_uint64_uint64.calls (k : Nat) (P0_ : Nat → Prop) (u9000_ : Value) (l0 : List Int) (r : List Int) (w0 w : World) (hB : Below w0.heap.size w0 w) (ho0 : Kd.R (Kd.int .u64) 22 w w0.heap.size P0_ u9000_ l0) (h : slices_Sort_uint64_uint64.f k l0 = some r) :
    Calls Try.prog 82 #[u9000_] w fun e w' => e = .returned (.tuple #[]) ∧ Kd.R (Kd.int .u64) 22 w' w0.heap.size (fun k_ => (P0_ k_ ∨ w.heap.size ≤ k_)) u9000_ r ∧ Below w0.heap.size w0 w' ∧ Kept w w' (fun k_ => P0_ k_) := by
  unfold slices_Sort_uint64_uint64.f at h
  split at h
  case isFalse => cases h
  rename_i hl
  obtain ⟨b, hb⟩ := len_some l0.length hl
  have HB := Aside0.mk hB
  have HO := Aside0.mk ho0
  have HH := Aside0.mk h
  have HBL := Aside0.mk hb
  obtain ⟨A, c, rfl, _, _⟩ := Sl.of_R ho0
  have hz0 : (0 : Int) ≤ (l0.length : Int) := by omega
  have hz1 : (l0.length : Int) ≤ 18446744073709551615 := by omega
  clear hB ho0 h hb
  go_enter Try.func82, Try.ntmps82
  go_wp2_with (go_at_call 81; refine (bits_Len.calls (l0.length : Int) b _ HBL.out).mono ?_; rintro e w2 ⟨rfl, hb2⟩; have HB2 := Aside0.mk hb2; clear hb2)
  refine (pdq_small k P0_ _ l0 b r w0 w2 (below_then HB.out HB2.out HB.out.size) (Kd.R_below HO.out HB2.out) hl HH.out).mono ?_
  rintro e w3 ⟨rfl, hr, hb3, hk⟩
  have HR3 := Aside0.mk hr
  have HB3 := Aside0.mk hb3
  have HK3 := Aside0.mk hk
  clear hr hb3 hk
  go_wp2
  go_end0
  refine ⟨rfl, Kd.R_mono HR3.out (fun q hq => hq.imp id (fun h => Nat.le_trans HB2.out.size h)), HB3.out, ?_⟩
  exact ⟨Nat.le_trans HB2.out.size HK3.out.1, fun q hq hS => (HK3.out.2 q (Nat.lt_of_lt_of_le hq HB2.out.size) hS).trans (HB2.out.block q hq)⟩
end Go.Proofs.Ytlmefnifhbcbcaa.PAll
end
