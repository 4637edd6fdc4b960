/- Joined texts of the claim GroupChanges (part 28): contracts of functions and plain laws. -/
import Derived.Test.YtlmefnifhbcbcaaJGroupChanges2
import Derived.Test.YtlmefnifhbcbcaaJGroupChanges4
import Derived.Test.YtlmefnifhbcbcaaJGroupChanges26
import Derived.Test.YtlmefnifhbcbcaaJGroupChanges24
import Derived.Test.YtlmefnifhbcbcaaJGroupChanges25
section
-- Printed by this session's pr.sh (the kit's print.py, several laws in one namespace). Not trusted: Lean checks it.
namespace Go.Proofs.Ytlmefnifhbcbcaa.PAll
open Go.RowKit Go.Proofs.YtlmefnifhbcbcaaW.PrintWords Go.Proofs.YtlmefnifhbcbcaaW.PrintLast Go.Proofs.YtlmefnifhbcbcaaW.PrintMore
attribute [local go_sem] max2_int min2_int max_two min_two max_three min_three max_four min_four   -- for this text's walks alone
set_option linter.unusedVariables false
set_option linter.unusedSimpArgs false

/-! ### ferruleref06_Next: function 30 -/
mutual
def ferruleref06_Next.j0 : Nat → Bool → Bool → Bool → List Int → List Int → Int → Int → Option (List Int × List Int × Int)
  | 0, _, _, _, _, _, _, _ => none
  | k + 1, x7, x8, x42, x384000, x384001, x385000, x385001 => if x42 = true then (some (([] : List Int), ([] : List Int), 1)) else (if x385000 = 1 then (if x7 = true then (ferruleref06_Next.j1 k true x384000 x384001 x385000 x385001) else (ferruleref06_Next.j1 k x8 x384000 x384001 x385000 x385001)) else (if x385000 = 2 then (if x8 = true then (if (x384000.length : Int) ≥ 7 then (some (([] : List Int), ([] : List Int), 5)) else ((ferruleref06_put.f k x384000 x385001).bind fun t398 => ((ferruleref06_less.f k x384001 x385001).bind fun t401 => (some (t398, t401, 0))))) else (some (([] : List Int), ([] : List Int), 7))) else (if x7 = true then (ferruleref06_Next.j2 k x7 false x384000 x384001 x385000 x385001) else (ferruleref06_Next.j2 k x7 (!x8) x384000 x384001 x385000 x385001))))
def ferruleref06_Next.j1 : Nat → Bool → List Int → List Int → Int → Int → Option (List Int × List Int × Int)
  | 0, _, _, _, _, _ => none
  | k + 1, x50, x384000, x384001, x385000, x385001 => if x50 = true then (some (([] : List Int), ([] : List Int), 8)) else (if (x384001.length : Int) ≥ 3 then (some (([] : List Int), ([] : List Int), 5)) else ((some (([] : List Int) : List Int)).bind fun y389 => (if y389.length + x384000.length < 17592186044416 then ((ferruleref06_put.f k x384001 x385001).bind fun t395 => (some ((y389 ++ x384000), t395, 0))) else (none))))
def ferruleref06_Next.j2 : Nat → Bool → Bool → List Int → List Int → Int → Int → Option (List Int × List Int × Int)
  | 0, _, _, _, _, _, _ => none
  | k + 1, x7, x94, x384000, x384001, x385000, x385001 => if x94 = true then (some (([] : List Int), ([] : List Int), 7)) else (if x7 = true then (ferruleref06_Next.j3 k ((x384000.length : Int) == 1) x384000 x384001 x385000 x385001) else (ferruleref06_Next.j3 k false x384000 x384001 x385000 x385001))
def ferruleref06_Next.j3 : Nat → Bool → List Int → List Int → Int → Int → Option (List Int × List Int × Int)
  | 0, _, _, _, _, _ => none
  | k + 1, x102, x384000, x384001, x385000, x385001 => if x102 = true then (some (([] : List Int), ([] : List Int), 5)) else ((ferruleref06_less.f k x384000 x385001).bind fun t404 => ((ferruleref06_less.f k x384001 x385001).bind fun t407 => (some (t404, t407, 0))))
end
def ferruleref06_Next.f (k : Nat) (l0_0 : List Int) (l0_1 : List Int) (a1_0 : Int) (a1_1 : Int) : Option (List Int × List Int × Int) := (ferruleref06_May.f k l0_0 l0_1).bind fun t386 => ((ferruleref06_Has.f k l0_0 a1_1).bind fun t387 => ((ferruleref06_Has.f k l0_1 a1_1).bind fun t388 => (if t386 = true then (if a1_1 < 1 then (ferruleref06_Next.j0 k t387 t388 true l0_0 l0_1 a1_0 a1_1) else (if a1_1 > 63 then (ferruleref06_Next.j0 k t387 t388 true l0_0 l0_1 a1_0 a1_1) else (if a1_0 < 1 then (ferruleref06_Next.j0 k t387 t388 true l0_0 l0_1 a1_0 a1_1) else (ferruleref06_Next.j0 k t387 t388 (decide (a1_0 > 3)) l0_0 l0_1 a1_0 a1_1)))) else (ferruleref06_Next.j0 k t387 t388 true l0_0 l0_1 a1_0 a1_1))))
theorem ferruleref06_Next.mono_l : ∀ k, (∀ y0 y1 y2 y3 y4 y5 y6, LeO (ferruleref06_Next.j0 k y0 y1 y2 y3 y4 y5 y6) (ferruleref06_Next.j0 (k + 1) y0 y1 y2 y3 y4 y5 y6)) ∧ (∀ y0 y1 y2 y3 y4, LeO (ferruleref06_Next.j1 k y0 y1 y2 y3 y4) (ferruleref06_Next.j1 (k + 1) y0 y1 y2 y3 y4)) ∧ (∀ y0 y1 y2 y3 y4 y5, LeO (ferruleref06_Next.j2 k y0 y1 y2 y3 y4 y5) (ferruleref06_Next.j2 (k + 1) y0 y1 y2 y3 y4 y5)) ∧ (∀ y0 y1 y2 y3 y4, LeO (ferruleref06_Next.j3 k y0 y1 y2 y3 y4) (ferruleref06_Next.j3 (k + 1) y0 y1 y2 y3 y4))
  | 0 => ⟨fun _ _ _ _ _ _ _ r h => by simp [ferruleref06_Next.j0] at h, fun _ _ _ _ _ r h => by simp [ferruleref06_Next.j1] at h, fun _ _ _ _ _ _ r h => by simp [ferruleref06_Next.j2] at h, fun _ _ _ _ _ r h => by simp [ferruleref06_Next.j3] at h⟩
  | k + 1 => by
    obtain ⟨ih0, ih1, ih2, ih3⟩ := ferruleref06_Next.mono_l k
    refine ⟨?_, ?_, ?_, ?_⟩
    · intro y0 y1 y2 y3 y4 y5 y6
      unfold ferruleref06_Next.j0
      repeat' first
      | (with_reducible exact ih0 _ _ _ _ _ _ _)
      | (with_reducible exact ih1 _ _ _ _ _)
      | (with_reducible exact ih2 _ _ _ _ _ _)
      | (with_reducible exact ih3 _ _ _ _ _)
      | (with_reducible exact ferruleref06_Has.mono _ _ _)
      | (with_reducible exact ferruleref06_May.mono _ _ _)
      | (with_reducible exact ferruleref06_less.mono _ _ _)
      | (with_reducible exact ferruleref06_put.mono _ _ _)
      | (with_reducible exact LeO.refl _)
      | (with_reducible exact LeO.none _)
      | (with_reducible refine LeO.ite ?_ ?_)
      | (with_reducible refine LeO.bind ?_ (fun _ => ?_))
      | exact ih0 _ _ _ _ _ _ _
      | exact ih1 _ _ _ _ _
      | exact ih2 _ _ _ _ _ _
      | exact ih3 _ _ _ _ _
      | exact ferruleref06_Has.mono _ _ _
      | exact ferruleref06_May.mono _ _ _
      | exact ferruleref06_less.mono _ _ _
      | exact ferruleref06_put.mono _ _ _
      | exact LeO.none _
      | refine LeO.ite ?_ ?_
      | refine LeO.bind ?_ (fun _ => ?_)
    · intro y0 y1 y2 y3 y4
      unfold ferruleref06_Next.j1
      repeat' first
      | (with_reducible exact ih0 _ _ _ _ _ _ _)
      | (with_reducible exact ih1 _ _ _ _ _)
      | (with_reducible exact ih2 _ _ _ _ _ _)
      | (with_reducible exact ih3 _ _ _ _ _)
      | (with_reducible exact ferruleref06_Has.mono _ _ _)
      | (with_reducible exact ferruleref06_May.mono _ _ _)
      | (with_reducible exact ferruleref06_less.mono _ _ _)
      | (with_reducible exact ferruleref06_put.mono _ _ _)
      | (with_reducible exact LeO.refl _)
      | (with_reducible exact LeO.none _)
      | (with_reducible refine LeO.ite ?_ ?_)
      | (with_reducible refine LeO.bind ?_ (fun _ => ?_))
      | exact ih0 _ _ _ _ _ _ _
      | exact ih1 _ _ _ _ _
      | exact ih2 _ _ _ _ _ _
      | exact ih3 _ _ _ _ _
      | exact ferruleref06_Has.mono _ _ _
      | exact ferruleref06_May.mono _ _ _
      | exact ferruleref06_less.mono _ _ _
      | exact ferruleref06_put.mono _ _ _
      | exact LeO.none _
      | refine LeO.ite ?_ ?_
      | refine LeO.bind ?_ (fun _ => ?_)
    · intro y0 y1 y2 y3 y4 y5
      unfold ferruleref06_Next.j2
      repeat' first
      | (with_reducible exact ih0 _ _ _ _ _ _ _)
      | (with_reducible exact ih1 _ _ _ _ _)
      | (with_reducible exact ih2 _ _ _ _ _ _)
      | (with_reducible exact ih3 _ _ _ _ _)
      | (with_reducible exact ferruleref06_Has.mono _ _ _)
      | (with_reducible exact ferruleref06_May.mono _ _ _)
      | (with_reducible exact ferruleref06_less.mono _ _ _)
      | (with_reducible exact ferruleref06_put.mono _ _ _)
      | (with_reducible exact LeO.refl _)
      | (with_reducible exact LeO.none _)
      | (with_reducible refine LeO.ite ?_ ?_)
      | (with_reducible refine LeO.bind ?_ (fun _ => ?_))
      | exact ih0 _ _ _ _ _ _ _
      | exact ih1 _ _ _ _ _
      | exact ih2 _ _ _ _ _ _
      | exact ih3 _ _ _ _ _
      | exact ferruleref06_Has.mono _ _ _
      | exact ferruleref06_May.mono _ _ _
      | exact ferruleref06_less.mono _ _ _
      | exact ferruleref06_put.mono _ _ _
      | exact LeO.none _
      | refine LeO.ite ?_ ?_
      | refine LeO.bind ?_ (fun _ => ?_)
    · intro y0 y1 y2 y3 y4
      unfold ferruleref06_Next.j3
      repeat' first
      | (with_reducible exact ih0 _ _ _ _ _ _ _)
      | (with_reducible exact ih1 _ _ _ _ _)
      | (with_reducible exact ih2 _ _ _ _ _ _)
      | (with_reducible exact ih3 _ _ _ _ _)
      | (with_reducible exact ferruleref06_Has.mono _ _ _)
      | (with_reducible exact ferruleref06_May.mono _ _ _)
      | (with_reducible exact ferruleref06_less.mono _ _ _)
      | (with_reducible exact ferruleref06_put.mono _ _ _)
      | (with_reducible exact LeO.refl _)
      | (with_reducible exact LeO.none _)
      | (with_reducible refine LeO.ite ?_ ?_)
      | (with_reducible refine LeO.bind ?_ (fun _ => ?_))
      | exact ih0 _ _ _ _ _ _ _
      | exact ih1 _ _ _ _ _
      | exact ih2 _ _ _ _ _ _
      | exact ih3 _ _ _ _ _
      | exact ferruleref06_Has.mono _ _ _
      | exact ferruleref06_May.mono _ _ _
      | exact ferruleref06_less.mono _ _ _
      | exact ferruleref06_put.mono _ _ _
      | exact LeO.none _
      | refine LeO.ite ?_ ?_
      | refine LeO.bind ?_ (fun _ => ?_)
theorem ferruleref06_Next.mono : ∀ a0 a1 a2 a3 k, LeO (ferruleref06_Next.f k a0 a1 a2 a3) (ferruleref06_Next.f (k + 1) a0 a1 a2 a3) := by
  intro a0 a1 a2 a3 k
  obtain ⟨ih0, ih1, ih2, ih3⟩ := ferruleref06_Next.mono_l k
  unfold ferruleref06_Next.f
  repeat' first
      | (with_reducible exact ih0 _ _ _ _ _ _ _)
      | (with_reducible exact ih1 _ _ _ _ _)
      | (with_reducible exact ih2 _ _ _ _ _ _)
      | (with_reducible exact ih3 _ _ _ _ _)
      | (with_reducible exact ferruleref06_Has.mono _ _ _)
      | (with_reducible exact ferruleref06_May.mono _ _ _)
      | (with_reducible exact ferruleref06_less.mono _ _ _)
      | (with_reducible exact ferruleref06_put.mono _ _ _)
      | (with_reducible exact LeO.refl _)
      | (with_reducible exact LeO.none _)
      | (with_reducible refine LeO.ite ?_ ?_)
      | (with_reducible refine LeO.bind ?_ (fun _ => ?_))
      | exact ih0 _ _ _ _ _ _ _
      | exact ih1 _ _ _ _ _
      | exact ih2 _ _ _ _ _ _
      | exact ih3 _ _ _ _ _
      | exact ferruleref06_Has.mono _ _ _
      | exact ferruleref06_May.mono _ _ _
      | exact ferruleref06_less.mono _ _ _
      | exact ferruleref06_put.mono _ _ _
      | exact LeO.none _
      | refine LeO.ite ?_ ?_
      | refine LeO.bind ?_ (fun _ => ?_)
def ferruleref06_Next.T11 : Bool × List (List Nat × List Nat) := (true, [([], []), ([], []), ([1], [1]), ([0, 2], [0, 2]), ([], []), ([4], [4]), ([], []), ([6], [6]), ([5, 7, 3], [5, 7]), ([3, 8], [3, 8]), ([9, 8, 0, 1, 2, 3, 4, 5, 6, 7, 8, 9], [9]), ([10, 0, 1, 2, 3, 4, 5, 6, 7, 8, 9, 10], [])])
def ferruleref06_Next.B11 : List Nat := [0, 0, 2, 7, 0, 16, 0, 64, 255, 511, 1023, 2047]
theorem ferruleref06_Next.tab11 : rtab .any (opsOf Try.f30 11) = ferruleref06_Next.T11 := by kernel_rfl
theorem ferruleref06_Next.bits11 : waitsOk ferruleref06_Next.T11.2 ferruleref06_Next.B11 = true := by kernel_rfl
def ferruleref06_Next.T17 : Bool × List (List Nat × List Nat) := (true, [([], []), ([0], [0]), ([], []), ([2], [2]), ([1, 3], [1, 3]), ([], []), ([5], [5]), ([], []), ([7], [7]), ([6, 8, 4], [6, 8]), ([4, 9], [4, 9]), ([10, 9, 0, 1, 2, 3, 4, 5, 6, 7, 8, 9, 10], [10]), ([11, 0, 1, 2, 3, 4, 5, 6, 7, 8, 9, 10, 11], [])])
def ferruleref06_Next.B17 : List Nat := [0, 1, 0, 4, 15, 0, 32, 0, 128, 511, 1023, 2047, 4095]
theorem ferruleref06_Next.tab17 : rtab .any (opsOf Try.f30 17) = ferruleref06_Next.T17 := by kernel_rfl
theorem ferruleref06_Next.bits17 : waitsOk ferruleref06_Next.T17.2 ferruleref06_Next.B17 = true := by kernel_rfl
def ferruleref06_Next.T22 : Bool × List (List Nat × List Nat) := (true, [([], []), ([0], [0]), ([], []), ([2], [2]), ([1, 3], [1, 3]), ([], []), ([5], [5]), ([], []), ([7], [7]), ([6, 8, 4], [6, 8]), ([4, 9], [4, 9]), ([10, 9, 0, 1, 2, 3, 4, 5, 6, 7, 8, 9, 10], [10]), ([11, 0, 1, 2, 3, 4, 5, 6, 7, 8, 9, 10, 11], [])])
def ferruleref06_Next.B22 : List Nat := [0, 1, 0, 4, 15, 0, 32, 0, 128, 511, 1023, 2047, 4095]
theorem ferruleref06_Next.tab22 : rtab .any (opsOf Try.f30 22) = ferruleref06_Next.T22 := by kernel_rfl
theorem ferruleref06_Next.bits22 : waitsOk ferruleref06_Next.T22.2 ferruleref06_Next.B22 = true := by kernel_rfl
set_option maxHeartbeats 8000000 in
set_option maxRecDepth 100000 in
theorem ferruleref06_Next.calls (k : Nat) (A0_0 : Option Addr) (c0_0 : Nat) (l0_0 : List Int) (A0_1 : Option Addr) (c0_1 : Nat) (l0_1 : List Int) (a1_0 : Int) (a1_1 : Int) (r1 : List Int) (r2 : List Int) (r3 : Int) (w : World) (hr0_0 : Kd.C (Kd.int .u64) w A0_0 l0_0.length l0_0) (hc0_0 : l0_0.length ≤ c0_0) (hr0_1 : Kd.C (Kd.int .u64) w A0_1 l0_1.length l0_1) (hc0_1 : l0_1.length ≤ c0_1) (h : ferruleref06_Next.f k l0_0 l0_1 a1_0 a1_1 = some (r1, r2, r3)) :
    Calls Try.prog 30 #[.agg #[.slice A0_0 l0_0.length c0_0, .slice A0_1 l0_1.length c0_1], .agg #[.int .i64 a1_0, .int .u64 a1_1]] w fun e w' => ∃ v0_ v1_ : Value, e = .returned (.tuple #[.agg #[v0_, v1_], .int .i64 r3]) ∧ Kd.R (Kd.int .u64) 22 w' w.heap.size (fun k_ => some k_ ≠ (v1_ : Value).ownBlock) v0_ r1 ∧ Kd.R (Kd.int .u64) 22 w' w.heap.size (fun k_ => some k_ ≠ (v0_ : Value).ownBlock) v1_ r2 ∧ Below w.heap.size w w' := by
  have hu28 := Try.underlying28
  have hu47 := Try.underlying47
  have HR0_0 := Aside0.mk hr0_0
  have HC0_0 := Aside0.mk hc0_0
  clear hr0_0 hc0_0
  have HR0_1 := Aside0.mk hr0_1
  have HC0_1 := Aside0.mk hc0_1
  clear hr0_1 hc0_1
  have HB := Aside0.mk (Below.refl w.heap.size w)
  have H : ((ferruleref06_May.f k l0_0 l0_1).bind fun t386 => ((ferruleref06_Has.f k l0_0 a1_1).bind fun t387 => ((ferruleref06_Has.f k l0_1 a1_1).bind fun t388 => (if t386 = true then (if a1_1 < 1 then (ferruleref06_Next.j0 k t387 t388 true l0_0 l0_1 a1_0 a1_1) else (if a1_1 > 63 then (ferruleref06_Next.j0 k t387 t388 true l0_0 l0_1 a1_0 a1_1) else (if a1_0 < 1 then (ferruleref06_Next.j0 k t387 t388 true l0_0 l0_1 a1_0 a1_1) else (ferruleref06_Next.j0 k t387 t388 (decide (a1_0 > 3)) l0_0 l0_1 a1_0 a1_1)))) else (ferruleref06_Next.j0 k t387 t388 true l0_0 l0_1 a1_0 a1_1))))) = some (r1, r2, r3) := h
  clear h
  replace H := Option.bind_eq_some_iff.mp H
  obtain ⟨t386, A30, H⟩ := H
  replace H : ((ferruleref06_Has.f k l0_0 a1_1).bind fun t387 => ((ferruleref06_Has.f k l0_1 a1_1).bind fun t388 => (if t386 = true then (if a1_1 < 1 then (ferruleref06_Next.j0 k t387 t388 true l0_0 l0_1 a1_0 a1_1) else (if a1_1 > 63 then (ferruleref06_Next.j0 k t387 t388 true l0_0 l0_1 a1_0 a1_1) else (if a1_0 < 1 then (ferruleref06_Next.j0 k t387 t388 true l0_0 l0_1 a1_0 a1_1) else (ferruleref06_Next.j0 k t387 t388 (decide (a1_0 > 3)) l0_0 l0_1 a1_0 a1_1)))) else (ferruleref06_Next.j0 k t387 t388 true l0_0 l0_1 a1_0 a1_1)))) = some (r1, r2, r3) := H
  have A3 := Aside0.mk A30
  clear A30
  replace H := Option.bind_eq_some_iff.mp H
  obtain ⟨t387, A40, H⟩ := H
  replace H : ((ferruleref06_Has.f k l0_1 a1_1).bind fun t388 => (if t386 = true then (if a1_1 < 1 then (ferruleref06_Next.j0 k t387 t388 true l0_0 l0_1 a1_0 a1_1) else (if a1_1 > 63 then (ferruleref06_Next.j0 k t387 t388 true l0_0 l0_1 a1_0 a1_1) else (if a1_0 < 1 then (ferruleref06_Next.j0 k t387 t388 true l0_0 l0_1 a1_0 a1_1) else (ferruleref06_Next.j0 k t387 t388 (decide (a1_0 > 3)) l0_0 l0_1 a1_0 a1_1)))) else (ferruleref06_Next.j0 k t387 t388 true l0_0 l0_1 a1_0 a1_1))) = some (r1, r2, r3) := H
  have A4 := Aside0.mk A40
  clear A40
  replace H := Option.bind_eq_some_iff.mp H
  obtain ⟨t388, A50, H⟩ := H
  replace H : (if t386 = true then (if a1_1 < 1 then (ferruleref06_Next.j0 k t387 t388 true l0_0 l0_1 a1_0 a1_1) else (if a1_1 > 63 then (ferruleref06_Next.j0 k t387 t388 true l0_0 l0_1 a1_0 a1_1) else (if a1_0 < 1 then (ferruleref06_Next.j0 k t387 t388 true l0_0 l0_1 a1_0 a1_1) else (ferruleref06_Next.j0 k t387 t388 (decide (a1_0 > 3)) l0_0 l0_1 a1_0 a1_1)))) else (ferruleref06_Next.j0 k t387 t388 true l0_0 l0_1 a1_0 a1_1)) = some (r1, r2, r3) := H
  have A5 := Aside0.mk A50
  clear A50
  have HC6 := Aside0.mk H
  clear H
  go_enter Try.func30, Try.ntmps30
  go_upto_region 4 with (first | ((with_reducible refine gate_dst (N := 2) rfl ?_); (try (refine gate_guard (by rfl) ?_; dsimp only)); refine box_event ?hg (N := 2) ?hd (cs := #[.slice A0_0 l0_0.length c0_0, .slice A0_1 l0_1.length c0_1]) (t := 28) ?hr ?_; (case hd => rfl); (case hg => rfl); (case hr => first | (go_simp; done) | (go_simp; rfl)); intro gb383 hg w7 hbox hb; have n0_ := Aside0.mk (below_step (by repeat (first | (with_reducible first | exact HB.out | apply below_alloc | apply pw_below_drewN | apply below_drew1) | exact HB.out)) hb); have n1_ := Aside0.mk (hbox); have n2_ := Aside0.mk ((by rw [hg]; exact (below_size (by repeat (first | (with_reducible first | exact HB.out | apply below_alloc | apply pw_below_drewN | apply below_drew1) | exact HB.out))) : w.heap.size ≤ gb383)); have n3_ := Aside0.mk ((by rw [hg]; exact (below_size (by repeat (first | (with_reducible first | exact HB.out | apply below_alloc | apply pw_below_drewN | apply below_drew1) | exact HB.out))) : w.heap.size ≤ gb383)); clear HB; have HB := n0_; have BK383 := n1_; have GW383 := n2_; have GE383 := n3_; clear n0_ n1_ n2_ n3_; clear hb hbox hg) | ((with_reducible refine gate_dst (N := 3) rfl ?_); (try (refine gate_guard (by rfl) ?_; dsimp only)); refine box_event ?hg (N := 3) ?hd (cs := #[.int .i64 a1_0, .int .u64 a1_1]) (t := 47) ?hr ?_; (case hd => rfl); (case hg => rfl); (case hr => first | (go_simp; done) | (go_simp; rfl)); intro gb384 hg w8 hbox hb; have n0_ := Aside0.mk (blk_below (g := gb383) (o := .cells #[.slice A0_0 l0_0.length c0_0, .slice A0_1 l0_1.length c0_1] 28 (0, 0)) (by (with_reducible repeat (first | refine blk_drewN ?_ _ | refine blk_drew ?_ | refine blk_alloc ?_ _)); exact BK383.out) hb); have n1_ := Aside0.mk (below_step (by repeat (first | (with_reducible first | exact HB.out | apply below_alloc | apply pw_below_drewN | apply below_drew1 | refine below_set ?_ GE383.out) | exact HB.out)) hb); have n2_ := Aside0.mk (hbox); have n3_ := Aside0.mk ((by rw [hg]; exact (below_size (by repeat (first | (with_reducible first | exact HB.out | apply below_alloc | apply pw_below_drewN | apply below_drew1 | refine below_set ?_ GE383.out) | exact HB.out))) : w.heap.size ≤ gb384)); have n4_ := Aside0.mk ((by rw [hg]; exact (below_size (by repeat (first | (with_reducible first | exact HB.out | apply below_alloc | apply pw_below_drewN | apply below_drew1 | refine below_set ?_ GE383.out) | exact HB.out))) : w.heap.size ≤ gb384)); have n5_ := Aside0.mk ((by rw [hg]; exact Nat.ne_of_lt (blk_lt (g := gb383) (o := .cells #[.slice A0_0 l0_0.length c0_0, .slice A0_1 l0_1.length c0_1] 28 (0, 0)) (by (with_reducible repeat (first | refine blk_drewN ?_ _ | refine blk_drew ?_ | refine blk_alloc ?_ _)); exact BK383.out)) : gb383 ≠ gb384)); have n6_ := Aside0.mk ((by rw [hg]; exact Nat.ne_of_gt (blk_lt (g := gb383) (o := .cells #[.slice A0_0 l0_0.length c0_0, .slice A0_1 l0_1.length c0_1] 28 (0, 0)) (by (with_reducible repeat (first | refine blk_drewN ?_ _ | refine blk_drew ?_ | refine blk_alloc ?_ _)); exact BK383.out)) : gb384 ≠ gb383)); clear BK383; clear HB; have BK383 := n0_; have HB := n1_; have BK384 := n2_; have GW384 := n3_; have GE384 := n4_; have NB383_384 := n5_; have NB384_383 := n6_; clear n0_ n1_ n2_ n3_ n4_ n5_ n6_; clear hb hbox hg) | ((with_reducible refine gate_dst (N := 4) rfl ?_); (try (refine gate_guard (by rfl) ?_; dsimp only)); refine box_event ?hg (N := 4) ?hd (cs := #[.slice none 0 0, .slice none 0 0]) (t := 28) ?hr ?_; (case hd => rfl); (case hg => rfl); (case hr => first | (go_simp; done) | (go_simp; rfl)); intro gb385 hg w9 hbox hb; have n0_ := Aside0.mk (blk_below (g := gb383) (o := .cells #[.slice A0_0 l0_0.length c0_0, .slice A0_1 l0_1.length c0_1] 28 (0, 0)) (by (with_reducible repeat (first | refine blk_drewN ?_ _ | refine blk_drew ?_ | refine blk_alloc ?_ _)); exact BK383.out) hb); have n1_ := Aside0.mk (blk_below (g := gb384) (o := .cells #[.int .i64 a1_0, .int .u64 a1_1] 47 (0, 0)) (by (with_reducible repeat (first | refine blk_drewN ?_ _ | refine blk_drew ?_ | refine blk_alloc ?_ _)); exact BK384.out) hb); have n2_ := Aside0.mk (below_step (by repeat (first | (with_reducible first | exact HB.out | apply below_alloc | apply pw_below_drewN | apply below_drew1 | refine below_set ?_ GE383.out | refine below_set ?_ GE384.out) | exact HB.out)) hb); have n3_ := Aside0.mk (hbox); have n4_ := Aside0.mk ((by rw [hg]; exact (below_size (by repeat (first | (with_reducible first | exact HB.out | apply below_alloc | apply pw_below_drewN | apply below_drew1 | refine below_set ?_ GE383.out | refine below_set ?_ GE384.out) | exact HB.out))) : w.heap.size ≤ gb385)); have n5_ := Aside0.mk ((by rw [hg]; exact (below_size (by repeat (first | (with_reducible first | exact HB.out | apply below_alloc | apply pw_below_drewN | apply below_drew1 | refine below_set ?_ GE383.out | refine below_set ?_ GE384.out) | exact HB.out))) : w.heap.size ≤ gb385)); have n6_ := Aside0.mk ((by rw [hg]; exact Nat.ne_of_lt (blk_lt (g := gb383) (o := .cells #[.slice A0_0 l0_0.length c0_0, .slice A0_1 l0_1.length c0_1] 28 (0, 0)) (by (with_reducible repeat (first | refine blk_drewN ?_ _ | refine blk_drew ?_ | refine blk_alloc ?_ _)); exact BK383.out)) : gb383 ≠ gb385)); have n7_ := Aside0.mk ((by rw [hg]; exact Nat.ne_of_gt (blk_lt (g := gb383) (o := .cells #[.slice A0_0 l0_0.length c0_0, .slice A0_1 l0_1.length c0_1] 28 (0, 0)) (by (with_reducible repeat (first | refine blk_drewN ?_ _ | refine blk_drew ?_ | refine blk_alloc ?_ _)); exact BK383.out)) : gb385 ≠ gb383)); have n8_ := Aside0.mk ((by rw [hg]; exact Nat.ne_of_lt (blk_lt (g := gb384) (o := .cells #[.int .i64 a1_0, .int .u64 a1_1] 47 (0, 0)) (by (with_reducible repeat (first | refine blk_drewN ?_ _ | refine blk_drew ?_ | refine blk_alloc ?_ _)); exact BK384.out)) : gb384 ≠ gb385)); have n9_ := Aside0.mk ((by rw [hg]; exact Nat.ne_of_gt (blk_lt (g := gb384) (o := .cells #[.int .i64 a1_0, .int .u64 a1_1] 47 (0, 0)) (by (with_reducible repeat (first | refine blk_drewN ?_ _ | refine blk_drew ?_ | refine blk_alloc ?_ _)); exact BK384.out)) : gb385 ≠ gb384)); clear BK383; clear BK384; clear HB; have BK383 := n0_; have BK384 := n1_; have HB := n2_; have BK385 := n3_; have GW385 := n4_; have GE385 := n5_; have NB383_385 := n6_; have NB385_383 := n7_; have NB384_385 := n8_; have NB385_384 := n9_; clear n0_ n1_ n2_ n3_ n4_ n5_ n6_ n7_ n8_ n9_; clear hb hbox hg; have hnb10 := NB383_384.out; have hnc10 := NB384_383.out; have hnb11 := NB383_385.out; have hnc11 := NB385_383.out; have hcz12_0 : w9.cell? ⟨gb383, 0, none⟩ = some (.slice A0_0 l0_0.length c0_0) := (blk_cell BK383.out 0).trans rfl; have hcz12_1 : w9.cell? ⟨gb383, 1, none⟩ = some (.slice A0_1 l0_1.length c0_1) := (blk_cell BK383.out 1).trans rfl; have hfz12_0 := blk_frozen BK383.out 0; have hfz12_1 := blk_frozen BK383.out 1) | ((with_reducible refine gate_callee (f := 38) rfl ?_); refine goesL_ (some 10) rfl rfl Try.func38 (by kernel_rfl) rfl #[.agg #[.slice A0_0 l0_0.length c0_0, .slice A0_1 l0_1.length c0_1]] rfl (by (try simp only [List.map_toArray, List.map_cons, List.map_nil]); first | done | rfl | (simp only [List.length_drop, List.length_take]; rfl)) ?_; (with_reducible refine (ferruleref06_May.calls k _ _ l0_0 _ _ l0_1 t386 _ ?side1 ?side2 ?side3 ?side4 A3.out).mono ?_); (case side1 => repeat (first | exact (Kd.C_below HR0_0.out HB.out) | (with_reducible refine Kd.C_alloc ?_ _) | (with_reducible refine Kd.C_drewN ?_ _) | (with_reducible refine Kd.C_drew ?_))); (case side2 => exact HC0_0.out); (case side3 => repeat (first | exact (Kd.C_below HR0_1.out HB.out) | (with_reducible refine Kd.C_alloc ?_ _) | (with_reducible refine Kd.C_drewN ?_ _) | (with_reducible refine Kd.C_drew ?_))); (case side4 => exact HC0_1.out); rintro e w13 ⟨rfl, hb⟩; refine ⟨_, rfl, ?_⟩; have n0_ := Aside0.mk (blk_below (g := gb383) (o := .cells #[.slice A0_0 l0_0.length c0_0, .slice A0_1 l0_1.length c0_1] 28 (0, 0)) (by (with_reducible repeat (first | refine blk_drewN ?_ _ | refine blk_drew ?_ | refine blk_alloc ?_ _)); exact BK383.out) hb); have n1_ := Aside0.mk (blk_below (g := gb384) (o := .cells #[.int .i64 a1_0, .int .u64 a1_1] 47 (0, 0)) (by (with_reducible repeat (first | refine blk_drewN ?_ _ | refine blk_drew ?_ | refine blk_alloc ?_ _)); exact BK384.out) hb); have n2_ := Aside0.mk (blk_below (g := gb385) (o := .cells #[.slice none 0 0, .slice none 0 0] 28 (0, 0)) (by (with_reducible repeat (first | refine blk_drewN ?_ _ | refine blk_drew ?_ | refine blk_alloc ?_ _)); exact BK385.out) hb); have n3_ := Aside0.mk (below_step (by repeat (first | (with_reducible first | exact HB.out | apply below_alloc | apply pw_below_drewN | apply below_drew1 | refine below_set ?_ GE383.out | refine below_set ?_ GE384.out | refine below_set ?_ GE385.out) | exact HB.out)) hb); clear BK383; clear BK384; clear BK385; clear HB; have BK383 := n0_; have BK384 := n1_; have BK385 := n2_; have HB := n3_; clear n0_ n1_ n2_ n3_; (try clear hb); (try clear hb2); (try clear hk); (try clear hi); have hcz14_0 : w13.cell? ⟨gb383, 0, none⟩ = some (.slice A0_0 l0_0.length c0_0) := (blk_cell BK383.out 0).trans rfl; have hcz14_1 : w13.cell? ⟨gb383, 1, none⟩ = some (.slice A0_1 l0_1.length c0_1) := (blk_cell BK383.out 1).trans rfl; have hfz14_0 := blk_frozen BK383.out 0; have hfz14_1 := blk_frozen BK383.out 1; have hnb15 := NB384_385.out; have hnc15 := NB385_384.out; have hcz16_0 : w13.cell? ⟨gb384, 0, none⟩ = some (.int .i64 a1_0) := (blk_cell BK384.out 0).trans rfl; have hcz16_1 : w13.cell? ⟨gb384, 1, none⟩ = some (.int .u64 a1_1) := (blk_cell BK384.out 1).trans rfl; have hfz16_0 := blk_frozen BK384.out 0; have hfz16_1 := blk_frozen BK384.out 1) | ((with_reducible refine gate_callee (f := 56) rfl ?_); refine goesL_ (some 15) rfl rfl Try.func56 (by kernel_rfl) rfl #[.slice A0_0 l0_0.length c0_0, .int .u64 a1_1] rfl (by (try simp only [List.map_toArray, List.map_cons, List.map_nil]); first | done | rfl | (simp only [List.length_drop, List.length_take]; rfl)) ?_; (with_reducible refine (ferruleref06_Has.calls k _ _ l0_0 a1_1 t387 _ ?side1 ?side2 A4.out).mono ?_); (case side1 => repeat (first | exact (Kd.C_below HR0_0.out HB.out) | (with_reducible refine Kd.C_alloc ?_ _) | (with_reducible refine Kd.C_drewN ?_ _) | (with_reducible refine Kd.C_drew ?_))); (case side2 => exact HC0_0.out); rintro e w' ⟨rfl, ⟨nd, rfl⟩⟩; refine ⟨_, rfl, ?_⟩) | ((with_reducible refine gate_callee (f := 56) rfl ?_); refine goesL_ (some 20) rfl rfl Try.func56 (by kernel_rfl) rfl #[.slice A0_1 l0_1.length c0_1, .int .u64 a1_1] rfl (by (try simp only [List.map_toArray, List.map_cons, List.map_nil]); first | done | rfl | (simp only [List.length_drop, List.length_take]; rfl)) ?_; (with_reducible refine (ferruleref06_Has.calls k _ _ l0_1 a1_1 t388 _ ?side1 ?side2 A5.out).mono ?_); (case side1 => repeat (first | exact (Kd.C_below HR0_1.out (by repeat (first | (with_reducible first | exact HB.out | apply below_alloc | apply pw_below_drewN | apply below_drew1 | refine below_set ?_ GE383.out | refine below_set ?_ GE384.out | refine below_set ?_ GE385.out) | exact HB.out))) | (with_reducible refine Kd.C_alloc ?_ _) | (with_reducible refine Kd.C_drewN ?_ _) | (with_reducible refine Kd.C_drew ?_))); (case side2 => exact HC0_1.out); rintro e w' ⟨rfl, ⟨nd, rfl⟩⟩; refine ⟨_, rfl, ?_⟩))
  (try simp only [Act.put, List.setIfInBounds_toArray, List.set_cons_zero, List.set_cons_succ])
  go_cut [42] (fun v42 wc => ∃ (kq : Nat) (x42_5 : Bool), v42 = .bool x42_5 ∧ Aside0 (ferruleref06_Next.j0 kq t387 t388 x42_5 l0_0 l0_1 a1_0 a1_1 = some (r1, r2, r3)) ∧ Aside0 (kq ≤ k) ∧ Aside0 (wc.heap[gb383]? = some (.cells #[(.slice A0_0 l0_0.length c0_0), (.slice A0_1 l0_1.length c0_1)] 28 (0, 0))) ∧ Aside0 (wc.heap[gb384]? = some (.cells #[.int .i64 a1_0, .int .u64 a1_1] 47 (0, 0))) ∧ Aside0 (wc.heap[gb385]? = some (.cells #[(.slice none 0 0), (.slice none 0 0)] 28 (0, 0))) ∧ Aside0 (Below w.heap.size w wc))
  case first =>
    have H := HC6.out
    clear HC6
    by_cases c17 : t386 = true
    · subst c17
      have H1 : (if a1_1 < 1 then (ferruleref06_Next.j0 k t387 t388 true l0_0 l0_1 a1_0 a1_1) else (if a1_1 > 63 then (ferruleref06_Next.j0 k t387 t388 true l0_0 l0_1 a1_0 a1_1) else (if a1_0 < 1 then (ferruleref06_Next.j0 k t387 t388 true l0_0 l0_1 a1_0 a1_1) else (ferruleref06_Next.j0 k t387 t388 (decide (a1_0 > 3)) l0_0 l0_1 a1_0 a1_1)))) = some (r1, r2, r3) := by rw [if_pos rfl] at H; exact H
      clear H
      have H := H1
      clear H1
      by_cases c18 : a1_1 < 1
      · rw [if_pos c18] at H
        have c18b0 : decide (a1_1 < 1) = true := decide_eq_true c18
        clear c18
        (first | rw [c18b0] | (simp only [i64_w, i32_w]; rw [c18b0]) | skip)
        have H' := Aside0.mk H
        clear H
        have hnb19 := NB384_383.out
        have hnc19 := NB383_384.out
        have hnb20 := NB384_385.out
        have hnc20 := NB385_384.out
        have hcz21_0 : w13.cell? ⟨gb384, 0, none⟩ = some (.int .i64 a1_0) := (blk_cell BK384.out 0).trans rfl
        have hcz21_1 : w13.cell? ⟨gb384, 1, none⟩ = some (.int .u64 a1_1) := (blk_cell BK384.out 1).trans rfl
        have hfz21_0 := blk_frozen BK384.out 0
        have hfz21_1 := blk_frozen BK384.out 1
        go_wp2
        go_meet
        case rel => exact ⟨_, (true), (by first | rfl | (simp; done) | (simp [*]; done)), H', ⟨by first | omega | exact Nat.le_refl _⟩, ⟨by (with_reducible repeat (first | refine blk_drewN ?_ _ | refine blk_drew ?_ | refine blk_alloc ?_ _)); exact BK383.out⟩, ⟨by (with_reducible repeat (first | refine blk_drewN ?_ _ | refine blk_drew ?_ | refine blk_alloc ?_ _)); exact BK384.out⟩, ⟨by (with_reducible repeat (first | refine blk_drewN ?_ _ | refine blk_drew ?_ | refine blk_alloc ?_ _)); exact BK385.out⟩, ⟨by repeat (first | (with_reducible first | exact HB.out | apply below_alloc | apply pw_below_drewN | apply below_drew1 | refine below_set ?_ GE383.out | refine below_set ?_ GE384.out | refine below_set ?_ GE385.out) | exact HB.out)⟩⟩
      · rw [if_neg c18] at H
        have c18b0 : decide (a1_1 < 1) = false := decide_eq_false c18
        clear c18
        (first | rw [c18b0] | (simp only [i64_w, i32_w]; rw [c18b0]) | skip)
        by_cases c22 : a1_1 > 63
        · rw [if_pos c22] at H
          have c22b0 : decide (63 < a1_1) = true := decide_eq_true c22
          clear c22
          have H' := Aside0.mk H
          clear H
          have hnb23 := NB384_383.out
          have hnc23 := NB383_384.out
          have hnb24 := NB384_385.out
          have hnc24 := NB385_384.out
          have hcz25_0 : w13.cell? ⟨gb384, 0, none⟩ = some (.int .i64 a1_0) := (blk_cell BK384.out 0).trans rfl
          have hcz25_1 : w13.cell? ⟨gb384, 1, none⟩ = some (.int .u64 a1_1) := (blk_cell BK384.out 1).trans rfl
          have hfz25_0 := blk_frozen BK384.out 0
          have hfz25_1 := blk_frozen BK384.out 1
          go_wp2
          go_meet
          case rel => exact ⟨_, (true), (by first | rfl | (simp; done) | (simp [*]; done)), H', ⟨by first | omega | exact Nat.le_refl _⟩, ⟨by (with_reducible repeat (first | refine blk_drewN ?_ _ | refine blk_drew ?_ | refine blk_alloc ?_ _)); exact BK383.out⟩, ⟨by (with_reducible repeat (first | refine blk_drewN ?_ _ | refine blk_drew ?_ | refine blk_alloc ?_ _)); exact BK384.out⟩, ⟨by (with_reducible repeat (first | refine blk_drewN ?_ _ | refine blk_drew ?_ | refine blk_alloc ?_ _)); exact BK385.out⟩, ⟨by repeat (first | (with_reducible first | exact HB.out | apply below_alloc | apply pw_below_drewN | apply below_drew1 | refine below_set ?_ GE383.out | refine below_set ?_ GE384.out | refine below_set ?_ GE385.out) | exact HB.out)⟩⟩
        · rw [if_neg c22] at H
          have c22b0 : decide (63 < a1_1) = false := decide_eq_false c22
          clear c22
          by_cases c26 : a1_0 < 1
          · rw [if_pos c26] at H
            have c26b0 : decide (a1_0 < 1) = true := decide_eq_true c26
            clear c26
            have H' := Aside0.mk H
            clear H
            have hnb27 := NB384_383.out
            have hnc27 := NB383_384.out
            have hnb28 := NB384_385.out
            have hnc28 := NB385_384.out
            have hcz29_0 : w13.cell? ⟨gb384, 0, none⟩ = some (.int .i64 a1_0) := (blk_cell BK384.out 0).trans rfl
            have hcz29_1 : w13.cell? ⟨gb384, 1, none⟩ = some (.int .u64 a1_1) := (blk_cell BK384.out 1).trans rfl
            have hfz29_0 := blk_frozen BK384.out 0
            have hfz29_1 := blk_frozen BK384.out 1
            go_wp2
            go_meet
            case rel => exact ⟨_, (true), (by first | rfl | (simp; done) | (simp [*]; done)), H', ⟨by first | omega | exact Nat.le_refl _⟩, ⟨by (with_reducible repeat (first | refine blk_drewN ?_ _ | refine blk_drew ?_ | refine blk_alloc ?_ _)); exact BK383.out⟩, ⟨by (with_reducible repeat (first | refine blk_drewN ?_ _ | refine blk_drew ?_ | refine blk_alloc ?_ _)); exact BK384.out⟩, ⟨by (with_reducible repeat (first | refine blk_drewN ?_ _ | refine blk_drew ?_ | refine blk_alloc ?_ _)); exact BK385.out⟩, ⟨by repeat (first | (with_reducible first | exact HB.out | apply below_alloc | apply pw_below_drewN | apply below_drew1 | refine below_set ?_ GE383.out | refine below_set ?_ GE384.out | refine below_set ?_ GE385.out) | exact HB.out)⟩⟩
          · rw [if_neg c26] at H
            have c26b0 : decide (a1_0 < 1) = false := decide_eq_false c26
            clear c26
            have H' := Aside0.mk H
            clear H
            have hnb30 := NB384_383.out
            have hnc30 := NB383_384.out
            have hnb31 := NB384_385.out
            have hnc31 := NB385_384.out
            have hcz32_0 : w13.cell? ⟨gb384, 0, none⟩ = some (.int .i64 a1_0) := (blk_cell BK384.out 0).trans rfl
            have hcz32_1 : w13.cell? ⟨gb384, 1, none⟩ = some (.int .u64 a1_1) := (blk_cell BK384.out 1).trans rfl
            have hfz32_0 := blk_frozen BK384.out 0
            have hfz32_1 := blk_frozen BK384.out 1
            go_wp2
            go_meet
            case rel => exact ⟨_, (decide (a1_0 > 3)), (by first | rfl | (simp; done) | (simp [*]; done)), H', ⟨by first | omega | exact Nat.le_refl _⟩, ⟨by (with_reducible repeat (first | refine blk_drewN ?_ _ | refine blk_drew ?_ | refine blk_alloc ?_ _)); exact BK383.out⟩, ⟨by (with_reducible repeat (first | refine blk_drewN ?_ _ | refine blk_drew ?_ | refine blk_alloc ?_ _)); exact BK384.out⟩, ⟨by (with_reducible repeat (first | refine blk_drewN ?_ _ | refine blk_drew ?_ | refine blk_alloc ?_ _)); exact BK385.out⟩, ⟨by repeat (first | (with_reducible first | exact HB.out | apply below_alloc | apply pw_below_drewN | apply below_drew1 | refine below_set ?_ GE383.out | refine below_set ?_ GE384.out | refine below_set ?_ GE385.out) | exact HB.out)⟩⟩
    · replace c17 := Bool.eq_false_iff.mpr c17
      subst c17
      have H1 : (ferruleref06_Next.j0 k t387 t388 true l0_0 l0_1 a1_0 a1_1) = some (r1, r2, r3) := by rw [if_neg (show ¬ (false = true) by decide)] at H; exact H
      clear H
      have H := H1
      clear H1
      have H' := Aside0.mk H
      clear H
      go_wp2
      go_meet
      case rel => exact ⟨_, (true), (by first | rfl | (simp; done) | (simp [*]; done)), H', ⟨by first | omega | exact Nat.le_refl _⟩, ⟨by (with_reducible repeat (first | refine blk_drewN ?_ _ | refine blk_drew ?_ | refine blk_alloc ?_ _)); exact BK383.out⟩, ⟨by (with_reducible repeat (first | refine blk_drewN ?_ _ | refine blk_drew ?_ | refine blk_alloc ?_ _)); exact BK384.out⟩, ⟨by (with_reducible repeat (first | refine blk_drewN ?_ _ | refine blk_drew ?_ | refine blk_alloc ?_ _)); exact BK385.out⟩, ⟨by repeat (first | (with_reducible first | exact HB.out | apply below_alloc | apply pw_below_drewN | apply below_drew1 | refine below_set ?_ GE383.out | refine below_set ?_ GE384.out | refine below_set ?_ GE385.out) | exact HB.out)⟩⟩
  case rest =>
    clear HC6
    try clear c1
    try clear c2
    try clear p2
    try clear c3
    try clear c5
    try clear c10
    try clear c11
    try clear c15
    try clear c17
    try clear c18
    try clear c18b0
    try clear c19
    try clear c20
    try clear c22
    try clear c22b0
    try clear c23
    try clear c24
    try clear c26
    try clear c26b0
    try clear c27
    try clear c28
    try clear c30
    try clear c31
    try clear hcz12_0
    try clear hcz12_1
    try clear hcz14_0
    try clear hcz14_1
    try clear hcz16_0
    try clear hcz16_1
    try clear hcz21_0
    try clear hcz21_1
    try clear hcz25_0
    try clear hcz25_1
    try clear hcz29_0
    try clear hcz29_1
    try clear hcz32_0
    try clear hcz32_1
    try clear hfz12_0
    try clear hfz12_1
    try clear hfz14_0
    try clear hfz14_1
    try clear hfz16_0
    try clear hfz16_1
    try clear hfz21_0
    try clear hfz21_1
    try clear hfz25_0
    try clear hfz25_1
    try clear hfz29_0
    try clear hfz29_1
    try clear hfz32_0
    try clear hfz32_1
    obtain ⟨kq, x42_5, rfl, HA, HJ5, BK383, BK384, BK385, HB⟩ := hcut
    cases kq with
    | zero => exact absurd HA.out (by simp [ferruleref06_Next.j0])
    | succ kj5 =>
      have H := HA.out
      clear HA
      simp only [ferruleref06_Next.j0] at H
      by_cases c33 : x42_5 = true
      · subst c33
        have H1 : (some (([] : List Int), ([] : List Int), 1)) = some (r1, r2, r3) := by rw [if_pos rfl] at H; exact H
        clear H
        have H := H1
        clear H1
        simp only [Option.some.injEq, Prod.mk.injEq] at H
        obtain ⟨rfl, rfl, rfl⟩ := H
        have hnb34 := NB385_383.out
        have hnc34 := NB383_385.out
        have hnb35 := NB385_384.out
        have hnc35 := NB384_385.out
        have hcz36_0 : wc.cell? ⟨gb385, 0, none⟩ = some (.slice none 0 0) := (blk_cell BK385.out 0).trans rfl
        have hcz36_1 : wc.cell? ⟨gb385, 1, none⟩ = some (.slice none 0 0) := (blk_cell BK385.out 1).trans rfl
        have hfz36_0 := blk_frozen BK385.out 0
        have hfz36_1 := blk_frozen BK385.out 1
        go_wp2
        refine bodyPost_ret (results_ct rfl _ _ gb385 28 #[.slice none 0 0, .slice none 0 0] (0, 0) _ rfl (by (with_reducible repeat (first | refine blk_drewN ?_ _ | refine blk_drew ?_ | refine blk_alloc ?_ _)); refine blk_put (cs := #[.slice none 0 0, .slice none 0 0]) ?_ 1 _ rfl; (with_reducible repeat (first | refine blk_drewN ?_ _ | refine blk_drew ?_ | refine blk_alloc ?_ _)); refine blk_put (cs := #[.slice none 0 0, .slice none 0 0]) ?_ 0 _ rfl; (with_reducible repeat (first | refine blk_drewN ?_ _ | refine blk_drew ?_ | refine blk_alloc ?_ _)); exact BK385.out) Try.underlying28 rfl (by kernel_rfl)) rfl ?_
        exact ⟨_, _, by first | rfl | (simp [errW_none, errW_some] <;> rfl) | (simp [*, errW_none, errW_some] <;> rfl), by first | exact Kd.R_nil _ _ _ _ _ | exact Kd.N_nil _ _ _ _ _ | exact Kd.V_nil _ _ _ _ _ | exact Kd.Q_nil _ _ _ _ _ | exact Kd.S_nil _ _ _ _ _, by first | exact Kd.R_nil _ _ _ _ _ | exact Kd.N_nil _ _ _ _ _ | exact Kd.V_nil _ _ _ _ _ | exact Kd.Q_nil _ _ _ _ _ | exact Kd.S_nil _ _ _ _ _, by repeat (first | (with_reducible first | exact HB.out | apply below_alloc | apply pw_below_drewN | apply below_drew1 | refine below_set ?_ GE383.out | refine below_set ?_ GE384.out | refine below_set ?_ GE385.out) | exact HB.out)⟩
      · replace c33 := Bool.eq_false_iff.mpr c33
        subst c33
        have H1 : (if a1_0 = 1 then (if t387 = true then (ferruleref06_Next.j1 kj5 true l0_0 l0_1 a1_0 a1_1) else (ferruleref06_Next.j1 kj5 t388 l0_0 l0_1 a1_0 a1_1)) else (if a1_0 = 2 then (if t388 = true then (if (l0_0.length : Int) ≥ 7 then (some (([] : List Int), ([] : List Int), 5)) else ((ferruleref06_put.f kj5 l0_0 a1_1).bind fun t398 => ((ferruleref06_less.f kj5 l0_1 a1_1).bind fun t401 => (some (t398, t401, 0))))) else (some (([] : List Int), ([] : List Int), 7))) else (if t387 = true then (ferruleref06_Next.j2 kj5 t387 false l0_0 l0_1 a1_0 a1_1) else (ferruleref06_Next.j2 kj5 t387 (!t388) l0_0 l0_1 a1_0 a1_1)))) = some (r1, r2, r3) := by rw [if_neg (show ¬ (false = true) by decide)] at H; exact H
        clear H
        have H := H1
        clear H1
        by_cases c37 : a1_0 = 1
        · rw [if_pos c37] at H
          have c37b0 : (a1_0 == 1) = true := beq_iff_eq.mpr c37
          have c37b1 : (a1_0 != 1) = false := bne_eq_false_iff_eq.mpr c37
          clear c37
          have HC38 := Aside0.mk H
          clear H
          have hnb39 := NB384_383.out
          have hnc39 := NB383_384.out
          have hnb40 := NB384_385.out
          have hnc40 := NB385_384.out
          have hcz41_0 : wc.cell? ⟨gb384, 0, none⟩ = some (.int .i64 a1_0) := (blk_cell BK384.out 0).trans rfl
          have hcz41_1 : wc.cell? ⟨gb384, 1, none⟩ = some (.int .u64 a1_1) := (blk_cell BK384.out 1).trans rfl
          have hfz41_0 := blk_frozen BK384.out 0
          have hfz41_1 := blk_frozen BK384.out 1
          go_upto_region 7 with (fail)
          go_cut [50] (fun v50 wc => ∃ (kq : Nat) (x50_37 : Bool), v50 = .bool x50_37 ∧ Aside0 (ferruleref06_Next.j1 kq x50_37 l0_0 l0_1 a1_0 a1_1 = some (r1, r2, r3)) ∧ Aside0 (kq ≤ kj5) ∧ Aside0 (wc.heap[gb383]? = some (.cells #[(.slice A0_0 l0_0.length c0_0), (.slice A0_1 l0_1.length c0_1)] 28 (0, 0))) ∧ Aside0 (wc.heap[gb384]? = some (.cells #[.int .i64 a1_0, .int .u64 a1_1] 47 (0, 0))) ∧ Aside0 (wc.heap[gb385]? = some (.cells #[(.slice none 0 0), (.slice none 0 0)] 28 (0, 0))) ∧ Aside0 (Below w.heap.size w wc))
          case first =>
            have H := HC38.out
            clear HC38
            by_cases c42 : t387 = true
            · subst c42
              have H1 : (ferruleref06_Next.j1 kj5 true l0_0 l0_1 a1_0 a1_1) = some (r1, r2, r3) := by rw [if_pos rfl] at H; exact H
              clear H
              have H := H1
              clear H1
              have H' := Aside0.mk H
              clear H
              go_wp2
              go_meet
              case rel => exact ⟨_, (true), (by first | rfl | (simp; done) | (simp [*]; done)), H', ⟨by have := HJ5.out; first | omega | exact Nat.le_refl _⟩, ⟨by (with_reducible repeat (first | refine blk_drewN ?_ _ | refine blk_drew ?_ | refine blk_alloc ?_ _)); exact BK383.out⟩, ⟨by (with_reducible repeat (first | refine blk_drewN ?_ _ | refine blk_drew ?_ | refine blk_alloc ?_ _)); exact BK384.out⟩, ⟨by (with_reducible repeat (first | refine blk_drewN ?_ _ | refine blk_drew ?_ | refine blk_alloc ?_ _)); exact BK385.out⟩, ⟨by repeat (first | (with_reducible first | exact HB.out | apply below_alloc | apply pw_below_drewN | apply below_drew1 | refine below_set ?_ GE383.out | refine below_set ?_ GE384.out | refine below_set ?_ GE385.out) | exact HB.out)⟩⟩
            · replace c42 := Bool.eq_false_iff.mpr c42
              subst c42
              have H1 : (ferruleref06_Next.j1 kj5 t388 l0_0 l0_1 a1_0 a1_1) = some (r1, r2, r3) := by rw [if_neg (show ¬ (false = true) by decide)] at H; exact H
              clear H
              have H := H1
              clear H1
              have H' := Aside0.mk H
              clear H
              go_wp2
              go_meet
              case rel => exact ⟨_, (t388), (by first | rfl | (simp; done) | (simp [*]; done)), H', ⟨by have := HJ5.out; first | omega | exact Nat.le_refl _⟩, ⟨by (with_reducible repeat (first | refine blk_drewN ?_ _ | refine blk_drew ?_ | refine blk_alloc ?_ _)); exact BK383.out⟩, ⟨by (with_reducible repeat (first | refine blk_drewN ?_ _ | refine blk_drew ?_ | refine blk_alloc ?_ _)); exact BK384.out⟩, ⟨by (with_reducible repeat (first | refine blk_drewN ?_ _ | refine blk_drew ?_ | refine blk_alloc ?_ _)); exact BK385.out⟩, ⟨by repeat (first | (with_reducible first | exact HB.out | apply below_alloc | apply pw_below_drewN | apply below_drew1 | refine below_set ?_ GE383.out | refine below_set ?_ GE384.out | refine below_set ?_ GE385.out) | exact HB.out)⟩⟩
          case rest =>
            clear HC38
            try clear c1
            try clear c2
            try clear p2
            try clear c3
            try clear c4
            try clear c5
            try clear c10
            try clear c11
            try clear c15
            try clear c17
            try clear c18
            try clear c18b0
            try clear c19
            try clear c20
            try clear c22
            try clear c22b0
            try clear c23
            try clear c24
            try clear c26
            try clear c26b0
            try clear c27
            try clear c28
            try clear c30
            try clear c31
            try clear c33
            try clear c34
            try clear c35
            try clear c37
            try clear c37b0
            try clear c37b1
            try clear c38
            try clear c39
            try clear c40
            try clear c42
            try clear hcz12_0
            try clear hcz12_1
            try clear hcz14_0
            try clear hcz14_1
            try clear hcz16_0
            try clear hcz16_1
            try clear hcz21_0
            try clear hcz21_1
            try clear hcz25_0
            try clear hcz25_1
            try clear hcz29_0
            try clear hcz29_1
            try clear hcz32_0
            try clear hcz32_1
            try clear hcz36_0
            try clear hcz36_1
            try clear hcz41_0
            try clear hcz41_1
            try clear hfz12_0
            try clear hfz12_1
            try clear hfz14_0
            try clear hfz14_1
            try clear hfz16_0
            try clear hfz16_1
            try clear hfz21_0
            try clear hfz21_1
            try clear hfz25_0
            try clear hfz25_1
            try clear hfz29_0
            try clear hfz29_1
            try clear hfz32_0
            try clear hfz32_1
            try clear hfz36_0
            try clear hfz36_1
            try clear hfz41_0
            try clear hfz41_1
            try clear p2
            obtain ⟨kq, x50_37, rfl, HA, HJ37, BK383, BK384, BK385, HB⟩ := hcut
            cases kq with
            | zero => exact absurd HA.out (by simp [ferruleref06_Next.j1])
            | succ kj37 =>
              have H := HA.out
              clear HA
              simp only [ferruleref06_Next.j1] at H
              by_cases c43 : x50_37 = true
              · subst c43
                have H1 : (some (([] : List Int), ([] : List Int), 8)) = some (r1, r2, r3) := by rw [if_pos rfl] at H; exact H
                clear H
                have H := H1
                clear H1
                simp only [Option.some.injEq, Prod.mk.injEq] at H
                obtain ⟨rfl, rfl, rfl⟩ := H
                have hnb44 := NB385_383.out
                have hnc44 := NB383_385.out
                have hnb45 := NB385_384.out
                have hnc45 := NB384_385.out
                have hcz46_0 : wc.cell? ⟨gb385, 0, none⟩ = some (.slice none 0 0) := (blk_cell BK385.out 0).trans rfl
                have hcz46_1 : wc.cell? ⟨gb385, 1, none⟩ = some (.slice none 0 0) := (blk_cell BK385.out 1).trans rfl
                have hfz46_0 := blk_frozen BK385.out 0
                have hfz46_1 := blk_frozen BK385.out 1
                go_wp2
                refine bodyPost_ret (results_ct rfl _ _ gb385 28 #[.slice none 0 0, .slice none 0 0] (0, 0) _ rfl (by (with_reducible repeat (first | refine blk_drewN ?_ _ | refine blk_drew ?_ | refine blk_alloc ?_ _)); refine blk_put (cs := #[.slice none 0 0, .slice none 0 0]) ?_ 1 _ rfl; (with_reducible repeat (first | refine blk_drewN ?_ _ | refine blk_drew ?_ | refine blk_alloc ?_ _)); refine blk_put (cs := #[.slice none 0 0, .slice none 0 0]) ?_ 0 _ rfl; (with_reducible repeat (first | refine blk_drewN ?_ _ | refine blk_drew ?_ | refine blk_alloc ?_ _)); exact BK385.out) Try.underlying28 rfl (by kernel_rfl)) rfl ?_
                exact ⟨_, _, by first | rfl | (simp [errW_none, errW_some] <;> rfl) | (simp [*, errW_none, errW_some] <;> rfl), by first | exact Kd.R_nil _ _ _ _ _ | exact Kd.N_nil _ _ _ _ _ | exact Kd.V_nil _ _ _ _ _ | exact Kd.Q_nil _ _ _ _ _ | exact Kd.S_nil _ _ _ _ _, by first | exact Kd.R_nil _ _ _ _ _ | exact Kd.N_nil _ _ _ _ _ | exact Kd.V_nil _ _ _ _ _ | exact Kd.Q_nil _ _ _ _ _ | exact Kd.S_nil _ _ _ _ _, by repeat (first | (with_reducible first | exact HB.out | apply below_alloc | apply pw_below_drewN | apply below_drew1 | refine below_set ?_ GE383.out | refine below_set ?_ GE384.out | refine below_set ?_ GE385.out) | exact HB.out)⟩
              · replace c43 := Bool.eq_false_iff.mpr c43
                subst c43
                have H1 : (if (l0_1.length : Int) ≥ 3 then (some (([] : List Int), ([] : List Int), 5)) else ((some (([] : List Int) : List Int)).bind fun y389 => (if y389.length + l0_0.length < 17592186044416 then ((ferruleref06_put.f kj37 l0_1 a1_1).bind fun t395 => (some ((y389 ++ l0_0), t395, 0))) else (none)))) = some (r1, r2, r3) := by rw [if_neg (show ¬ (false = true) by decide)] at H; exact H
                clear H
                have H := H1
                clear H1
                by_cases c47 : (l0_1.length : Int) ≥ 3
                · rw [if_pos c47] at H
                  have c47b0 : decide (3 ≤ (l0_1.length : Int)) = true := decide_eq_true c47
                  have c47b1 : decide (3 ≤ l0_1.length) = true := decide_eq_true (by omega)
                  clear c47
                  simp only [Option.some.injEq, Prod.mk.injEq] at H
                  obtain ⟨rfl, rfl, rfl⟩ := H
                  have hnb48 := NB383_384.out
                  have hnc48 := NB384_383.out
                  have hnb49 := NB383_385.out
                  have hnc49 := NB385_383.out
                  have hcz50_0 : wc.cell? ⟨gb383, 0, none⟩ = some (.slice A0_0 l0_0.length c0_0) := (blk_cell BK383.out 0).trans rfl
                  have hcz50_1 : wc.cell? ⟨gb383, 1, none⟩ = some (.slice A0_1 l0_1.length c0_1) := (blk_cell BK383.out 1).trans rfl
                  have hfz50_0 := blk_frozen BK383.out 0
                  have hfz50_1 := blk_frozen BK383.out 1
                  have hnb51 := NB385_384.out
                  have hnc51 := NB384_385.out
                  have hcz52_0 : wc.cell? ⟨gb385, 0, none⟩ = some (.slice none 0 0) := (blk_cell BK385.out 0).trans rfl
                  have hcz52_1 : wc.cell? ⟨gb385, 1, none⟩ = some (.slice none 0 0) := (blk_cell BK385.out 1).trans rfl
                  have hfz52_0 := blk_frozen BK385.out 0
                  have hfz52_1 := blk_frozen BK385.out 1
                  go_wp2
                  refine bodyPost_ret (results_ct rfl _ _ gb385 28 #[.slice none 0 0, .slice none 0 0] (0, 0) _ rfl (by (with_reducible repeat (first | refine blk_drewN ?_ _ | refine blk_drew ?_ | refine blk_alloc ?_ _)); refine blk_put (cs := #[.slice none 0 0, .slice none 0 0]) ?_ 1 _ rfl; (with_reducible repeat (first | refine blk_drewN ?_ _ | refine blk_drew ?_ | refine blk_alloc ?_ _)); refine blk_put (cs := #[.slice none 0 0, .slice none 0 0]) ?_ 0 _ rfl; (with_reducible repeat (first | refine blk_drewN ?_ _ | refine blk_drew ?_ | refine blk_alloc ?_ _)); exact BK385.out) Try.underlying28 rfl (by kernel_rfl)) rfl ?_
                  exact ⟨_, _, by first | rfl | (simp [errW_none, errW_some] <;> rfl) | (simp [*, errW_none, errW_some] <;> rfl), by first | exact Kd.R_nil _ _ _ _ _ | exact Kd.N_nil _ _ _ _ _ | exact Kd.V_nil _ _ _ _ _ | exact Kd.Q_nil _ _ _ _ _ | exact Kd.S_nil _ _ _ _ _, by first | exact Kd.R_nil _ _ _ _ _ | exact Kd.N_nil _ _ _ _ _ | exact Kd.V_nil _ _ _ _ _ | exact Kd.Q_nil _ _ _ _ _ | exact Kd.S_nil _ _ _ _ _, by repeat (first | (with_reducible first | exact HB.out | apply below_alloc | apply pw_below_drewN | apply below_drew1 | refine below_set ?_ GE383.out | refine below_set ?_ GE384.out | refine below_set ?_ GE385.out) | exact HB.out)⟩
                · rw [if_neg c47] at H
                  have c47b0 : decide (3 ≤ (l0_1.length : Int)) = false := decide_eq_false c47
                  have c47b1 : decide (3 ≤ l0_1.length) = false := decide_eq_false (by omega)
                  clear c47
                  obtain ⟨y389, hy389⟩ : ∃ y_ : List Int, y_ = (([] : List Int)) := ⟨_, rfl⟩
                  replace H : (if y389.length + l0_0.length < 17592186044416 then ((ferruleref06_put.f kj37 l0_1 a1_1).bind fun t395 => (some ((y389 ++ l0_0), t395, 0))) else (none)) = some (r1, r2, r3) := by first | (rw [hy389]; with_reducible exact H) | (have H2_ := (Option.bind_some _ _).symm.trans H; rw [hy389]; with_reducible exact H2_) | (have H2_ := (Option.bind_some _ _).symm.trans H; with_reducible exact H2_) | with_reducible exact H | (rw [hy389]; exact H) | exact H
                  have Ny389 := Aside0.mk hy389
                  clear hy389
                  by_cases c53 : y389.length + l0_0.length < 17592186044416
                  · rw [if_pos c53] at H
                    have LMc53 := Aside0.mk c53
                    clear c53
                    obtain ⟨y392, hy392⟩ : ∃ y_ : List Int, y_ = (y389 ++ l0_0) := ⟨_, rfl⟩
                    replace H : ((ferruleref06_put.f kj37 l0_1 a1_1).bind fun t395 => (some (y392, t395, 0))) = some (r1, r2, r3) := by first | (rw [hy392]; with_reducible exact H) | (have H2_ := (Option.bind_some _ _).symm.trans H; rw [hy392]; with_reducible exact H2_) | (have H2_ := (Option.bind_some _ _).symm.trans H; with_reducible exact H2_) | with_reducible exact H | (rw [hy392]; exact H) | exact H
                    have Ny392 := Aside0.mk hy392
                    clear hy392
                    replace H := Option.bind_eq_some_iff.mp H
                    obtain ⟨t395, A540, H⟩ := H
                    replace H : (some (y392, t395, 0)) = some (r1, r2, r3) := H
                    have A54 := Aside0.mk A540
                    clear A540
                    simp only [Option.some.injEq, Prod.mk.injEq] at H
                    obtain ⟨rfl, rfl, rfl⟩ := H
                    have hnb55 := NB383_384.out
                    have hnc55 := NB384_383.out
                    have hnb56 := NB383_385.out
                    have hnc56 := NB385_383.out
                    have hcz57_0 : wc.cell? ⟨gb383, 0, none⟩ = some (.slice A0_0 l0_0.length c0_0) := (blk_cell BK383.out 0).trans rfl
                    have hcz57_1 : wc.cell? ⟨gb383, 1, none⟩ = some (.slice A0_1 l0_1.length c0_1) := (blk_cell BK383.out 1).trans rfl
                    have hfz57_0 := blk_frozen BK383.out 0
                    have hfz57_1 := blk_frozen BK383.out 1
                    try go_wp2
                    have n0_ := Aside0.mk (blk_drew BK383.out)
                    have n1_ := Aside0.mk (blk_drew BK384.out)
                    have n2_ := Aside0.mk (blk_drew BK385.out)
                    have n3_ := Aside0.mk (below_drew1 HB.out)
                    clear BK383
                    clear BK384
                    clear BK385
                    clear HB
                    have BK383 := n0_
                    have BK384 := n1_
                    have BK385 := n2_
                    have HB := n3_
                    clear n0_ n1_ n2_ n3_
                    refine start_ (n := 12) (S := fun w' => w'.cell? ⟨gb383, 0, none⟩ = some (.slice A0_0 l0_0.length c0_0) ∧ w'.cell? ⟨gb383, 1, none⟩ = some (.slice A0_1 l0_1.length c0_1) ∧ w'.cell? ⟨gb384, 0, none⟩ = some (.int .i64 a1_0) ∧ w'.cell? ⟨gb384, 1, none⟩ = some (.int .u64 a1_1)) (ds := []) #[false, false, false, false, false, false, false, false, false, false, false, false] (by kernel_rfl) rfl rfl ⟨(blk_cell BK383.out 0).trans rfl, (blk_cell BK383.out 1).trans rfl, (blk_cell BK384.out 0).trans rfl, (blk_cell BK384.out 1).trans rfl⟩ (fun hHeld => ?_); refine with_tabW ferruleref06_Next.tab11 ferruleref06_Next.bits11 (fun HT_ HW_ => ?_)
                    generalize wc.drew = w58 at BK383 BK384 BK385 HB hHeld ⊢
                    refine pure_ (i := 1) (N := some 58) (v := ?_) (a' := ?_) #[false, true, false, false, false, false, false, false, false, false, false, false] rfl rfl (any_of HT_.out (by kernel_rfl)) (fun _ _ _ h => h) (Or.inl ⟨by rfl, ?_⟩) ?_ ?_
                    rotate_left
                    · intro w'
                      go_simp
                      with_reducible rfl
                    rotate_left
                    · simp only [Act.put, List.setIfInBounds_toArray, List.set_cons_zero, List.set_cons_succ, i64_w, i32_w]
                      rfl
                    refine pure_ (i := 4) (N := some 61) (v := ?_) (a' := ?_) #[false, true, false, false, true, false, false, false, false, false, false, false] rfl rfl (any_of HT_.out (by kernel_rfl)) (fun _ _ _ h => h) (Or.inl ⟨by rfl, ?_⟩) ?_ ?_
                    rotate_left
                    · intro w'
                      go_simp
                      with_reducible rfl
                    rotate_left
                    · simp only [Act.put, List.setIfInBounds_toArray, List.set_cons_zero, List.set_cons_succ, i64_w, i32_w]
                      rfl
                    refine pure_ (i := 6) (N := some 63) (v := ?_) (a' := ?_) #[false, true, false, false, true, false, true, false, false, false, false, false] rfl rfl (any_of HT_.out (by kernel_rfl)) (fun _ _ _ h => h) (Or.inl ⟨by rfl, ?_⟩) ?_ ?_
                    rotate_left
                    · intro w'
                      go_simp
                      with_reducible rfl
                    rotate_left
                    · simp only [Act.put, List.setIfInBounds_toArray, List.set_cons_zero, List.set_cons_succ, i64_w, i32_w]
                      rfl
                    refine take_ (i := 2) (N := some 59) (v := ?_) (a' := ?_) #[false, true, true, false, true, false, true, false, false, false, false, false] rfl rfl (take_ofW HT_.out HW_.out (by kernel_rfl)) (fun _ _ _ h => h) (Or.inl ⟨by rfl, ?_⟩) hHeld ?_ ?_
                    rotate_left
                    · rintro w' ⟨s0, s1, s2, s3⟩
                      go_simp
                      with_reducible rfl
                    rotate_left
                    · simp only [Act.put, List.setIfInBounds_toArray, List.set_cons_zero, List.set_cons_succ, i64_w, i32_w]
                      rfl
                    refine take_ (i := 5) (N := some 62) (v := ?_) (a' := ?_) #[false, true, true, false, true, true, true, false, false, false, false, false] rfl rfl (take_ofW HT_.out HW_.out (by kernel_rfl)) (fun _ _ _ h => h) (Or.inl ⟨by rfl, ?_⟩) hHeld ?_ ?_
                    rotate_left
                    · rintro w' ⟨s0, s1, s2, s3⟩
                      go_simp
                      with_reducible rfl
                    rotate_left
                    · simp only [Act.put, List.setIfInBounds_toArray, List.set_cons_zero, List.set_cons_succ, i64_w, i32_w]
                      rfl
                    refine take_ (i := 7) (N := some 64) (v := ?_) (a' := ?_) #[false, true, true, false, true, true, true, true, false, false, false, false] rfl rfl (take_ofW HT_.out HW_.out (by kernel_rfl)) (fun _ _ _ h => h) (Or.inl ⟨by rfl, ?_⟩) hHeld ?_ ?_
                    rotate_left
                    · rintro w' ⟨s0, s1, s2, s3⟩
                      go_simp
                      with_reducible rfl
                    rotate_left
                    · simp only [Act.put, List.setIfInBounds_toArray, List.set_cons_zero, List.set_cons_succ, i64_w, i32_w]
                      rfl
                    refine one_ (i := 0) (N := some 57) #[true, true, true, false, true, true, true, true, false, false, false, false] rfl rfl (one_of HT_.out (by kernel_rfl)) (by decide) (fun K hK => ?_)
                    refine Kd.R_lit_step (Kd.int .u64) _ 22 ?hg (N := 57) ?hd (xs := ([] : List Int)) (inner := []) (ok := fun _ => True) (okp := fun _ => True) ?hr ?hp (fun _ hk => hk) trivial (Below.refl _ _) (Nat.le_refl _) (by simp) ?_; (case hd => rfl); (case hg => rfl); (case hr => first | (go_simp; done) | (go_simp; rfl)); (case hp => exact (Reps.none _ _))
                    intro v390 w59 ho60 hb hg_ hnew_
                    clear hg_ hnew_
                    (first | rw [← Ny389.out] at ho60 | (simp only [Int.reduceToNat] at ho60; rw [← Ny389.out] at ho60))
                    have n0_ := Aside0.mk (Kd.R_lower ho60 (below_size (by repeat (first | (with_reducible first | exact HB.out | apply below_alloc | apply pw_below_drewN | apply below_drew1 | refine below_set ?_ GE383.out | refine below_set ?_ GE384.out | refine below_set ?_ GE385.out) | exact HB.out))))
                    have n1_ := Aside0.mk (blk_below (g := gb383) (o := .cells #[.slice A0_0 l0_0.length c0_0, .slice A0_1 l0_1.length c0_1] 28 (0, 0)) (by (with_reducible repeat (first | refine blk_drewN ?_ _ | refine blk_drew ?_ | refine blk_alloc ?_ _)); exact BK383.out) hb)
                    have n2_ := Aside0.mk (blk_below (g := gb384) (o := .cells #[.int .i64 a1_0, .int .u64 a1_1] 47 (0, 0)) (by (with_reducible repeat (first | refine blk_drewN ?_ _ | refine blk_drew ?_ | refine blk_alloc ?_ _)); exact BK384.out) hb)
                    have n3_ := Aside0.mk (blk_below (g := gb385) (o := .cells #[.slice none 0 0, .slice none 0 0] 28 (0, 0)) (by (with_reducible repeat (first | refine blk_drewN ?_ _ | refine blk_drew ?_ | refine blk_alloc ?_ _)); exact BK385.out) hb)
                    have n4_ := Aside0.mk (below_step (by repeat (first | (with_reducible first | exact HB.out | apply below_alloc | apply pw_below_drewN | apply below_drew1 | refine below_set ?_ GE383.out | refine below_set ?_ GE384.out | refine below_set ?_ GE385.out) | exact HB.out)) hb)
                    clear BK383
                    clear BK384
                    clear BK385
                    clear HB
                    have HO391 := n0_
                    have BK383 := n1_
                    have BK384 := n2_
                    have BK385 := n3_
                    have HB := n4_
                    clear n0_ n1_ n2_ n3_ n4_
                    clear hb ho60
                    refine hK.out _ _ ⟨(blk_cell BK383.out 0).trans rfl, (blk_cell BK383.out 1).trans rfl, (blk_cell BK384.out 0).trans rfl, (blk_cell BK384.out 1).trans rfl⟩ (fun hHeld => ?_)
                    clear hK K
                    refine norm_ (a' := ?_) ?_ ?_
                    rotate_left
                    · show Act.put _ (some 57) _ = _
                      simp only [Act.put, List.setIfInBounds_toArray, List.set_cons_zero, List.set_cons_succ, i64_w, i32_w]
                      rfl
                    refine one_ (i := 3) (N := some 60) #[true, true, true, true, true, true, true, true, false, false, false, false] rfl rfl (one_of HT_.out (by kernel_rfl)) (by decide) (fun K hK => ?_)
                    refine Kd.R_append_rows_step (Kd.int .u64) (w0 := w) w.heap.size (by rfl) (.tmp 57) (.tmp 59) 26 22 (.int .u64 0) 8 rfl Try.underlying26 info22 rfl (by decide) (by omega) v390 y389 l0_0 _ _ _ (fun _ => True) (fun _ => False) rfl rfl ?aO ?aR (fun _ _ h => h) (fun _ h => h.elim) ?aF ?aB ?aS ?aL ?_
                    (case aR => repeat (first | exact (Kd.C_below HR0_0.out HB.out) | (with_reducible refine Kd.C_alloc ?_ _) | (with_reducible refine Kd.C_drewN ?_ _) | (with_reducible refine Kd.C_drew ?_)))
                    (case aB => exact (by repeat (first | (with_reducible first | exact HB.out | apply below_alloc | apply pw_below_drewN | apply below_drew1 | refine below_set ?_ GE383.out | refine below_set ?_ GE384.out | refine below_set ?_ GE385.out) | exact HB.out)))
                    (case aF => exact (fun _ _ => trivial))
                    (case aO => exact (by (with_reducible repeat (first | apply Kd.R_alloc | apply Kd.R_drewN | apply Kd.R_drew)); exact HO391.out))
                    (case aS => exact (below_size (by repeat (first | (with_reducible first | exact HB.out | apply below_alloc | apply pw_below_drewN | apply below_drew1 | refine below_set ?_ GE383.out | refine below_set ?_ GE384.out | refine below_set ?_ GE385.out) | exact HB.out))))
                    (case aL => have := LMc53.out; omega)
                    intro v393 w61 ho hb hg hat
                    rw [← Ny392.out] at ho
                    have n0_ := Aside0.mk (blk_grown (g := gb383) (o := .cells #[.slice A0_0 l0_0.length c0_0, .slice A0_1 l0_1.length c0_1] 28 (0, 0)) (by (with_reducible repeat (first | refine blk_drewN ?_ _ | refine blk_drew ?_ | refine blk_alloc ?_ _)); exact BK383.out) hg (Kd.R_ne HO391.out BK383.out (by decide)))
                    have n1_ := Aside0.mk (blk_grown (g := gb384) (o := .cells #[.int .i64 a1_0, .int .u64 a1_1] 47 (0, 0)) (by (with_reducible repeat (first | refine blk_drewN ?_ _ | refine blk_drew ?_ | refine blk_alloc ?_ _)); exact BK384.out) hg (Kd.R_ne HO391.out BK384.out (by decide)))
                    have n2_ := Aside0.mk (blk_grown (g := gb385) (o := .cells #[.slice none 0 0, .slice none 0 0] 28 (0, 0)) (by (with_reducible repeat (first | refine blk_drewN ?_ _ | refine blk_drew ?_ | refine blk_alloc ?_ _)); exact BK385.out) hg (Kd.R_ne HO391.out BK385.out (by decide)))
                    have n3_ := Aside0.mk (hb)
                    have n4_ := Aside0.mk (ho)
                    clear BK383
                    clear BK384
                    clear BK385
                    clear HB
                    clear HO391
                    have BK383 := n0_
                    have BK384 := n1_
                    have BK385 := n2_
                    have HB := n3_
                    have HO394 := n4_
                    clear n0_ n1_ n2_ n3_ n4_
                    clear ho hb hg hat
                    refine hK.out _ _ ⟨(blk_cell BK383.out 0).trans rfl, (blk_cell BK383.out 1).trans rfl, (blk_cell BK384.out 0).trans rfl, (blk_cell BK384.out 1).trans rfl⟩ (fun hHeld => ?_)
                    clear hK K
                    refine norm_ (a' := ?_) ?_ ?_
                    rotate_left
                    · show Act.put _ (some 60) _ = _
                      simp only [Act.put, List.setIfInBounds_toArray, List.set_cons_zero, List.set_cons_succ, i64_w, i32_w]
                      rfl
                    refine one_ (i := 8) (N := some 65) #[true, true, true, true, true, true, true, true, true, false, false, false] rfl rfl (one_of HT_.out (by kernel_rfl)) (by decide) (fun K hK => ?_)
                    refine goes_ Try.func64 (by kernel_rfl) rfl #[.slice A0_1 l0_1.length c0_1, .int .u64 a1_1] (by rfl) rfl rfl (by (try simp only [List.map_toArray, List.map_cons, List.map_nil]); first | done | rfl | (simp only [List.length_drop, List.length_take]; rfl)) ?_
                    with_reducible refine (ferruleref06_put.calls kj37 _ _ l0_1 a1_1 t395 _ ?side1 ?side2 A54.out).mono ?_
                    (case side1 => repeat (first | exact (Kd.C_below HR0_1.out HB.out) | (with_reducible refine Kd.C_alloc ?_ _) | (with_reducible refine Kd.C_drewN ?_ _) | (with_reducible refine Kd.C_drew ?_)))
                    (case side2 => exact HC0_1.out)
                    rintro e w62 ⟨v396, rfl, ho0, hb⟩
                    refine ⟨_, rfl, ?_⟩
                    have n0_ := Aside0.mk (Kd.R_elder' (by (with_reducible repeat (first | apply Kd.R_alloc | apply Kd.R_drewN | apply Kd.R_drew)); exact HO394.out) (Kd.R_base ho0) hb)
                    have n1_ := Aside0.mk (Kd.R_lower (Kd.R_new' ho0 (Kd.R_lt (by (with_reducible repeat (first | apply Kd.R_alloc | apply Kd.R_drewN | apply Kd.R_drew)); exact HO394.out))) (below_size (by repeat (first | (with_reducible first | exact HB.out | apply below_alloc | apply pw_below_drewN | apply below_drew1 | refine below_set ?_ GE383.out | refine below_set ?_ GE384.out | refine below_set ?_ GE385.out) | exact HB.out))))
                    have n2_ := Aside0.mk (blk_below (g := gb383) (o := .cells #[.slice A0_0 l0_0.length c0_0, .slice A0_1 l0_1.length c0_1] 28 (0, 0)) (by (with_reducible repeat (first | refine blk_drewN ?_ _ | refine blk_drew ?_ | refine blk_alloc ?_ _)); exact BK383.out) hb)
                    have n3_ := Aside0.mk (blk_below (g := gb384) (o := .cells #[.int .i64 a1_0, .int .u64 a1_1] 47 (0, 0)) (by (with_reducible repeat (first | refine blk_drewN ?_ _ | refine blk_drew ?_ | refine blk_alloc ?_ _)); exact BK384.out) hb)
                    have n4_ := Aside0.mk (blk_below (g := gb385) (o := .cells #[.slice none 0 0, .slice none 0 0] 28 (0, 0)) (by (with_reducible repeat (first | refine blk_drewN ?_ _ | refine blk_drew ?_ | refine blk_alloc ?_ _)); exact BK385.out) hb)
                    have n5_ := Aside0.mk (below_step (by repeat (first | (with_reducible first | exact HB.out | apply below_alloc | apply pw_below_drewN | apply below_drew1 | refine below_set ?_ GE383.out | refine below_set ?_ GE384.out | refine below_set ?_ GE385.out) | exact HB.out)) hb)
                    clear HO394
                    clear BK383
                    clear BK384
                    clear BK385
                    clear HB
                    have HO394 := n0_
                    have HO397 := n1_
                    have BK383 := n2_
                    have BK384 := n3_
                    have BK385 := n4_
                    have HB := n5_
                    clear n0_ n1_ n2_ n3_ n4_ n5_
                    (try clear hb)
                    (try clear hb2)
                    (try clear hk)
                    (try clear hi)
                    (try clear ho0)
                    obtain ⟨Ao63, co63, eo63⟩ := Kd.R_slice HO397.out
                    (first | subst eo63 | (injection eo63 with f1_ f2_ f3_; have f4_ := f1_.symm; have f5_ := f3_.symm; clear f1_ f2_ f3_; subst f4_; subst f5_))
                    obtain ⟨Ao64, co64, eo64⟩ := Kd.R_slice HO394.out
                    (first | subst eo64 | (injection eo64 with f1_ f2_ f3_; have f4_ := f1_.symm; have f5_ := f3_.symm; clear f1_ f2_ f3_; subst f4_; subst f5_))
                    refine hK.out _ _ ⟨(blk_cell BK383.out 0).trans rfl, (blk_cell BK383.out 1).trans rfl, (blk_cell BK384.out 0).trans rfl, (blk_cell BK384.out 1).trans rfl⟩ (fun hHeld => ?_)
                    clear hK K
                    refine norm_ (a' := ?_) ?_ ?_
                    rotate_left
                    · show Act.put _ (some 65) _ = _
                      simp only [Act.put, List.setIfInBounds_toArray, List.set_cons_zero, List.set_cons_succ, i64_w, i32_w]
                      rfl
                    refine pure_ (i := 9) (N := some 66) (v := ?_) (a' := ?_) #[true, true, true, true, true, true, true, true, true, true, false, false] rfl rfl (any_of HT_.out (by kernel_rfl)) (fun _ _ _ h => h) (Or.inl ⟨by rfl, ?_⟩) ?_ ?_
                    rotate_left
                    · intro w'
                      go_simp
                      with_reducible rfl
                    rotate_left
                    · simp only [Act.put, List.setIfInBounds_toArray, List.set_cons_zero, List.set_cons_succ, i64_w, i32_w]
                      rfl
                    refine one_ (i := 10) (N := none) #[true, true, true, true, true, true, true, true, true, true, true, false] rfl rfl (one_of HT_.out (by kernel_rfl)) (by decide) (fun K hK => ?_)
                    have hs65 : w62.cell? ⟨gb385, 0, none⟩ = some (.slice none 0 0) := (blk_cell BK385.out 0).trans rfl
                    have hfs65 := blk_frozen BK385.out 0
                    have hns65_0 := NB383_385.out
                    have hns65_1 := NB384_385.out
                    have hms65_0 := NB385_383.out
                    have hms65_1 := NB385_384.out
                    have hs66 : w62.cell? ⟨gb385, 1, none⟩ = some (.slice none 0 0) := (blk_cell BK385.out 1).trans rfl
                    have hfs66 := blk_frozen BK385.out 1
                    have hns66_0 := NB383_385.out
                    have hns66_1 := NB384_385.out
                    have hms66_0 := NB385_383.out
                    have hms66_1 := NB385_384.out
                    refine skip_ (w1 := ?_) (by rfl) rfl ?_ ?_
                    rotate_left
                    · go_simp
                      rfl
                    refine hK.out _ _ ⟨((cell_far (p := ⟨gb385, _, none⟩) NB383_385.out _).trans (((cell_far (p := ⟨gb385, _, none⟩) NB383_385.out _).trans (hHeld.1)))), ((cell_far (p := ⟨gb385, _, none⟩) NB383_385.out _).trans (((cell_far (p := ⟨gb385, _, none⟩) NB383_385.out _).trans (hHeld.2.1)))), ((cell_far (p := ⟨gb385, _, none⟩) NB384_385.out _).trans (((cell_far (p := ⟨gb385, _, none⟩) NB384_385.out _).trans (hHeld.2.2.1)))), ((cell_far (p := ⟨gb385, _, none⟩) NB384_385.out _).trans (((cell_far (p := ⟨gb385, _, none⟩) NB384_385.out _).trans (hHeld.2.2.2))))⟩ (fun hHeld => ?_)
                    clear hK K
                    refine pure_ (i := 11) (N := some 5) (v := ?_) (a' := ?_) #[true, true, true, true, true, true, true, true, true, true, true, true] rfl rfl (any_of HT_.out (by kernel_rfl)) (fun _ _ _ h => h) (Or.inl ⟨by rfl, ?_⟩) ?_ ?_
                    rotate_left
                    · intro w'
                      go_simp
                      with_reducible rfl
                    rotate_left
                    · simp only [Act.put, List.setIfInBounds_toArray, List.set_cons_zero, List.set_cons_succ, i64_w, i32_w]
                      rfl
                    refine done_ (done_of HT_.out (by kernel_rfl)) ?_
                    try go_wp2
                    refine bodyPost_ret (results_ct rfl _ _ gb385 28 #[.slice Ao64 y392.length co64, .slice Ao63 t395.length co63] (0, 0) _ rfl (by (with_reducible repeat (first | refine blk_drewN ?_ _ | refine blk_drew ?_ | refine blk_alloc ?_ _)); refine blk_put (cs := #[.slice Ao64 y392.length co64, .slice none 0 0]) ?_ 1 _ rfl; (with_reducible repeat (first | refine blk_drewN ?_ _ | refine blk_drew ?_ | refine blk_alloc ?_ _)); refine blk_put (cs := #[.slice none 0 0, .slice none 0 0]) ?_ 0 _ rfl; (with_reducible repeat (first | refine blk_drewN ?_ _ | refine blk_drew ?_ | refine blk_alloc ?_ _)); exact BK385.out) Try.underlying28 rfl (by kernel_rfl)) rfl ?_
                    exact ⟨_, _, by first | rfl | (simp [errW_none, errW_some] <;> rfl) | (simp [*, errW_none, errW_some] <;> rfl), by (with_reducible repeat (first | apply Kd.R_alloc | apply Kd.R_drewN | apply Kd.R_drew)); exact Kd.R_mono (Kd.R_far (p := ⟨gb385, 1, none⟩) (Kd.R_far (p := ⟨gb385, 0, none⟩) (Kd.R_types HO394.out BK385.out (by decide)) (fun _ hk => hk.2) (.slice Ao64 y392.length co64)) (fun _ hk => hk.2) (.slice Ao63 t395.length co63)) (fun _ hk => hk.1.2), by (with_reducible repeat (first | apply Kd.R_alloc | apply Kd.R_drewN | apply Kd.R_drew)); exact Kd.R_mono (Kd.R_far (p := ⟨gb385, 1, none⟩) (Kd.R_far (p := ⟨gb385, 0, none⟩) (Kd.R_types HO397.out BK385.out (by decide)) (fun _ hk => hk.2) (.slice Ao64 y392.length co64)) (fun _ hk => hk.2) (.slice Ao63 t395.length co63)) (fun _ hk => hk.1.2), by repeat (first | (with_reducible first | exact HB.out | apply below_alloc | apply pw_below_drewN | apply below_drew1 | refine below_set ?_ GE383.out | refine below_set ?_ GE384.out | refine below_set ?_ GE385.out) | exact HB.out)⟩
                  · rw [if_neg c53] at H
                    exact absurd H (by simp)
        · rw [if_neg c37] at H
          have c37b0 : (a1_0 == 1) = false := beq_eq_false_iff_ne.mpr c37
          have c37b1 : (a1_0 != 1) = true := bne_iff_ne.mpr c37
          by_cases c67 : a1_0 = 2
          · rw [if_pos c67] at H
            have c67b0 : (a1_0 == 2) = true := beq_iff_eq.mpr c67
            have c67b1 : (a1_0 != 2) = false := bne_eq_false_iff_eq.mpr c67
            clear c67
            by_cases c68 : t388 = true
            · subst c68
              have H1 : (if (l0_0.length : Int) ≥ 7 then (some (([] : List Int), ([] : List Int), 5)) else ((ferruleref06_put.f kj5 l0_0 a1_1).bind fun t398 => ((ferruleref06_less.f kj5 l0_1 a1_1).bind fun t401 => (some (t398, t401, 0))))) = some (r1, r2, r3) := by rw [if_pos rfl] at H; exact H
              clear H
              have H := H1
              clear H1
              by_cases c69 : (l0_0.length : Int) ≥ 7
              · rw [if_pos c69] at H
                have c69b0 : decide (7 ≤ (l0_0.length : Int)) = true := decide_eq_true c69
                have c69b1 : decide (7 ≤ l0_0.length) = true := decide_eq_true (by omega)
                clear c69
                simp only [Option.some.injEq, Prod.mk.injEq] at H
                obtain ⟨rfl, rfl, rfl⟩ := H
                have hnb70 := NB384_383.out
                have hnc70 := NB383_384.out
                have hnb71 := NB384_385.out
                have hnc71 := NB385_384.out
                have hcz72_0 : wc.cell? ⟨gb384, 0, none⟩ = some (.int .i64 a1_0) := (blk_cell BK384.out 0).trans rfl
                have hcz72_1 : wc.cell? ⟨gb384, 1, none⟩ = some (.int .u64 a1_1) := (blk_cell BK384.out 1).trans rfl
                have hfz72_0 := blk_frozen BK384.out 0
                have hfz72_1 := blk_frozen BK384.out 1
                have hnb73 := NB383_385.out
                have hnc73 := NB385_383.out
                have hcz74_0 : wc.cell? ⟨gb383, 0, none⟩ = some (.slice A0_0 l0_0.length c0_0) := (blk_cell BK383.out 0).trans rfl
                have hcz74_1 : wc.cell? ⟨gb383, 1, none⟩ = some (.slice A0_1 l0_1.length c0_1) := (blk_cell BK383.out 1).trans rfl
                have hfz74_0 := blk_frozen BK383.out 0
                have hfz74_1 := blk_frozen BK383.out 1
                have hcz75_0 : wc.cell? ⟨gb385, 0, none⟩ = some (.slice none 0 0) := (blk_cell BK385.out 0).trans rfl
                have hcz75_1 : wc.cell? ⟨gb385, 1, none⟩ = some (.slice none 0 0) := (blk_cell BK385.out 1).trans rfl
                have hfz75_0 := blk_frozen BK385.out 0
                have hfz75_1 := blk_frozen BK385.out 1
                go_wp2
                refine bodyPost_ret (results_ct rfl _ _ gb385 28 #[.slice none 0 0, .slice none 0 0] (0, 0) _ rfl (by (with_reducible repeat (first | refine blk_drewN ?_ _ | refine blk_drew ?_ | refine blk_alloc ?_ _)); refine blk_put (cs := #[.slice none 0 0, .slice none 0 0]) ?_ 1 _ rfl; (with_reducible repeat (first | refine blk_drewN ?_ _ | refine blk_drew ?_ | refine blk_alloc ?_ _)); refine blk_put (cs := #[.slice none 0 0, .slice none 0 0]) ?_ 0 _ rfl; (with_reducible repeat (first | refine blk_drewN ?_ _ | refine blk_drew ?_ | refine blk_alloc ?_ _)); exact BK385.out) Try.underlying28 rfl (by kernel_rfl)) rfl ?_
                exact ⟨_, _, by first | rfl | (simp [errW_none, errW_some] <;> rfl) | (simp [*, errW_none, errW_some] <;> rfl), by first | exact Kd.R_nil _ _ _ _ _ | exact Kd.N_nil _ _ _ _ _ | exact Kd.V_nil _ _ _ _ _ | exact Kd.Q_nil _ _ _ _ _ | exact Kd.S_nil _ _ _ _ _, by first | exact Kd.R_nil _ _ _ _ _ | exact Kd.N_nil _ _ _ _ _ | exact Kd.V_nil _ _ _ _ _ | exact Kd.Q_nil _ _ _ _ _ | exact Kd.S_nil _ _ _ _ _, by repeat (first | (with_reducible first | exact HB.out | apply below_alloc | apply pw_below_drewN | apply below_drew1 | refine below_set ?_ GE383.out | refine below_set ?_ GE384.out | refine below_set ?_ GE385.out) | exact HB.out)⟩
              · rw [if_neg c69] at H
                have c69b0 : decide (7 ≤ (l0_0.length : Int)) = false := decide_eq_false c69
                have c69b1 : decide (7 ≤ l0_0.length) = false := decide_eq_false (by omega)
                clear c69
                replace H := Option.bind_eq_some_iff.mp H
                obtain ⟨t398, A760, H⟩ := H
                replace H : ((ferruleref06_less.f kj5 l0_1 a1_1).bind fun t401 => (some (t398, t401, 0))) = some (r1, r2, r3) := H
                have A76 := Aside0.mk A760
                clear A760
                replace H := Option.bind_eq_some_iff.mp H
                obtain ⟨t401, A770, H⟩ := H
                replace H : (some (t398, t401, 0)) = some (r1, r2, r3) := H
                have A77 := Aside0.mk A770
                clear A770
                simp only [Option.some.injEq, Prod.mk.injEq] at H
                obtain ⟨rfl, rfl, rfl⟩ := H
                have hnb78 := NB384_383.out
                have hnc78 := NB383_384.out
                have hnb79 := NB384_385.out
                have hnc79 := NB385_384.out
                have hcz80_0 : wc.cell? ⟨gb384, 0, none⟩ = some (.int .i64 a1_0) := (blk_cell BK384.out 0).trans rfl
                have hcz80_1 : wc.cell? ⟨gb384, 1, none⟩ = some (.int .u64 a1_1) := (blk_cell BK384.out 1).trans rfl
                have hfz80_0 := blk_frozen BK384.out 0
                have hfz80_1 := blk_frozen BK384.out 1
                have hnb81 := NB383_385.out
                have hnc81 := NB385_383.out
                have hcz82_0 : wc.cell? ⟨gb383, 0, none⟩ = some (.slice A0_0 l0_0.length c0_0) := (blk_cell BK383.out 0).trans rfl
                have hcz82_1 : wc.cell? ⟨gb383, 1, none⟩ = some (.slice A0_1 l0_1.length c0_1) := (blk_cell BK383.out 1).trans rfl
                have hfz82_0 := blk_frozen BK383.out 0
                have hfz82_1 := blk_frozen BK383.out 1
                try go_wp2
                have n0_ := Aside0.mk (blk_drew BK383.out)
                have n1_ := Aside0.mk (blk_drew BK384.out)
                have n2_ := Aside0.mk (blk_drew BK385.out)
                have n3_ := Aside0.mk (below_drew1 HB.out)
                clear BK383
                clear BK384
                clear BK385
                clear HB
                have BK383 := n0_
                have BK384 := n1_
                have BK385 := n2_
                have HB := n3_
                clear n0_ n1_ n2_ n3_
                refine start_ (n := 13) (S := fun w' => w'.cell? ⟨gb383, 0, none⟩ = some (.slice A0_0 l0_0.length c0_0) ∧ w'.cell? ⟨gb383, 1, none⟩ = some (.slice A0_1 l0_1.length c0_1) ∧ w'.cell? ⟨gb384, 0, none⟩ = some (.int .i64 a1_0) ∧ w'.cell? ⟨gb384, 1, none⟩ = some (.int .u64 a1_1)) (ds := []) #[false, false, false, false, false, false, false, false, false, false, false, false, false] (by kernel_rfl) rfl rfl ⟨(blk_cell BK383.out 0).trans rfl, (blk_cell BK383.out 1).trans rfl, (blk_cell BK384.out 0).trans rfl, (blk_cell BK384.out 1).trans rfl⟩ (fun hHeld => ?_); refine with_tabW ferruleref06_Next.tab17 ferruleref06_Next.bits17 (fun HT_ HW_ => ?_)
                generalize wc.drew = w83 at BK383 BK384 BK385 HB hHeld ⊢
                refine pure_ (i := 0) (N := some 78) (v := ?_) (a' := ?_) #[true, false, false, false, false, false, false, false, false, false, false, false, false] rfl rfl (any_of HT_.out (by kernel_rfl)) (fun _ _ _ h => h) (Or.inl ⟨by rfl, ?_⟩) ?_ ?_
                rotate_left
                · intro w'
                  go_simp
                  with_reducible rfl
                rotate_left
                · simp only [Act.put, List.setIfInBounds_toArray, List.set_cons_zero, List.set_cons_succ, i64_w, i32_w]
                  rfl
                refine pure_ (i := 2) (N := some 80) (v := ?_) (a' := ?_) #[true, false, true, false, false, false, false, false, false, false, false, false, false] rfl rfl (any_of HT_.out (by kernel_rfl)) (fun _ _ _ h => h) (Or.inl ⟨by rfl, ?_⟩) ?_ ?_
                rotate_left
                · intro w'
                  go_simp
                  with_reducible rfl
                rotate_left
                · simp only [Act.put, List.setIfInBounds_toArray, List.set_cons_zero, List.set_cons_succ, i64_w, i32_w]
                  rfl
                refine pure_ (i := 5) (N := some 83) (v := ?_) (a' := ?_) #[true, false, true, false, false, true, false, false, false, false, false, false, false] rfl rfl (any_of HT_.out (by kernel_rfl)) (fun _ _ _ h => h) (Or.inl ⟨by rfl, ?_⟩) ?_ ?_
                rotate_left
                · intro w'
                  go_simp
                  with_reducible rfl
                rotate_left
                · simp only [Act.put, List.setIfInBounds_toArray, List.set_cons_zero, List.set_cons_succ, i64_w, i32_w]
                  rfl
                refine pure_ (i := 7) (N := some 85) (v := ?_) (a' := ?_) #[true, false, true, false, false, true, false, true, false, false, false, false, false] rfl rfl (any_of HT_.out (by kernel_rfl)) (fun _ _ _ h => h) (Or.inl ⟨by rfl, ?_⟩) ?_ ?_
                rotate_left
                · intro w'
                  go_simp
                  with_reducible rfl
                rotate_left
                · simp only [Act.put, List.setIfInBounds_toArray, List.set_cons_zero, List.set_cons_succ, i64_w, i32_w]
                  rfl
                refine take_ (i := 1) (N := some 79) (v := ?_) (a' := ?_) #[true, true, true, false, false, true, false, true, false, false, false, false, false] rfl rfl (take_ofW HT_.out HW_.out (by kernel_rfl)) (fun _ _ _ h => h) (Or.inl ⟨by rfl, ?_⟩) hHeld ?_ ?_
                rotate_left
                · rintro w' ⟨s0, s1, s2, s3⟩
                  go_simp
                  with_reducible rfl
                rotate_left
                · simp only [Act.put, List.setIfInBounds_toArray, List.set_cons_zero, List.set_cons_succ, i64_w, i32_w]
                  rfl
                refine take_ (i := 3) (N := some 81) (v := ?_) (a' := ?_) #[true, true, true, true, false, true, false, true, false, false, false, false, false] rfl rfl (take_ofW HT_.out HW_.out (by kernel_rfl)) (fun _ _ _ h => h) (Or.inl ⟨by rfl, ?_⟩) hHeld ?_ ?_
                rotate_left
                · rintro w' ⟨s0, s1, s2, s3⟩
                  go_simp
                  with_reducible rfl
                rotate_left
                · simp only [Act.put, List.setIfInBounds_toArray, List.set_cons_zero, List.set_cons_succ, i64_w, i32_w]
                  rfl
                refine take_ (i := 6) (N := some 84) (v := ?_) (a' := ?_) #[true, true, true, true, false, true, true, true, false, false, false, false, false] rfl rfl (take_ofW HT_.out HW_.out (by kernel_rfl)) (fun _ _ _ h => h) (Or.inl ⟨by rfl, ?_⟩) hHeld ?_ ?_
                rotate_left
                · rintro w' ⟨s0, s1, s2, s3⟩
                  go_simp
                  with_reducible rfl
                rotate_left
                · simp only [Act.put, List.setIfInBounds_toArray, List.set_cons_zero, List.set_cons_succ, i64_w, i32_w]
                  rfl
                refine take_ (i := 8) (N := some 86) (v := ?_) (a' := ?_) #[true, true, true, true, false, true, true, true, true, false, false, false, false] rfl rfl (take_ofW HT_.out HW_.out (by kernel_rfl)) (fun _ _ _ h => h) (Or.inl ⟨by rfl, ?_⟩) hHeld ?_ ?_
                rotate_left
                · rintro w' ⟨s0, s1, s2, s3⟩
                  go_simp
                  with_reducible rfl
                rotate_left
                · simp only [Act.put, List.setIfInBounds_toArray, List.set_cons_zero, List.set_cons_succ, i64_w, i32_w]
                  rfl
                refine one_ (i := 4) (N := some 82) #[true, true, true, true, true, true, true, true, true, false, false, false, false] rfl rfl (one_of HT_.out (by kernel_rfl)) (by decide) (fun K hK => ?_)
                refine goes_ Try.func64 (by kernel_rfl) rfl #[.slice A0_0 l0_0.length c0_0, .int .u64 a1_1] (by rfl) rfl rfl (by (try simp only [List.map_toArray, List.map_cons, List.map_nil]); first | done | rfl | (simp only [List.length_drop, List.length_take]; rfl)) ?_
                with_reducible refine (ferruleref06_put.calls kj5 _ _ l0_0 a1_1 t398 _ ?side1 ?side2 A76.out).mono ?_
                (case side1 => repeat (first | exact (Kd.C_below HR0_0.out HB.out) | (with_reducible refine Kd.C_alloc ?_ _) | (with_reducible refine Kd.C_drewN ?_ _) | (with_reducible refine Kd.C_drew ?_)))
                (case side2 => exact HC0_0.out)
                rintro e w84 ⟨v399, rfl, ho0, hb⟩
                refine ⟨_, rfl, ?_⟩
                have n0_ := Aside0.mk (Kd.R_lower ho0 (below_size (by repeat (first | (with_reducible first | exact HB.out | apply below_alloc | apply pw_below_drewN | apply below_drew1 | refine below_set ?_ GE383.out | refine below_set ?_ GE384.out | refine below_set ?_ GE385.out) | exact HB.out))))
                have n1_ := Aside0.mk (blk_below (g := gb383) (o := .cells #[.slice A0_0 l0_0.length c0_0, .slice A0_1 l0_1.length c0_1] 28 (0, 0)) (by (with_reducible repeat (first | refine blk_drewN ?_ _ | refine blk_drew ?_ | refine blk_alloc ?_ _)); exact BK383.out) hb)
                have n2_ := Aside0.mk (blk_below (g := gb384) (o := .cells #[.int .i64 a1_0, .int .u64 a1_1] 47 (0, 0)) (by (with_reducible repeat (first | refine blk_drewN ?_ _ | refine blk_drew ?_ | refine blk_alloc ?_ _)); exact BK384.out) hb)
                have n3_ := Aside0.mk (blk_below (g := gb385) (o := .cells #[.slice none 0 0, .slice none 0 0] 28 (0, 0)) (by (with_reducible repeat (first | refine blk_drewN ?_ _ | refine blk_drew ?_ | refine blk_alloc ?_ _)); exact BK385.out) hb)
                have n4_ := Aside0.mk (below_step (by repeat (first | (with_reducible first | exact HB.out | apply below_alloc | apply pw_below_drewN | apply below_drew1 | refine below_set ?_ GE383.out | refine below_set ?_ GE384.out | refine below_set ?_ GE385.out) | exact HB.out)) hb)
                clear BK383
                clear BK384
                clear BK385
                clear HB
                have HO400 := n0_
                have BK383 := n1_
                have BK384 := n2_
                have BK385 := n3_
                have HB := n4_
                clear n0_ n1_ n2_ n3_ n4_
                (try clear hb)
                (try clear hb2)
                (try clear hk)
                (try clear hi)
                (try clear ho0)
                refine hK.out _ _ ⟨(blk_cell BK383.out 0).trans rfl, (blk_cell BK383.out 1).trans rfl, (blk_cell BK384.out 0).trans rfl, (blk_cell BK384.out 1).trans rfl⟩ (fun hHeld => ?_)
                clear hK K
                refine norm_ (a' := ?_) ?_ ?_
                rotate_left
                · show Act.put _ (some 82) _ = _
                  simp only [Act.put, List.setIfInBounds_toArray, List.set_cons_zero, List.set_cons_succ, i64_w, i32_w]
                  rfl
                refine one_ (i := 9) (N := some 87) #[true, true, true, true, true, true, true, true, true, true, false, false, false] rfl rfl (one_of HT_.out (by kernel_rfl)) (by decide) (fun K hK => ?_)
                refine goes_ Try.func65 (by kernel_rfl) rfl #[.slice A0_1 l0_1.length c0_1, .int .u64 a1_1] (by rfl) rfl rfl (by (try simp only [List.map_toArray, List.map_cons, List.map_nil]); first | done | rfl | (simp only [List.length_drop, List.length_take]; rfl)) ?_
                with_reducible refine (ferruleref06_less.calls kj5 _ _ l0_1 a1_1 t401 _ ?side1 ?side2 A77.out).mono ?_
                (case side1 => repeat (first | exact (Kd.C_below HR0_1.out HB.out) | (with_reducible refine Kd.C_alloc ?_ _) | (with_reducible refine Kd.C_drewN ?_ _) | (with_reducible refine Kd.C_drew ?_)))
                (case side2 => exact HC0_1.out)
                rintro e w85 ⟨v402, rfl, ho0, hb⟩
                refine ⟨_, rfl, ?_⟩
                have n0_ := Aside0.mk (Kd.R_elder' (by (with_reducible repeat (first | apply Kd.R_alloc | apply Kd.R_drewN | apply Kd.R_drew)); exact HO400.out) (Kd.R_base ho0) hb)
                have n1_ := Aside0.mk (Kd.R_lower (Kd.R_new' ho0 (Kd.R_lt (by (with_reducible repeat (first | apply Kd.R_alloc | apply Kd.R_drewN | apply Kd.R_drew)); exact HO400.out))) (below_size (by repeat (first | (with_reducible first | exact HB.out | apply below_alloc | apply pw_below_drewN | apply below_drew1 | refine below_set ?_ GE383.out | refine below_set ?_ GE384.out | refine below_set ?_ GE385.out) | exact HB.out))))
                have n2_ := Aside0.mk (blk_below (g := gb383) (o := .cells #[.slice A0_0 l0_0.length c0_0, .slice A0_1 l0_1.length c0_1] 28 (0, 0)) (by (with_reducible repeat (first | refine blk_drewN ?_ _ | refine blk_drew ?_ | refine blk_alloc ?_ _)); exact BK383.out) hb)
                have n3_ := Aside0.mk (blk_below (g := gb384) (o := .cells #[.int .i64 a1_0, .int .u64 a1_1] 47 (0, 0)) (by (with_reducible repeat (first | refine blk_drewN ?_ _ | refine blk_drew ?_ | refine blk_alloc ?_ _)); exact BK384.out) hb)
                have n4_ := Aside0.mk (blk_below (g := gb385) (o := .cells #[.slice none 0 0, .slice none 0 0] 28 (0, 0)) (by (with_reducible repeat (first | refine blk_drewN ?_ _ | refine blk_drew ?_ | refine blk_alloc ?_ _)); exact BK385.out) hb)
                have n5_ := Aside0.mk (below_step (by repeat (first | (with_reducible first | exact HB.out | apply below_alloc | apply pw_below_drewN | apply below_drew1 | refine below_set ?_ GE383.out | refine below_set ?_ GE384.out | refine below_set ?_ GE385.out) | exact HB.out)) hb)
                clear HO400
                clear BK383
                clear BK384
                clear BK385
                clear HB
                have HO400 := n0_
                have HO403 := n1_
                have BK383 := n2_
                have BK384 := n3_
                have BK385 := n4_
                have HB := n5_
                clear n0_ n1_ n2_ n3_ n4_ n5_
                (try clear hb)
                (try clear hb2)
                (try clear hk)
                (try clear hi)
                (try clear ho0)
                obtain ⟨Ao86, co86, eo86⟩ := Kd.R_slice HO403.out
                (first | subst eo86 | (injection eo86 with f1_ f2_ f3_; have f4_ := f1_.symm; have f5_ := f3_.symm; clear f1_ f2_ f3_; subst f4_; subst f5_))
                obtain ⟨Ao87, co87, eo87⟩ := Kd.R_slice HO400.out
                (first | subst eo87 | (injection eo87 with f1_ f2_ f3_; have f4_ := f1_.symm; have f5_ := f3_.symm; clear f1_ f2_ f3_; subst f4_; subst f5_))
                refine hK.out _ _ ⟨(blk_cell BK383.out 0).trans rfl, (blk_cell BK383.out 1).trans rfl, (blk_cell BK384.out 0).trans rfl, (blk_cell BK384.out 1).trans rfl⟩ (fun hHeld => ?_)
                clear hK K
                refine norm_ (a' := ?_) ?_ ?_
                rotate_left
                · show Act.put _ (some 87) _ = _
                  simp only [Act.put, List.setIfInBounds_toArray, List.set_cons_zero, List.set_cons_succ, i64_w, i32_w]
                  rfl
                refine pure_ (i := 10) (N := some 88) (v := ?_) (a' := ?_) #[true, true, true, true, true, true, true, true, true, true, true, false, false] rfl rfl (any_of HT_.out (by kernel_rfl)) (fun _ _ _ h => h) (Or.inl ⟨by rfl, ?_⟩) ?_ ?_
                rotate_left
                · intro w'
                  go_simp
                  with_reducible rfl
                rotate_left
                · simp only [Act.put, List.setIfInBounds_toArray, List.set_cons_zero, List.set_cons_succ, i64_w, i32_w]
                  rfl
                refine one_ (i := 11) (N := none) #[true, true, true, true, true, true, true, true, true, true, true, true, false] rfl rfl (one_of HT_.out (by kernel_rfl)) (by decide) (fun K hK => ?_)
                have hs88 : w85.cell? ⟨gb385, 0, none⟩ = some (.slice none 0 0) := (blk_cell BK385.out 0).trans rfl
                have hfs88 := blk_frozen BK385.out 0
                have hns88_0 := NB383_385.out
                have hns88_1 := NB384_385.out
                have hms88_0 := NB385_383.out
                have hms88_1 := NB385_384.out
                have hs89 : w85.cell? ⟨gb385, 1, none⟩ = some (.slice none 0 0) := (blk_cell BK385.out 1).trans rfl
                have hfs89 := blk_frozen BK385.out 1
                have hns89_0 := NB383_385.out
                have hns89_1 := NB384_385.out
                have hms89_0 := NB385_383.out
                have hms89_1 := NB385_384.out
                refine skip_ (w1 := ?_) (by rfl) rfl ?_ ?_
                rotate_left
                · go_simp
                  rfl
                refine hK.out _ _ ⟨((cell_far (p := ⟨gb385, _, none⟩) NB383_385.out _).trans (((cell_far (p := ⟨gb385, _, none⟩) NB383_385.out _).trans (hHeld.1)))), ((cell_far (p := ⟨gb385, _, none⟩) NB383_385.out _).trans (((cell_far (p := ⟨gb385, _, none⟩) NB383_385.out _).trans (hHeld.2.1)))), ((cell_far (p := ⟨gb385, _, none⟩) NB384_385.out _).trans (((cell_far (p := ⟨gb385, _, none⟩) NB384_385.out _).trans (hHeld.2.2.1)))), ((cell_far (p := ⟨gb385, _, none⟩) NB384_385.out _).trans (((cell_far (p := ⟨gb385, _, none⟩) NB384_385.out _).trans (hHeld.2.2.2))))⟩ (fun hHeld => ?_)
                clear hK K
                refine pure_ (i := 12) (N := some 5) (v := ?_) (a' := ?_) #[true, true, true, true, true, true, true, true, true, true, true, true, true] rfl rfl (any_of HT_.out (by kernel_rfl)) (fun _ _ _ h => h) (Or.inl ⟨by rfl, ?_⟩) ?_ ?_
                rotate_left
                · intro w'
                  go_simp
                  with_reducible rfl
                rotate_left
                · simp only [Act.put, List.setIfInBounds_toArray, List.set_cons_zero, List.set_cons_succ, i64_w, i32_w]
                  rfl
                refine done_ (done_of HT_.out (by kernel_rfl)) ?_
                try go_wp2
                refine bodyPost_ret (results_ct rfl _ _ gb385 28 #[.slice Ao87 t398.length co87, .slice Ao86 t401.length co86] (0, 0) _ rfl (by (with_reducible repeat (first | refine blk_drewN ?_ _ | refine blk_drew ?_ | refine blk_alloc ?_ _)); refine blk_put (cs := #[.slice Ao87 t398.length co87, .slice none 0 0]) ?_ 1 _ rfl; (with_reducible repeat (first | refine blk_drewN ?_ _ | refine blk_drew ?_ | refine blk_alloc ?_ _)); refine blk_put (cs := #[.slice none 0 0, .slice none 0 0]) ?_ 0 _ rfl; (with_reducible repeat (first | refine blk_drewN ?_ _ | refine blk_drew ?_ | refine blk_alloc ?_ _)); exact BK385.out) Try.underlying28 rfl (by kernel_rfl)) rfl ?_
                exact ⟨_, _, by first | rfl | (simp [errW_none, errW_some] <;> rfl) | (simp [*, errW_none, errW_some] <;> rfl), by (with_reducible repeat (first | apply Kd.R_alloc | apply Kd.R_drewN | apply Kd.R_drew)); exact Kd.R_mono (Kd.R_far (p := ⟨gb385, 1, none⟩) (Kd.R_far (p := ⟨gb385, 0, none⟩) (Kd.R_types HO400.out BK385.out (by decide)) (fun _ hk => hk.2) (.slice Ao87 t398.length co87)) (fun _ hk => hk.2) (.slice Ao86 t401.length co86)) (fun _ hk => hk.1.2), by (with_reducible repeat (first | apply Kd.R_alloc | apply Kd.R_drewN | apply Kd.R_drew)); exact Kd.R_mono (Kd.R_far (p := ⟨gb385, 1, none⟩) (Kd.R_far (p := ⟨gb385, 0, none⟩) (Kd.R_types HO403.out BK385.out (by decide)) (fun _ hk => hk.2) (.slice Ao87 t398.length co87)) (fun _ hk => hk.2) (.slice Ao86 t401.length co86)) (fun _ hk => hk.1.2), by repeat (first | (with_reducible first | exact HB.out | apply below_alloc | apply pw_below_drewN | apply below_drew1 | refine below_set ?_ GE383.out | refine below_set ?_ GE384.out | refine below_set ?_ GE385.out) | exact HB.out)⟩
            · replace c68 := Bool.eq_false_iff.mpr c68
              subst c68
              have H1 : (some (([] : List Int), ([] : List Int), 7)) = some (r1, r2, r3) := by rw [if_neg (show ¬ (false = true) by decide)] at H; exact H
              clear H
              have H := H1
              clear H1
              simp only [Option.some.injEq, Prod.mk.injEq] at H
              obtain ⟨rfl, rfl, rfl⟩ := H
              have hnb90 := NB384_383.out
              have hnc90 := NB383_384.out
              have hnb91 := NB384_385.out
              have hnc91 := NB385_384.out
              have hcz92_0 : wc.cell? ⟨gb384, 0, none⟩ = some (.int .i64 a1_0) := (blk_cell BK384.out 0).trans rfl
              have hcz92_1 : wc.cell? ⟨gb384, 1, none⟩ = some (.int .u64 a1_1) := (blk_cell BK384.out 1).trans rfl
              have hfz92_0 := blk_frozen BK384.out 0
              have hfz92_1 := blk_frozen BK384.out 1
              have hnb93 := NB385_383.out
              have hnc93 := NB383_385.out
              have hcz94_0 : wc.cell? ⟨gb385, 0, none⟩ = some (.slice none 0 0) := (blk_cell BK385.out 0).trans rfl
              have hcz94_1 : wc.cell? ⟨gb385, 1, none⟩ = some (.slice none 0 0) := (blk_cell BK385.out 1).trans rfl
              have hfz94_0 := blk_frozen BK385.out 0
              have hfz94_1 := blk_frozen BK385.out 1
              go_wp2
              refine bodyPost_ret (results_ct rfl _ _ gb385 28 #[.slice none 0 0, .slice none 0 0] (0, 0) _ rfl (by (with_reducible repeat (first | refine blk_drewN ?_ _ | refine blk_drew ?_ | refine blk_alloc ?_ _)); refine blk_put (cs := #[.slice none 0 0, .slice none 0 0]) ?_ 1 _ rfl; (with_reducible repeat (first | refine blk_drewN ?_ _ | refine blk_drew ?_ | refine blk_alloc ?_ _)); refine blk_put (cs := #[.slice none 0 0, .slice none 0 0]) ?_ 0 _ rfl; (with_reducible repeat (first | refine blk_drewN ?_ _ | refine blk_drew ?_ | refine blk_alloc ?_ _)); exact BK385.out) Try.underlying28 rfl (by kernel_rfl)) rfl ?_
              exact ⟨_, _, by first | rfl | (simp [errW_none, errW_some] <;> rfl) | (simp [*, errW_none, errW_some] <;> rfl), by first | exact Kd.R_nil _ _ _ _ _ | exact Kd.N_nil _ _ _ _ _ | exact Kd.V_nil _ _ _ _ _ | exact Kd.Q_nil _ _ _ _ _ | exact Kd.S_nil _ _ _ _ _, by first | exact Kd.R_nil _ _ _ _ _ | exact Kd.N_nil _ _ _ _ _ | exact Kd.V_nil _ _ _ _ _ | exact Kd.Q_nil _ _ _ _ _ | exact Kd.S_nil _ _ _ _ _, by repeat (first | (with_reducible first | exact HB.out | apply below_alloc | apply pw_below_drewN | apply below_drew1 | refine below_set ?_ GE383.out | refine below_set ?_ GE384.out | refine below_set ?_ GE385.out) | exact HB.out)⟩
          · rw [if_neg c67] at H
            have c67b0 : (a1_0 == 2) = false := beq_eq_false_iff_ne.mpr c67
            have c67b1 : (a1_0 != 2) = true := bne_iff_ne.mpr c67
            have HC95 := Aside0.mk H
            clear H
            have hnb96 := NB384_383.out
            have hnc96 := NB383_384.out
            have hnb97 := NB384_385.out
            have hnc97 := NB385_384.out
            have hcz98_0 : wc.cell? ⟨gb384, 0, none⟩ = some (.int .i64 a1_0) := (blk_cell BK384.out 0).trans rfl
            have hcz98_1 : wc.cell? ⟨gb384, 1, none⟩ = some (.int .u64 a1_1) := (blk_cell BK384.out 1).trans rfl
            have hfz98_0 := blk_frozen BK384.out 0
            have hfz98_1 := blk_frozen BK384.out 1
            go_upto_region 18 with (fail)
            go_cut [94] (fun v94 wc => ∃ (kq : Nat) (x94_94 : Bool), v94 = .bool x94_94 ∧ Aside0 (ferruleref06_Next.j2 kq t387 x94_94 l0_0 l0_1 a1_0 a1_1 = some (r1, r2, r3)) ∧ Aside0 (kq ≤ kj5) ∧ Aside0 (wc.heap[gb383]? = some (.cells #[(.slice A0_0 l0_0.length c0_0), (.slice A0_1 l0_1.length c0_1)] 28 (0, 0))) ∧ Aside0 (wc.heap[gb384]? = some (.cells #[.int .i64 a1_0, .int .u64 a1_1] 47 (0, 0))) ∧ Aside0 (wc.heap[gb385]? = some (.cells #[(.slice none 0 0), (.slice none 0 0)] 28 (0, 0))) ∧ Aside0 (Below w.heap.size w wc))
            case first =>
              have H := HC95.out
              clear HC95
              by_cases c99 : t387 = true
              · subst c99
                have H1 : (ferruleref06_Next.j2 kj5 true false l0_0 l0_1 a1_0 a1_1) = some (r1, r2, r3) := by rw [if_pos rfl] at H; exact H
                clear H
                have H := H1
                clear H1
                have H' := Aside0.mk H
                clear H
                go_wp2
                go_meet
                case rel => exact ⟨_, (false), (by first | rfl | (simp; done) | (simp [*]; done)), H', ⟨by have := HJ5.out; first | omega | exact Nat.le_refl _⟩, ⟨by (with_reducible repeat (first | refine blk_drewN ?_ _ | refine blk_drew ?_ | refine blk_alloc ?_ _)); exact BK383.out⟩, ⟨by (with_reducible repeat (first | refine blk_drewN ?_ _ | refine blk_drew ?_ | refine blk_alloc ?_ _)); exact BK384.out⟩, ⟨by (with_reducible repeat (first | refine blk_drewN ?_ _ | refine blk_drew ?_ | refine blk_alloc ?_ _)); exact BK385.out⟩, ⟨by repeat (first | (with_reducible first | exact HB.out | apply below_alloc | apply pw_below_drewN | apply below_drew1 | refine below_set ?_ GE383.out | refine below_set ?_ GE384.out | refine below_set ?_ GE385.out) | exact HB.out)⟩⟩
              · replace c99 := Bool.eq_false_iff.mpr c99
                subst c99
                have H1 : (ferruleref06_Next.j2 kj5 false (!t388) l0_0 l0_1 a1_0 a1_1) = some (r1, r2, r3) := by rw [if_neg (show ¬ (false = true) by decide)] at H; exact H
                clear H
                have H := H1
                clear H1
                have H' := Aside0.mk H
                clear H
                go_wp2
                go_meet
                case rel => exact ⟨_, (!t388), (by first | rfl | (simp; done) | (simp [*]; done)), H', ⟨by have := HJ5.out; first | omega | exact Nat.le_refl _⟩, ⟨by (with_reducible repeat (first | refine blk_drewN ?_ _ | refine blk_drew ?_ | refine blk_alloc ?_ _)); exact BK383.out⟩, ⟨by (with_reducible repeat (first | refine blk_drewN ?_ _ | refine blk_drew ?_ | refine blk_alloc ?_ _)); exact BK384.out⟩, ⟨by (with_reducible repeat (first | refine blk_drewN ?_ _ | refine blk_drew ?_ | refine blk_alloc ?_ _)); exact BK385.out⟩, ⟨by repeat (first | (with_reducible first | exact HB.out | apply below_alloc | apply pw_below_drewN | apply below_drew1 | refine below_set ?_ GE383.out | refine below_set ?_ GE384.out | refine below_set ?_ GE385.out) | exact HB.out)⟩⟩
            case rest =>
              clear HC95
              try clear p2
              try clear c3
              try clear c4
              try clear c5
              try clear c6
              try clear c7
              try clear c8
              try clear c9
              try clear c37
              try clear c37b0
              try clear c37b1
              try clear c47
              try clear c47b0
              try clear c47b1
              try clear c48
              try clear c49
              try clear c51
              try clear c53
              try clear c55
              try clear c56
              try clear c64
              try clear c65
              try clear c67
              try clear c67b0
              try clear c67b1
              try clear c68
              try clear c69
              try clear c69b0
              try clear c69b1
              try clear c70
              try clear c71
              try clear c73
              try clear c78
              try clear c79
              try clear c81
              try clear c90
              try clear c91
              try clear c93
              try clear c96
              try clear c97
              try clear c99
              try clear hcz50_0
              try clear hcz50_1
              try clear hcz52_0
              try clear hcz52_1
              try clear hcz57_0
              try clear hcz57_1
              try clear hcz72_0
              try clear hcz72_1
              try clear hcz74_0
              try clear hcz74_1
              try clear hcz75_0
              try clear hcz75_1
              try clear hcz80_0
              try clear hcz80_1
              try clear hcz82_0
              try clear hcz82_1
              try clear hcz92_0
              try clear hcz92_1
              try clear hcz94_0
              try clear hcz94_1
              try clear hcz98_0
              try clear hcz98_1
              try clear hfz50_0
              try clear hfz50_1
              try clear hfz52_0
              try clear hfz52_1
              try clear hfz57_0
              try clear hfz57_1
              try clear hfz72_0
              try clear hfz72_1
              try clear hfz74_0
              try clear hfz74_1
              try clear hfz75_0
              try clear hfz75_1
              try clear hfz80_0
              try clear hfz80_1
              try clear hfz82_0
              try clear hfz82_1
              try clear hfz92_0
              try clear hfz92_1
              try clear hfz94_0
              try clear hfz94_1
              try clear hfz98_0
              try clear hfz98_1
              obtain ⟨kq, x94_94, rfl, HA, HJ94, BK383, BK384, BK385, HB⟩ := hcut
              cases kq with
              | zero => exact absurd HA.out (by simp [ferruleref06_Next.j2])
              | succ kj94 =>
                have H := HA.out
                clear HA
                simp only [ferruleref06_Next.j2] at H
                by_cases c100 : x94_94 = true
                · subst c100
                  have H1 : (some (([] : List Int), ([] : List Int), 7)) = some (r1, r2, r3) := by rw [if_pos rfl] at H; exact H
                  clear H
                  have H := H1
                  clear H1
                  simp only [Option.some.injEq, Prod.mk.injEq] at H
                  obtain ⟨rfl, rfl, rfl⟩ := H
                  have hnb101 := NB385_383.out
                  have hnc101 := NB383_385.out
                  have hnb102 := NB385_384.out
                  have hnc102 := NB384_385.out
                  have hcz103_0 : wc.cell? ⟨gb385, 0, none⟩ = some (.slice none 0 0) := (blk_cell BK385.out 0).trans rfl
                  have hcz103_1 : wc.cell? ⟨gb385, 1, none⟩ = some (.slice none 0 0) := (blk_cell BK385.out 1).trans rfl
                  have hfz103_0 := blk_frozen BK385.out 0
                  have hfz103_1 := blk_frozen BK385.out 1
                  go_wp2
                  refine bodyPost_ret (results_ct rfl _ _ gb385 28 #[.slice none 0 0, .slice none 0 0] (0, 0) _ rfl (by (with_reducible repeat (first | refine blk_drewN ?_ _ | refine blk_drew ?_ | refine blk_alloc ?_ _)); refine blk_put (cs := #[.slice none 0 0, .slice none 0 0]) ?_ 1 _ rfl; (with_reducible repeat (first | refine blk_drewN ?_ _ | refine blk_drew ?_ | refine blk_alloc ?_ _)); refine blk_put (cs := #[.slice none 0 0, .slice none 0 0]) ?_ 0 _ rfl; (with_reducible repeat (first | refine blk_drewN ?_ _ | refine blk_drew ?_ | refine blk_alloc ?_ _)); exact BK385.out) Try.underlying28 rfl (by kernel_rfl)) rfl ?_
                  exact ⟨_, _, by first | rfl | (simp [errW_none, errW_some] <;> rfl) | (simp [*, errW_none, errW_some] <;> rfl), by first | exact Kd.R_nil _ _ _ _ _ | exact Kd.N_nil _ _ _ _ _ | exact Kd.V_nil _ _ _ _ _ | exact Kd.Q_nil _ _ _ _ _ | exact Kd.S_nil _ _ _ _ _, by first | exact Kd.R_nil _ _ _ _ _ | exact Kd.N_nil _ _ _ _ _ | exact Kd.V_nil _ _ _ _ _ | exact Kd.Q_nil _ _ _ _ _ | exact Kd.S_nil _ _ _ _ _, by repeat (first | (with_reducible first | exact HB.out | apply below_alloc | apply pw_below_drewN | apply below_drew1 | refine below_set ?_ GE383.out | refine below_set ?_ GE384.out | refine below_set ?_ GE385.out) | exact HB.out)⟩
                · replace c100 := Bool.eq_false_iff.mpr c100
                  subst c100
                  have H1 : (if t387 = true then (ferruleref06_Next.j3 kj94 ((l0_0.length : Int) == 1) l0_0 l0_1 a1_0 a1_1) else (ferruleref06_Next.j3 kj94 false l0_0 l0_1 a1_0 a1_1)) = some (r1, r2, r3) := by rw [if_neg (show ¬ (false = true) by decide)] at H; exact H
                  clear H
                  have H := H1
                  clear H1
                  have HC104 := Aside0.mk H
                  clear H
                  go_upto_region 20 with (fail)
                  go_cut [102] (fun v102 wc => ∃ (kq : Nat) (x102_103 : Bool), v102 = .bool x102_103 ∧ Aside0 (ferruleref06_Next.j3 kq x102_103 l0_0 l0_1 a1_0 a1_1 = some (r1, r2, r3)) ∧ Aside0 (kq ≤ kj94) ∧ Aside0 (wc.heap[gb383]? = some (.cells #[(.slice A0_0 l0_0.length c0_0), (.slice A0_1 l0_1.length c0_1)] 28 (0, 0))) ∧ Aside0 (wc.heap[gb384]? = some (.cells #[.int .i64 a1_0, .int .u64 a1_1] 47 (0, 0))) ∧ Aside0 (wc.heap[gb385]? = some (.cells #[(.slice none 0 0), (.slice none 0 0)] 28 (0, 0))) ∧ Aside0 (Below w.heap.size w wc))
                  case first =>
                    have H := HC104.out
                    clear HC104
                    by_cases c105 : t387 = true
                    · subst c105
                      have H1 : (ferruleref06_Next.j3 kj94 ((l0_0.length : Int) == 1) l0_0 l0_1 a1_0 a1_1) = some (r1, r2, r3) := by rw [if_pos rfl] at H; exact H
                      clear H
                      have H := H1
                      clear H1
                      have H' := Aside0.mk H
                      clear H
                      have hnb106 := NB383_384.out
                      have hnc106 := NB384_383.out
                      have hnb107 := NB383_385.out
                      have hnc107 := NB385_383.out
                      have hcz108_0 : wc.cell? ⟨gb383, 0, none⟩ = some (.slice A0_0 l0_0.length c0_0) := (blk_cell BK383.out 0).trans rfl
                      have hcz108_1 : wc.cell? ⟨gb383, 1, none⟩ = some (.slice A0_1 l0_1.length c0_1) := (blk_cell BK383.out 1).trans rfl
                      have hfz108_0 := blk_frozen BK383.out 0
                      have hfz108_1 := blk_frozen BK383.out 1
                      go_wp2
                      go_meet
                      case rel => exact ⟨_, (((l0_0.length : Int) == 1)), (by first | rfl | (simp; done) | (simp [*]; done)), H', ⟨by have := HJ5.out; have := HJ94.out; first | omega | exact Nat.le_refl _⟩, ⟨by (with_reducible repeat (first | refine blk_drewN ?_ _ | refine blk_drew ?_ | refine blk_alloc ?_ _)); exact BK383.out⟩, ⟨by (with_reducible repeat (first | refine blk_drewN ?_ _ | refine blk_drew ?_ | refine blk_alloc ?_ _)); exact BK384.out⟩, ⟨by (with_reducible repeat (first | refine blk_drewN ?_ _ | refine blk_drew ?_ | refine blk_alloc ?_ _)); exact BK385.out⟩, ⟨by repeat (first | (with_reducible first | exact HB.out | apply below_alloc | apply pw_below_drewN | apply below_drew1 | refine below_set ?_ GE383.out | refine below_set ?_ GE384.out | refine below_set ?_ GE385.out) | exact HB.out)⟩⟩
                    · replace c105 := Bool.eq_false_iff.mpr c105
                      subst c105
                      have H1 : (ferruleref06_Next.j3 kj94 false l0_0 l0_1 a1_0 a1_1) = some (r1, r2, r3) := by rw [if_neg (show ¬ (false = true) by decide)] at H; exact H
                      clear H
                      have H := H1
                      clear H1
                      have H' := Aside0.mk H
                      clear H
                      go_wp2
                      go_meet
                      case rel => exact ⟨_, (false), (by first | rfl | (simp; done) | (simp [*]; done)), H', ⟨by have := HJ5.out; have := HJ94.out; first | omega | exact Nat.le_refl _⟩, ⟨by (with_reducible repeat (first | refine blk_drewN ?_ _ | refine blk_drew ?_ | refine blk_alloc ?_ _)); exact BK383.out⟩, ⟨by (with_reducible repeat (first | refine blk_drewN ?_ _ | refine blk_drew ?_ | refine blk_alloc ?_ _)); exact BK384.out⟩, ⟨by (with_reducible repeat (first | refine blk_drewN ?_ _ | refine blk_drew ?_ | refine blk_alloc ?_ _)); exact BK385.out⟩, ⟨by repeat (first | (with_reducible first | exact HB.out | apply below_alloc | apply pw_below_drewN | apply below_drew1 | refine below_set ?_ GE383.out | refine below_set ?_ GE384.out | refine below_set ?_ GE385.out) | exact HB.out)⟩⟩
                  case rest =>
                    clear HC104
                    try clear c1
                    try clear p2
                    try clear c3
                    try clear c4
                    try clear c5
                    try clear c6
                    try clear c7
                    try clear c8
                    try clear c9
                    try clear c10
                    try clear c37
                    try clear c37b0
                    try clear c37b1
                    try clear c47
                    try clear c47b0
                    try clear c47b1
                    try clear c48
                    try clear c49
                    try clear c51
                    try clear c53
                    try clear c55
                    try clear c56
                    try clear c64
                    try clear c65
                    try clear c67
                    try clear c67b0
                    try clear c67b1
                    try clear c68
                    try clear c69
                    try clear c69b0
                    try clear c69b1
                    try clear c70
                    try clear c71
                    try clear c73
                    try clear c78
                    try clear c79
                    try clear c81
                    try clear c90
                    try clear c91
                    try clear c93
                    try clear c96
                    try clear c97
                    try clear c99
                    try clear c100
                    try clear c101
                    try clear c102
                    try clear c105
                    try clear c106
                    try clear c107
                    try clear hcz103_0
                    try clear hcz103_1
                    try clear hcz108_0
                    try clear hcz108_1
                    try clear hcz50_0
                    try clear hcz50_1
                    try clear hcz52_0
                    try clear hcz52_1
                    try clear hcz57_0
                    try clear hcz57_1
                    try clear hcz72_0
                    try clear hcz72_1
                    try clear hcz74_0
                    try clear hcz74_1
                    try clear hcz75_0
                    try clear hcz75_1
                    try clear hcz80_0
                    try clear hcz80_1
                    try clear hcz82_0
                    try clear hcz82_1
                    try clear hcz92_0
                    try clear hcz92_1
                    try clear hcz94_0
                    try clear hcz94_1
                    try clear hcz98_0
                    try clear hcz98_1
                    try clear hfz103_0
                    try clear hfz103_1
                    try clear hfz108_0
                    try clear hfz108_1
                    try clear hfz50_0
                    try clear hfz50_1
                    try clear hfz52_0
                    try clear hfz52_1
                    try clear hfz57_0
                    try clear hfz57_1
                    try clear hfz72_0
                    try clear hfz72_1
                    try clear hfz74_0
                    try clear hfz74_1
                    try clear hfz75_0
                    try clear hfz75_1
                    try clear hfz80_0
                    try clear hfz80_1
                    try clear hfz82_0
                    try clear hfz82_1
                    try clear hfz92_0
                    try clear hfz92_1
                    try clear hfz94_0
                    try clear hfz94_1
                    try clear hfz98_0
                    try clear hfz98_1
                    try clear p2
                    obtain ⟨kq, x102_103, rfl, HA, HJ103, BK383, BK384, BK385, HB⟩ := hcut
                    cases kq with
                    | zero => exact absurd HA.out (by simp [ferruleref06_Next.j3])
                    | succ kj103 =>
                      have H := HA.out
                      clear HA
                      simp only [ferruleref06_Next.j3] at H
                      by_cases c109 : x102_103 = true
                      · subst c109
                        have H1 : (some (([] : List Int), ([] : List Int), 5)) = some (r1, r2, r3) := by rw [if_pos rfl] at H; exact H
                        clear H
                        have H := H1
                        clear H1
                        simp only [Option.some.injEq, Prod.mk.injEq] at H
                        obtain ⟨rfl, rfl, rfl⟩ := H
                        have hnb110 := NB385_383.out
                        have hnc110 := NB383_385.out
                        have hnb111 := NB385_384.out
                        have hnc111 := NB384_385.out
                        have hcz112_0 : wc.cell? ⟨gb385, 0, none⟩ = some (.slice none 0 0) := (blk_cell BK385.out 0).trans rfl
                        have hcz112_1 : wc.cell? ⟨gb385, 1, none⟩ = some (.slice none 0 0) := (blk_cell BK385.out 1).trans rfl
                        have hfz112_0 := blk_frozen BK385.out 0
                        have hfz112_1 := blk_frozen BK385.out 1
                        go_wp2
                        refine bodyPost_ret (results_ct rfl _ _ gb385 28 #[.slice none 0 0, .slice none 0 0] (0, 0) _ rfl (by (with_reducible repeat (first | refine blk_drewN ?_ _ | refine blk_drew ?_ | refine blk_alloc ?_ _)); refine blk_put (cs := #[.slice none 0 0, .slice none 0 0]) ?_ 1 _ rfl; (with_reducible repeat (first | refine blk_drewN ?_ _ | refine blk_drew ?_ | refine blk_alloc ?_ _)); refine blk_put (cs := #[.slice none 0 0, .slice none 0 0]) ?_ 0 _ rfl; (with_reducible repeat (first | refine blk_drewN ?_ _ | refine blk_drew ?_ | refine blk_alloc ?_ _)); exact BK385.out) Try.underlying28 rfl (by kernel_rfl)) rfl ?_
                        exact ⟨_, _, by first | rfl | (simp [errW_none, errW_some] <;> rfl) | (simp [*, errW_none, errW_some] <;> rfl), by first | exact Kd.R_nil _ _ _ _ _ | exact Kd.N_nil _ _ _ _ _ | exact Kd.V_nil _ _ _ _ _ | exact Kd.Q_nil _ _ _ _ _ | exact Kd.S_nil _ _ _ _ _, by first | exact Kd.R_nil _ _ _ _ _ | exact Kd.N_nil _ _ _ _ _ | exact Kd.V_nil _ _ _ _ _ | exact Kd.Q_nil _ _ _ _ _ | exact Kd.S_nil _ _ _ _ _, by repeat (first | (with_reducible first | exact HB.out | apply below_alloc | apply pw_below_drewN | apply below_drew1 | refine below_set ?_ GE383.out | refine below_set ?_ GE384.out | refine below_set ?_ GE385.out) | exact HB.out)⟩
                      · replace c109 := Bool.eq_false_iff.mpr c109
                        subst c109
                        have H1 : ((ferruleref06_less.f kj103 l0_0 a1_1).bind fun t404 => ((ferruleref06_less.f kj103 l0_1 a1_1).bind fun t407 => (some (t404, t407, 0)))) = some (r1, r2, r3) := by rw [if_neg (show ¬ (false = true) by decide)] at H; exact H
                        clear H
                        have H := H1
                        clear H1
                        replace H := Option.bind_eq_some_iff.mp H
                        obtain ⟨t404, A1130, H⟩ := H
                        replace H : ((ferruleref06_less.f kj103 l0_1 a1_1).bind fun t407 => (some (t404, t407, 0))) = some (r1, r2, r3) := H
                        have A113 := Aside0.mk A1130
                        clear A1130
                        replace H := Option.bind_eq_some_iff.mp H
                        obtain ⟨t407, A1140, H⟩ := H
                        replace H : (some (t404, t407, 0)) = some (r1, r2, r3) := H
                        have A114 := Aside0.mk A1140
                        clear A1140
                        simp only [Option.some.injEq, Prod.mk.injEq] at H
                        obtain ⟨rfl, rfl, rfl⟩ := H
                        try go_wp2
                        have n0_ := Aside0.mk (blk_drew BK383.out)
                        have n1_ := Aside0.mk (blk_drew BK384.out)
                        have n2_ := Aside0.mk (blk_drew BK385.out)
                        have n3_ := Aside0.mk (below_drew1 HB.out)
                        clear BK383
                        clear BK384
                        clear BK385
                        clear HB
                        have BK383 := n0_
                        have BK384 := n1_
                        have BK385 := n2_
                        have HB := n3_
                        clear n0_ n1_ n2_ n3_
                        refine start_ (n := 13) (S := fun w' => w'.cell? ⟨gb383, 0, none⟩ = some (.slice A0_0 l0_0.length c0_0) ∧ w'.cell? ⟨gb383, 1, none⟩ = some (.slice A0_1 l0_1.length c0_1) ∧ w'.cell? ⟨gb384, 0, none⟩ = some (.int .i64 a1_0) ∧ w'.cell? ⟨gb384, 1, none⟩ = some (.int .u64 a1_1)) (ds := []) #[false, false, false, false, false, false, false, false, false, false, false, false, false] (by kernel_rfl) rfl rfl ⟨(blk_cell BK383.out 0).trans rfl, (blk_cell BK383.out 1).trans rfl, (blk_cell BK384.out 0).trans rfl, (blk_cell BK384.out 1).trans rfl⟩ (fun hHeld => ?_); refine with_tabW ferruleref06_Next.tab22 ferruleref06_Next.bits22 (fun HT_ HW_ => ?_)
                        generalize wc.drew = w115 at BK383 BK384 BK385 HB hHeld ⊢
                        refine pure_ (i := 0) (N := some 104) (v := ?_) (a' := ?_) #[true, false, false, false, false, false, false, false, false, false, false, false, false] rfl rfl (any_of HT_.out (by kernel_rfl)) (fun _ _ _ h => h) (Or.inl ⟨by rfl, ?_⟩) ?_ ?_
                        rotate_left
                        · intro w'
                          go_simp
                          with_reducible rfl
                        rotate_left
                        · simp only [Act.put, List.setIfInBounds_toArray, List.set_cons_zero, List.set_cons_succ, i64_w, i32_w]
                          rfl
                        refine pure_ (i := 2) (N := some 106) (v := ?_) (a' := ?_) #[true, false, true, false, false, false, false, false, false, false, false, false, false] rfl rfl (any_of HT_.out (by kernel_rfl)) (fun _ _ _ h => h) (Or.inl ⟨by rfl, ?_⟩) ?_ ?_
                        rotate_left
                        · intro w'
                          go_simp
                          with_reducible rfl
                        rotate_left
                        · simp only [Act.put, List.setIfInBounds_toArray, List.set_cons_zero, List.set_cons_succ, i64_w, i32_w]
                          rfl
                        refine pure_ (i := 5) (N := some 109) (v := ?_) (a' := ?_) #[true, false, true, false, false, true, false, false, false, false, false, false, false] rfl rfl (any_of HT_.out (by kernel_rfl)) (fun _ _ _ h => h) (Or.inl ⟨by rfl, ?_⟩) ?_ ?_
                        rotate_left
                        · intro w'
                          go_simp
                          with_reducible rfl
                        rotate_left
                        · simp only [Act.put, List.setIfInBounds_toArray, List.set_cons_zero, List.set_cons_succ, i64_w, i32_w]
                          rfl
                        refine pure_ (i := 7) (N := some 111) (v := ?_) (a' := ?_) #[true, false, true, false, false, true, false, true, false, false, false, false, false] rfl rfl (any_of HT_.out (by kernel_rfl)) (fun _ _ _ h => h) (Or.inl ⟨by rfl, ?_⟩) ?_ ?_
                        rotate_left
                        · intro w'
                          go_simp
                          with_reducible rfl
                        rotate_left
                        · simp only [Act.put, List.setIfInBounds_toArray, List.set_cons_zero, List.set_cons_succ, i64_w, i32_w]
                          rfl
                        refine take_ (i := 1) (N := some 105) (v := ?_) (a' := ?_) #[true, true, true, false, false, true, false, true, false, false, false, false, false] rfl rfl (take_ofW HT_.out HW_.out (by kernel_rfl)) (fun _ _ _ h => h) (Or.inl ⟨by rfl, ?_⟩) hHeld ?_ ?_
                        rotate_left
                        · rintro w' ⟨s0, s1, s2, s3⟩
                          go_simp
                          with_reducible rfl
                        rotate_left
                        · simp only [Act.put, List.setIfInBounds_toArray, List.set_cons_zero, List.set_cons_succ, i64_w, i32_w]
                          rfl
                        refine take_ (i := 3) (N := some 107) (v := ?_) (a' := ?_) #[true, true, true, true, false, true, false, true, false, false, false, false, false] rfl rfl (take_ofW HT_.out HW_.out (by kernel_rfl)) (fun _ _ _ h => h) (Or.inl ⟨by rfl, ?_⟩) hHeld ?_ ?_
                        rotate_left
                        · rintro w' ⟨s0, s1, s2, s3⟩
                          go_simp
                          with_reducible rfl
                        rotate_left
                        · simp only [Act.put, List.setIfInBounds_toArray, List.set_cons_zero, List.set_cons_succ, i64_w, i32_w]
                          rfl
                        refine take_ (i := 6) (N := some 110) (v := ?_) (a' := ?_) #[true, true, true, true, false, true, true, true, false, false, false, false, false] rfl rfl (take_ofW HT_.out HW_.out (by kernel_rfl)) (fun _ _ _ h => h) (Or.inl ⟨by rfl, ?_⟩) hHeld ?_ ?_
                        rotate_left
                        · rintro w' ⟨s0, s1, s2, s3⟩
                          go_simp
                          with_reducible rfl
                        rotate_left
                        · simp only [Act.put, List.setIfInBounds_toArray, List.set_cons_zero, List.set_cons_succ, i64_w, i32_w]
                          rfl
                        refine take_ (i := 8) (N := some 112) (v := ?_) (a' := ?_) #[true, true, true, true, false, true, true, true, true, false, false, false, false] rfl rfl (take_ofW HT_.out HW_.out (by kernel_rfl)) (fun _ _ _ h => h) (Or.inl ⟨by rfl, ?_⟩) hHeld ?_ ?_
                        rotate_left
                        · rintro w' ⟨s0, s1, s2, s3⟩
                          go_simp
                          with_reducible rfl
                        rotate_left
                        · simp only [Act.put, List.setIfInBounds_toArray, List.set_cons_zero, List.set_cons_succ, i64_w, i32_w]
                          rfl
                        refine one_ (i := 4) (N := some 108) #[true, true, true, true, true, true, true, true, true, false, false, false, false] rfl rfl (one_of HT_.out (by kernel_rfl)) (by decide) (fun K hK => ?_)
                        refine goes_ Try.func65 (by kernel_rfl) rfl #[.slice A0_0 l0_0.length c0_0, .int .u64 a1_1] (by rfl) rfl rfl (by (try simp only [List.map_toArray, List.map_cons, List.map_nil]); first | done | rfl | (simp only [List.length_drop, List.length_take]; rfl)) ?_
                        with_reducible refine (ferruleref06_less.calls kj103 _ _ l0_0 a1_1 t404 _ ?side1 ?side2 A113.out).mono ?_
                        (case side1 => repeat (first | exact (Kd.C_below HR0_0.out HB.out) | (with_reducible refine Kd.C_alloc ?_ _) | (with_reducible refine Kd.C_drewN ?_ _) | (with_reducible refine Kd.C_drew ?_)))
                        (case side2 => exact HC0_0.out)
                        rintro e w116 ⟨v405, rfl, ho0, hb⟩
                        refine ⟨_, rfl, ?_⟩
                        have n0_ := Aside0.mk (Kd.R_lower ho0 (below_size (by repeat (first | (with_reducible first | exact HB.out | apply below_alloc | apply pw_below_drewN | apply below_drew1 | refine below_set ?_ GE383.out | refine below_set ?_ GE384.out | refine below_set ?_ GE385.out) | exact HB.out))))
                        have n1_ := Aside0.mk (blk_below (g := gb383) (o := .cells #[.slice A0_0 l0_0.length c0_0, .slice A0_1 l0_1.length c0_1] 28 (0, 0)) (by (with_reducible repeat (first | refine blk_drewN ?_ _ | refine blk_drew ?_ | refine blk_alloc ?_ _)); exact BK383.out) hb)
                        have n2_ := Aside0.mk (blk_below (g := gb384) (o := .cells #[.int .i64 a1_0, .int .u64 a1_1] 47 (0, 0)) (by (with_reducible repeat (first | refine blk_drewN ?_ _ | refine blk_drew ?_ | refine blk_alloc ?_ _)); exact BK384.out) hb)
                        have n3_ := Aside0.mk (blk_below (g := gb385) (o := .cells #[.slice none 0 0, .slice none 0 0] 28 (0, 0)) (by (with_reducible repeat (first | refine blk_drewN ?_ _ | refine blk_drew ?_ | refine blk_alloc ?_ _)); exact BK385.out) hb)
                        have n4_ := Aside0.mk (below_step (by repeat (first | (with_reducible first | exact HB.out | apply below_alloc | apply pw_below_drewN | apply below_drew1 | refine below_set ?_ GE383.out | refine below_set ?_ GE384.out | refine below_set ?_ GE385.out) | exact HB.out)) hb)
                        clear BK383
                        clear BK384
                        clear BK385
                        clear HB
                        have HO406 := n0_
                        have BK383 := n1_
                        have BK384 := n2_
                        have BK385 := n3_
                        have HB := n4_
                        clear n0_ n1_ n2_ n3_ n4_
                        (try clear hb)
                        (try clear hb2)
                        (try clear hk)
                        (try clear hi)
                        (try clear ho0)
                        refine hK.out _ _ ⟨(blk_cell BK383.out 0).trans rfl, (blk_cell BK383.out 1).trans rfl, (blk_cell BK384.out 0).trans rfl, (blk_cell BK384.out 1).trans rfl⟩ (fun hHeld => ?_)
                        clear hK K
                        refine norm_ (a' := ?_) ?_ ?_
                        rotate_left
                        · show Act.put _ (some 108) _ = _
                          simp only [Act.put, List.setIfInBounds_toArray, List.set_cons_zero, List.set_cons_succ, i64_w, i32_w]
                          rfl
                        refine one_ (i := 9) (N := some 113) #[true, true, true, true, true, true, true, true, true, true, false, false, false] rfl rfl (one_of HT_.out (by kernel_rfl)) (by decide) (fun K hK => ?_)
                        refine goes_ Try.func65 (by kernel_rfl) rfl #[.slice A0_1 l0_1.length c0_1, .int .u64 a1_1] (by rfl) rfl rfl (by (try simp only [List.map_toArray, List.map_cons, List.map_nil]); first | done | rfl | (simp only [List.length_drop, List.length_take]; rfl)) ?_
                        with_reducible refine (ferruleref06_less.calls kj103 _ _ l0_1 a1_1 t407 _ ?side1 ?side2 A114.out).mono ?_
                        (case side1 => repeat (first | exact (Kd.C_below HR0_1.out HB.out) | (with_reducible refine Kd.C_alloc ?_ _) | (with_reducible refine Kd.C_drewN ?_ _) | (with_reducible refine Kd.C_drew ?_)))
                        (case side2 => exact HC0_1.out)
                        rintro e w117 ⟨v408, rfl, ho0, hb⟩
                        refine ⟨_, rfl, ?_⟩
                        have n0_ := Aside0.mk (Kd.R_elder' (by (with_reducible repeat (first | apply Kd.R_alloc | apply Kd.R_drewN | apply Kd.R_drew)); exact HO406.out) (Kd.R_base ho0) hb)
                        have n1_ := Aside0.mk (Kd.R_lower (Kd.R_new' ho0 (Kd.R_lt (by (with_reducible repeat (first | apply Kd.R_alloc | apply Kd.R_drewN | apply Kd.R_drew)); exact HO406.out))) (below_size (by repeat (first | (with_reducible first | exact HB.out | apply below_alloc | apply pw_below_drewN | apply below_drew1 | refine below_set ?_ GE383.out | refine below_set ?_ GE384.out | refine below_set ?_ GE385.out) | exact HB.out))))
                        have n2_ := Aside0.mk (blk_below (g := gb383) (o := .cells #[.slice A0_0 l0_0.length c0_0, .slice A0_1 l0_1.length c0_1] 28 (0, 0)) (by (with_reducible repeat (first | refine blk_drewN ?_ _ | refine blk_drew ?_ | refine blk_alloc ?_ _)); exact BK383.out) hb)
                        have n3_ := Aside0.mk (blk_below (g := gb384) (o := .cells #[.int .i64 a1_0, .int .u64 a1_1] 47 (0, 0)) (by (with_reducible repeat (first | refine blk_drewN ?_ _ | refine blk_drew ?_ | refine blk_alloc ?_ _)); exact BK384.out) hb)
                        have n4_ := Aside0.mk (blk_below (g := gb385) (o := .cells #[.slice none 0 0, .slice none 0 0] 28 (0, 0)) (by (with_reducible repeat (first | refine blk_drewN ?_ _ | refine blk_drew ?_ | refine blk_alloc ?_ _)); exact BK385.out) hb)
                        have n5_ := Aside0.mk (below_step (by repeat (first | (with_reducible first | exact HB.out | apply below_alloc | apply pw_below_drewN | apply below_drew1 | refine below_set ?_ GE383.out | refine below_set ?_ GE384.out | refine below_set ?_ GE385.out) | exact HB.out)) hb)
                        clear HO406
                        clear BK383
                        clear BK384
                        clear BK385
                        clear HB
                        have HO406 := n0_
                        have HO409 := n1_
                        have BK383 := n2_
                        have BK384 := n3_
                        have BK385 := n4_
                        have HB := n5_
                        clear n0_ n1_ n2_ n3_ n4_ n5_
                        (try clear hb)
                        (try clear hb2)
                        (try clear hk)
                        (try clear hi)
                        (try clear ho0)
                        obtain ⟨Ao118, co118, eo118⟩ := Kd.R_slice HO409.out
                        (first | subst eo118 | (injection eo118 with f1_ f2_ f3_; have f4_ := f1_.symm; have f5_ := f3_.symm; clear f1_ f2_ f3_; subst f4_; subst f5_))
                        obtain ⟨Ao119, co119, eo119⟩ := Kd.R_slice HO406.out
                        (first | subst eo119 | (injection eo119 with f1_ f2_ f3_; have f4_ := f1_.symm; have f5_ := f3_.symm; clear f1_ f2_ f3_; subst f4_; subst f5_))
                        refine hK.out _ _ ⟨(blk_cell BK383.out 0).trans rfl, (blk_cell BK383.out 1).trans rfl, (blk_cell BK384.out 0).trans rfl, (blk_cell BK384.out 1).trans rfl⟩ (fun hHeld => ?_)
                        clear hK K
                        refine norm_ (a' := ?_) ?_ ?_
                        rotate_left
                        · show Act.put _ (some 113) _ = _
                          simp only [Act.put, List.setIfInBounds_toArray, List.set_cons_zero, List.set_cons_succ, i64_w, i32_w]
                          rfl
                        refine pure_ (i := 10) (N := some 114) (v := ?_) (a' := ?_) #[true, true, true, true, true, true, true, true, true, true, true, false, false] rfl rfl (any_of HT_.out (by kernel_rfl)) (fun _ _ _ h => h) (Or.inl ⟨by rfl, ?_⟩) ?_ ?_
                        rotate_left
                        · intro w'
                          go_simp
                          with_reducible rfl
                        rotate_left
                        · simp only [Act.put, List.setIfInBounds_toArray, List.set_cons_zero, List.set_cons_succ, i64_w, i32_w]
                          rfl
                        refine one_ (i := 11) (N := none) #[true, true, true, true, true, true, true, true, true, true, true, true, false] rfl rfl (one_of HT_.out (by kernel_rfl)) (by decide) (fun K hK => ?_)
                        have hs120 : w117.cell? ⟨gb385, 0, none⟩ = some (.slice none 0 0) := (blk_cell BK385.out 0).trans rfl
                        have hfs120 := blk_frozen BK385.out 0
                        have hns120_0 := NB383_385.out
                        have hns120_1 := NB384_385.out
                        have hms120_0 := NB385_383.out
                        have hms120_1 := NB385_384.out
                        have hs121 : w117.cell? ⟨gb385, 1, none⟩ = some (.slice none 0 0) := (blk_cell BK385.out 1).trans rfl
                        have hfs121 := blk_frozen BK385.out 1
                        have hns121_0 := NB383_385.out
                        have hns121_1 := NB384_385.out
                        have hms121_0 := NB385_383.out
                        have hms121_1 := NB385_384.out
                        refine skip_ (w1 := ?_) (by rfl) rfl ?_ ?_
                        rotate_left
                        · go_simp
                          rfl
                        refine hK.out _ _ ⟨((cell_far (p := ⟨gb385, _, none⟩) NB383_385.out _).trans (((cell_far (p := ⟨gb385, _, none⟩) NB383_385.out _).trans (hHeld.1)))), ((cell_far (p := ⟨gb385, _, none⟩) NB383_385.out _).trans (((cell_far (p := ⟨gb385, _, none⟩) NB383_385.out _).trans (hHeld.2.1)))), ((cell_far (p := ⟨gb385, _, none⟩) NB384_385.out _).trans (((cell_far (p := ⟨gb385, _, none⟩) NB384_385.out _).trans (hHeld.2.2.1)))), ((cell_far (p := ⟨gb385, _, none⟩) NB384_385.out _).trans (((cell_far (p := ⟨gb385, _, none⟩) NB384_385.out _).trans (hHeld.2.2.2))))⟩ (fun hHeld => ?_)
                        clear hK K
                        refine pure_ (i := 12) (N := some 5) (v := ?_) (a' := ?_) #[true, true, true, true, true, true, true, true, true, true, true, true, true] rfl rfl (any_of HT_.out (by kernel_rfl)) (fun _ _ _ h => h) (Or.inl ⟨by rfl, ?_⟩) ?_ ?_
                        rotate_left
                        · intro w'
                          go_simp
                          with_reducible rfl
                        rotate_left
                        · simp only [Act.put, List.setIfInBounds_toArray, List.set_cons_zero, List.set_cons_succ, i64_w, i32_w]
                          rfl
                        refine done_ (done_of HT_.out (by kernel_rfl)) ?_
                        try go_wp2
                        refine bodyPost_ret (results_ct rfl _ _ gb385 28 #[.slice Ao119 t404.length co119, .slice Ao118 t407.length co118] (0, 0) _ rfl (by (with_reducible repeat (first | refine blk_drewN ?_ _ | refine blk_drew ?_ | refine blk_alloc ?_ _)); refine blk_put (cs := #[.slice Ao119 t404.length co119, .slice none 0 0]) ?_ 1 _ rfl; (with_reducible repeat (first | refine blk_drewN ?_ _ | refine blk_drew ?_ | refine blk_alloc ?_ _)); refine blk_put (cs := #[.slice none 0 0, .slice none 0 0]) ?_ 0 _ rfl; (with_reducible repeat (first | refine blk_drewN ?_ _ | refine blk_drew ?_ | refine blk_alloc ?_ _)); exact BK385.out) Try.underlying28 rfl (by kernel_rfl)) rfl ?_
                        exact ⟨_, _, by first | rfl | (simp [errW_none, errW_some] <;> rfl) | (simp [*, errW_none, errW_some] <;> rfl), by (with_reducible repeat (first | apply Kd.R_alloc | apply Kd.R_drewN | apply Kd.R_drew)); exact Kd.R_mono (Kd.R_far (p := ⟨gb385, 1, none⟩) (Kd.R_far (p := ⟨gb385, 0, none⟩) (Kd.R_types HO406.out BK385.out (by decide)) (fun _ hk => hk.2) (.slice Ao119 t404.length co119)) (fun _ hk => hk.2) (.slice Ao118 t407.length co118)) (fun _ hk => hk.1.2), by (with_reducible repeat (first | apply Kd.R_alloc | apply Kd.R_drewN | apply Kd.R_drew)); exact Kd.R_mono (Kd.R_far (p := ⟨gb385, 1, none⟩) (Kd.R_far (p := ⟨gb385, 0, none⟩) (Kd.R_types HO409.out BK385.out (by decide)) (fun _ hk => hk.2) (.slice Ao119 t404.length co119)) (fun _ hk => hk.2) (.slice Ao118 t407.length co118)) (fun _ hk => hk.1.2), by repeat (first | (with_reducible first | exact HB.out | apply below_alloc | apply pw_below_drewN | apply below_drew1 | refine below_set ?_ GE383.out | refine below_set ?_ GE384.out | refine below_set ?_ GE385.out) | exact HB.out)⟩

end Go.Proofs.Ytlmefnifhbcbcaa.PAll
end
