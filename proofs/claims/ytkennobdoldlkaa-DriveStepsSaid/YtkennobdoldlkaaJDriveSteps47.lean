/- Joined texts of the claim DriveSteps (part 47): contracts of functions and plain laws. -/
import Derived.Test.YtkennobdoldlkaaJDriveSteps15
import Derived.Test.YtkennobdoldlkaaJDriveSteps40
import Derived.Test.YtkennobdoldlkaaJDriveSteps41
set_option linter.unusedVariables false
set_option linter.unusedSimpArgs false
section
namespace Go.Proofs.Ytkennobdoldlkaa.PAll
open Go.RowKit Go.Proofs.YtkennobdoldlkaaW.PrintWords Go.Proofs.YtkennobdoldlkaaW.PrintLast Go.Proofs.YtkennobdoldlkaaW.PrintMore
attribute [local go_sem] qz51 qz52 max_two min_two qz45 qz46 qz53 qz54
mutual
def ferruleref20_Next.j0 : Nat → List Int → Bool → Int → Int → List (S53) → Int → Int → Bool → Bool → Bool → List (S51) → Int → Int → Option (Int × Int × Int × Int × ByteArray × (List (S74)) × Bool × List Int × Bool)
  | 0, _, _, _, _, _, _, _, _, _, _, _, _, _ => none
  | k + 1, x6, x7, x557000, x557001, x557002, x557003, x557004, x557005, x557006, x557007, x557008, x559000, x559001 => if x557004 ≥ 0 then (ferruleref20_Next.j1 k x6 x7 (decide (x557004 < (x6.length : Int))) x557000 x557001 x557002 x557003 x557004 x557005 x557006 x557007 x557008 x559000 x559001) else (ferruleref20_Next.j1 k x6 x7 false x557000 x557001 x557002 x557003 x557004 x557005 x557006 x557007 x557008 x559000 x559001)
def ferruleref20_Next.j1 : Nat → List Int → Bool → Bool → Int → Int → List (S53) → Int → Int → Bool → Bool → Bool → List (S51) → Int → Int → Option (Int × Int × Int × Int × ByteArray × (List (S74)) × Bool × List Int × Bool)
  | 0, _, _, _, _, _, _, _, _, _, _, _, _, _, _ => none
  | k + 1, x6, x7, x8, x557000, x557001, x557002, x557003, x557004, x557005, x557006, x557007, x557008, x559000, x559001 => if x557003 = 0 then (if x7 = true then (if 0 ≤ x557004 then (if x557004 < (x557002.length : Int) then (if (qz7 x557002 x557004).f3 = true then (some ((qz7 x557002 x557004).f0, 2, x559000, x559001, (qz7 x557002 x557004).f1, ([] : List (S74)), false, ([] : List Int), true)) else (some ((qz7 x557002 x557004).f0, 1, x559000, x559001, (qz7 x557002 x557004).f1, ([] : List (S74)), false, ([] : List Int), true))) else (none)) else (none)) else (some (0, 0, 0, 0, (⟨#[]⟩ : ByteArray), ([] : List (S74)), false, ([] : List Int), false))) else (if x557003 = 1 then (some (0, 5, x559000, x559001, (⟨#[]⟩ : ByteArray), ([] : List (S74)), false, x6, true)) else (if x557003 = 2 then (if x8 = true then (if 0 ≤ x557004 then (if x557004 < (x6.length : Int) then ((ferruleref20_Puts.f k x557000 x557001 x557002 (rd x6 x557004)).bind fun t566 => (some (rd x6 x557004, 3, x559000, x559001, (⟨#[]⟩ : ByteArray), t566, false, ([] : List Int), true))) else (none)) else (none)) else (some (0, 0, 0, 0, (⟨#[]⟩ : ByteArray), ([] : List (S74)), false, ([] : List Int), false))) else (if x557003 = 3 then (if x557006 = true then (some (0, 7, x559000, x559001, (⟨#[]⟩ : ByteArray), ([] : List (S74)), false, ([] : List Int), true)) else (some (0, 6, x559000, x559001, (⟨#[]⟩ : ByteArray), ([] : List (S74)), !x557005, ([] : List Int), true))) else (if x557003 = 4 then (if x8 = true then (if 0 ≤ x557004 then (if x557004 < (x6.length : Int) then (some (rd x6 x557004, 4, x559000, x559001, (⟨#[]⟩ : ByteArray), ([] : List (S74)), x557007, ([] : List Int), true)) else (none)) else (none)) else (some (0, 0, 0, 0, (⟨#[]⟩ : ByteArray), ([] : List (S74)), false, ([] : List Int), false))) else (some (0, 0, 0, 0, (⟨#[]⟩ : ByteArray), ([] : List (S74)), false, ([] : List Int), false))))))
end
def ferruleref20_Next.f (k : Nat) (a0_0 : Int) (a0_1 : Int) (l0_2 : List (S53)) (a0_3 : Int) (a0_4 : Int) (a0_5 : Bool) (a0_6 : Bool) (a0_7 : Bool) (l0_8 : List (S51)) : Option (Int × Int × Int × Int × ByteArray × (List (S74)) × Bool × List Int × Bool) := (ferruleref20_Parts.f k a0_0 a0_1 l0_2).bind fun t559 => (if a0_4 ≥ 0 then (ferruleref20_Next.j0 k t559 (decide (a0_4 < (l0_2.length : Int))) a0_0 a0_1 l0_2 a0_3 a0_4 a0_5 a0_6 a0_7 l0_8 a0_0 a0_1) else (ferruleref20_Next.j0 k t559 false a0_0 a0_1 l0_2 a0_3 a0_4 a0_5 a0_6 a0_7 l0_8 a0_0 a0_1))
def ferruleref20_Next.T12 : Bool × List (List Nat × List Nat) := (true, [([], []), ([0], [0]), ([], []), ([], []), ([], []), ([4], [4]), ([2, 3, 5], [2, 3, 5]), ([1, 0, 1], [1]), ([6, 7, 0, 1, 2, 3, 4, 5, 6, 7], [6]), ([8, 0, 1, 2, 3, 4, 5, 6, 7, 8], [])])
def ferruleref20_Next.B12 : List Nat := [0, 1, 0, 0, 0, 16, 60, 3, 255, 511]
theorem ferruleref20_Next.tab12 : rtab .any (opsOf Try.f11 12) = ferruleref20_Next.T12 := by kernel_rfl
theorem ferruleref20_Next.bits12 : waitsOk ferruleref20_Next.T12.2 ferruleref20_Next.B12 = true := by kernel_rfl
def ferruleref20_Next.T17 : Bool × List (List Nat × List Nat) := (true, [([], []), ([], []), ([1], [1]), ([0, 2], [0, 2]), ([3], [3]), ([], []), ([], []), ([6], [6]), ([], []), ([], []), ([9], [9]), ([8, 10], [8, 10]), ([11], [11]), ([7, 12], [7, 12]), ([5, 13], [5, 13]), ([4, 13, 0, 1, 2, 3, 4], [4]), ([14, 15, 0, 1, 2, 3, 4, 5, 6, 7, 8, 9, 10, 11, 12, 13, 14, 15], [14]), ([16, 0, 1, 2, 3, 4, 5, 6, 7, 8, 9, 10, 11, 12, 13, 14, 15, 16], [])])
def ferruleref20_Next.B17 : List Nat := [0, 0, 2, 7, 15, 0, 0, 64, 0, 0, 512, 1792, 3840, 8128, 16352, 16351, 65535, 131071]
theorem ferruleref20_Next.tab17 : rtab .any (opsOf Try.f11 17) = ferruleref20_Next.T17 := by kernel_rfl
theorem ferruleref20_Next.bits17 : waitsOk ferruleref20_Next.T17.2 ferruleref20_Next.B17 = true := by kernel_rfl
def ferruleref20_Next.T21 : Bool × List (List Nat × List Nat) := (true, [([], []), ([], []), ([1], [1]), ([2], [2]), ([0, 3], [0, 3]), ([], []), ([4, 5, 0, 1, 2, 3, 4, 5], [4]), ([6, 0, 1, 2, 3, 4, 5, 6], [])])
def ferruleref20_Next.B21 : List Nat := [0, 0, 2, 6, 15, 0, 63, 127]
theorem ferruleref20_Next.tab21 : rtab .any (opsOf Try.f11 21) = ferruleref20_Next.T21 := by kernel_rfl
theorem ferruleref20_Next.bits21 : waitsOk ferruleref20_Next.T21.2 ferruleref20_Next.B21 = true := by kernel_rfl
def ferruleref20_Next.T24 : Bool × List (List Nat × List Nat) := (true, [([], []), ([], []), ([1], [1]), ([0, 2], [0, 2]), ([3], [3]), ([], []), ([], []), ([6], [6]), ([5, 7], [5, 7]), ([4, 0, 1, 2, 3, 4], [4]), ([8, 9, 0, 1, 2, 3, 4, 5, 6, 7, 8, 9], [8]), ([10, 0, 1, 2, 3, 4, 5, 6, 7, 8, 9, 10], [])])
def ferruleref20_Next.B24 : List Nat := [0, 0, 2, 7, 15, 0, 0, 64, 224, 31, 1023, 2047]
theorem ferruleref20_Next.tab24 : rtab .any (opsOf Try.f11 24) = ferruleref20_Next.T24 := by kernel_rfl
theorem ferruleref20_Next.bits24 : waitsOk ferruleref20_Next.T24.2 ferruleref20_Next.B24 = true := by kernel_rfl
set_option maxHeartbeats 8000000 in
set_option maxRecDepth 100000 in
theorem ferruleref20_Next.calls (k : Nat) (a0_0 : Int) (a0_1 : Int) (A0_2 : Option Addr) (c0_2 : Nat) (l0_2 : List (S53)) (a0_3 : Int) (a0_4 : Int) (a0_5 : Bool) (a0_6 : Bool) (a0_7 : Bool) (A0_8 : Option Addr) (c0_8 : Nat) (l0_8 : List (S51)) (r1 : Int) (r2 : Int) (r3 : Int) (r4 : Int) (r5 : ByteArray) (r6 : List (S74)) (r7 : Bool) (r8 : List Int) (r9 : Bool) (w : World) (hr0_2 : Kd.C k53 w A0_2 l0_2.length l0_2) (hc0_2 : l0_2.length ≤ c0_2) (hr0_8 : Kd.C k51 w A0_8 l0_8.length l0_8) (hc0_8 : l0_8.length ≤ c0_8) (h : ferruleref20_Next.f k a0_0 a0_1 l0_2 a0_3 a0_4 a0_5 a0_6 a0_7 l0_8 = some (r1, r2, r3, r4, r5, r6, r7, r8, r9)) :
    Calls Try.prog 11 #[.agg #[.int .u64 a0_0, .int .u64 a0_1, .slice A0_2 l0_2.length c0_2, .int .i64 a0_3, .int .i64 a0_4, .bool a0_5, .bool a0_6, .bool a0_7, .slice A0_8 l0_8.length c0_8]] w fun e w' => ∃ v5_ v7_ : Value, e = .returned (.tuple #[.int .u64 r1, .agg #[.int .i64 r2, .int .u64 r3, .int .u64 r4, .string r5, v5_, .bool r7, v7_], .bool r9]) ∧ Kd.R k74 74 w' w.heap.size (fun _ => True) v5_ r6 ∧ Kd.R (Kd.int .u64) 22 w' w.heap.size (fun _ => True) v7_ r8 ∧ Below w.heap.size w w' := by
  have hu30 := Try.underlying30
  have hu38 := Try.underlying38
  have hu24 := Try.underlying24
  have hu27 := Try.underlying27
  have hu53 := Try.underlying53
  have HR0_2 := qza.mk hr0_2
  have HC0_2 := qza.mk hc0_2
  clear hr0_2 hc0_2
  have HR0_8 := qza.mk hr0_8
  have HC0_8 := qza.mk hc0_8
  clear hr0_8 hc0_8
  have HB := qza.mk (Below.refl w.heap.size w)
  have H : ((ferruleref20_Parts.f k a0_0 a0_1 l0_2).bind fun t559 => (if a0_4 ≥ 0 then (ferruleref20_Next.j0 k t559 (decide (a0_4 < (l0_2.length : Int))) a0_0 a0_1 l0_2 a0_3 a0_4 a0_5 a0_6 a0_7 l0_8 a0_0 a0_1) else (ferruleref20_Next.j0 k t559 false a0_0 a0_1 l0_2 a0_3 a0_4 a0_5 a0_6 a0_7 l0_8 a0_0 a0_1))) = some (r1, r2, r3, r4, r5, r6, r7, r8, r9) := h
  clear h
  replace H := Option.bind_eq_some_iff.mp H
  obtain ⟨t559, A20, H⟩ := H
  replace H : (if a0_4 ≥ 0 then (ferruleref20_Next.j0 k t559 (decide (a0_4 < (l0_2.length : Int))) a0_0 a0_1 l0_2 a0_3 a0_4 a0_5 a0_6 a0_7 l0_8 a0_0 a0_1) else (ferruleref20_Next.j0 k t559 false a0_0 a0_1 l0_2 a0_3 a0_4 a0_5 a0_6 a0_7 l0_8 a0_0 a0_1)) = some (r1, r2, r3, r4, r5, r6, r7, r8, r9) := H
  have A2 := qza.mk A20
  clear A20
  have HC3 := qza.mk H
  clear H
  go_enter Try.func11, Try.ntmps11
  go_upto_region 3 with (first | ((with_reducible refine qz31 (N := 1) rfl ?_); (try (refine qz55 (by rfl) ?_; dsimp only)); refine qz32 ?hg (N := 1) ?hd (cs := #[.int .u64 a0_0, .int .u64 a0_1, .slice A0_2 l0_2.length c0_2, .int .i64 a0_3, .int .i64 a0_4, .bool a0_5, .bool a0_6, .bool a0_7, .slice A0_8 l0_8.length c0_8]) (t := 30) ?hr ?_; (case hd => rfl); (case hg => rfl); (case hr => first | (go_simp; done) | (go_simp; rfl)); intro gb556 hg w4 hbox hb; have n0_ := qza.mk (qz25 (by repeat (first | (with_reducible first | exact HB.out | apply qz10 | apply qz5 | apply qz9) | exact HB.out)) hb); have n1_ := qza.mk (hbox); have n2_ := qza.mk ((by rw [hg]; exact (qz15 (by repeat (first | (with_reducible first | exact HB.out | apply qz10 | apply qz5 | apply qz9) | exact HB.out))) : w.heap.size ≤ gb556)); have n3_ := qza.mk ((by rw [hg]; exact (qz15 (by repeat (first | (with_reducible first | exact HB.out | apply qz10 | apply qz5 | apply qz9) | exact HB.out))) : w.heap.size ≤ gb556)); clear HB; have HB := n0_; have BK556 := n1_; have GW556 := n2_; have GE556 := n3_; clear n0_ n1_ n2_ n3_; clear hb hbox hg) | ((with_reducible refine qz31 (N := 3) rfl ?_); (try (refine qz55 (by rfl) ?_; dsimp only)); refine qz32 ?hg (N := 3) ?hd (cs := #[.int .i64 0, .int .u64 0, .int .u64 0, .string (⟨#[]⟩ : ByteArray), .slice none 0 0, .bool false, .slice none 0 0]) (t := 38) ?hr ?_; (case hd => rfl); (case hg => rfl); (case hr => first | (go_simp; done) | (go_simp; rfl)); intro gb557 hg w5 hbox hb; have n0_ := qza.mk (qz35 (g := gb556) (o := .cells #[.int .u64 a0_0, .int .u64 a0_1, .slice A0_2 l0_2.length c0_2, .int .i64 a0_3, .int .i64 a0_4, .bool a0_5, .bool a0_6, .bool a0_7, .slice A0_8 l0_8.length c0_8] 30 (0, 0)) (by (with_reducible repeat (first | refine qz3 ?_ _ | refine qz6 ?_ | refine qz4 ?_ _)); exact BK556.out) hb); have n1_ := qza.mk (qz25 (by repeat (first | (with_reducible first | exact HB.out | apply qz10 | apply qz5 | apply qz9 | refine qz8 ?_ GE556.out) | exact HB.out)) hb); have n2_ := qza.mk (hbox); have n3_ := qza.mk ((by rw [hg]; exact (qz15 (by repeat (first | (with_reducible first | exact HB.out | apply qz10 | apply qz5 | apply qz9 | refine qz8 ?_ GE556.out) | exact HB.out))) : w.heap.size ≤ gb557)); have n4_ := qza.mk ((by rw [hg]; exact (qz15 (by repeat (first | (with_reducible first | exact HB.out | apply qz10 | apply qz5 | apply qz9 | refine qz8 ?_ GE556.out) | exact HB.out))) : w.heap.size ≤ gb557)); have n5_ := qza.mk ((by rw [hg]; exact Nat.ne_of_lt (qz36 (g := gb556) (o := .cells #[.int .u64 a0_0, .int .u64 a0_1, .slice A0_2 l0_2.length c0_2, .int .i64 a0_3, .int .i64 a0_4, .bool a0_5, .bool a0_6, .bool a0_7, .slice A0_8 l0_8.length c0_8] 30 (0, 0)) (by (with_reducible repeat (first | refine qz3 ?_ _ | refine qz6 ?_ | refine qz4 ?_ _)); exact BK556.out)) : gb556 ≠ gb557)); have n6_ := qza.mk ((by rw [hg]; exact Nat.ne_of_gt (qz36 (g := gb556) (o := .cells #[.int .u64 a0_0, .int .u64 a0_1, .slice A0_2 l0_2.length c0_2, .int .i64 a0_3, .int .i64 a0_4, .bool a0_5, .bool a0_6, .bool a0_7, .slice A0_8 l0_8.length c0_8] 30 (0, 0)) (by (with_reducible repeat (first | refine qz3 ?_ _ | refine qz6 ?_ | refine qz4 ?_ _)); exact BK556.out)) : gb557 ≠ gb556)); clear BK556; clear HB; have BK556 := n0_; have HB := n1_; have BK557 := n2_; have GW557 := n3_; have GE557 := n4_; have NB556_557 := n5_; have NB557_556 := n6_; clear n0_ n1_ n2_ n3_ n4_ n5_ n6_; clear hb hbox hg; have hnb6 := NB556_557.out; have hnc6 := NB557_556.out; have hcz7_0 : w5.cell? ⟨gb556, 0, none⟩ = some (.int .u64 a0_0) := (qz1 BK556.out 0).trans rfl; have hcz7_1 : w5.cell? ⟨gb556, 1, none⟩ = some (.int .u64 a0_1) := (qz1 BK556.out 1).trans rfl; have hcz7_2 : w5.cell? ⟨gb556, 2, none⟩ = some (.slice A0_2 l0_2.length c0_2) := (qz1 BK556.out 2).trans rfl; have hcz7_3 : w5.cell? ⟨gb556, 3, none⟩ = some (.int .i64 a0_3) := (qz1 BK556.out 3).trans rfl; have hcz7_4 : w5.cell? ⟨gb556, 4, none⟩ = some (.int .i64 a0_4) := (qz1 BK556.out 4).trans rfl; have hcz7_5 : w5.cell? ⟨gb556, 5, none⟩ = some (.bool a0_5) := (qz1 BK556.out 5).trans rfl; have hcz7_6 : w5.cell? ⟨gb556, 6, none⟩ = some (.bool a0_6) := (qz1 BK556.out 6).trans rfl; have hcz7_7 : w5.cell? ⟨gb556, 7, none⟩ = some (.bool a0_7) := (qz1 BK556.out 7).trans rfl; have hcz7_8 : w5.cell? ⟨gb556, 8, none⟩ = some (.slice A0_8 l0_8.length c0_8) := (qz1 BK556.out 8).trans rfl; have hfz7_0 := qz0 BK556.out 0; have hfz7_1 := qz0 BK556.out 1; have hfz7_2 := qz0 BK556.out 2; have hfz7_3 := qz0 BK556.out 3; have hfz7_4 := qz0 BK556.out 4; have hfz7_5 := qz0 BK556.out 5; have hfz7_6 := qz0 BK556.out 6; have hfz7_7 := qz0 BK556.out 7; have hfz7_8 := qz0 BK556.out 8) | ((with_reducible refine qz31 (N := 5) rfl ?_); (try (refine qz55 (by rfl) ?_; dsimp only)); refine qz32 ?hg (N := 5) ?hd (cs := #[.int .u64 0, .int .u64 0]) (t := 24) ?hr ?_; (case hd => rfl); (case hg => rfl); (case hr => first | (go_simp; done) | (go_simp; rfl)); intro gb558 hg w8 hbox hb; have n0_ := qza.mk (qz35 (g := gb556) (o := .cells #[.int .u64 a0_0, .int .u64 a0_1, .slice A0_2 l0_2.length c0_2, .int .i64 a0_3, .int .i64 a0_4, .bool a0_5, .bool a0_6, .bool a0_7, .slice A0_8 l0_8.length c0_8] 30 (0, 0)) (by (with_reducible repeat (first | refine qz3 ?_ _ | refine qz6 ?_ | refine qz4 ?_ _)); exact BK556.out) hb); have n1_ := qza.mk (qz35 (g := gb557) (o := .cells #[.int .i64 0, .int .u64 0, .int .u64 0, .string (⟨#[]⟩ : ByteArray), .slice none 0 0, .bool false, .slice none 0 0] 38 (0, 0)) (by (with_reducible repeat (first | refine qz3 ?_ _ | refine qz6 ?_ | refine qz4 ?_ _)); exact BK557.out) hb); have n2_ := qza.mk (qz25 (by repeat (first | (with_reducible first | exact HB.out | apply qz10 | apply qz5 | apply qz9 | refine qz8 ?_ GE556.out | refine qz8 ?_ GE557.out) | exact HB.out)) hb); have n3_ := qza.mk (hbox); have n4_ := qza.mk ((by rw [hg]; exact (qz15 (by repeat (first | (with_reducible first | exact HB.out | apply qz10 | apply qz5 | apply qz9 | refine qz8 ?_ GE556.out | refine qz8 ?_ GE557.out) | exact HB.out))) : w.heap.size ≤ gb558)); have n5_ := qza.mk ((by rw [hg]; exact (qz15 (by repeat (first | (with_reducible first | exact HB.out | apply qz10 | apply qz5 | apply qz9 | refine qz8 ?_ GE556.out | refine qz8 ?_ GE557.out) | exact HB.out))) : w.heap.size ≤ gb558)); have n6_ := qza.mk ((by rw [hg]; exact Nat.ne_of_lt (qz36 (g := gb556) (o := .cells #[.int .u64 a0_0, .int .u64 a0_1, .slice A0_2 l0_2.length c0_2, .int .i64 a0_3, .int .i64 a0_4, .bool a0_5, .bool a0_6, .bool a0_7, .slice A0_8 l0_8.length c0_8] 30 (0, 0)) (by (with_reducible repeat (first | refine qz3 ?_ _ | refine qz6 ?_ | refine qz4 ?_ _)); exact BK556.out)) : gb556 ≠ gb558)); have n7_ := qza.mk ((by rw [hg]; exact Nat.ne_of_gt (qz36 (g := gb556) (o := .cells #[.int .u64 a0_0, .int .u64 a0_1, .slice A0_2 l0_2.length c0_2, .int .i64 a0_3, .int .i64 a0_4, .bool a0_5, .bool a0_6, .bool a0_7, .slice A0_8 l0_8.length c0_8] 30 (0, 0)) (by (with_reducible repeat (first | refine qz3 ?_ _ | refine qz6 ?_ | refine qz4 ?_ _)); exact BK556.out)) : gb558 ≠ gb556)); have n8_ := qza.mk ((by rw [hg]; exact Nat.ne_of_lt (qz36 (g := gb557) (o := .cells #[.int .i64 0, .int .u64 0, .int .u64 0, .string (⟨#[]⟩ : ByteArray), .slice none 0 0, .bool false, .slice none 0 0] 38 (0, 0)) (by (with_reducible repeat (first | refine qz3 ?_ _ | refine qz6 ?_ | refine qz4 ?_ _)); exact BK557.out)) : gb557 ≠ gb558)); have n9_ := qza.mk ((by rw [hg]; exact Nat.ne_of_gt (qz36 (g := gb557) (o := .cells #[.int .i64 0, .int .u64 0, .int .u64 0, .string (⟨#[]⟩ : ByteArray), .slice none 0 0, .bool false, .slice none 0 0] 38 (0, 0)) (by (with_reducible repeat (first | refine qz3 ?_ _ | refine qz6 ?_ | refine qz4 ?_ _)); exact BK557.out)) : gb558 ≠ gb557)); clear BK556; clear BK557; clear HB; have BK556 := n0_; have BK557 := n1_; have HB := n2_; have BK558 := n3_; have GW558 := n4_; have GE558 := n5_; have NB556_558 := n6_; have NB558_556 := n7_; have NB557_558 := n8_; have NB558_557 := n9_; clear n0_ n1_ n2_ n3_ n4_ n5_ n6_ n7_ n8_ n9_; clear hb hbox hg; have hnb9 := NB558_556.out; have hnc9 := NB556_558.out; have hnb10 := NB558_557.out; have hnc10 := NB557_558.out; have hcz11_0 : w8.cell? ⟨gb558, 0, none⟩ = some (.int .u64 0) := (qz1 BK558.out 0).trans rfl; have hcz11_1 : w8.cell? ⟨gb558, 1, none⟩ = some (.int .u64 0) := (qz1 BK558.out 1).trans rfl; have hfz11_0 := qz0 BK558.out 0; have hfz11_1 := qz0 BK558.out 1; have hcz12_0 : w8.cell? ⟨gb556, 0, none⟩ = some (.int .u64 a0_0) := (qz1 BK556.out 0).trans rfl; have hcz12_1 : w8.cell? ⟨gb556, 1, none⟩ = some (.int .u64 a0_1) := (qz1 BK556.out 1).trans rfl; have hcz12_2 : w8.cell? ⟨gb556, 2, none⟩ = some (.slice A0_2 l0_2.length c0_2) := (qz1 BK556.out 2).trans rfl; have hcz12_3 : w8.cell? ⟨gb556, 3, none⟩ = some (.int .i64 a0_3) := (qz1 BK556.out 3).trans rfl; have hcz12_4 : w8.cell? ⟨gb556, 4, none⟩ = some (.int .i64 a0_4) := (qz1 BK556.out 4).trans rfl; have hcz12_5 : w8.cell? ⟨gb556, 5, none⟩ = some (.bool a0_5) := (qz1 BK556.out 5).trans rfl; have hcz12_6 : w8.cell? ⟨gb556, 6, none⟩ = some (.bool a0_6) := (qz1 BK556.out 6).trans rfl; have hcz12_7 : w8.cell? ⟨gb556, 7, none⟩ = some (.bool a0_7) := (qz1 BK556.out 7).trans rfl; have hcz12_8 : w8.cell? ⟨gb556, 8, none⟩ = some (.slice A0_8 l0_8.length c0_8) := (qz1 BK556.out 8).trans rfl; have hfz12_0 := qz0 BK556.out 0; have hfz12_1 := qz0 BK556.out 1; have hfz12_2 := qz0 BK556.out 2; have hfz12_3 := qz0 BK556.out 3; have hfz12_4 := qz0 BK556.out 4; have hfz12_5 := qz0 BK556.out 5; have hfz12_6 := qz0 BK556.out 6; have hfz12_7 := qz0 BK556.out 7; have hfz12_8 := qz0 BK556.out 8) | ((with_reducible refine qz42 (f := 19) rfl ?_); refine goesL_ (some 16) rfl rfl Try.func19 (by kernel_rfl) rfl #[.agg #[.int .u64 a0_0, .int .u64 a0_1, .slice A0_2 l0_2.length c0_2]] rfl (by (try simp only [List.map_toArray, List.map_cons, List.map_nil]); first | done | rfl | (simp only [List.length_drop, List.length_take]; rfl)) ?_; (with_reducible refine (ferruleref20_Parts.calls k a0_0 a0_1 _ _ l0_2 t559 _ ?side1 ?side2 A2.out).mono ?_); (case side1 => exact Kd.C_below HR0_2.out (by repeat (first | (with_reducible first | exact HB.out | apply qz10 | apply qz5 | apply qz9 | refine qz8 ?_ GE556.out | refine qz8 ?_ GE557.out | refine qz8 ?_ GE558.out) | exact HB.out))); (case side2 => exact HC0_2.out); rintro e w13 ⟨v560, rfl, ho0, hb⟩; refine ⟨_, rfl, ?_⟩; have n0_ := qza.mk (Kd.R_lower ho0 (qz15 (by repeat (first | (with_reducible first | exact HB.out | apply qz10 | apply qz5 | apply qz9 | refine qz8 ?_ GE556.out | refine qz8 ?_ GE557.out | refine qz8 ?_ GE558.out) | exact HB.out)))); have n1_ := qza.mk (qz35 (g := gb556) (o := .cells #[.int .u64 a0_0, .int .u64 a0_1, .slice A0_2 l0_2.length c0_2, .int .i64 a0_3, .int .i64 a0_4, .bool a0_5, .bool a0_6, .bool a0_7, .slice A0_8 l0_8.length c0_8] 30 (0, 0)) (by (with_reducible repeat (first | refine qz3 ?_ _ | refine qz6 ?_ | refine qz4 ?_ _)); refine qz29 ?_ NB556_558.out _; (with_reducible repeat (first | refine qz3 ?_ _ | refine qz6 ?_ | refine qz4 ?_ _)); refine qz29 ?_ NB556_558.out _; (with_reducible repeat (first | refine qz3 ?_ _ | refine qz6 ?_ | refine qz4 ?_ _)); exact BK556.out) hb); have n2_ := qza.mk (qz35 (g := gb557) (o := .cells #[.int .i64 0, .int .u64 0, .int .u64 0, .string (⟨#[]⟩ : ByteArray), .slice none 0 0, .bool false, .slice none 0 0] 38 (0, 0)) (by (with_reducible repeat (first | refine qz3 ?_ _ | refine qz6 ?_ | refine qz4 ?_ _)); refine qz29 ?_ NB557_558.out _; (with_reducible repeat (first | refine qz3 ?_ _ | refine qz6 ?_ | refine qz4 ?_ _)); refine qz29 ?_ NB557_558.out _; (with_reducible repeat (first | refine qz3 ?_ _ | refine qz6 ?_ | refine qz4 ?_ _)); exact BK557.out) hb); have n3_ := qza.mk (qz35 (g := gb558) (o := .cells #[.int .u64 a0_0, .int .u64 a0_1] 24 (0, 0)) (by (with_reducible repeat (first | refine qz3 ?_ _ | refine qz6 ?_ | refine qz4 ?_ _)); refine qz12 (cs := #[.int .u64 a0_0, .int .u64 0]) ?_ 1 _ rfl; (with_reducible repeat (first | refine qz3 ?_ _ | refine qz6 ?_ | refine qz4 ?_ _)); refine qz12 (cs := #[.int .u64 0, .int .u64 0]) ?_ 0 _ rfl; (with_reducible repeat (first | refine qz3 ?_ _ | refine qz6 ?_ | refine qz4 ?_ _)); exact BK558.out) hb); have n4_ := qza.mk (qz25 (by repeat (first | (with_reducible first | exact HB.out | apply qz10 | apply qz5 | apply qz9 | refine qz8 ?_ GE556.out | refine qz8 ?_ GE557.out | refine qz8 ?_ GE558.out) | exact HB.out)) hb); clear BK556; clear BK557; clear BK558; clear HB; have HO561 := n0_; have BK556 := n1_; have BK557 := n2_; have BK558 := n3_; have HB := n4_; clear n0_ n1_ n2_ n3_ n4_; (try clear hb); (try clear hb2); (try clear hk); (try clear hi); (try clear ho0)))
  (try simp only [Act.put, List.setIfInBounds_toArray, List.set_cons_zero, List.set_cons_succ])
  go_cut [7] (fun v7 wc => ∃ (kq : Nat) (x7_2 : Bool), v7 = .bool x7_2 ∧ qza (ferruleref20_Next.j0 kq t559 x7_2 a0_0 a0_1 l0_2 a0_3 a0_4 a0_5 a0_6 a0_7 l0_8 a0_0 a0_1 = some (r1, r2, r3, r4, r5, r6, r7, r8, r9)) ∧ qza (kq ≤ k) ∧ qza (Kd.R (Kd.int .u64) 22 wc w.heap.size (fun _ => True) v560 t559) ∧ qza (wc.heap[gb556]? = some (.cells #[.int .u64 a0_0, .int .u64 a0_1, (.slice A0_2 l0_2.length c0_2), .int .i64 a0_3, .int .i64 a0_4, .bool a0_5, .bool a0_6, .bool a0_7, (.slice A0_8 l0_8.length c0_8)] 30 (0, 0))) ∧ qza (wc.heap[gb557]? = some (.cells #[.int .i64 0, .int .u64 0, .int .u64 0, .string (⟨#[]⟩ : ByteArray), (.slice none 0 0), .bool false, (.slice none 0 0)] 38 (0, 0))) ∧ qza (wc.heap[gb558]? = some (.cells #[.int .u64 a0_0, .int .u64 a0_1] 24 (0, 0))) ∧ qza (Below w.heap.size w wc))
  case first =>
    have H := HC3.out
    clear HC3
    by_cases c14 : a0_4 ≥ 0
    · rw [if_pos c14] at H
      have c14b0 : decide (0 ≤ a0_4) = true := decide_eq_true c14
      clear c14
      (first | rw [c14b0] | (simp only [i64_w, i32_w]; rw [c14b0]) | skip)
      have H' := qza.mk H
      clear H
      have hnb15 := NB556_557.out
      have hnc15 := NB557_556.out
      have hnb16 := NB556_558.out
      have hnc16 := NB558_556.out
      have hcz17_0 : w13.cell? ⟨gb556, 0, none⟩ = some (.int .u64 a0_0) := (qz1 BK556.out 0).trans rfl
      have hcz17_1 : w13.cell? ⟨gb556, 1, none⟩ = some (.int .u64 a0_1) := (qz1 BK556.out 1).trans rfl
      have hcz17_2 : w13.cell? ⟨gb556, 2, none⟩ = some (.slice A0_2 l0_2.length c0_2) := (qz1 BK556.out 2).trans rfl
      have hcz17_3 : w13.cell? ⟨gb556, 3, none⟩ = some (.int .i64 a0_3) := (qz1 BK556.out 3).trans rfl
      have hcz17_4 : w13.cell? ⟨gb556, 4, none⟩ = some (.int .i64 a0_4) := (qz1 BK556.out 4).trans rfl
      have hcz17_5 : w13.cell? ⟨gb556, 5, none⟩ = some (.bool a0_5) := (qz1 BK556.out 5).trans rfl
      have hcz17_6 : w13.cell? ⟨gb556, 6, none⟩ = some (.bool a0_6) := (qz1 BK556.out 6).trans rfl
      have hcz17_7 : w13.cell? ⟨gb556, 7, none⟩ = some (.bool a0_7) := (qz1 BK556.out 7).trans rfl
      have hcz17_8 : w13.cell? ⟨gb556, 8, none⟩ = some (.slice A0_8 l0_8.length c0_8) := (qz1 BK556.out 8).trans rfl
      have hfz17_0 := qz0 BK556.out 0
      have hfz17_1 := qz0 BK556.out 1
      have hfz17_2 := qz0 BK556.out 2
      have hfz17_3 := qz0 BK556.out 3
      have hfz17_4 := qz0 BK556.out 4
      have hfz17_5 := qz0 BK556.out 5
      have hfz17_6 := qz0 BK556.out 6
      have hfz17_7 := qz0 BK556.out 7
      have hfz17_8 := qz0 BK556.out 8
      go_wp2
      go_meet
      case rel => exact ⟨_, (decide (a0_4 < (l0_2.length : Int))), (by first | rfl | (simp; done) | (simp [*]; done)), H', ⟨by first | omega | exact Nat.le_refl _⟩, ⟨by (with_reducible repeat (first | apply Kd.R_alloc | apply Kd.R_drewN | apply Kd.R_drew)); exact HO561.out⟩, ⟨by (with_reducible repeat (first | refine qz3 ?_ _ | refine qz6 ?_ | refine qz4 ?_ _)); exact BK556.out⟩, ⟨by (with_reducible repeat (first | refine qz3 ?_ _ | refine qz6 ?_ | refine qz4 ?_ _)); exact BK557.out⟩, ⟨by (with_reducible repeat (first | refine qz3 ?_ _ | refine qz6 ?_ | refine qz4 ?_ _)); exact BK558.out⟩, ⟨by repeat (first | (with_reducible first | exact HB.out | apply qz10 | apply qz5 | apply qz9 | refine qz8 ?_ GE556.out | refine qz8 ?_ GE557.out | refine qz8 ?_ GE558.out) | exact HB.out)⟩⟩
    · rw [if_neg c14] at H
      have c14b0 : decide (0 ≤ a0_4) = false := decide_eq_false c14
      clear c14
      (first | rw [c14b0] | (simp only [i64_w, i32_w]; rw [c14b0]) | skip)
      have H' := qza.mk H
      clear H
      have hnb18 := NB556_557.out
      have hnc18 := NB557_556.out
      have hnb19 := NB556_558.out
      have hnc19 := NB558_556.out
      have hcz20_0 : w13.cell? ⟨gb556, 0, none⟩ = some (.int .u64 a0_0) := (qz1 BK556.out 0).trans rfl
      have hcz20_1 : w13.cell? ⟨gb556, 1, none⟩ = some (.int .u64 a0_1) := (qz1 BK556.out 1).trans rfl
      have hcz20_2 : w13.cell? ⟨gb556, 2, none⟩ = some (.slice A0_2 l0_2.length c0_2) := (qz1 BK556.out 2).trans rfl
      have hcz20_3 : w13.cell? ⟨gb556, 3, none⟩ = some (.int .i64 a0_3) := (qz1 BK556.out 3).trans rfl
      have hcz20_4 : w13.cell? ⟨gb556, 4, none⟩ = some (.int .i64 a0_4) := (qz1 BK556.out 4).trans rfl
      have hcz20_5 : w13.cell? ⟨gb556, 5, none⟩ = some (.bool a0_5) := (qz1 BK556.out 5).trans rfl
      have hcz20_6 : w13.cell? ⟨gb556, 6, none⟩ = some (.bool a0_6) := (qz1 BK556.out 6).trans rfl
      have hcz20_7 : w13.cell? ⟨gb556, 7, none⟩ = some (.bool a0_7) := (qz1 BK556.out 7).trans rfl
      have hcz20_8 : w13.cell? ⟨gb556, 8, none⟩ = some (.slice A0_8 l0_8.length c0_8) := (qz1 BK556.out 8).trans rfl
      have hfz20_0 := qz0 BK556.out 0
      have hfz20_1 := qz0 BK556.out 1
      have hfz20_2 := qz0 BK556.out 2
      have hfz20_3 := qz0 BK556.out 3
      have hfz20_4 := qz0 BK556.out 4
      have hfz20_5 := qz0 BK556.out 5
      have hfz20_6 := qz0 BK556.out 6
      have hfz20_7 := qz0 BK556.out 7
      have hfz20_8 := qz0 BK556.out 8
      go_wp2
      go_meet
      case rel => exact ⟨_, (false), (by first | rfl | (simp; done) | (simp [*]; done)), H', ⟨by first | omega | exact Nat.le_refl _⟩, ⟨by (with_reducible repeat (first | apply Kd.R_alloc | apply Kd.R_drewN | apply Kd.R_drew)); exact HO561.out⟩, ⟨by (with_reducible repeat (first | refine qz3 ?_ _ | refine qz6 ?_ | refine qz4 ?_ _)); exact BK556.out⟩, ⟨by (with_reducible repeat (first | refine qz3 ?_ _ | refine qz6 ?_ | refine qz4 ?_ _)); exact BK557.out⟩, ⟨by (with_reducible repeat (first | refine qz3 ?_ _ | refine qz6 ?_ | refine qz4 ?_ _)); exact BK558.out⟩, ⟨by repeat (first | (with_reducible first | exact HB.out | apply qz10 | apply qz5 | apply qz9 | refine qz8 ?_ GE556.out | refine qz8 ?_ GE557.out | refine qz8 ?_ GE558.out) | exact HB.out)⟩⟩
  case rest =>
    clear HC3
    try clear c1
    try clear p2
    try clear c6
    try clear c9
    try clear c10
    try clear c11
    try clear c14
    try clear c14b0
    try clear c15
    try clear c16
    try clear c18
    try clear c19
    try clear hcz11_0
    try clear hcz11_1
    try clear hcz12_0
    try clear hcz12_1
    try clear hcz12_2
    try clear hcz12_3
    try clear hcz12_4
    try clear hcz12_5
    try clear hcz12_6
    try clear hcz12_7
    try clear hcz12_8
    try clear hcz17_0
    try clear hcz17_1
    try clear hcz17_2
    try clear hcz17_3
    try clear hcz17_4
    try clear hcz17_5
    try clear hcz17_6
    try clear hcz17_7
    try clear hcz17_8
    try clear hcz20_0
    try clear hcz20_1
    try clear hcz20_2
    try clear hcz20_3
    try clear hcz20_4
    try clear hcz20_5
    try clear hcz20_6
    try clear hcz20_7
    try clear hcz20_8
    try clear hcz7_0
    try clear hcz7_1
    try clear hcz7_2
    try clear hcz7_3
    try clear hcz7_4
    try clear hcz7_5
    try clear hcz7_6
    try clear hcz7_7
    try clear hcz7_8
    try clear hfz11_0
    try clear hfz11_1
    try clear hfz12_0
    try clear hfz12_1
    try clear hfz12_2
    try clear hfz12_3
    try clear hfz12_4
    try clear hfz12_5
    try clear hfz12_6
    try clear hfz12_7
    try clear hfz12_8
    try clear hfz17_0
    try clear hfz17_1
    try clear hfz17_2
    try clear hfz17_3
    try clear hfz17_4
    try clear hfz17_5
    try clear hfz17_6
    try clear hfz17_7
    try clear hfz17_8
    try clear hfz20_0
    try clear hfz20_1
    try clear hfz20_2
    try clear hfz20_3
    try clear hfz20_4
    try clear hfz20_5
    try clear hfz20_6
    try clear hfz20_7
    try clear hfz20_8
    try clear hfz7_0
    try clear hfz7_1
    try clear hfz7_2
    try clear hfz7_3
    try clear hfz7_4
    try clear hfz7_5
    try clear hfz7_6
    try clear hfz7_7
    try clear hfz7_8
    obtain ⟨kq, x7_2, rfl, HA, HJ2, HO_6, BK556, BK557, BK558, HB⟩ := hcut
    cases kq with
    | zero => exact absurd HA.out (by simp [ferruleref20_Next.j0])
    | succ kj2 =>
      have H := HA.out
      clear HA
      simp only [ferruleref20_Next.j0] at H
      have HC21 := qza.mk H
      clear H
      go_upto_region 4 with (fail)
      go_cut [8] (fun v8 wc => ∃ (kq : Nat) (x8_20 : Bool), v8 = .bool x8_20 ∧ qza (ferruleref20_Next.j1 kq t559 x7_2 x8_20 a0_0 a0_1 l0_2 a0_3 a0_4 a0_5 a0_6 a0_7 l0_8 a0_0 a0_1 = some (r1, r2, r3, r4, r5, r6, r7, r8, r9)) ∧ qza (kq ≤ kj2) ∧ qza (Kd.R (Kd.int .u64) 22 wc w.heap.size (fun _ => True) v560 t559) ∧ qza (wc.heap[gb556]? = some (.cells #[.int .u64 a0_0, .int .u64 a0_1, (.slice A0_2 l0_2.length c0_2), .int .i64 a0_3, .int .i64 a0_4, .bool a0_5, .bool a0_6, .bool a0_7, (.slice A0_8 l0_8.length c0_8)] 30 (0, 0))) ∧ qza (wc.heap[gb557]? = some (.cells #[.int .i64 0, .int .u64 0, .int .u64 0, .string (⟨#[]⟩ : ByteArray), (.slice none 0 0), .bool false, (.slice none 0 0)] 38 (0, 0))) ∧ qza (wc.heap[gb558]? = some (.cells #[.int .u64 a0_0, .int .u64 a0_1] 24 (0, 0))) ∧ qza (Below w.heap.size w wc))
      case first =>
        have H := HC21.out
        clear HC21
        by_cases c22 : a0_4 ≥ 0
        · rw [if_pos c22] at H
          have c22b0 : decide (0 ≤ a0_4) = true := decide_eq_true c22
          clear c22
          (first | rw [c22b0] | (simp only [i64_w, i32_w]; rw [c22b0]) | skip)
          have H' := qza.mk H
          clear H
          have hnb23 := NB556_557.out
          have hnc23 := NB557_556.out
          have hnb24 := NB556_558.out
          have hnc24 := NB558_556.out
          have hcz25_0 : wc.cell? ⟨gb556, 0, none⟩ = some (.int .u64 a0_0) := (qz1 BK556.out 0).trans rfl
          have hcz25_1 : wc.cell? ⟨gb556, 1, none⟩ = some (.int .u64 a0_1) := (qz1 BK556.out 1).trans rfl
          have hcz25_2 : wc.cell? ⟨gb556, 2, none⟩ = some (.slice A0_2 l0_2.length c0_2) := (qz1 BK556.out 2).trans rfl
          have hcz25_3 : wc.cell? ⟨gb556, 3, none⟩ = some (.int .i64 a0_3) := (qz1 BK556.out 3).trans rfl
          have hcz25_4 : wc.cell? ⟨gb556, 4, none⟩ = some (.int .i64 a0_4) := (qz1 BK556.out 4).trans rfl
          have hcz25_5 : wc.cell? ⟨gb556, 5, none⟩ = some (.bool a0_5) := (qz1 BK556.out 5).trans rfl
          have hcz25_6 : wc.cell? ⟨gb556, 6, none⟩ = some (.bool a0_6) := (qz1 BK556.out 6).trans rfl
          have hcz25_7 : wc.cell? ⟨gb556, 7, none⟩ = some (.bool a0_7) := (qz1 BK556.out 7).trans rfl
          have hcz25_8 : wc.cell? ⟨gb556, 8, none⟩ = some (.slice A0_8 l0_8.length c0_8) := (qz1 BK556.out 8).trans rfl
          have hfz25_0 := qz0 BK556.out 0
          have hfz25_1 := qz0 BK556.out 1
          have hfz25_2 := qz0 BK556.out 2
          have hfz25_3 := qz0 BK556.out 3
          have hfz25_4 := qz0 BK556.out 4
          have hfz25_5 := qz0 BK556.out 5
          have hfz25_6 := qz0 BK556.out 6
          have hfz25_7 := qz0 BK556.out 7
          have hfz25_8 := qz0 BK556.out 8
          obtain ⟨Ao26, co26, eo26⟩ := Kd.R_slice HO_6.out
          subst eo26
          go_wp2
          go_meet
          case rel => exact ⟨_, (decide (a0_4 < (t559.length : Int))), (by first | rfl | (simp; done) | (simp [*]; done)), H', ⟨by have := HJ2.out; first | omega | exact Nat.le_refl _⟩, ⟨by (with_reducible repeat (first | apply Kd.R_alloc | apply Kd.R_drewN | apply Kd.R_drew)); exact HO_6.out⟩, ⟨by (with_reducible repeat (first | refine qz3 ?_ _ | refine qz6 ?_ | refine qz4 ?_ _)); exact BK556.out⟩, ⟨by (with_reducible repeat (first | refine qz3 ?_ _ | refine qz6 ?_ | refine qz4 ?_ _)); exact BK557.out⟩, ⟨by (with_reducible repeat (first | refine qz3 ?_ _ | refine qz6 ?_ | refine qz4 ?_ _)); exact BK558.out⟩, ⟨by repeat (first | (with_reducible first | exact HB.out | apply qz10 | apply qz5 | apply qz9 | refine qz8 ?_ GE556.out | refine qz8 ?_ GE557.out | refine qz8 ?_ GE558.out) | exact HB.out)⟩⟩
        · rw [if_neg c22] at H
          have c22b0 : decide (0 ≤ a0_4) = false := decide_eq_false c22
          clear c22
          (first | rw [c22b0] | (simp only [i64_w, i32_w]; rw [c22b0]) | skip)
          have H' := qza.mk H
          clear H
          have hnb27 := NB556_557.out
          have hnc27 := NB557_556.out
          have hnb28 := NB556_558.out
          have hnc28 := NB558_556.out
          have hcz29_0 : wc.cell? ⟨gb556, 0, none⟩ = some (.int .u64 a0_0) := (qz1 BK556.out 0).trans rfl
          have hcz29_1 : wc.cell? ⟨gb556, 1, none⟩ = some (.int .u64 a0_1) := (qz1 BK556.out 1).trans rfl
          have hcz29_2 : wc.cell? ⟨gb556, 2, none⟩ = some (.slice A0_2 l0_2.length c0_2) := (qz1 BK556.out 2).trans rfl
          have hcz29_3 : wc.cell? ⟨gb556, 3, none⟩ = some (.int .i64 a0_3) := (qz1 BK556.out 3).trans rfl
          have hcz29_4 : wc.cell? ⟨gb556, 4, none⟩ = some (.int .i64 a0_4) := (qz1 BK556.out 4).trans rfl
          have hcz29_5 : wc.cell? ⟨gb556, 5, none⟩ = some (.bool a0_5) := (qz1 BK556.out 5).trans rfl
          have hcz29_6 : wc.cell? ⟨gb556, 6, none⟩ = some (.bool a0_6) := (qz1 BK556.out 6).trans rfl
          have hcz29_7 : wc.cell? ⟨gb556, 7, none⟩ = some (.bool a0_7) := (qz1 BK556.out 7).trans rfl
          have hcz29_8 : wc.cell? ⟨gb556, 8, none⟩ = some (.slice A0_8 l0_8.length c0_8) := (qz1 BK556.out 8).trans rfl
          have hfz29_0 := qz0 BK556.out 0
          have hfz29_1 := qz0 BK556.out 1
          have hfz29_2 := qz0 BK556.out 2
          have hfz29_3 := qz0 BK556.out 3
          have hfz29_4 := qz0 BK556.out 4
          have hfz29_5 := qz0 BK556.out 5
          have hfz29_6 := qz0 BK556.out 6
          have hfz29_7 := qz0 BK556.out 7
          have hfz29_8 := qz0 BK556.out 8
          go_wp2
          go_meet
          case rel => exact ⟨_, (false), (by first | rfl | (simp; done) | (simp [*]; done)), H', ⟨by have := HJ2.out; first | omega | exact Nat.le_refl _⟩, ⟨by (with_reducible repeat (first | apply Kd.R_alloc | apply Kd.R_drewN | apply Kd.R_drew)); exact HO_6.out⟩, ⟨by (with_reducible repeat (first | refine qz3 ?_ _ | refine qz6 ?_ | refine qz4 ?_ _)); exact BK556.out⟩, ⟨by (with_reducible repeat (first | refine qz3 ?_ _ | refine qz6 ?_ | refine qz4 ?_ _)); exact BK557.out⟩, ⟨by (with_reducible repeat (first | refine qz3 ?_ _ | refine qz6 ?_ | refine qz4 ?_ _)); exact BK558.out⟩, ⟨by repeat (first | (with_reducible first | exact HB.out | apply qz10 | apply qz5 | apply qz9 | refine qz8 ?_ GE556.out | refine qz8 ?_ GE557.out | refine qz8 ?_ GE558.out) | exact HB.out)⟩⟩
      case rest =>
        clear HC21
        try clear c1
        try clear c2
        try clear p2
        try clear c6
        try clear c9
        try clear c10
        try clear c11
        try clear c14
        try clear c14b0
        try clear c15
        try clear c16
        try clear c18
        try clear c19
        try clear c22
        try clear c22b0
        try clear c23
        try clear c24
        try clear c27
        try clear c28
        try clear hcz11_0
        try clear hcz11_1
        try clear hcz12_0
        try clear hcz12_1
        try clear hcz12_2
        try clear hcz12_3
        try clear hcz12_4
        try clear hcz12_5
        try clear hcz12_6
        try clear hcz12_7
        try clear hcz12_8
        try clear hcz17_0
        try clear hcz17_1
        try clear hcz17_2
        try clear hcz17_3
        try clear hcz17_4
        try clear hcz17_5
        try clear hcz17_6
        try clear hcz17_7
        try clear hcz17_8
        try clear hcz20_0
        try clear hcz20_1
        try clear hcz20_2
        try clear hcz20_3
        try clear hcz20_4
        try clear hcz20_5
        try clear hcz20_6
        try clear hcz20_7
        try clear hcz20_8
        try clear hcz25_0
        try clear hcz25_1
        try clear hcz25_2
        try clear hcz25_3
        try clear hcz25_4
        try clear hcz25_5
        try clear hcz25_6
        try clear hcz25_7
        try clear hcz25_8
        try clear hcz29_0
        try clear hcz29_1
        try clear hcz29_2
        try clear hcz29_3
        try clear hcz29_4
        try clear hcz29_5
        try clear hcz29_6
        try clear hcz29_7
        try clear hcz29_8
        try clear hcz7_0
        try clear hcz7_1
        try clear hcz7_2
        try clear hcz7_3
        try clear hcz7_4
        try clear hcz7_5
        try clear hcz7_6
        try clear hcz7_7
        try clear hcz7_8
        try clear hfz11_0
        try clear hfz11_1
        try clear hfz12_0
        try clear hfz12_1
        try clear hfz12_2
        try clear hfz12_3
        try clear hfz12_4
        try clear hfz12_5
        try clear hfz12_6
        try clear hfz12_7
        try clear hfz12_8
        try clear hfz17_0
        try clear hfz17_1
        try clear hfz17_2
        try clear hfz17_3
        try clear hfz17_4
        try clear hfz17_5
        try clear hfz17_6
        try clear hfz17_7
        try clear hfz17_8
        try clear hfz20_0
        try clear hfz20_1
        try clear hfz20_2
        try clear hfz20_3
        try clear hfz20_4
        try clear hfz20_5
        try clear hfz20_6
        try clear hfz20_7
        try clear hfz20_8
        try clear hfz25_0
        try clear hfz25_1
        try clear hfz25_2
        try clear hfz25_3
        try clear hfz25_4
        try clear hfz25_5
        try clear hfz25_6
        try clear hfz25_7
        try clear hfz25_8
        try clear hfz29_0
        try clear hfz29_1
        try clear hfz29_2
        try clear hfz29_3
        try clear hfz29_4
        try clear hfz29_5
        try clear hfz29_6
        try clear hfz29_7
        try clear hfz29_8
        try clear hfz7_0
        try clear hfz7_1
        try clear hfz7_2
        try clear hfz7_3
        try clear hfz7_4
        try clear hfz7_5
        try clear hfz7_6
        try clear hfz7_7
        try clear hfz7_8
        try clear p2
        obtain ⟨kq, x8_20, rfl, HA, HJ20, HO_6, BK556, BK557, BK558, HB⟩ := hcut
        cases kq with
        | zero => exact absurd HA.out (by simp [ferruleref20_Next.j1])
        | succ kj20 =>
          have H := HA.out
          clear HA
          simp only [ferruleref20_Next.j1] at H
          by_cases c30 : a0_3 = 0
          · rw [if_pos c30] at H
            have c30b0 : (a0_3 == 0) = true := beq_iff_eq.mpr c30
            have c30b1 : (a0_3 != 0) = false := bne_eq_false_iff_eq.mpr c30
            clear c30
            by_cases c31 : x7_2 = true
            · subst c31
              have H1 : (if 0 ≤ a0_4 then (if a0_4 < (l0_2.length : Int) then (if (qz7 l0_2 a0_4).f3 = true then (some ((qz7 l0_2 a0_4).f0, 2, a0_0, a0_1, (qz7 l0_2 a0_4).f1, ([] : List (S74)), false, ([] : List Int), true)) else (some ((qz7 l0_2 a0_4).f0, 1, a0_0, a0_1, (qz7 l0_2 a0_4).f1, ([] : List (S74)), false, ([] : List Int), true))) else (none)) else (none)) = some (r1, r2, r3, r4, r5, r6, r7, r8, r9) := by rw [if_pos rfl] at H; exact H
              clear H
              have H := H1
              clear H1
              by_cases c32 : 0 ≤ a0_4
              · rw [if_pos c32] at H
                have c32b0 : decide (0 ≤ a0_4) = true := decide_eq_true c32
                clear c32
                by_cases c33 : a0_4 < (l0_2.length : Int)
                · rw [if_pos c33] at H
                  have c33b0 : decide (a0_4 < (l0_2.length : Int)) = true := decide_eq_true c33
                  clear c33
                  obtain ⟨bq34, hbq34⟩ : ∃ b_ : Bool, b_ = ((qz7 l0_2 a0_4).f3) := ⟨_, rfl⟩
                  replace H : (if bq34 = true then (some ((qz7 l0_2 a0_4).f0, 2, a0_0, a0_1, (qz7 l0_2 a0_4).f1, ([] : List (S74)), false, ([] : List Int), true)) else (some ((qz7 l0_2 a0_4).f0, 1, a0_0, a0_1, (qz7 l0_2 a0_4).f1, ([] : List (S74)), false, ([] : List Int), true))) = some (r1, r2, r3, r4, r5, r6, r7, r8, r9) := by rw [← hbq34] at H; exact H
                  have Nbq34 := qza.mk hbq34
                  clear hbq34
                  by_cases c35 : bq34 = true
                  · subst c35
                    have H1 : (some ((qz7 l0_2 a0_4).f0, 2, a0_0, a0_1, (qz7 l0_2 a0_4).f1, ([] : List (S74)), false, ([] : List Int), true)) = some (r1, r2, r3, r4, r5, r6, r7, r8, r9) := by rw [if_pos rfl] at H; exact H
                    clear H
                    have H := H1
                    clear H1
                    simp only [Option.some.injEq, Prod.mk.injEq] at H
                    obtain ⟨rfl, rfl, rfl, rfl, rfl, rfl, rfl, rfl, rfl⟩ := H
                    have hnb36 := NB556_557.out
                    have hnc36 := NB557_556.out
                    have hnb37 := NB556_558.out
                    have hnc37 := NB558_556.out
                    have hcz38_0 : wc.cell? ⟨gb556, 0, none⟩ = some (.int .u64 a0_0) := (qz1 BK556.out 0).trans rfl
                    have hcz38_1 : wc.cell? ⟨gb556, 1, none⟩ = some (.int .u64 a0_1) := (qz1 BK556.out 1).trans rfl
                    have hcz38_2 : wc.cell? ⟨gb556, 2, none⟩ = some (.slice A0_2 l0_2.length c0_2) := (qz1 BK556.out 2).trans rfl
                    have hcz38_3 : wc.cell? ⟨gb556, 3, none⟩ = some (.int .i64 a0_3) := (qz1 BK556.out 3).trans rfl
                    have hcz38_4 : wc.cell? ⟨gb556, 4, none⟩ = some (.int .i64 a0_4) := (qz1 BK556.out 4).trans rfl
                    have hcz38_5 : wc.cell? ⟨gb556, 5, none⟩ = some (.bool a0_5) := (qz1 BK556.out 5).trans rfl
                    have hcz38_6 : wc.cell? ⟨gb556, 6, none⟩ = some (.bool a0_6) := (qz1 BK556.out 6).trans rfl
                    have hcz38_7 : wc.cell? ⟨gb556, 7, none⟩ = some (.bool a0_7) := (qz1 BK556.out 7).trans rfl
                    have hcz38_8 : wc.cell? ⟨gb556, 8, none⟩ = some (.slice A0_8 l0_8.length c0_8) := (qz1 BK556.out 8).trans rfl
                    have hfz38_0 := qz0 BK556.out 0
                    have hfz38_1 := qz0 BK556.out 1
                    have hfz38_2 := qz0 BK556.out 2
                    have hfz38_3 := qz0 BK556.out 3
                    have hfz38_4 := qz0 BK556.out 4
                    have hfz38_5 := qz0 BK556.out 5
                    have hfz38_6 := qz0 BK556.out 6
                    have hfz38_7 := qz0 BK556.out 7
                    have hfz38_8 := qz0 BK556.out 8
                    have p562 : 0 ≤ (a0_4 : Int) := of_decide_eq_true (by first | (with_reducible assumption) | assumption)
                    have q562 : a0_4 < (l0_2.length : Int) := of_decide_eq_true (by first | (with_reducible assumption) | assumption)
                    obtain ⟨ad562, e562, hx562_0, hx562_1, hx562_2, hx562_3, hx562_4⟩ := at_T53 HR0_2.out a0_4 p562 q562
                    (try rw [← Nbq34.out] at hx562_3)
                    (try rw [← Nbq34.out] at hx562_4)
                    cases e562
                    replace hx562_0 := (HB.out.cell (World.block_lt_of_cell? w _ hx562_0)).trans hx562_0
                    replace hx562_1 := (HB.out.cell (World.block_lt_of_cell? w _ hx562_1)).trans hx562_1
                    replace hx562_2 := (HB.out.cell (World.block_lt_of_cell? w _ hx562_2)).trans hx562_2
                    replace hx562_3 := (HB.out.cell (World.block_lt_of_cell? w _ hx562_3)).trans hx562_3
                    replace hx562_4 := (HB.out.cell (World.block_lt_of_cell? w _ hx562_4)).trans hx562_4
                    replace p562 := eq_true p562
                    replace q562 := eq_true q562
                    try go_wp2_with (first | ((with_reducible refine qz31 (N := 9) rfl ?_); (try (refine qz55 (by rfl) ?_; dsimp only)); refine qz32 ?hg (N := 9) ?hd (cs := #[.int .u64 0, .string (⟨#[]⟩ : ByteArray), .string (⟨#[]⟩ : ByteArray), .bool false, .bool false]) (t := 53) ?hr ?_; (case hd => rfl); (case hg => rfl); (case hr => first | (go_simp; done) | (go_simp; rfl)); intro gb563 hg w39 hbox hb; have n0_ := qza.mk (Kd.R_below (by (with_reducible repeat (first | apply Kd.R_alloc | apply Kd.R_drewN | apply Kd.R_drew)); exact HO_6.out) hb); have n1_ := qza.mk (qz35 (g := gb556) (o := .cells #[.int .u64 a0_0, .int .u64 a0_1, .slice (some ad562) l0_2.length c0_2, .int .i64 a0_3, .int .i64 a0_4, .bool a0_5, .bool a0_6, .bool a0_7, .slice A0_8 l0_8.length c0_8] 30 (0, 0)) (by (with_reducible repeat (first | refine qz3 ?_ _ | refine qz6 ?_ | refine qz4 ?_ _)); exact BK556.out) hb); have n2_ := qza.mk (qz35 (g := gb557) (o := .cells #[.int .i64 0, .int .u64 0, .int .u64 0, .string (⟨#[]⟩ : ByteArray), .slice none 0 0, .bool false, .slice none 0 0] 38 (0, 0)) (by (with_reducible repeat (first | refine qz3 ?_ _ | refine qz6 ?_ | refine qz4 ?_ _)); exact BK557.out) hb); have n3_ := qza.mk (qz35 (g := gb558) (o := .cells #[.int .u64 a0_0, .int .u64 a0_1] 24 (0, 0)) (by (with_reducible repeat (first | refine qz3 ?_ _ | refine qz6 ?_ | refine qz4 ?_ _)); exact BK558.out) hb); have n4_ := qza.mk (qz25 (by repeat (first | (with_reducible first | exact HB.out | apply qz10 | apply qz5 | apply qz9 | refine qz8 ?_ GE556.out | refine qz8 ?_ GE557.out | refine qz8 ?_ GE558.out) | exact HB.out)) hb); have n5_ := qza.mk (hbox); have n6_ := qza.mk ((by rw [hg]; exact (qz15 (by repeat (first | (with_reducible first | exact HB.out | apply qz10 | apply qz5 | apply qz9 | refine qz8 ?_ GE556.out | refine qz8 ?_ GE557.out | refine qz8 ?_ GE558.out) | exact HB.out))) : w.heap.size ≤ gb563)); have n7_ := qza.mk ((by rw [hg]; exact (qz15 (by repeat (first | (with_reducible first | exact HB.out | apply qz10 | apply qz5 | apply qz9 | refine qz8 ?_ GE556.out | refine qz8 ?_ GE557.out | refine qz8 ?_ GE558.out) | exact HB.out))) : w.heap.size ≤ gb563)); have n8_ := qza.mk ((by rw [hg]; exact Nat.ne_of_lt (qz36 (g := gb556) (o := .cells #[.int .u64 a0_0, .int .u64 a0_1, .slice (some ad562) l0_2.length c0_2, .int .i64 a0_3, .int .i64 a0_4, .bool a0_5, .bool a0_6, .bool a0_7, .slice A0_8 l0_8.length c0_8] 30 (0, 0)) (by (with_reducible repeat (first | refine qz3 ?_ _ | refine qz6 ?_ | refine qz4 ?_ _)); exact BK556.out)) : gb556 ≠ gb563)); have n9_ := qza.mk ((by rw [hg]; exact Nat.ne_of_gt (qz36 (g := gb556) (o := .cells #[.int .u64 a0_0, .int .u64 a0_1, .slice (some ad562) l0_2.length c0_2, .int .i64 a0_3, .int .i64 a0_4, .bool a0_5, .bool a0_6, .bool a0_7, .slice A0_8 l0_8.length c0_8] 30 (0, 0)) (by (with_reducible repeat (first | refine qz3 ?_ _ | refine qz6 ?_ | refine qz4 ?_ _)); exact BK556.out)) : gb563 ≠ gb556)); have n10_ := qza.mk ((by rw [hg]; exact Nat.ne_of_lt (qz36 (g := gb557) (o := .cells #[.int .i64 0, .int .u64 0, .int .u64 0, .string (⟨#[]⟩ : ByteArray), .slice none 0 0, .bool false, .slice none 0 0] 38 (0, 0)) (by (with_reducible repeat (first | refine qz3 ?_ _ | refine qz6 ?_ | refine qz4 ?_ _)); exact BK557.out)) : gb557 ≠ gb563)); have n11_ := qza.mk ((by rw [hg]; exact Nat.ne_of_gt (qz36 (g := gb557) (o := .cells #[.int .i64 0, .int .u64 0, .int .u64 0, .string (⟨#[]⟩ : ByteArray), .slice none 0 0, .bool false, .slice none 0 0] 38 (0, 0)) (by (with_reducible repeat (first | refine qz3 ?_ _ | refine qz6 ?_ | refine qz4 ?_ _)); exact BK557.out)) : gb563 ≠ gb557)); have n12_ := qza.mk ((by rw [hg]; exact Nat.ne_of_lt (qz36 (g := gb558) (o := .cells #[.int .u64 a0_0, .int .u64 a0_1] 24 (0, 0)) (by (with_reducible repeat (first | refine qz3 ?_ _ | refine qz6 ?_ | refine qz4 ?_ _)); exact BK558.out)) : gb558 ≠ gb563)); have n13_ := qza.mk ((by rw [hg]; exact Nat.ne_of_gt (qz36 (g := gb558) (o := .cells #[.int .u64 a0_0, .int .u64 a0_1] 24 (0, 0)) (by (with_reducible repeat (first | refine qz3 ?_ _ | refine qz6 ?_ | refine qz4 ?_ _)); exact BK558.out)) : gb563 ≠ gb558)); clear HO_6; clear BK556; clear BK557; clear BK558; clear HB; have HO_6 := n0_; have BK556 := n1_; have BK557 := n2_; have BK558 := n3_; have HB := n4_; have BK563 := n5_; have GW563 := n6_; have GE563 := n7_; have NB556_563 := n8_; have NB563_556 := n9_; have NB557_563 := n10_; have NB563_557 := n11_; have NB558_563 := n12_; have NB563_558 := n13_; clear n0_ n1_ n2_ n3_ n4_ n5_ n6_ n7_ n8_ n9_ n10_ n11_ n12_ n13_; clear hb hbox hg; have hnb40 := NB563_556.out; have hnc40 := NB556_563.out; have hnb41 := NB563_557.out; have hnc41 := NB557_563.out; have hnb42 := NB563_558.out; have hnc42 := NB558_563.out; have hcz43_0 : w39.cell? ⟨gb563, 0, none⟩ = some (.int .u64 0) := (qz1 BK563.out 0).trans rfl; have hcz43_1 : w39.cell? ⟨gb563, 1, none⟩ = some (.string (⟨#[]⟩ : ByteArray)) := (qz1 BK563.out 1).trans rfl; have hcz43_2 : w39.cell? ⟨gb563, 2, none⟩ = some (.string (⟨#[]⟩ : ByteArray)) := (qz1 BK563.out 2).trans rfl; have hcz43_3 : w39.cell? ⟨gb563, 3, none⟩ = some (.bool false) := (qz1 BK563.out 3).trans rfl; have hcz43_4 : w39.cell? ⟨gb563, 4, none⟩ = some (.bool false) := (qz1 BK563.out 4).trans rfl; have hfz43_0 := qz0 BK563.out 0; have hfz43_1 := qz0 BK563.out 1; have hfz43_2 := qz0 BK563.out 2; have hfz43_3 := qz0 BK563.out 3; have hfz43_4 := qz0 BK563.out 4))
                    have n0_ : qza (Kd.R (Kd.int .u64) 22 (((((w39.setCell ⟨gb563, 0, none⟩ (.int .u64 ((qz7 l0_2 a0_4).f0))).setCell ⟨gb563, 1, none⟩ (.string ((qz7 l0_2 a0_4).f1))).setCell ⟨gb563, 2, none⟩ (.string ((qz7 l0_2 a0_4).f2))).setCell ⟨gb563, 3, none⟩ (.bool true)).setCell ⟨gb563, 4, none⟩ (.bool ((qz7 l0_2 a0_4).f4))) w.heap.size (fun _ => True) v560 t559) := ⟨by (with_reducible repeat (first | apply Kd.R_alloc | apply Kd.R_drewN | apply Kd.R_drew)); exact Kd.R_mono (Kd.R_far (p := ⟨gb563, 4, none⟩) (Kd.R_far (p := ⟨gb563, 3, none⟩) (Kd.R_far (p := ⟨gb563, 2, none⟩) (Kd.R_far (p := ⟨gb563, 1, none⟩) (Kd.R_far (p := ⟨gb563, 0, none⟩) (Kd.R_types HO_6.out BK563.out (by decide)) (fun _ hk => hk.2) (.int .u64 ((qz7 l0_2 a0_4).f0))) (fun _ hk => hk.2) (.string ((qz7 l0_2 a0_4).f1))) (fun _ hk => hk.2) (.string ((qz7 l0_2 a0_4).f2))) (fun _ hk => hk.2) (.bool true)) (fun _ hk => hk.2) (.bool ((qz7 l0_2 a0_4).f4))) (fun _ hk => trivial)⟩
                    have n1_ : qza ((((((w39.setCell ⟨gb563, 0, none⟩ (.int .u64 ((qz7 l0_2 a0_4).f0))).setCell ⟨gb563, 1, none⟩ (.string ((qz7 l0_2 a0_4).f1))).setCell ⟨gb563, 2, none⟩ (.string ((qz7 l0_2 a0_4).f2))).setCell ⟨gb563, 3, none⟩ (.bool true)).setCell ⟨gb563, 4, none⟩ (.bool ((qz7 l0_2 a0_4).f4))).heap[gb556]? = some (.cells #[.int .u64 a0_0, .int .u64 a0_1, .slice (some ad562) l0_2.length c0_2, .int .i64 a0_3, .int .i64 a0_4, .bool a0_5, .bool a0_6, .bool a0_7, .slice A0_8 l0_8.length c0_8] 30 (0, 0))) := ⟨by (with_reducible repeat (first | refine qz3 ?_ _ | refine qz6 ?_ | refine qz4 ?_ _)); refine qz29 ?_ NB556_563.out _; (with_reducible repeat (first | refine qz3 ?_ _ | refine qz6 ?_ | refine qz4 ?_ _)); refine qz29 ?_ NB556_563.out _; (with_reducible repeat (first | refine qz3 ?_ _ | refine qz6 ?_ | refine qz4 ?_ _)); refine qz29 ?_ NB556_563.out _; (with_reducible repeat (first | refine qz3 ?_ _ | refine qz6 ?_ | refine qz4 ?_ _)); refine qz29 ?_ NB556_563.out _; (with_reducible repeat (first | refine qz3 ?_ _ | refine qz6 ?_ | refine qz4 ?_ _)); refine qz29 ?_ NB556_563.out _; (with_reducible repeat (first | refine qz3 ?_ _ | refine qz6 ?_ | refine qz4 ?_ _)); exact BK556.out⟩
                    have n2_ : qza ((((((w39.setCell ⟨gb563, 0, none⟩ (.int .u64 ((qz7 l0_2 a0_4).f0))).setCell ⟨gb563, 1, none⟩ (.string ((qz7 l0_2 a0_4).f1))).setCell ⟨gb563, 2, none⟩ (.string ((qz7 l0_2 a0_4).f2))).setCell ⟨gb563, 3, none⟩ (.bool true)).setCell ⟨gb563, 4, none⟩ (.bool ((qz7 l0_2 a0_4).f4))).heap[gb557]? = some (.cells #[.int .i64 0, .int .u64 0, .int .u64 0, .string (⟨#[]⟩ : ByteArray), .slice none 0 0, .bool false, .slice none 0 0] 38 (0, 0))) := ⟨by (with_reducible repeat (first | refine qz3 ?_ _ | refine qz6 ?_ | refine qz4 ?_ _)); refine qz29 ?_ NB557_563.out _; (with_reducible repeat (first | refine qz3 ?_ _ | refine qz6 ?_ | refine qz4 ?_ _)); refine qz29 ?_ NB557_563.out _; (with_reducible repeat (first | refine qz3 ?_ _ | refine qz6 ?_ | refine qz4 ?_ _)); refine qz29 ?_ NB557_563.out _; (with_reducible repeat (first | refine qz3 ?_ _ | refine qz6 ?_ | refine qz4 ?_ _)); refine qz29 ?_ NB557_563.out _; (with_reducible repeat (first | refine qz3 ?_ _ | refine qz6 ?_ | refine qz4 ?_ _)); refine qz29 ?_ NB557_563.out _; (with_reducible repeat (first | refine qz3 ?_ _ | refine qz6 ?_ | refine qz4 ?_ _)); exact BK557.out⟩
                    have n3_ : qza ((((((w39.setCell ⟨gb563, 0, none⟩ (.int .u64 ((qz7 l0_2 a0_4).f0))).setCell ⟨gb563, 1, none⟩ (.string ((qz7 l0_2 a0_4).f1))).setCell ⟨gb563, 2, none⟩ (.string ((qz7 l0_2 a0_4).f2))).setCell ⟨gb563, 3, none⟩ (.bool true)).setCell ⟨gb563, 4, none⟩ (.bool ((qz7 l0_2 a0_4).f4))).heap[gb558]? = some (.cells #[.int .u64 a0_0, .int .u64 a0_1] 24 (0, 0))) := ⟨by (with_reducible repeat (first | refine qz3 ?_ _ | refine qz6 ?_ | refine qz4 ?_ _)); refine qz29 ?_ NB558_563.out _; (with_reducible repeat (first | refine qz3 ?_ _ | refine qz6 ?_ | refine qz4 ?_ _)); refine qz29 ?_ NB558_563.out _; (with_reducible repeat (first | refine qz3 ?_ _ | refine qz6 ?_ | refine qz4 ?_ _)); refine qz29 ?_ NB558_563.out _; (with_reducible repeat (first | refine qz3 ?_ _ | refine qz6 ?_ | refine qz4 ?_ _)); refine qz29 ?_ NB558_563.out _; (with_reducible repeat (first | refine qz3 ?_ _ | refine qz6 ?_ | refine qz4 ?_ _)); refine qz29 ?_ NB558_563.out _; (with_reducible repeat (first | refine qz3 ?_ _ | refine qz6 ?_ | refine qz4 ?_ _)); exact BK558.out⟩
                    have n4_ : qza ((((((w39.setCell ⟨gb563, 0, none⟩ (.int .u64 ((qz7 l0_2 a0_4).f0))).setCell ⟨gb563, 1, none⟩ (.string ((qz7 l0_2 a0_4).f1))).setCell ⟨gb563, 2, none⟩ (.string ((qz7 l0_2 a0_4).f2))).setCell ⟨gb563, 3, none⟩ (.bool true)).setCell ⟨gb563, 4, none⟩ (.bool ((qz7 l0_2 a0_4).f4))).heap[gb563]? = some (.cells #[.int .u64 ((qz7 l0_2 a0_4).f0), .string ((qz7 l0_2 a0_4).f1), .string ((qz7 l0_2 a0_4).f2), .bool true, .bool ((qz7 l0_2 a0_4).f4)] 53 (0, 0))) := ⟨by (with_reducible repeat (first | refine qz3 ?_ _ | refine qz6 ?_ | refine qz4 ?_ _)); refine qz12 (cs := #[.int .u64 ((qz7 l0_2 a0_4).f0), .string ((qz7 l0_2 a0_4).f1), .string ((qz7 l0_2 a0_4).f2), .bool true, .bool false]) ?_ 4 _ rfl; (with_reducible repeat (first | refine qz3 ?_ _ | refine qz6 ?_ | refine qz4 ?_ _)); refine qz12 (cs := #[.int .u64 ((qz7 l0_2 a0_4).f0), .string ((qz7 l0_2 a0_4).f1), .string ((qz7 l0_2 a0_4).f2), .bool false, .bool false]) ?_ 3 _ rfl; (with_reducible repeat (first | refine qz3 ?_ _ | refine qz6 ?_ | refine qz4 ?_ _)); refine qz12 (cs := #[.int .u64 ((qz7 l0_2 a0_4).f0), .string ((qz7 l0_2 a0_4).f1), .string (⟨#[]⟩ : ByteArray), .bool false, .bool false]) ?_ 2 _ rfl; (with_reducible repeat (first | refine qz3 ?_ _ | refine qz6 ?_ | refine qz4 ?_ _)); refine qz12 (cs := #[.int .u64 ((qz7 l0_2 a0_4).f0), .string (⟨#[]⟩ : ByteArray), .string (⟨#[]⟩ : ByteArray), .bool false, .bool false]) ?_ 1 _ rfl; (with_reducible repeat (first | refine qz3 ?_ _ | refine qz6 ?_ | refine qz4 ?_ _)); refine qz12 (cs := #[.int .u64 0, .string (⟨#[]⟩ : ByteArray), .string (⟨#[]⟩ : ByteArray), .bool false, .bool false]) ?_ 0 _ rfl; (with_reducible repeat (first | refine qz3 ?_ _ | refine qz6 ?_ | refine qz4 ?_ _)); exact BK563.out⟩
                    have n5_ : qza (Below w.heap.size w (((((w39.setCell ⟨gb563, 0, none⟩ (.int .u64 ((qz7 l0_2 a0_4).f0))).setCell ⟨gb563, 1, none⟩ (.string ((qz7 l0_2 a0_4).f1))).setCell ⟨gb563, 2, none⟩ (.string ((qz7 l0_2 a0_4).f2))).setCell ⟨gb563, 3, none⟩ (.bool true)).setCell ⟨gb563, 4, none⟩ (.bool ((qz7 l0_2 a0_4).f4)))) := ⟨by repeat (first | (with_reducible first | exact HB.out | apply qz10 | apply qz5 | apply qz9 | refine qz8 ?_ GE556.out | refine qz8 ?_ GE557.out | refine qz8 ?_ GE558.out | refine qz8 ?_ GE563.out) | exact HB.out)⟩
                    (try clear HO_6)
                    (try clear BK556)
                    (try clear BK557)
                    (try clear BK558)
                    (try clear BK563)
                    (try clear HB)
                    generalize (((((w39.setCell ⟨gb563, 0, none⟩ (.int .u64 ((qz7 l0_2 a0_4).f0))).setCell ⟨gb563, 1, none⟩ (.string ((qz7 l0_2 a0_4).f1))).setCell ⟨gb563, 2, none⟩ (.string ((qz7 l0_2 a0_4).f2))).setCell ⟨gb563, 3, none⟩ (.bool true)).setCell ⟨gb563, 4, none⟩ (.bool ((qz7 l0_2 a0_4).f4))) = w44 at n0_ n1_ n2_ n3_ n4_ n5_ ⊢
                    have HO_6 := n0_
                    have BK556 := n1_
                    have BK557 := n2_
                    have BK558 := n3_
                    have BK563 := n4_
                    have HB := n5_
                    clear n0_ n1_ n2_ n3_ n4_ n5_
                    have n0_ := qza.mk (Kd.R_drew HO_6.out)
                    have n1_ := qza.mk (qz6 BK556.out)
                    have n2_ := qza.mk (qz6 BK557.out)
                    have n3_ := qza.mk (qz6 BK558.out)
                    have n4_ := qza.mk (qz6 BK563.out)
                    have n5_ := qza.mk (qz9 HB.out)
                    clear HO_6
                    clear BK556
                    clear BK557
                    clear BK558
                    clear BK563
                    clear HB
                    have HO_6 := n0_
                    have BK556 := n1_
                    have BK557 := n2_
                    have BK558 := n3_
                    have BK563 := n4_
                    have HB := n5_
                    clear n0_ n1_ n2_ n3_ n4_ n5_
                    refine start_ (n := 10) (S := fun w' => w'.cell? ⟨gb563, 0, none⟩ = some (.int .u64 ((qz7 l0_2 a0_4).f0)) ∧ w'.cell? ⟨gb563, 1, none⟩ = some (.string ((qz7 l0_2 a0_4).f1)) ∧ w'.cell? ⟨gb563, 2, none⟩ = some (.string ((qz7 l0_2 a0_4).f2)) ∧ w'.cell? ⟨gb563, 3, none⟩ = some (.bool true) ∧ w'.cell? ⟨gb563, 4, none⟩ = some (.bool ((qz7 l0_2 a0_4).f4)) ∧ w'.cell? ⟨gb558, 0, none⟩ = some (.int .u64 a0_0) ∧ w'.cell? ⟨gb558, 1, none⟩ = some (.int .u64 a0_1)) (ds := []) #[false, false, false, false, false, false, false, false, false, false] (by kernel_rfl) rfl rfl ⟨(qz1 BK563.out 0).trans rfl, (qz1 BK563.out 1).trans rfl, (qz1 BK563.out 2).trans rfl, (qz1 BK563.out 3).trans rfl, (qz1 BK563.out 4).trans rfl, (qz1 BK558.out 0).trans rfl, (qz1 BK558.out 1).trans rfl⟩ (fun hHeld => ?_); refine with_tabW ferruleref20_Next.tab12 ferruleref20_Next.bits12 (fun HT_ HW_ => ?_)
                    generalize w44.drew = w45 at HO_6 BK556 BK557 BK558 BK563 HB hHeld ⊢
                    refine pure_ (i := 0) (N := some 53) (v := ?_) (a' := ?_) #[true, false, false, false, false, false, false, false, false, false] rfl rfl (qz39 HT_.out (by kernel_rfl)) (fun _ _ _ h => h) (Or.inl ⟨by rfl, ?_⟩) ?_ ?_
                    rotate_left
                    · intro w'
                      go_simp
                      with_reducible rfl
                    rotate_left
                    · simp only [Act.put, List.setIfInBounds_toArray, List.set_cons_zero, List.set_cons_succ, i64_w, i32_w]
                      rfl
                    refine pure_ (i := 2) (N := some 55) (v := ?_) (a' := ?_) #[true, false, true, false, false, false, false, false, false, false] rfl rfl (qz39 HT_.out (by kernel_rfl)) (fun _ _ _ h => h) (Or.inl ⟨by rfl, ?_⟩) ?_ ?_
                    rotate_left
                    · intro w'
                      go_simp
                      with_reducible rfl
                    rotate_left
                    · simp only [Act.put, List.setIfInBounds_toArray, List.set_cons_zero, List.set_cons_succ, i64_w, i32_w]
                      rfl
                    refine pure_ (i := 4) (N := some 57) (v := ?_) (a' := ?_) #[true, false, true, false, true, false, false, false, false, false] rfl rfl (qz39 HT_.out (by kernel_rfl)) (fun _ _ _ h => h) (Or.inl ⟨by rfl, ?_⟩) ?_ ?_
                    rotate_left
                    · intro w'
                      go_simp
                      with_reducible rfl
                    rotate_left
                    · simp only [Act.put, List.setIfInBounds_toArray, List.set_cons_zero, List.set_cons_succ, i64_w, i32_w]
                      rfl
                    refine take_ (i := 1) (N := some 54) (v := ?_) (a' := ?_) #[true, true, true, false, true, false, false, false, false, false] rfl rfl (qz43 HT_.out HW_.out (by kernel_rfl)) (fun _ _ _ h => h) (Or.inl ⟨by rfl, ?_⟩) hHeld ?_ ?_
                    rotate_left
                    · rintro w' ⟨s0, s1, s2, s3, s4, s5, s6⟩
                      go_simp
                      with_reducible rfl
                    rotate_left
                    · simp only [Act.put, List.setIfInBounds_toArray, List.set_cons_zero, List.set_cons_succ, i64_w, i32_w]
                      rfl
                    refine pure_ (i := 7) (N := some 2) (v := ?_) (a' := ?_) #[true, true, true, false, true, false, false, true, false, false] rfl rfl (qz39 HT_.out (by kernel_rfl)) (fun _ _ _ h => h) (Or.inl ⟨by rfl, ?_⟩) ?_ ?_
                    rotate_left
                    · intro w'
                      go_simp
                      with_reducible rfl
                    rotate_left
                    · simp only [Act.put, List.setIfInBounds_toArray, List.set_cons_zero, List.set_cons_succ, i64_w, i32_w]
                      rfl
                    refine take_ (i := 3) (N := some 56) (v := ?_) (a' := ?_) #[true, true, true, true, true, false, false, true, false, false] rfl rfl (qz43 HT_.out HW_.out (by kernel_rfl)) (fun _ _ _ h => h) (Or.inl ⟨by rfl, ?_⟩) hHeld ?_ ?_
                    rotate_left
                    · rintro w' ⟨s0, s1, s2, s3, s4, s5, s6⟩
                      go_simp
                      with_reducible rfl
                    rotate_left
                    · simp only [Act.put, List.setIfInBounds_toArray, List.set_cons_zero, List.set_cons_succ, i64_w, i32_w]
                      rfl
                    refine take_ (i := 5) (N := some 58) (v := ?_) (a' := ?_) #[true, true, true, true, true, true, false, true, false, false] rfl rfl (qz43 HT_.out HW_.out (by kernel_rfl)) (fun _ _ _ h => h) (Or.inl ⟨by rfl, ?_⟩) hHeld ?_ ?_
                    rotate_left
                    · rintro w' ⟨s0, s1, s2, s3, s4, s5, s6⟩
                      go_simp
                      with_reducible rfl
                    rotate_left
                    · simp only [Act.put, List.setIfInBounds_toArray, List.set_cons_zero, List.set_cons_succ, i64_w, i32_w]
                      rfl
                    refine pure_ (i := 6) (N := some 59) (v := ?_) (a' := ?_) #[true, true, true, true, true, true, true, true, false, false] rfl rfl (qz39 HT_.out (by kernel_rfl)) (fun _ _ _ h => h) (Or.inl ⟨by rfl, ?_⟩) ?_ ?_
                    rotate_left
                    · intro w'
                      go_simp
                      with_reducible rfl
                    rotate_left
                    · simp only [Act.put, List.setIfInBounds_toArray, List.set_cons_zero, List.set_cons_succ, i64_w, i32_w]
                      rfl
                    refine one_ (i := 8) (N := none) #[true, true, true, true, true, true, true, true, true, false] rfl rfl (one_of HT_.out (by kernel_rfl)) (by decide) (fun K hK => ?_)
                    have hs46 : w45.cell? ⟨gb557, 0, none⟩ = some (.int .i64 0) := (qz1 BK557.out 0).trans rfl
                    have hfs46 := qz0 BK557.out 0
                    have hns46_0 := NB556_557.out
                    have hns46_2 := NB558_557.out
                    have hns46_3 := NB563_557.out
                    have hms46_0 := NB557_556.out
                    have hms46_2 := NB557_558.out
                    have hms46_3 := NB557_563.out
                    have hs47 : w45.cell? ⟨gb557, 1, none⟩ = some (.int .u64 0) := (qz1 BK557.out 1).trans rfl
                    have hfs47 := qz0 BK557.out 1
                    have hns47_0 := NB556_557.out
                    have hns47_2 := NB558_557.out
                    have hns47_3 := NB563_557.out
                    have hms47_0 := NB557_556.out
                    have hms47_2 := NB557_558.out
                    have hms47_3 := NB557_563.out
                    have hs48 : w45.cell? ⟨gb557, 2, none⟩ = some (.int .u64 0) := (qz1 BK557.out 2).trans rfl
                    have hfs48 := qz0 BK557.out 2
                    have hns48_0 := NB556_557.out
                    have hns48_2 := NB558_557.out
                    have hns48_3 := NB563_557.out
                    have hms48_0 := NB557_556.out
                    have hms48_2 := NB557_558.out
                    have hms48_3 := NB557_563.out
                    have hs49 : w45.cell? ⟨gb557, 3, none⟩ = some (.string (⟨#[]⟩ : ByteArray)) := (qz1 BK557.out 3).trans rfl
                    have hfs49 := qz0 BK557.out 3
                    have hns49_0 := NB556_557.out
                    have hns49_2 := NB558_557.out
                    have hns49_3 := NB563_557.out
                    have hms49_0 := NB557_556.out
                    have hms49_2 := NB557_558.out
                    have hms49_3 := NB557_563.out
                    have hs50 : w45.cell? ⟨gb557, 4, none⟩ = some (.slice none 0 0) := (qz1 BK557.out 4).trans rfl
                    have hfs50 := qz0 BK557.out 4
                    have hns50_0 := NB556_557.out
                    have hns50_2 := NB558_557.out
                    have hns50_3 := NB563_557.out
                    have hms50_0 := NB557_556.out
                    have hms50_2 := NB557_558.out
                    have hms50_3 := NB557_563.out
                    have hs51 : w45.cell? ⟨gb557, 5, none⟩ = some (.bool false) := (qz1 BK557.out 5).trans rfl
                    have hfs51 := qz0 BK557.out 5
                    have hns51_0 := NB556_557.out
                    have hns51_2 := NB558_557.out
                    have hns51_3 := NB563_557.out
                    have hms51_0 := NB557_556.out
                    have hms51_2 := NB557_558.out
                    have hms51_3 := NB557_563.out
                    have hs52 : w45.cell? ⟨gb557, 6, none⟩ = some (.slice none 0 0) := (qz1 BK557.out 6).trans rfl
                    have hfs52 := qz0 BK557.out 6
                    have hns52_0 := NB556_557.out
                    have hns52_2 := NB558_557.out
                    have hns52_3 := NB563_557.out
                    have hms52_0 := NB557_556.out
                    have hms52_2 := NB557_558.out
                    have hms52_3 := NB557_563.out
                    refine skip_ (w1 := ?_) (by rfl) rfl ?_ ?_
                    rotate_left
                    · go_simp
                      rfl
                    refine hK.out _ _ ⟨((qz2 (p := ⟨gb557, _, none⟩) NB563_557.out _).trans (((qz2 (p := ⟨gb557, _, none⟩) NB563_557.out _).trans (((qz2 (p := ⟨gb557, _, none⟩) NB563_557.out _).trans (((qz2 (p := ⟨gb557, _, none⟩) NB563_557.out _).trans (((qz2 (p := ⟨gb557, _, none⟩) NB563_557.out _).trans (((qz2 (p := ⟨gb557, _, none⟩) NB563_557.out _).trans (((qz2 (p := ⟨gb557, _, none⟩) NB563_557.out _).trans (hHeld.1)))))))))))))), ((qz2 (p := ⟨gb557, _, none⟩) NB563_557.out _).trans (((qz2 (p := ⟨gb557, _, none⟩) NB563_557.out _).trans (((qz2 (p := ⟨gb557, _, none⟩) NB563_557.out _).trans (((qz2 (p := ⟨gb557, _, none⟩) NB563_557.out _).trans (((qz2 (p := ⟨gb557, _, none⟩) NB563_557.out _).trans (((qz2 (p := ⟨gb557, _, none⟩) NB563_557.out _).trans (((qz2 (p := ⟨gb557, _, none⟩) NB563_557.out _).trans (hHeld.2.1)))))))))))))), ((qz2 (p := ⟨gb557, _, none⟩) NB563_557.out _).trans (((qz2 (p := ⟨gb557, _, none⟩) NB563_557.out _).trans (((qz2 (p := ⟨gb557, _, none⟩) NB563_557.out _).trans (((qz2 (p := ⟨gb557, _, none⟩) NB563_557.out _).trans (((qz2 (p := ⟨gb557, _, none⟩) NB563_557.out _).trans (((qz2 (p := ⟨gb557, _, none⟩) NB563_557.out _).trans (((qz2 (p := ⟨gb557, _, none⟩) NB563_557.out _).trans (hHeld.2.2.1)))))))))))))), ((qz2 (p := ⟨gb557, _, none⟩) NB563_557.out _).trans (((qz2 (p := ⟨gb557, _, none⟩) NB563_557.out _).trans (((qz2 (p := ⟨gb557, _, none⟩) NB563_557.out _).trans (((qz2 (p := ⟨gb557, _, none⟩) NB563_557.out _).trans (((qz2 (p := ⟨gb557, _, none⟩) NB563_557.out _).trans (((qz2 (p := ⟨gb557, _, none⟩) NB563_557.out _).trans (((qz2 (p := ⟨gb557, _, none⟩) NB563_557.out _).trans (hHeld.2.2.2.1)))))))))))))), ((qz2 (p := ⟨gb557, _, none⟩) NB563_557.out _).trans (((qz2 (p := ⟨gb557, _, none⟩) NB563_557.out _).trans (((qz2 (p := ⟨gb557, _, none⟩) NB563_557.out _).trans (((qz2 (p := ⟨gb557, _, none⟩) NB563_557.out _).trans (((qz2 (p := ⟨gb557, _, none⟩) NB563_557.out _).trans (((qz2 (p := ⟨gb557, _, none⟩) NB563_557.out _).trans (((qz2 (p := ⟨gb557, _, none⟩) NB563_557.out _).trans (hHeld.2.2.2.2.1)))))))))))))), ((qz2 (p := ⟨gb557, _, none⟩) NB558_557.out _).trans (((qz2 (p := ⟨gb557, _, none⟩) NB558_557.out _).trans (((qz2 (p := ⟨gb557, _, none⟩) NB558_557.out _).trans (((qz2 (p := ⟨gb557, _, none⟩) NB558_557.out _).trans (((qz2 (p := ⟨gb557, _, none⟩) NB558_557.out _).trans (((qz2 (p := ⟨gb557, _, none⟩) NB558_557.out _).trans (((qz2 (p := ⟨gb557, _, none⟩) NB558_557.out _).trans (hHeld.2.2.2.2.2.1)))))))))))))), ((qz2 (p := ⟨gb557, _, none⟩) NB558_557.out _).trans (((qz2 (p := ⟨gb557, _, none⟩) NB558_557.out _).trans (((qz2 (p := ⟨gb557, _, none⟩) NB558_557.out _).trans (((qz2 (p := ⟨gb557, _, none⟩) NB558_557.out _).trans (((qz2 (p := ⟨gb557, _, none⟩) NB558_557.out _).trans (((qz2 (p := ⟨gb557, _, none⟩) NB558_557.out _).trans (((qz2 (p := ⟨gb557, _, none⟩) NB558_557.out _).trans (hHeld.2.2.2.2.2.2))))))))))))))⟩ (fun hHeld => ?_)
                    clear hK K
                    refine pure_ (i := 9) (N := some 4) (v := ?_) (a' := ?_) #[true, true, true, true, true, true, true, true, true, true] rfl rfl (qz39 HT_.out (by kernel_rfl)) (fun _ _ _ h => h) (Or.inl ⟨by rfl, ?_⟩) ?_ ?_
                    rotate_left
                    · intro w'
                      go_simp
                      with_reducible rfl
                    rotate_left
                    · simp only [Act.put, List.setIfInBounds_toArray, List.set_cons_zero, List.set_cons_succ, i64_w, i32_w]
                      rfl
                    refine done_ (done_of HT_.out (by kernel_rfl)) ?_
                    try go_wp2
                    refine bodyPost_ret (qz44 (rs := [.tmp 2, .cell 3 38, .tmp 4]) rfl (by simp) (.tmp (.cell gb557 38 #[.int .i64 2, .int .u64 a0_0, .int .u64 a0_1, .string ((qz7 l0_2 a0_4).f1), .slice none 0 0, .bool false, .slice none 0 0] (0, 0) _ rfl (by (with_reducible repeat (first | refine qz3 ?_ _ | refine qz6 ?_ | refine qz4 ?_ _)); refine qz12 (cs := #[.int .i64 2, .int .u64 a0_0, .int .u64 a0_1, .string ((qz7 l0_2 a0_4).f1), .slice none 0 0, .bool false, .slice none 0 0]) ?_ 6 _ rfl; (with_reducible repeat (first | refine qz3 ?_ _ | refine qz6 ?_ | refine qz4 ?_ _)); refine qz12 (cs := #[.int .i64 2, .int .u64 a0_0, .int .u64 a0_1, .string ((qz7 l0_2 a0_4).f1), .slice none 0 0, .bool false, .slice none 0 0]) ?_ 5 _ rfl; (with_reducible repeat (first | refine qz3 ?_ _ | refine qz6 ?_ | refine qz4 ?_ _)); refine qz12 (cs := #[.int .i64 2, .int .u64 a0_0, .int .u64 a0_1, .string ((qz7 l0_2 a0_4).f1), .slice none 0 0, .bool false, .slice none 0 0]) ?_ 4 _ rfl; (with_reducible repeat (first | refine qz3 ?_ _ | refine qz6 ?_ | refine qz4 ?_ _)); refine qz12 (cs := #[.int .i64 2, .int .u64 a0_0, .int .u64 a0_1, .string (⟨#[]⟩ : ByteArray), .slice none 0 0, .bool false, .slice none 0 0]) ?_ 3 _ rfl; (with_reducible repeat (first | refine qz3 ?_ _ | refine qz6 ?_ | refine qz4 ?_ _)); refine qz12 (cs := #[.int .i64 2, .int .u64 a0_0, .int .u64 0, .string (⟨#[]⟩ : ByteArray), .slice none 0 0, .bool false, .slice none 0 0]) ?_ 2 _ rfl; (with_reducible repeat (first | refine qz3 ?_ _ | refine qz6 ?_ | refine qz4 ?_ _)); refine qz12 (cs := #[.int .i64 2, .int .u64 0, .int .u64 0, .string (⟨#[]⟩ : ByteArray), .slice none 0 0, .bool false, .slice none 0 0]) ?_ 1 _ rfl; (with_reducible repeat (first | refine qz3 ?_ _ | refine qz6 ?_ | refine qz4 ?_ _)); refine qz12 (cs := #[.int .i64 0, .int .u64 0, .int .u64 0, .string (⟨#[]⟩ : ByteArray), .slice none 0 0, .bool false, .slice none 0 0]) ?_ 0 _ rfl; (with_reducible repeat (first | refine qz3 ?_ _ | refine qz6 ?_ | refine qz4 ?_ _)); exact BK557.out) Try.underlying38 rfl (by kernel_rfl) (.tmp .nil)))) rfl ?_
                    exact ⟨_, _, by first | rfl | (simp [qz21, qz22] <;> rfl) | (simp [*, qz21, qz22] <;> rfl), by first | exact Kd.R_nil _ _ _ _ _ | exact Kd.N_nil _ _ _ _ _ | exact Kd.V_nil _ _ _ _ _ | exact Kd.Q_nil _ _ _ _ _ | exact Kd.S_nil _ _ _ _ _, by first | exact Kd.R_nil _ _ _ _ _ | exact Kd.N_nil _ _ _ _ _ | exact Kd.V_nil _ _ _ _ _ | exact Kd.Q_nil _ _ _ _ _ | exact Kd.S_nil _ _ _ _ _, by repeat (first | (with_reducible first | exact HB.out | apply qz10 | apply qz5 | apply qz9 | refine qz8 ?_ GE556.out | refine qz8 ?_ GE557.out | refine qz8 ?_ GE558.out | refine qz8 ?_ GE563.out) | exact HB.out)⟩
                  · replace c35 := Bool.eq_false_iff.mpr c35
                    subst c35
                    have H1 : (some ((qz7 l0_2 a0_4).f0, 1, a0_0, a0_1, (qz7 l0_2 a0_4).f1, ([] : List (S74)), false, ([] : List Int), true)) = some (r1, r2, r3, r4, r5, r6, r7, r8, r9) := by rw [if_neg (show ¬ (false = true) by decide)] at H; exact H
                    clear H
                    have H := H1
                    clear H1
                    simp only [Option.some.injEq, Prod.mk.injEq] at H
                    obtain ⟨rfl, rfl, rfl, rfl, rfl, rfl, rfl, rfl, rfl⟩ := H
                    have hnb53 := NB556_557.out
                    have hnc53 := NB557_556.out
                    have hnb54 := NB556_558.out
                    have hnc54 := NB558_556.out
                    have hcz55_0 : wc.cell? ⟨gb556, 0, none⟩ = some (.int .u64 a0_0) := (qz1 BK556.out 0).trans rfl
                    have hcz55_1 : wc.cell? ⟨gb556, 1, none⟩ = some (.int .u64 a0_1) := (qz1 BK556.out 1).trans rfl
                    have hcz55_2 : wc.cell? ⟨gb556, 2, none⟩ = some (.slice A0_2 l0_2.length c0_2) := (qz1 BK556.out 2).trans rfl
                    have hcz55_3 : wc.cell? ⟨gb556, 3, none⟩ = some (.int .i64 a0_3) := (qz1 BK556.out 3).trans rfl
                    have hcz55_4 : wc.cell? ⟨gb556, 4, none⟩ = some (.int .i64 a0_4) := (qz1 BK556.out 4).trans rfl
                    have hcz55_5 : wc.cell? ⟨gb556, 5, none⟩ = some (.bool a0_5) := (qz1 BK556.out 5).trans rfl
                    have hcz55_6 : wc.cell? ⟨gb556, 6, none⟩ = some (.bool a0_6) := (qz1 BK556.out 6).trans rfl
                    have hcz55_7 : wc.cell? ⟨gb556, 7, none⟩ = some (.bool a0_7) := (qz1 BK556.out 7).trans rfl
                    have hcz55_8 : wc.cell? ⟨gb556, 8, none⟩ = some (.slice A0_8 l0_8.length c0_8) := (qz1 BK556.out 8).trans rfl
                    have hfz55_0 := qz0 BK556.out 0
                    have hfz55_1 := qz0 BK556.out 1
                    have hfz55_2 := qz0 BK556.out 2
                    have hfz55_3 := qz0 BK556.out 3
                    have hfz55_4 := qz0 BK556.out 4
                    have hfz55_5 := qz0 BK556.out 5
                    have hfz55_6 := qz0 BK556.out 6
                    have hfz55_7 := qz0 BK556.out 7
                    have hfz55_8 := qz0 BK556.out 8
                    have p562 : 0 ≤ (a0_4 : Int) := of_decide_eq_true (by first | (with_reducible assumption) | assumption)
                    have q562 : a0_4 < (l0_2.length : Int) := of_decide_eq_true (by first | (with_reducible assumption) | assumption)
                    obtain ⟨ad562, e562, hx562_0, hx562_1, hx562_2, hx562_3, hx562_4⟩ := at_T53 HR0_2.out a0_4 p562 q562
                    (try rw [← Nbq34.out] at hx562_3)
                    (try rw [← Nbq34.out] at hx562_4)
                    cases e562
                    replace hx562_0 := (HB.out.cell (World.block_lt_of_cell? w _ hx562_0)).trans hx562_0
                    replace hx562_1 := (HB.out.cell (World.block_lt_of_cell? w _ hx562_1)).trans hx562_1
                    replace hx562_2 := (HB.out.cell (World.block_lt_of_cell? w _ hx562_2)).trans hx562_2
                    replace hx562_3 := (HB.out.cell (World.block_lt_of_cell? w _ hx562_3)).trans hx562_3
                    replace hx562_4 := (HB.out.cell (World.block_lt_of_cell? w _ hx562_4)).trans hx562_4
                    replace p562 := eq_true p562
                    replace q562 := eq_true q562
                    try go_wp2_with (first | ((with_reducible refine qz31 (N := 9) rfl ?_); (try (refine qz55 (by rfl) ?_; dsimp only)); refine qz32 ?hg (N := 9) ?hd (cs := #[.int .u64 0, .string (⟨#[]⟩ : ByteArray), .string (⟨#[]⟩ : ByteArray), .bool false, .bool false]) (t := 53) ?hr ?_; (case hd => rfl); (case hg => rfl); (case hr => first | (go_simp; done) | (go_simp; rfl)); intro gb563 hg w56 hbox hb; have n0_ := qza.mk (Kd.R_below (by (with_reducible repeat (first | apply Kd.R_alloc | apply Kd.R_drewN | apply Kd.R_drew)); exact HO_6.out) hb); have n1_ := qza.mk (qz35 (g := gb556) (o := .cells #[.int .u64 a0_0, .int .u64 a0_1, .slice (some ad562) l0_2.length c0_2, .int .i64 a0_3, .int .i64 a0_4, .bool a0_5, .bool a0_6, .bool a0_7, .slice A0_8 l0_8.length c0_8] 30 (0, 0)) (by (with_reducible repeat (first | refine qz3 ?_ _ | refine qz6 ?_ | refine qz4 ?_ _)); exact BK556.out) hb); have n2_ := qza.mk (qz35 (g := gb557) (o := .cells #[.int .i64 0, .int .u64 0, .int .u64 0, .string (⟨#[]⟩ : ByteArray), .slice none 0 0, .bool false, .slice none 0 0] 38 (0, 0)) (by (with_reducible repeat (first | refine qz3 ?_ _ | refine qz6 ?_ | refine qz4 ?_ _)); exact BK557.out) hb); have n3_ := qza.mk (qz35 (g := gb558) (o := .cells #[.int .u64 a0_0, .int .u64 a0_1] 24 (0, 0)) (by (with_reducible repeat (first | refine qz3 ?_ _ | refine qz6 ?_ | refine qz4 ?_ _)); exact BK558.out) hb); have n4_ := qza.mk (qz25 (by repeat (first | (with_reducible first | exact HB.out | apply qz10 | apply qz5 | apply qz9 | refine qz8 ?_ GE556.out | refine qz8 ?_ GE557.out | refine qz8 ?_ GE558.out) | exact HB.out)) hb); have n5_ := qza.mk (hbox); have n6_ := qza.mk ((by rw [hg]; exact (qz15 (by repeat (first | (with_reducible first | exact HB.out | apply qz10 | apply qz5 | apply qz9 | refine qz8 ?_ GE556.out | refine qz8 ?_ GE557.out | refine qz8 ?_ GE558.out) | exact HB.out))) : w.heap.size ≤ gb563)); have n7_ := qza.mk ((by rw [hg]; exact (qz15 (by repeat (first | (with_reducible first | exact HB.out | apply qz10 | apply qz5 | apply qz9 | refine qz8 ?_ GE556.out | refine qz8 ?_ GE557.out | refine qz8 ?_ GE558.out) | exact HB.out))) : w.heap.size ≤ gb563)); have n8_ := qza.mk ((by rw [hg]; exact Nat.ne_of_lt (qz36 (g := gb556) (o := .cells #[.int .u64 a0_0, .int .u64 a0_1, .slice (some ad562) l0_2.length c0_2, .int .i64 a0_3, .int .i64 a0_4, .bool a0_5, .bool a0_6, .bool a0_7, .slice A0_8 l0_8.length c0_8] 30 (0, 0)) (by (with_reducible repeat (first | refine qz3 ?_ _ | refine qz6 ?_ | refine qz4 ?_ _)); exact BK556.out)) : gb556 ≠ gb563)); have n9_ := qza.mk ((by rw [hg]; exact Nat.ne_of_gt (qz36 (g := gb556) (o := .cells #[.int .u64 a0_0, .int .u64 a0_1, .slice (some ad562) l0_2.length c0_2, .int .i64 a0_3, .int .i64 a0_4, .bool a0_5, .bool a0_6, .bool a0_7, .slice A0_8 l0_8.length c0_8] 30 (0, 0)) (by (with_reducible repeat (first | refine qz3 ?_ _ | refine qz6 ?_ | refine qz4 ?_ _)); exact BK556.out)) : gb563 ≠ gb556)); have n10_ := qza.mk ((by rw [hg]; exact Nat.ne_of_lt (qz36 (g := gb557) (o := .cells #[.int .i64 0, .int .u64 0, .int .u64 0, .string (⟨#[]⟩ : ByteArray), .slice none 0 0, .bool false, .slice none 0 0] 38 (0, 0)) (by (with_reducible repeat (first | refine qz3 ?_ _ | refine qz6 ?_ | refine qz4 ?_ _)); exact BK557.out)) : gb557 ≠ gb563)); have n11_ := qza.mk ((by rw [hg]; exact Nat.ne_of_gt (qz36 (g := gb557) (o := .cells #[.int .i64 0, .int .u64 0, .int .u64 0, .string (⟨#[]⟩ : ByteArray), .slice none 0 0, .bool false, .slice none 0 0] 38 (0, 0)) (by (with_reducible repeat (first | refine qz3 ?_ _ | refine qz6 ?_ | refine qz4 ?_ _)); exact BK557.out)) : gb563 ≠ gb557)); have n12_ := qza.mk ((by rw [hg]; exact Nat.ne_of_lt (qz36 (g := gb558) (o := .cells #[.int .u64 a0_0, .int .u64 a0_1] 24 (0, 0)) (by (with_reducible repeat (first | refine qz3 ?_ _ | refine qz6 ?_ | refine qz4 ?_ _)); exact BK558.out)) : gb558 ≠ gb563)); have n13_ := qza.mk ((by rw [hg]; exact Nat.ne_of_gt (qz36 (g := gb558) (o := .cells #[.int .u64 a0_0, .int .u64 a0_1] 24 (0, 0)) (by (with_reducible repeat (first | refine qz3 ?_ _ | refine qz6 ?_ | refine qz4 ?_ _)); exact BK558.out)) : gb563 ≠ gb558)); clear HO_6; clear BK556; clear BK557; clear BK558; clear HB; have HO_6 := n0_; have BK556 := n1_; have BK557 := n2_; have BK558 := n3_; have HB := n4_; have BK563 := n5_; have GW563 := n6_; have GE563 := n7_; have NB556_563 := n8_; have NB563_556 := n9_; have NB557_563 := n10_; have NB563_557 := n11_; have NB558_563 := n12_; have NB563_558 := n13_; clear n0_ n1_ n2_ n3_ n4_ n5_ n6_ n7_ n8_ n9_ n10_ n11_ n12_ n13_; clear hb hbox hg; have hnb57 := NB563_556.out; have hnc57 := NB556_563.out; have hnb58 := NB563_557.out; have hnc58 := NB557_563.out; have hnb59 := NB563_558.out; have hnc59 := NB558_563.out; have hcz60_0 : w56.cell? ⟨gb563, 0, none⟩ = some (.int .u64 0) := (qz1 BK563.out 0).trans rfl; have hcz60_1 : w56.cell? ⟨gb563, 1, none⟩ = some (.string (⟨#[]⟩ : ByteArray)) := (qz1 BK563.out 1).trans rfl; have hcz60_2 : w56.cell? ⟨gb563, 2, none⟩ = some (.string (⟨#[]⟩ : ByteArray)) := (qz1 BK563.out 2).trans rfl; have hcz60_3 : w56.cell? ⟨gb563, 3, none⟩ = some (.bool false) := (qz1 BK563.out 3).trans rfl; have hcz60_4 : w56.cell? ⟨gb563, 4, none⟩ = some (.bool false) := (qz1 BK563.out 4).trans rfl; have hfz60_0 := qz0 BK563.out 0; have hfz60_1 := qz0 BK563.out 1; have hfz60_2 := qz0 BK563.out 2; have hfz60_3 := qz0 BK563.out 3; have hfz60_4 := qz0 BK563.out 4))
                    have n0_ : qza (Kd.R (Kd.int .u64) 22 (((((w56.setCell ⟨gb563, 0, none⟩ (.int .u64 ((qz7 l0_2 a0_4).f0))).setCell ⟨gb563, 1, none⟩ (.string ((qz7 l0_2 a0_4).f1))).setCell ⟨gb563, 2, none⟩ (.string ((qz7 l0_2 a0_4).f2))).setCell ⟨gb563, 3, none⟩ (.bool false)).setCell ⟨gb563, 4, none⟩ (.bool ((qz7 l0_2 a0_4).f4))) w.heap.size (fun _ => True) v560 t559) := ⟨by (with_reducible repeat (first | apply Kd.R_alloc | apply Kd.R_drewN | apply Kd.R_drew)); exact Kd.R_mono (Kd.R_far (p := ⟨gb563, 4, none⟩) (Kd.R_far (p := ⟨gb563, 3, none⟩) (Kd.R_far (p := ⟨gb563, 2, none⟩) (Kd.R_far (p := ⟨gb563, 1, none⟩) (Kd.R_far (p := ⟨gb563, 0, none⟩) (Kd.R_types HO_6.out BK563.out (by decide)) (fun _ hk => hk.2) (.int .u64 ((qz7 l0_2 a0_4).f0))) (fun _ hk => hk.2) (.string ((qz7 l0_2 a0_4).f1))) (fun _ hk => hk.2) (.string ((qz7 l0_2 a0_4).f2))) (fun _ hk => hk.2) (.bool false)) (fun _ hk => hk.2) (.bool ((qz7 l0_2 a0_4).f4))) (fun _ hk => trivial)⟩
                    have n1_ : qza ((((((w56.setCell ⟨gb563, 0, none⟩ (.int .u64 ((qz7 l0_2 a0_4).f0))).setCell ⟨gb563, 1, none⟩ (.string ((qz7 l0_2 a0_4).f1))).setCell ⟨gb563, 2, none⟩ (.string ((qz7 l0_2 a0_4).f2))).setCell ⟨gb563, 3, none⟩ (.bool false)).setCell ⟨gb563, 4, none⟩ (.bool ((qz7 l0_2 a0_4).f4))).heap[gb556]? = some (.cells #[.int .u64 a0_0, .int .u64 a0_1, .slice (some ad562) l0_2.length c0_2, .int .i64 a0_3, .int .i64 a0_4, .bool a0_5, .bool a0_6, .bool a0_7, .slice A0_8 l0_8.length c0_8] 30 (0, 0))) := ⟨by (with_reducible repeat (first | refine qz3 ?_ _ | refine qz6 ?_ | refine qz4 ?_ _)); refine qz29 ?_ NB556_563.out _; (with_reducible repeat (first | refine qz3 ?_ _ | refine qz6 ?_ | refine qz4 ?_ _)); refine qz29 ?_ NB556_563.out _; (with_reducible repeat (first | refine qz3 ?_ _ | refine qz6 ?_ | refine qz4 ?_ _)); refine qz29 ?_ NB556_563.out _; (with_reducible repeat (first | refine qz3 ?_ _ | refine qz6 ?_ | refine qz4 ?_ _)); refine qz29 ?_ NB556_563.out _; (with_reducible repeat (first | refine qz3 ?_ _ | refine qz6 ?_ | refine qz4 ?_ _)); refine qz29 ?_ NB556_563.out _; (with_reducible repeat (first | refine qz3 ?_ _ | refine qz6 ?_ | refine qz4 ?_ _)); exact BK556.out⟩
                    have n2_ : qza ((((((w56.setCell ⟨gb563, 0, none⟩ (.int .u64 ((qz7 l0_2 a0_4).f0))).setCell ⟨gb563, 1, none⟩ (.string ((qz7 l0_2 a0_4).f1))).setCell ⟨gb563, 2, none⟩ (.string ((qz7 l0_2 a0_4).f2))).setCell ⟨gb563, 3, none⟩ (.bool false)).setCell ⟨gb563, 4, none⟩ (.bool ((qz7 l0_2 a0_4).f4))).heap[gb557]? = some (.cells #[.int .i64 0, .int .u64 0, .int .u64 0, .string (⟨#[]⟩ : ByteArray), .slice none 0 0, .bool false, .slice none 0 0] 38 (0, 0))) := ⟨by (with_reducible repeat (first | refine qz3 ?_ _ | refine qz6 ?_ | refine qz4 ?_ _)); refine qz29 ?_ NB557_563.out _; (with_reducible repeat (first | refine qz3 ?_ _ | refine qz6 ?_ | refine qz4 ?_ _)); refine qz29 ?_ NB557_563.out _; (with_reducible repeat (first | refine qz3 ?_ _ | refine qz6 ?_ | refine qz4 ?_ _)); refine qz29 ?_ NB557_563.out _; (with_reducible repeat (first | refine qz3 ?_ _ | refine qz6 ?_ | refine qz4 ?_ _)); refine qz29 ?_ NB557_563.out _; (with_reducible repeat (first | refine qz3 ?_ _ | refine qz6 ?_ | refine qz4 ?_ _)); refine qz29 ?_ NB557_563.out _; (with_reducible repeat (first | refine qz3 ?_ _ | refine qz6 ?_ | refine qz4 ?_ _)); exact BK557.out⟩
                    have n3_ : qza ((((((w56.setCell ⟨gb563, 0, none⟩ (.int .u64 ((qz7 l0_2 a0_4).f0))).setCell ⟨gb563, 1, none⟩ (.string ((qz7 l0_2 a0_4).f1))).setCell ⟨gb563, 2, none⟩ (.string ((qz7 l0_2 a0_4).f2))).setCell ⟨gb563, 3, none⟩ (.bool false)).setCell ⟨gb563, 4, none⟩ (.bool ((qz7 l0_2 a0_4).f4))).heap[gb558]? = some (.cells #[.int .u64 a0_0, .int .u64 a0_1] 24 (0, 0))) := ⟨by (with_reducible repeat (first | refine qz3 ?_ _ | refine qz6 ?_ | refine qz4 ?_ _)); refine qz29 ?_ NB558_563.out _; (with_reducible repeat (first | refine qz3 ?_ _ | refine qz6 ?_ | refine qz4 ?_ _)); refine qz29 ?_ NB558_563.out _; (with_reducible repeat (first | refine qz3 ?_ _ | refine qz6 ?_ | refine qz4 ?_ _)); refine qz29 ?_ NB558_563.out _; (with_reducible repeat (first | refine qz3 ?_ _ | refine qz6 ?_ | refine qz4 ?_ _)); refine qz29 ?_ NB558_563.out _; (with_reducible repeat (first | refine qz3 ?_ _ | refine qz6 ?_ | refine qz4 ?_ _)); refine qz29 ?_ NB558_563.out _; (with_reducible repeat (first | refine qz3 ?_ _ | refine qz6 ?_ | refine qz4 ?_ _)); exact BK558.out⟩
                    have n4_ : qza ((((((w56.setCell ⟨gb563, 0, none⟩ (.int .u64 ((qz7 l0_2 a0_4).f0))).setCell ⟨gb563, 1, none⟩ (.string ((qz7 l0_2 a0_4).f1))).setCell ⟨gb563, 2, none⟩ (.string ((qz7 l0_2 a0_4).f2))).setCell ⟨gb563, 3, none⟩ (.bool false)).setCell ⟨gb563, 4, none⟩ (.bool ((qz7 l0_2 a0_4).f4))).heap[gb563]? = some (.cells #[.int .u64 ((qz7 l0_2 a0_4).f0), .string ((qz7 l0_2 a0_4).f1), .string ((qz7 l0_2 a0_4).f2), .bool false, .bool ((qz7 l0_2 a0_4).f4)] 53 (0, 0))) := ⟨by (with_reducible repeat (first | refine qz3 ?_ _ | refine qz6 ?_ | refine qz4 ?_ _)); refine qz12 (cs := #[.int .u64 ((qz7 l0_2 a0_4).f0), .string ((qz7 l0_2 a0_4).f1), .string ((qz7 l0_2 a0_4).f2), .bool false, .bool false]) ?_ 4 _ rfl; (with_reducible repeat (first | refine qz3 ?_ _ | refine qz6 ?_ | refine qz4 ?_ _)); refine qz12 (cs := #[.int .u64 ((qz7 l0_2 a0_4).f0), .string ((qz7 l0_2 a0_4).f1), .string ((qz7 l0_2 a0_4).f2), .bool false, .bool false]) ?_ 3 _ rfl; (with_reducible repeat (first | refine qz3 ?_ _ | refine qz6 ?_ | refine qz4 ?_ _)); refine qz12 (cs := #[.int .u64 ((qz7 l0_2 a0_4).f0), .string ((qz7 l0_2 a0_4).f1), .string (⟨#[]⟩ : ByteArray), .bool false, .bool false]) ?_ 2 _ rfl; (with_reducible repeat (first | refine qz3 ?_ _ | refine qz6 ?_ | refine qz4 ?_ _)); refine qz12 (cs := #[.int .u64 ((qz7 l0_2 a0_4).f0), .string (⟨#[]⟩ : ByteArray), .string (⟨#[]⟩ : ByteArray), .bool false, .bool false]) ?_ 1 _ rfl; (with_reducible repeat (first | refine qz3 ?_ _ | refine qz6 ?_ | refine qz4 ?_ _)); refine qz12 (cs := #[.int .u64 0, .string (⟨#[]⟩ : ByteArray), .string (⟨#[]⟩ : ByteArray), .bool false, .bool false]) ?_ 0 _ rfl; (with_reducible repeat (first | refine qz3 ?_ _ | refine qz6 ?_ | refine qz4 ?_ _)); exact BK563.out⟩
                    have n5_ : qza (Below w.heap.size w (((((w56.setCell ⟨gb563, 0, none⟩ (.int .u64 ((qz7 l0_2 a0_4).f0))).setCell ⟨gb563, 1, none⟩ (.string ((qz7 l0_2 a0_4).f1))).setCell ⟨gb563, 2, none⟩ (.string ((qz7 l0_2 a0_4).f2))).setCell ⟨gb563, 3, none⟩ (.bool false)).setCell ⟨gb563, 4, none⟩ (.bool ((qz7 l0_2 a0_4).f4)))) := ⟨by repeat (first | (with_reducible first | exact HB.out | apply qz10 | apply qz5 | apply qz9 | refine qz8 ?_ GE556.out | refine qz8 ?_ GE557.out | refine qz8 ?_ GE558.out | refine qz8 ?_ GE563.out) | exact HB.out)⟩
                    (try clear HO_6)
                    (try clear BK556)
                    (try clear BK557)
                    (try clear BK558)
                    (try clear BK563)
                    (try clear HB)
                    generalize (((((w56.setCell ⟨gb563, 0, none⟩ (.int .u64 ((qz7 l0_2 a0_4).f0))).setCell ⟨gb563, 1, none⟩ (.string ((qz7 l0_2 a0_4).f1))).setCell ⟨gb563, 2, none⟩ (.string ((qz7 l0_2 a0_4).f2))).setCell ⟨gb563, 3, none⟩ (.bool false)).setCell ⟨gb563, 4, none⟩ (.bool ((qz7 l0_2 a0_4).f4))) = w61 at n0_ n1_ n2_ n3_ n4_ n5_ ⊢
                    have HO_6 := n0_
                    have BK556 := n1_
                    have BK557 := n2_
                    have BK558 := n3_
                    have BK563 := n4_
                    have HB := n5_
                    clear n0_ n1_ n2_ n3_ n4_ n5_
                    have n0_ := qza.mk (Kd.R_drew HO_6.out)
                    have n1_ := qza.mk (qz6 BK556.out)
                    have n2_ := qza.mk (qz6 BK557.out)
                    have n3_ := qza.mk (qz6 BK558.out)
                    have n4_ := qza.mk (qz6 BK563.out)
                    have n5_ := qza.mk (qz9 HB.out)
                    clear HO_6
                    clear BK556
                    clear BK557
                    clear BK558
                    clear BK563
                    clear HB
                    have HO_6 := n0_
                    have BK556 := n1_
                    have BK557 := n2_
                    have BK558 := n3_
                    have BK563 := n4_
                    have HB := n5_
                    clear n0_ n1_ n2_ n3_ n4_ n5_
                    refine start_ (n := 10) (S := fun w' => w'.cell? ⟨gb563, 0, none⟩ = some (.int .u64 ((qz7 l0_2 a0_4).f0)) ∧ w'.cell? ⟨gb563, 1, none⟩ = some (.string ((qz7 l0_2 a0_4).f1)) ∧ w'.cell? ⟨gb563, 2, none⟩ = some (.string ((qz7 l0_2 a0_4).f2)) ∧ w'.cell? ⟨gb563, 3, none⟩ = some (.bool false) ∧ w'.cell? ⟨gb563, 4, none⟩ = some (.bool ((qz7 l0_2 a0_4).f4)) ∧ w'.cell? ⟨gb558, 0, none⟩ = some (.int .u64 a0_0) ∧ w'.cell? ⟨gb558, 1, none⟩ = some (.int .u64 a0_1)) (ds := []) #[false, false, false, false, false, false, false, false, false, false] (by kernel_rfl) rfl rfl ⟨(qz1 BK563.out 0).trans rfl, (qz1 BK563.out 1).trans rfl, (qz1 BK563.out 2).trans rfl, (qz1 BK563.out 3).trans rfl, (qz1 BK563.out 4).trans rfl, (qz1 BK558.out 0).trans rfl, (qz1 BK558.out 1).trans rfl⟩ (fun hHeld => ?_); refine with_tabW ferruleref20_Next.tab12 ferruleref20_Next.bits12 (fun HT_ HW_ => ?_)
                    generalize w61.drew = w62 at HO_6 BK556 BK557 BK558 BK563 HB hHeld ⊢
                    refine pure_ (i := 0) (N := some 53) (v := ?_) (a' := ?_) #[true, false, false, false, false, false, false, false, false, false] rfl rfl (qz39 HT_.out (by kernel_rfl)) (fun _ _ _ h => h) (Or.inl ⟨by rfl, ?_⟩) ?_ ?_
                    rotate_left
                    · intro w'
                      go_simp
                      with_reducible rfl
                    rotate_left
                    · simp only [Act.put, List.setIfInBounds_toArray, List.set_cons_zero, List.set_cons_succ, i64_w, i32_w]
                      rfl
                    refine pure_ (i := 2) (N := some 55) (v := ?_) (a' := ?_) #[true, false, true, false, false, false, false, false, false, false] rfl rfl (qz39 HT_.out (by kernel_rfl)) (fun _ _ _ h => h) (Or.inl ⟨by rfl, ?_⟩) ?_ ?_
                    rotate_left
                    · intro w'
                      go_simp
                      with_reducible rfl
                    rotate_left
                    · simp only [Act.put, List.setIfInBounds_toArray, List.set_cons_zero, List.set_cons_succ, i64_w, i32_w]
                      rfl
                    refine pure_ (i := 4) (N := some 57) (v := ?_) (a' := ?_) #[true, false, true, false, true, false, false, false, false, false] rfl rfl (qz39 HT_.out (by kernel_rfl)) (fun _ _ _ h => h) (Or.inl ⟨by rfl, ?_⟩) ?_ ?_
                    rotate_left
                    · intro w'
                      go_simp
                      with_reducible rfl
                    rotate_left
                    · simp only [Act.put, List.setIfInBounds_toArray, List.set_cons_zero, List.set_cons_succ, i64_w, i32_w]
                      rfl
                    refine take_ (i := 1) (N := some 54) (v := ?_) (a' := ?_) #[true, true, true, false, true, false, false, false, false, false] rfl rfl (qz43 HT_.out HW_.out (by kernel_rfl)) (fun _ _ _ h => h) (Or.inl ⟨by rfl, ?_⟩) hHeld ?_ ?_
                    rotate_left
                    · rintro w' ⟨s0, s1, s2, s3, s4, s5, s6⟩
                      go_simp
                      with_reducible rfl
                    rotate_left
                    · simp only [Act.put, List.setIfInBounds_toArray, List.set_cons_zero, List.set_cons_succ, i64_w, i32_w]
                      rfl
                    refine pure_ (i := 7) (N := some 2) (v := ?_) (a' := ?_) #[true, true, true, false, true, false, false, true, false, false] rfl rfl (qz39 HT_.out (by kernel_rfl)) (fun _ _ _ h => h) (Or.inl ⟨by rfl, ?_⟩) ?_ ?_
                    rotate_left
                    · intro w'
                      go_simp
                      with_reducible rfl
                    rotate_left
                    · simp only [Act.put, List.setIfInBounds_toArray, List.set_cons_zero, List.set_cons_succ, i64_w, i32_w]
                      rfl
                    refine take_ (i := 3) (N := some 56) (v := ?_) (a' := ?_) #[true, true, true, true, true, false, false, true, false, false] rfl rfl (qz43 HT_.out HW_.out (by kernel_rfl)) (fun _ _ _ h => h) (Or.inl ⟨by rfl, ?_⟩) hHeld ?_ ?_
                    rotate_left
                    · rintro w' ⟨s0, s1, s2, s3, s4, s5, s6⟩
                      go_simp
                      with_reducible rfl
                    rotate_left
                    · simp only [Act.put, List.setIfInBounds_toArray, List.set_cons_zero, List.set_cons_succ, i64_w, i32_w]
                      rfl
                    refine take_ (i := 5) (N := some 58) (v := ?_) (a' := ?_) #[true, true, true, true, true, true, false, true, false, false] rfl rfl (qz43 HT_.out HW_.out (by kernel_rfl)) (fun _ _ _ h => h) (Or.inl ⟨by rfl, ?_⟩) hHeld ?_ ?_
                    rotate_left
                    · rintro w' ⟨s0, s1, s2, s3, s4, s5, s6⟩
                      go_simp
                      with_reducible rfl
                    rotate_left
                    · simp only [Act.put, List.setIfInBounds_toArray, List.set_cons_zero, List.set_cons_succ, i64_w, i32_w]
                      rfl
                    refine pure_ (i := 6) (N := some 59) (v := ?_) (a' := ?_) #[true, true, true, true, true, true, true, true, false, false] rfl rfl (qz39 HT_.out (by kernel_rfl)) (fun _ _ _ h => h) (Or.inl ⟨by rfl, ?_⟩) ?_ ?_
                    rotate_left
                    · intro w'
                      go_simp
                      with_reducible rfl
                    rotate_left
                    · simp only [Act.put, List.setIfInBounds_toArray, List.set_cons_zero, List.set_cons_succ, i64_w, i32_w]
                      rfl
                    refine one_ (i := 8) (N := none) #[true, true, true, true, true, true, true, true, true, false] rfl rfl (one_of HT_.out (by kernel_rfl)) (by decide) (fun K hK => ?_)
                    have hs63 : w62.cell? ⟨gb557, 0, none⟩ = some (.int .i64 0) := (qz1 BK557.out 0).trans rfl
                    have hfs63 := qz0 BK557.out 0
                    have hns63_0 := NB556_557.out
                    have hns63_2 := NB558_557.out
                    have hns63_3 := NB563_557.out
                    have hms63_0 := NB557_556.out
                    have hms63_2 := NB557_558.out
                    have hms63_3 := NB557_563.out
                    have hs64 : w62.cell? ⟨gb557, 1, none⟩ = some (.int .u64 0) := (qz1 BK557.out 1).trans rfl
                    have hfs64 := qz0 BK557.out 1
                    have hns64_0 := NB556_557.out
                    have hns64_2 := NB558_557.out
                    have hns64_3 := NB563_557.out
                    have hms64_0 := NB557_556.out
                    have hms64_2 := NB557_558.out
                    have hms64_3 := NB557_563.out
                    have hs65 : w62.cell? ⟨gb557, 2, none⟩ = some (.int .u64 0) := (qz1 BK557.out 2).trans rfl
                    have hfs65 := qz0 BK557.out 2
                    have hns65_0 := NB556_557.out
                    have hns65_2 := NB558_557.out
                    have hns65_3 := NB563_557.out
                    have hms65_0 := NB557_556.out
                    have hms65_2 := NB557_558.out
                    have hms65_3 := NB557_563.out
                    have hs66 : w62.cell? ⟨gb557, 3, none⟩ = some (.string (⟨#[]⟩ : ByteArray)) := (qz1 BK557.out 3).trans rfl
                    have hfs66 := qz0 BK557.out 3
                    have hns66_0 := NB556_557.out
                    have hns66_2 := NB558_557.out
                    have hns66_3 := NB563_557.out
                    have hms66_0 := NB557_556.out
                    have hms66_2 := NB557_558.out
                    have hms66_3 := NB557_563.out
                    have hs67 : w62.cell? ⟨gb557, 4, none⟩ = some (.slice none 0 0) := (qz1 BK557.out 4).trans rfl
                    have hfs67 := qz0 BK557.out 4
                    have hns67_0 := NB556_557.out
                    have hns67_2 := NB558_557.out
                    have hns67_3 := NB563_557.out
                    have hms67_0 := NB557_556.out
                    have hms67_2 := NB557_558.out
                    have hms67_3 := NB557_563.out
                    have hs68 : w62.cell? ⟨gb557, 5, none⟩ = some (.bool false) := (qz1 BK557.out 5).trans rfl
                    have hfs68 := qz0 BK557.out 5
                    have hns68_0 := NB556_557.out
                    have hns68_2 := NB558_557.out
                    have hns68_3 := NB563_557.out
                    have hms68_0 := NB557_556.out
                    have hms68_2 := NB557_558.out
                    have hms68_3 := NB557_563.out
                    have hs69 : w62.cell? ⟨gb557, 6, none⟩ = some (.slice none 0 0) := (qz1 BK557.out 6).trans rfl
                    have hfs69 := qz0 BK557.out 6
                    have hns69_0 := NB556_557.out
                    have hns69_2 := NB558_557.out
                    have hns69_3 := NB563_557.out
                    have hms69_0 := NB557_556.out
                    have hms69_2 := NB557_558.out
                    have hms69_3 := NB557_563.out
                    refine skip_ (w1 := ?_) (by rfl) rfl ?_ ?_
                    rotate_left
                    · go_simp
                      rfl
                    refine hK.out _ _ ⟨((qz2 (p := ⟨gb557, _, none⟩) NB563_557.out _).trans (((qz2 (p := ⟨gb557, _, none⟩) NB563_557.out _).trans (((qz2 (p := ⟨gb557, _, none⟩) NB563_557.out _).trans (((qz2 (p := ⟨gb557, _, none⟩) NB563_557.out _).trans (((qz2 (p := ⟨gb557, _, none⟩) NB563_557.out _).trans (((qz2 (p := ⟨gb557, _, none⟩) NB563_557.out _).trans (((qz2 (p := ⟨gb557, _, none⟩) NB563_557.out _).trans (hHeld.1)))))))))))))), ((qz2 (p := ⟨gb557, _, none⟩) NB563_557.out _).trans (((qz2 (p := ⟨gb557, _, none⟩) NB563_557.out _).trans (((qz2 (p := ⟨gb557, _, none⟩) NB563_557.out _).trans (((qz2 (p := ⟨gb557, _, none⟩) NB563_557.out _).trans (((qz2 (p := ⟨gb557, _, none⟩) NB563_557.out _).trans (((qz2 (p := ⟨gb557, _, none⟩) NB563_557.out _).trans (((qz2 (p := ⟨gb557, _, none⟩) NB563_557.out _).trans (hHeld.2.1)))))))))))))), ((qz2 (p := ⟨gb557, _, none⟩) NB563_557.out _).trans (((qz2 (p := ⟨gb557, _, none⟩) NB563_557.out _).trans (((qz2 (p := ⟨gb557, _, none⟩) NB563_557.out _).trans (((qz2 (p := ⟨gb557, _, none⟩) NB563_557.out _).trans (((qz2 (p := ⟨gb557, _, none⟩) NB563_557.out _).trans (((qz2 (p := ⟨gb557, _, none⟩) NB563_557.out _).trans (((qz2 (p := ⟨gb557, _, none⟩) NB563_557.out _).trans (hHeld.2.2.1)))))))))))))), ((qz2 (p := ⟨gb557, _, none⟩) NB563_557.out _).trans (((qz2 (p := ⟨gb557, _, none⟩) NB563_557.out _).trans (((qz2 (p := ⟨gb557, _, none⟩) NB563_557.out _).trans (((qz2 (p := ⟨gb557, _, none⟩) NB563_557.out _).trans (((qz2 (p := ⟨gb557, _, none⟩) NB563_557.out _).trans (((qz2 (p := ⟨gb557, _, none⟩) NB563_557.out _).trans (((qz2 (p := ⟨gb557, _, none⟩) NB563_557.out _).trans (hHeld.2.2.2.1)))))))))))))), ((qz2 (p := ⟨gb557, _, none⟩) NB563_557.out _).trans (((qz2 (p := ⟨gb557, _, none⟩) NB563_557.out _).trans (((qz2 (p := ⟨gb557, _, none⟩) NB563_557.out _).trans (((qz2 (p := ⟨gb557, _, none⟩) NB563_557.out _).trans (((qz2 (p := ⟨gb557, _, none⟩) NB563_557.out _).trans (((qz2 (p := ⟨gb557, _, none⟩) NB563_557.out _).trans (((qz2 (p := ⟨gb557, _, none⟩) NB563_557.out _).trans (hHeld.2.2.2.2.1)))))))))))))), ((qz2 (p := ⟨gb557, _, none⟩) NB558_557.out _).trans (((qz2 (p := ⟨gb557, _, none⟩) NB558_557.out _).trans (((qz2 (p := ⟨gb557, _, none⟩) NB558_557.out _).trans (((qz2 (p := ⟨gb557, _, none⟩) NB558_557.out _).trans (((qz2 (p := ⟨gb557, _, none⟩) NB558_557.out _).trans (((qz2 (p := ⟨gb557, _, none⟩) NB558_557.out _).trans (((qz2 (p := ⟨gb557, _, none⟩) NB558_557.out _).trans (hHeld.2.2.2.2.2.1)))))))))))))), ((qz2 (p := ⟨gb557, _, none⟩) NB558_557.out _).trans (((qz2 (p := ⟨gb557, _, none⟩) NB558_557.out _).trans (((qz2 (p := ⟨gb557, _, none⟩) NB558_557.out _).trans (((qz2 (p := ⟨gb557, _, none⟩) NB558_557.out _).trans (((qz2 (p := ⟨gb557, _, none⟩) NB558_557.out _).trans (((qz2 (p := ⟨gb557, _, none⟩) NB558_557.out _).trans (((qz2 (p := ⟨gb557, _, none⟩) NB558_557.out _).trans (hHeld.2.2.2.2.2.2))))))))))))))⟩ (fun hHeld => ?_)
                    clear hK K
                    refine pure_ (i := 9) (N := some 4) (v := ?_) (a' := ?_) #[true, true, true, true, true, true, true, true, true, true] rfl rfl (qz39 HT_.out (by kernel_rfl)) (fun _ _ _ h => h) (Or.inl ⟨by rfl, ?_⟩) ?_ ?_
                    rotate_left
                    · intro w'
                      go_simp
                      with_reducible rfl
                    rotate_left
                    · simp only [Act.put, List.setIfInBounds_toArray, List.set_cons_zero, List.set_cons_succ, i64_w, i32_w]
                      rfl
                    refine done_ (done_of HT_.out (by kernel_rfl)) ?_
                    try go_wp2
                    refine bodyPost_ret (qz44 (rs := [.tmp 2, .cell 3 38, .tmp 4]) rfl (by simp) (.tmp (.cell gb557 38 #[.int .i64 1, .int .u64 a0_0, .int .u64 a0_1, .string ((qz7 l0_2 a0_4).f1), .slice none 0 0, .bool false, .slice none 0 0] (0, 0) _ rfl (by (with_reducible repeat (first | refine qz3 ?_ _ | refine qz6 ?_ | refine qz4 ?_ _)); refine qz12 (cs := #[.int .i64 1, .int .u64 a0_0, .int .u64 a0_1, .string ((qz7 l0_2 a0_4).f1), .slice none 0 0, .bool false, .slice none 0 0]) ?_ 6 _ rfl; (with_reducible repeat (first | refine qz3 ?_ _ | refine qz6 ?_ | refine qz4 ?_ _)); refine qz12 (cs := #[.int .i64 1, .int .u64 a0_0, .int .u64 a0_1, .string ((qz7 l0_2 a0_4).f1), .slice none 0 0, .bool false, .slice none 0 0]) ?_ 5 _ rfl; (with_reducible repeat (first | refine qz3 ?_ _ | refine qz6 ?_ | refine qz4 ?_ _)); refine qz12 (cs := #[.int .i64 1, .int .u64 a0_0, .int .u64 a0_1, .string ((qz7 l0_2 a0_4).f1), .slice none 0 0, .bool false, .slice none 0 0]) ?_ 4 _ rfl; (with_reducible repeat (first | refine qz3 ?_ _ | refine qz6 ?_ | refine qz4 ?_ _)); refine qz12 (cs := #[.int .i64 1, .int .u64 a0_0, .int .u64 a0_1, .string (⟨#[]⟩ : ByteArray), .slice none 0 0, .bool false, .slice none 0 0]) ?_ 3 _ rfl; (with_reducible repeat (first | refine qz3 ?_ _ | refine qz6 ?_ | refine qz4 ?_ _)); refine qz12 (cs := #[.int .i64 1, .int .u64 a0_0, .int .u64 0, .string (⟨#[]⟩ : ByteArray), .slice none 0 0, .bool false, .slice none 0 0]) ?_ 2 _ rfl; (with_reducible repeat (first | refine qz3 ?_ _ | refine qz6 ?_ | refine qz4 ?_ _)); refine qz12 (cs := #[.int .i64 1, .int .u64 0, .int .u64 0, .string (⟨#[]⟩ : ByteArray), .slice none 0 0, .bool false, .slice none 0 0]) ?_ 1 _ rfl; (with_reducible repeat (first | refine qz3 ?_ _ | refine qz6 ?_ | refine qz4 ?_ _)); refine qz12 (cs := #[.int .i64 0, .int .u64 0, .int .u64 0, .string (⟨#[]⟩ : ByteArray), .slice none 0 0, .bool false, .slice none 0 0]) ?_ 0 _ rfl; (with_reducible repeat (first | refine qz3 ?_ _ | refine qz6 ?_ | refine qz4 ?_ _)); exact BK557.out) Try.underlying38 rfl (by kernel_rfl) (.tmp .nil)))) rfl ?_
                    exact ⟨_, _, by first | rfl | (simp [qz21, qz22] <;> rfl) | (simp [*, qz21, qz22] <;> rfl), by first | exact Kd.R_nil _ _ _ _ _ | exact Kd.N_nil _ _ _ _ _ | exact Kd.V_nil _ _ _ _ _ | exact Kd.Q_nil _ _ _ _ _ | exact Kd.S_nil _ _ _ _ _, by first | exact Kd.R_nil _ _ _ _ _ | exact Kd.N_nil _ _ _ _ _ | exact Kd.V_nil _ _ _ _ _ | exact Kd.Q_nil _ _ _ _ _ | exact Kd.S_nil _ _ _ _ _, by repeat (first | (with_reducible first | exact HB.out | apply qz10 | apply qz5 | apply qz9 | refine qz8 ?_ GE556.out | refine qz8 ?_ GE557.out | refine qz8 ?_ GE558.out | refine qz8 ?_ GE563.out) | exact HB.out)⟩
                · rw [if_neg c33] at H
                  exact absurd H (by simp)
              · rw [if_neg c32] at H
                exact absurd H (by simp)
            · replace c31 := Bool.eq_false_iff.mpr c31
              subst c31
              have H1 : (some (0, 0, 0, 0, (⟨#[]⟩ : ByteArray), ([] : List (S74)), false, ([] : List Int), false)) = some (r1, r2, r3, r4, r5, r6, r7, r8, r9) := by rw [if_neg (show ¬ (false = true) by decide)] at H; exact H
              clear H
              have H := H1
              clear H1
              simp only [Option.some.injEq, Prod.mk.injEq] at H
              obtain ⟨rfl, rfl, rfl, rfl, rfl, rfl, rfl, rfl, rfl⟩ := H
              have hnb70 := NB556_557.out
              have hnc70 := NB557_556.out
              have hnb71 := NB556_558.out
              have hnc71 := NB558_556.out
              have hcz72_0 : wc.cell? ⟨gb556, 0, none⟩ = some (.int .u64 a0_0) := (qz1 BK556.out 0).trans rfl
              have hcz72_1 : wc.cell? ⟨gb556, 1, none⟩ = some (.int .u64 a0_1) := (qz1 BK556.out 1).trans rfl
              have hcz72_2 : wc.cell? ⟨gb556, 2, none⟩ = some (.slice A0_2 l0_2.length c0_2) := (qz1 BK556.out 2).trans rfl
              have hcz72_3 : wc.cell? ⟨gb556, 3, none⟩ = some (.int .i64 a0_3) := (qz1 BK556.out 3).trans rfl
              have hcz72_4 : wc.cell? ⟨gb556, 4, none⟩ = some (.int .i64 a0_4) := (qz1 BK556.out 4).trans rfl
              have hcz72_5 : wc.cell? ⟨gb556, 5, none⟩ = some (.bool a0_5) := (qz1 BK556.out 5).trans rfl
              have hcz72_6 : wc.cell? ⟨gb556, 6, none⟩ = some (.bool a0_6) := (qz1 BK556.out 6).trans rfl
              have hcz72_7 : wc.cell? ⟨gb556, 7, none⟩ = some (.bool a0_7) := (qz1 BK556.out 7).trans rfl
              have hcz72_8 : wc.cell? ⟨gb556, 8, none⟩ = some (.slice A0_8 l0_8.length c0_8) := (qz1 BK556.out 8).trans rfl
              have hfz72_0 := qz0 BK556.out 0
              have hfz72_1 := qz0 BK556.out 1
              have hfz72_2 := qz0 BK556.out 2
              have hfz72_3 := qz0 BK556.out 3
              have hfz72_4 := qz0 BK556.out 4
              have hfz72_5 := qz0 BK556.out 5
              have hfz72_6 := qz0 BK556.out 6
              have hfz72_7 := qz0 BK556.out 7
              have hfz72_8 := qz0 BK556.out 8
              have hnb73 := NB557_558.out
              have hnc73 := NB558_557.out
              have hcz74_0 : wc.cell? ⟨gb557, 0, none⟩ = some (.int .i64 0) := (qz1 BK557.out 0).trans rfl
              have hcz74_1 : wc.cell? ⟨gb557, 1, none⟩ = some (.int .u64 0) := (qz1 BK557.out 1).trans rfl
              have hcz74_2 : wc.cell? ⟨gb557, 2, none⟩ = some (.int .u64 0) := (qz1 BK557.out 2).trans rfl
              have hcz74_3 : wc.cell? ⟨gb557, 3, none⟩ = some (.string (⟨#[]⟩ : ByteArray)) := (qz1 BK557.out 3).trans rfl
              have hcz74_4 : wc.cell? ⟨gb557, 4, none⟩ = some (.slice none 0 0) := (qz1 BK557.out 4).trans rfl
              have hcz74_5 : wc.cell? ⟨gb557, 5, none⟩ = some (.bool false) := (qz1 BK557.out 5).trans rfl
              have hcz74_6 : wc.cell? ⟨gb557, 6, none⟩ = some (.slice none 0 0) := (qz1 BK557.out 6).trans rfl
              have hfz74_0 := qz0 BK557.out 0
              have hfz74_1 := qz0 BK557.out 1
              have hfz74_2 := qz0 BK557.out 2
              have hfz74_3 := qz0 BK557.out 3
              have hfz74_4 := qz0 BK557.out 4
              have hfz74_5 := qz0 BK557.out 5
              have hfz74_6 := qz0 BK557.out 6
              go_wp2
              refine bodyPost_ret (qz44 (rs := [.tmp 2, .cell 3 38, .tmp 4]) rfl (by simp) (.tmp (.cell gb557 38 #[.int .i64 0, .int .u64 0, .int .u64 0, .string (⟨#[]⟩ : ByteArray), .slice none 0 0, .bool false, .slice none 0 0] (0, 0) _ rfl (by (with_reducible repeat (first | refine qz3 ?_ _ | refine qz6 ?_ | refine qz4 ?_ _)); refine qz12 (cs := #[.int .i64 0, .int .u64 0, .int .u64 0, .string (⟨#[]⟩ : ByteArray), .slice none 0 0, .bool false, .slice none 0 0]) ?_ 6 _ rfl; (with_reducible repeat (first | refine qz3 ?_ _ | refine qz6 ?_ | refine qz4 ?_ _)); refine qz12 (cs := #[.int .i64 0, .int .u64 0, .int .u64 0, .string (⟨#[]⟩ : ByteArray), .slice none 0 0, .bool false, .slice none 0 0]) ?_ 5 _ rfl; (with_reducible repeat (first | refine qz3 ?_ _ | refine qz6 ?_ | refine qz4 ?_ _)); refine qz12 (cs := #[.int .i64 0, .int .u64 0, .int .u64 0, .string (⟨#[]⟩ : ByteArray), .slice none 0 0, .bool false, .slice none 0 0]) ?_ 4 _ rfl; (with_reducible repeat (first | refine qz3 ?_ _ | refine qz6 ?_ | refine qz4 ?_ _)); refine qz12 (cs := #[.int .i64 0, .int .u64 0, .int .u64 0, .string (⟨#[]⟩ : ByteArray), .slice none 0 0, .bool false, .slice none 0 0]) ?_ 3 _ rfl; (with_reducible repeat (first | refine qz3 ?_ _ | refine qz6 ?_ | refine qz4 ?_ _)); refine qz12 (cs := #[.int .i64 0, .int .u64 0, .int .u64 0, .string (⟨#[]⟩ : ByteArray), .slice none 0 0, .bool false, .slice none 0 0]) ?_ 2 _ rfl; (with_reducible repeat (first | refine qz3 ?_ _ | refine qz6 ?_ | refine qz4 ?_ _)); refine qz12 (cs := #[.int .i64 0, .int .u64 0, .int .u64 0, .string (⟨#[]⟩ : ByteArray), .slice none 0 0, .bool false, .slice none 0 0]) ?_ 1 _ rfl; (with_reducible repeat (first | refine qz3 ?_ _ | refine qz6 ?_ | refine qz4 ?_ _)); refine qz12 (cs := #[.int .i64 0, .int .u64 0, .int .u64 0, .string (⟨#[]⟩ : ByteArray), .slice none 0 0, .bool false, .slice none 0 0]) ?_ 0 _ rfl; (with_reducible repeat (first | refine qz3 ?_ _ | refine qz6 ?_ | refine qz4 ?_ _)); exact BK557.out) Try.underlying38 rfl (by kernel_rfl) (.tmp .nil)))) rfl ?_
              exact ⟨_, _, by first | rfl | (simp [qz21, qz22] <;> rfl) | (simp [*, qz21, qz22] <;> rfl), by first | exact Kd.R_nil _ _ _ _ _ | exact Kd.N_nil _ _ _ _ _ | exact Kd.V_nil _ _ _ _ _ | exact Kd.Q_nil _ _ _ _ _ | exact Kd.S_nil _ _ _ _ _, by first | exact Kd.R_nil _ _ _ _ _ | exact Kd.N_nil _ _ _ _ _ | exact Kd.V_nil _ _ _ _ _ | exact Kd.Q_nil _ _ _ _ _ | exact Kd.S_nil _ _ _ _ _, by repeat (first | (with_reducible first | exact HB.out | apply qz10 | apply qz5 | apply qz9 | refine qz8 ?_ GE556.out | refine qz8 ?_ GE557.out | refine qz8 ?_ GE558.out) | exact HB.out)⟩
          · rw [if_neg c30] at H
            have c30b0 : (a0_3 == 0) = false := beq_eq_false_iff_ne.mpr c30
            have c30b1 : (a0_3 != 0) = true := bne_iff_ne.mpr c30
            by_cases c75 : a0_3 = 1
            · rw [if_pos c75] at H
              have c75b0 : (a0_3 == 1) = true := beq_iff_eq.mpr c75
              have c75b1 : (a0_3 != 1) = false := bne_eq_false_iff_eq.mpr c75
              clear c75
              simp only [Option.some.injEq, Prod.mk.injEq] at H
              obtain ⟨rfl, rfl, rfl, rfl, rfl, rfl, rfl, rfl, rfl⟩ := H
              have hnb76 := NB556_557.out
              have hnc76 := NB557_556.out
              have hnb77 := NB556_558.out
              have hnc77 := NB558_556.out
              have hcz78_0 : wc.cell? ⟨gb556, 0, none⟩ = some (.int .u64 a0_0) := (qz1 BK556.out 0).trans rfl
              have hcz78_1 : wc.cell? ⟨gb556, 1, none⟩ = some (.int .u64 a0_1) := (qz1 BK556.out 1).trans rfl
              have hcz78_2 : wc.cell? ⟨gb556, 2, none⟩ = some (.slice A0_2 l0_2.length c0_2) := (qz1 BK556.out 2).trans rfl
              have hcz78_3 : wc.cell? ⟨gb556, 3, none⟩ = some (.int .i64 a0_3) := (qz1 BK556.out 3).trans rfl
              have hcz78_4 : wc.cell? ⟨gb556, 4, none⟩ = some (.int .i64 a0_4) := (qz1 BK556.out 4).trans rfl
              have hcz78_5 : wc.cell? ⟨gb556, 5, none⟩ = some (.bool a0_5) := (qz1 BK556.out 5).trans rfl
              have hcz78_6 : wc.cell? ⟨gb556, 6, none⟩ = some (.bool a0_6) := (qz1 BK556.out 6).trans rfl
              have hcz78_7 : wc.cell? ⟨gb556, 7, none⟩ = some (.bool a0_7) := (qz1 BK556.out 7).trans rfl
              have hcz78_8 : wc.cell? ⟨gb556, 8, none⟩ = some (.slice A0_8 l0_8.length c0_8) := (qz1 BK556.out 8).trans rfl
              have hfz78_0 := qz0 BK556.out 0
              have hfz78_1 := qz0 BK556.out 1
              have hfz78_2 := qz0 BK556.out 2
              have hfz78_3 := qz0 BK556.out 3
              have hfz78_4 := qz0 BK556.out 4
              have hfz78_5 := qz0 BK556.out 5
              have hfz78_6 := qz0 BK556.out 6
              have hfz78_7 := qz0 BK556.out 7
              have hfz78_8 := qz0 BK556.out 8
              try go_wp2
              have n0_ := qza.mk (Kd.R_drew HO_6.out)
              have n1_ := qza.mk (qz6 BK556.out)
              have n2_ := qza.mk (qz6 BK557.out)
              have n3_ := qza.mk (qz6 BK558.out)
              have n4_ := qza.mk (qz9 HB.out)
              clear HO_6
              clear BK556
              clear BK557
              clear BK558
              clear HB
              have HO_6 := n0_
              have BK556 := n1_
              have BK557 := n2_
              have BK558 := n3_
              have HB := n4_
              clear n0_ n1_ n2_ n3_ n4_
              obtain ⟨Ao80, co80, eo80⟩ := Kd.R_slice HO_6.out
              (first | subst eo80 | (injection eo80 with f1_ f2_ f3_; have f4_ := f1_.symm; have f5_ := f3_.symm; clear f1_ f2_ f3_; subst f4_; subst f5_))
              refine start_ (n := 6) (S := fun w' => w'.cell? ⟨gb558, 0, none⟩ = some (.int .u64 a0_0) ∧ w'.cell? ⟨gb558, 1, none⟩ = some (.int .u64 a0_1)) (ds := []) #[false, false, false, false, false, false] (by kernel_rfl) rfl rfl ⟨(qz1 BK558.out 0).trans rfl, (qz1 BK558.out 1).trans rfl⟩ (fun hHeld => ?_)
              generalize wc.drew = w79 at HO_6 BK556 BK557 BK558 HB hHeld ⊢
              refine pure_ (i := 1) (N := some 63) (v := ?_) (a' := ?_) #[false, true, false, false, false, false] rfl rfl (by kernel_rfl) (fun _ _ _ h => h) (Or.inl ⟨by rfl, ?_⟩) ?_ ?_
              rotate_left
              · intro w'
                go_simp
                with_reducible rfl
              rotate_left
              · simp only [Act.put, List.setIfInBounds_toArray, List.set_cons_zero, List.set_cons_succ, i64_w, i32_w]
                rfl
              refine pure_ (i := 3) (N := some 2) (v := ?_) (a' := ?_) #[false, true, false, true, false, false] rfl rfl (by kernel_rfl) (fun _ _ _ h => h) (Or.inl ⟨by rfl, ?_⟩) ?_ ?_
              rotate_left
              · intro w'
                go_simp
                with_reducible rfl
              rotate_left
              · simp only [Act.put, List.setIfInBounds_toArray, List.set_cons_zero, List.set_cons_succ, i64_w, i32_w]
                rfl
              refine take_ (i := 0) (N := some 62) (v := ?_) (a' := ?_) #[true, true, false, true, false, false] rfl rfl (by kernel_rfl) (fun _ _ _ h => h) (Or.inl ⟨by rfl, ?_⟩) hHeld ?_ ?_
              rotate_left
              · rintro w' ⟨s0, s1⟩
                go_simp
                with_reducible rfl
              rotate_left
              · simp only [Act.put, List.setIfInBounds_toArray, List.set_cons_zero, List.set_cons_succ, i64_w, i32_w]
                rfl
              refine pure_ (i := 2) (N := some 64) (v := ?_) (a' := ?_) #[true, true, true, true, false, false] rfl rfl (by kernel_rfl) (fun _ _ _ h => h) (Or.inl ⟨by rfl, ?_⟩) ?_ ?_
              rotate_left
              · intro w'
                go_simp
                with_reducible rfl
              rotate_left
              · simp only [Act.put, List.setIfInBounds_toArray, List.set_cons_zero, List.set_cons_succ, i64_w, i32_w]
                rfl
              refine one_ (i := 4) (N := none) #[true, true, true, true, true, false] rfl rfl (by kernel_rfl) (by decide) (fun K hK => ?_)
              have hs81 : w79.cell? ⟨gb557, 0, none⟩ = some (.int .i64 0) := (qz1 BK557.out 0).trans rfl
              have hfs81 := qz0 BK557.out 0
              have hns81_0 := NB556_557.out
              have hns81_2 := NB558_557.out
              have hms81_0 := NB557_556.out
              have hms81_2 := NB557_558.out
              have hs82 : w79.cell? ⟨gb557, 1, none⟩ = some (.int .u64 0) := (qz1 BK557.out 1).trans rfl
              have hfs82 := qz0 BK557.out 1
              have hns82_0 := NB556_557.out
              have hns82_2 := NB558_557.out
              have hms82_0 := NB557_556.out
              have hms82_2 := NB557_558.out
              have hs83 : w79.cell? ⟨gb557, 2, none⟩ = some (.int .u64 0) := (qz1 BK557.out 2).trans rfl
              have hfs83 := qz0 BK557.out 2
              have hns83_0 := NB556_557.out
              have hns83_2 := NB558_557.out
              have hms83_0 := NB557_556.out
              have hms83_2 := NB557_558.out
              have hs84 : w79.cell? ⟨gb557, 3, none⟩ = some (.string (⟨#[]⟩ : ByteArray)) := (qz1 BK557.out 3).trans rfl
              have hfs84 := qz0 BK557.out 3
              have hns84_0 := NB556_557.out
              have hns84_2 := NB558_557.out
              have hms84_0 := NB557_556.out
              have hms84_2 := NB557_558.out
              have hs85 : w79.cell? ⟨gb557, 4, none⟩ = some (.slice none 0 0) := (qz1 BK557.out 4).trans rfl
              have hfs85 := qz0 BK557.out 4
              have hns85_0 := NB556_557.out
              have hns85_2 := NB558_557.out
              have hms85_0 := NB557_556.out
              have hms85_2 := NB557_558.out
              have hs86 : w79.cell? ⟨gb557, 5, none⟩ = some (.bool false) := (qz1 BK557.out 5).trans rfl
              have hfs86 := qz0 BK557.out 5
              have hns86_0 := NB556_557.out
              have hns86_2 := NB558_557.out
              have hms86_0 := NB557_556.out
              have hms86_2 := NB557_558.out
              have hs87 : w79.cell? ⟨gb557, 6, none⟩ = some (.slice none 0 0) := (qz1 BK557.out 6).trans rfl
              have hfs87 := qz0 BK557.out 6
              have hns87_0 := NB556_557.out
              have hns87_2 := NB558_557.out
              have hms87_0 := NB557_556.out
              have hms87_2 := NB557_558.out
              refine skip_ (w1 := ?_) (by rfl) rfl ?_ ?_
              rotate_left
              · go_simp
                rfl
              refine hK.out _ _ ⟨((qz2 (p := ⟨gb557, _, none⟩) NB558_557.out _).trans (((qz2 (p := ⟨gb557, _, none⟩) NB558_557.out _).trans (((qz2 (p := ⟨gb557, _, none⟩) NB558_557.out _).trans (((qz2 (p := ⟨gb557, _, none⟩) NB558_557.out _).trans (((qz2 (p := ⟨gb557, _, none⟩) NB558_557.out _).trans (((qz2 (p := ⟨gb557, _, none⟩) NB558_557.out _).trans (((qz2 (p := ⟨gb557, _, none⟩) NB558_557.out _).trans (hHeld.1)))))))))))))), ((qz2 (p := ⟨gb557, _, none⟩) NB558_557.out _).trans (((qz2 (p := ⟨gb557, _, none⟩) NB558_557.out _).trans (((qz2 (p := ⟨gb557, _, none⟩) NB558_557.out _).trans (((qz2 (p := ⟨gb557, _, none⟩) NB558_557.out _).trans (((qz2 (p := ⟨gb557, _, none⟩) NB558_557.out _).trans (((qz2 (p := ⟨gb557, _, none⟩) NB558_557.out _).trans (((qz2 (p := ⟨gb557, _, none⟩) NB558_557.out _).trans (hHeld.2))))))))))))))⟩ (fun hHeld => ?_)
              clear hK K
              refine pure_ (i := 5) (N := some 4) (v := ?_) (a' := ?_) #[true, true, true, true, true, true] rfl rfl (by kernel_rfl) (fun _ _ _ h => h) (Or.inl ⟨by rfl, ?_⟩) ?_ ?_
              rotate_left
              · intro w'
                go_simp
                with_reducible rfl
              rotate_left
              · simp only [Act.put, List.setIfInBounds_toArray, List.set_cons_zero, List.set_cons_succ, i64_w, i32_w]
                rfl
              refine done_ (by kernel_rfl) ?_
              try go_wp2
              refine bodyPost_ret (qz44 (rs := [.tmp 2, .cell 3 38, .tmp 4]) rfl (by simp) (.tmp (.cell gb557 38 #[.int .i64 5, .int .u64 a0_0, .int .u64 a0_1, .string (⟨#[]⟩ : ByteArray), .slice none 0 0, .bool false, .slice Ao80 t559.length co80] (0, 0) _ rfl (by (with_reducible repeat (first | refine qz3 ?_ _ | refine qz6 ?_ | refine qz4 ?_ _)); refine qz12 (cs := #[.int .i64 5, .int .u64 a0_0, .int .u64 a0_1, .string (⟨#[]⟩ : ByteArray), .slice none 0 0, .bool false, .slice none 0 0]) ?_ 6 _ rfl; (with_reducible repeat (first | refine qz3 ?_ _ | refine qz6 ?_ | refine qz4 ?_ _)); refine qz12 (cs := #[.int .i64 5, .int .u64 a0_0, .int .u64 a0_1, .string (⟨#[]⟩ : ByteArray), .slice none 0 0, .bool false, .slice none 0 0]) ?_ 5 _ rfl; (with_reducible repeat (first | refine qz3 ?_ _ | refine qz6 ?_ | refine qz4 ?_ _)); refine qz12 (cs := #[.int .i64 5, .int .u64 a0_0, .int .u64 a0_1, .string (⟨#[]⟩ : ByteArray), .slice none 0 0, .bool false, .slice none 0 0]) ?_ 4 _ rfl; (with_reducible repeat (first | refine qz3 ?_ _ | refine qz6 ?_ | refine qz4 ?_ _)); refine qz12 (cs := #[.int .i64 5, .int .u64 a0_0, .int .u64 a0_1, .string (⟨#[]⟩ : ByteArray), .slice none 0 0, .bool false, .slice none 0 0]) ?_ 3 _ rfl; (with_reducible repeat (first | refine qz3 ?_ _ | refine qz6 ?_ | refine qz4 ?_ _)); refine qz12 (cs := #[.int .i64 5, .int .u64 a0_0, .int .u64 0, .string (⟨#[]⟩ : ByteArray), .slice none 0 0, .bool false, .slice none 0 0]) ?_ 2 _ rfl; (with_reducible repeat (first | refine qz3 ?_ _ | refine qz6 ?_ | refine qz4 ?_ _)); refine qz12 (cs := #[.int .i64 5, .int .u64 0, .int .u64 0, .string (⟨#[]⟩ : ByteArray), .slice none 0 0, .bool false, .slice none 0 0]) ?_ 1 _ rfl; (with_reducible repeat (first | refine qz3 ?_ _ | refine qz6 ?_ | refine qz4 ?_ _)); refine qz12 (cs := #[.int .i64 0, .int .u64 0, .int .u64 0, .string (⟨#[]⟩ : ByteArray), .slice none 0 0, .bool false, .slice none 0 0]) ?_ 0 _ rfl; (with_reducible repeat (first | refine qz3 ?_ _ | refine qz6 ?_ | refine qz4 ?_ _)); exact BK557.out) Try.underlying38 rfl (by kernel_rfl) (.tmp .nil)))) rfl ?_
              exact ⟨_, _, by first | rfl | (simp [qz21, qz22] <;> rfl) | (simp [*, qz21, qz22] <;> rfl), by first | exact Kd.R_nil _ _ _ _ _ | exact Kd.N_nil _ _ _ _ _ | exact Kd.V_nil _ _ _ _ _ | exact Kd.Q_nil _ _ _ _ _ | exact Kd.S_nil _ _ _ _ _, by (with_reducible repeat (first | apply Kd.R_alloc | apply Kd.R_drewN | apply Kd.R_drew)); exact Kd.R_mono (Kd.R_far (p := ⟨gb557, 6, none⟩) (Kd.R_far (p := ⟨gb557, 5, none⟩) (Kd.R_far (p := ⟨gb557, 4, none⟩) (Kd.R_far (p := ⟨gb557, 3, none⟩) (Kd.R_far (p := ⟨gb557, 2, none⟩) (Kd.R_far (p := ⟨gb557, 1, none⟩) (Kd.R_far (p := ⟨gb557, 0, none⟩) (Kd.R_types HO_6.out BK557.out (by decide)) (fun _ hk => hk.2) (.int .i64 5)) (fun _ hk => hk.2) (.int .u64 a0_0)) (fun _ hk => hk.2) (.int .u64 a0_1)) (fun _ hk => hk.2) (.string (⟨#[]⟩ : ByteArray))) (fun _ hk => hk.2) (.slice none 0 0)) (fun _ hk => hk.2) (.bool false)) (fun _ hk => hk.2) (.slice Ao80 t559.length co80)) (fun _ hk => trivial), by repeat (first | (with_reducible first | exact HB.out | apply qz10 | apply qz5 | apply qz9 | refine qz8 ?_ GE556.out | refine qz8 ?_ GE557.out | refine qz8 ?_ GE558.out) | exact HB.out)⟩
            · rw [if_neg c75] at H
              have c75b0 : (a0_3 == 1) = false := beq_eq_false_iff_ne.mpr c75
              have c75b1 : (a0_3 != 1) = true := bne_iff_ne.mpr c75
              by_cases c88 : a0_3 = 2
              · rw [if_pos c88] at H
                have c88b0 : (a0_3 == 2) = true := beq_iff_eq.mpr c88
                have c88b1 : (a0_3 != 2) = false := bne_eq_false_iff_eq.mpr c88
                clear c88
                by_cases c89 : x8_20 = true
                · subst c89
                  have H1 : (if 0 ≤ a0_4 then (if a0_4 < (t559.length : Int) then ((ferruleref20_Puts.f kj20 a0_0 a0_1 l0_2 (rd t559 a0_4)).bind fun t566 => (some (rd t559 a0_4, 3, a0_0, a0_1, (⟨#[]⟩ : ByteArray), t566, false, ([] : List Int), true))) else (none)) else (none)) = some (r1, r2, r3, r4, r5, r6, r7, r8, r9) := by rw [if_pos rfl] at H; exact H
                  clear H
                  have H := H1
                  clear H1
                  by_cases c90 : 0 ≤ a0_4
                  · rw [if_pos c90] at H
                    have c90b0 : decide (0 ≤ a0_4) = true := decide_eq_true c90
                    clear c90
                    by_cases c91 : a0_4 < (t559.length : Int)
                    · rw [if_pos c91] at H
                      have c91b0 : decide (a0_4 < (t559.length : Int)) = true := decide_eq_true c91
                      clear c91
                      replace H := Option.bind_eq_some_iff.mp H
                      obtain ⟨t566, A920, H⟩ := H
                      replace H : (some (rd t559 a0_4, 3, a0_0, a0_1, (⟨#[]⟩ : ByteArray), t566, false, ([] : List Int), true)) = some (r1, r2, r3, r4, r5, r6, r7, r8, r9) := H
                      have A92 := qza.mk A920
                      clear A920
                      simp only [Option.some.injEq, Prod.mk.injEq] at H
                      obtain ⟨rfl, rfl, rfl, rfl, rfl, rfl, rfl, rfl, rfl⟩ := H
                      have hnb93 := NB556_557.out
                      have hnc93 := NB557_556.out
                      have hnb94 := NB556_558.out
                      have hnc94 := NB558_556.out
                      have hcz95_0 : wc.cell? ⟨gb556, 0, none⟩ = some (.int .u64 a0_0) := (qz1 BK556.out 0).trans rfl
                      have hcz95_1 : wc.cell? ⟨gb556, 1, none⟩ = some (.int .u64 a0_1) := (qz1 BK556.out 1).trans rfl
                      have hcz95_2 : wc.cell? ⟨gb556, 2, none⟩ = some (.slice A0_2 l0_2.length c0_2) := (qz1 BK556.out 2).trans rfl
                      have hcz95_3 : wc.cell? ⟨gb556, 3, none⟩ = some (.int .i64 a0_3) := (qz1 BK556.out 3).trans rfl
                      have hcz95_4 : wc.cell? ⟨gb556, 4, none⟩ = some (.int .i64 a0_4) := (qz1 BK556.out 4).trans rfl
                      have hcz95_5 : wc.cell? ⟨gb556, 5, none⟩ = some (.bool a0_5) := (qz1 BK556.out 5).trans rfl
                      have hcz95_6 : wc.cell? ⟨gb556, 6, none⟩ = some (.bool a0_6) := (qz1 BK556.out 6).trans rfl
                      have hcz95_7 : wc.cell? ⟨gb556, 7, none⟩ = some (.bool a0_7) := (qz1 BK556.out 7).trans rfl
                      have hcz95_8 : wc.cell? ⟨gb556, 8, none⟩ = some (.slice A0_8 l0_8.length c0_8) := (qz1 BK556.out 8).trans rfl
                      have hfz95_0 := qz0 BK556.out 0
                      have hfz95_1 := qz0 BK556.out 1
                      have hfz95_2 := qz0 BK556.out 2
                      have hfz95_3 := qz0 BK556.out 3
                      have hfz95_4 := qz0 BK556.out 4
                      have hfz95_5 := qz0 BK556.out 5
                      have hfz95_6 := qz0 BK556.out 6
                      have hfz95_7 := qz0 BK556.out 7
                      have hfz95_8 := qz0 BK556.out 8
                      try go_wp2
                      have n0_ := qza.mk (Kd.R_drew HO_6.out)
                      have n1_ := qza.mk (qz6 BK556.out)
                      have n2_ := qza.mk (qz6 BK557.out)
                      have n3_ := qza.mk (qz6 BK558.out)
                      have n4_ := qza.mk (qz9 HB.out)
                      clear HO_6
                      clear BK556
                      clear BK557
                      clear BK558
                      clear HB
                      have HO_6 := n0_
                      have BK556 := n1_
                      have BK557 := n2_
                      have BK558 := n3_
                      have HB := n4_
                      clear n0_ n1_ n2_ n3_ n4_
                      obtain ⟨Ao97, co97, eo97⟩ := Kd.R_slice HO_6.out
                      (first | subst eo97 | (injection eo97 with f1_ f2_ f3_; have f4_ := f1_.symm; have f5_ := f3_.symm; clear f1_ f2_ f3_; subst f4_; subst f5_))
                      have p564 : 0 ≤ (a0_4 : Int) := of_decide_eq_true (by first | (with_reducible assumption) | assumption)
                      have q564 : a0_4 < (t559.length : Int) := of_decide_eq_true (by first | (with_reducible assumption) | assumption)
                      obtain ⟨ad564, e564, hx564_0⟩ := Kd.at_int (Kd.R_reads' HO_6.out).2.2 a0_4 p564 q564
                      cases e564
                      replace p564 := eq_true p564
                      replace q564 := eq_true q564
                      have p565 : 0 ≤ (a0_4 : Int) := of_decide_eq_true (by first | (with_reducible assumption) | assumption)
                      have q565 : a0_4 < (t559.length : Int) := of_decide_eq_true (by first | (with_reducible assumption) | assumption)
                      obtain ⟨ad565, e565, hx565_0⟩ := Kd.at_int (Kd.R_reads' HO_6.out).2.2 a0_4 p565 q565
                      obtain rfl : ad564 = ad565 := (by injection e565)
                      replace p565 := eq_true p565
                      replace q565 := eq_true q565
                      refine start_ (n := 18) (S := fun w' => w'.cell? ⟨gb556, 0, none⟩ = some (.int .u64 a0_0) ∧ w'.cell? ⟨gb556, 1, none⟩ = some (.int .u64 a0_1) ∧ w'.cell? ⟨gb556, 2, none⟩ = some (.slice A0_2 l0_2.length c0_2) ∧ w'.cell? ⟨gb556, 3, none⟩ = some (.int .i64 a0_3) ∧ w'.cell? ⟨gb556, 4, none⟩ = some (.int .i64 a0_4) ∧ w'.cell? ⟨gb556, 5, none⟩ = some (.bool a0_5) ∧ w'.cell? ⟨gb556, 6, none⟩ = some (.bool a0_6) ∧ w'.cell? ⟨gb556, 7, none⟩ = some (.bool a0_7) ∧ w'.cell? ⟨gb556, 8, none⟩ = some (.slice A0_8 l0_8.length c0_8) ∧ w'.cell? ⟨gb558, 0, none⟩ = some (.int .u64 a0_0) ∧ w'.cell? ⟨gb558, 1, none⟩ = some (.int .u64 a0_1) ∧ w'.cell? (ad564.add (a0_4).toNat) = some (.int .u64 (rd t559 a0_4)) ∧ w'.cell? (ad564.add (a0_4).toNat) = some (.int .u64 (rd t559 a0_4))) (ds := []) #[false, false, false, false, false, false, false, false, false, false, false, false, false, false, false, false, false, false] (by kernel_rfl) rfl rfl ⟨(qz1 BK556.out 0).trans rfl, (qz1 BK556.out 1).trans rfl, (qz1 BK556.out 2).trans rfl, (qz1 BK556.out 3).trans rfl, (qz1 BK556.out 4).trans rfl, (qz1 BK556.out 5).trans rfl, (qz1 BK556.out 6).trans rfl, (qz1 BK556.out 7).trans rfl, (qz1 BK556.out 8).trans rfl, (qz1 BK558.out 0).trans rfl, (qz1 BK558.out 1).trans rfl, hx564_0, hx565_0⟩ (fun hHeld => ?_); refine with_tabW ferruleref20_Next.tab17 ferruleref20_Next.bits17 (fun HT_ HW_ => ?_)
                      generalize wc.drew = w96 at HO_6 BK556 BK557 BK558 HB hx564_0 hx565_0 hHeld ⊢
                      refine pure_ (i := 0) (N := some 68) (v := ?_) (a' := ?_) #[true, false, false, false, false, false, false, false, false, false, false, false, false, false, false, false, false, false] rfl rfl (qz39 HT_.out (by kernel_rfl)) (fun _ _ _ h => h) (Or.inl ⟨by rfl, ?_⟩) ?_ ?_
                      rotate_left
                      · intro w'
                        go_simp
                        with_reducible rfl
                      rotate_left
                      · simp only [Act.put, List.setIfInBounds_toArray, List.set_cons_zero, List.set_cons_succ, i64_w, i32_w]
                        rfl
                      refine pure_ (i := 1) (N := some 69) (v := ?_) (a' := ?_) #[true, true, false, false, false, false, false, false, false, false, false, false, false, false, false, false, false, false] rfl rfl (qz39 HT_.out (by kernel_rfl)) (fun _ _ _ h => h) (Or.inl ⟨by rfl, ?_⟩) ?_ ?_
                      rotate_left
                      · intro w'
                        go_simp
                        with_reducible rfl
                      rotate_left
                      · simp only [Act.put, List.setIfInBounds_toArray, List.set_cons_zero, List.set_cons_succ, i64_w, i32_w]
                        rfl
                      refine pure_ (i := 6) (N := some 74) (v := ?_) (a' := ?_) #[true, true, false, false, false, false, true, false, false, false, false, false, false, false, false, false, false, false] rfl rfl (qz39 HT_.out (by kernel_rfl)) (fun _ _ _ h => h) (Or.inl ⟨by rfl, ?_⟩) ?_ ?_
                      rotate_left
                      · intro w'
                        go_simp
                        with_reducible rfl
                      rotate_left
                      · simp only [Act.put, List.setIfInBounds_toArray, List.set_cons_zero, List.set_cons_succ, i64_w, i32_w]
                        rfl
                      refine pure_ (i := 8) (N := some 76) (v := ?_) (a' := ?_) #[true, true, false, false, false, false, true, false, true, false, false, false, false, false, false, false, false, false] rfl rfl (qz39 HT_.out (by kernel_rfl)) (fun _ _ _ h => h) (Or.inl ⟨by rfl, ?_⟩) ?_ ?_
                      rotate_left
                      · intro w'
                        go_simp
                        with_reducible rfl
                      rotate_left
                      · simp only [Act.put, List.setIfInBounds_toArray, List.set_cons_zero, List.set_cons_succ, i64_w, i32_w]
                        rfl
                      refine pure_ (i := 9) (N := some 77) (v := ?_) (a' := ?_) #[true, true, false, false, false, false, true, false, true, true, false, false, false, false, false, false, false, false] rfl rfl (qz39 HT_.out (by kernel_rfl)) (fun _ _ _ h => h) (Or.inl ⟨by rfl, ?_⟩) ?_ ?_
                      rotate_left
                      · intro w'
                        go_simp
                        with_reducible rfl
                      rotate_left
                      · simp only [Act.put, List.setIfInBounds_toArray, List.set_cons_zero, List.set_cons_succ, i64_w, i32_w]
                        rfl
                      refine take_ (i := 2) (N := some 70) (v := ?_) (a' := ?_) #[true, true, true, false, false, false, true, false, true, true, false, false, false, false, false, false, false, false] rfl rfl (qz43 HT_.out HW_.out (by kernel_rfl)) (fun _ _ _ h => h) (Or.inl ⟨by rfl, ?_⟩) hHeld ?_ ?_
                      rotate_left
                      · rintro w' ⟨s0, s1, s2, s3, s4, s5, s6, s7, s8, s9, s10, s11, s12⟩
                        go_simp
                        with_reducible rfl
                      rotate_left
                      · simp only [Act.put, List.setIfInBounds_toArray, List.set_cons_zero, List.set_cons_succ, i64_w, i32_w]
                        rfl
                      refine pure_ (i := 3) (N := some 71) (v := ?_) (a' := ?_) #[true, true, true, true, false, false, true, false, true, true, false, false, false, false, false, false, false, false] rfl rfl (qz39 HT_.out (by kernel_rfl)) (fun _ _ _ h => h) (Or.inl ⟨by rfl, ?_⟩) ?_ ?_
                      rotate_left
                      · intro w'
                        go_simp
                        with_reducible rfl
                      rotate_left
                      · simp only [Act.put, List.setIfInBounds_toArray, List.set_cons_zero, List.set_cons_succ, i64_w, i32_w]
                        rfl
                      refine take_ (i := 4) (N := some 72) (v := ?_) (a' := ?_) #[true, true, true, true, true, false, true, false, true, true, false, false, false, false, false, false, false, false] rfl rfl (qz43 HT_.out HW_.out (by kernel_rfl)) (fun _ _ _ h => h) (Or.inl ⟨by rfl, ?_⟩) hHeld ?_ ?_
                      rotate_left
                      · rintro w' ⟨s0, s1, s2, s3, s4, s5, s6, s7, s8, s9, s10, s11, s12⟩
                        go_simp
                        with_reducible rfl
                      rotate_left
                      · simp only [Act.put, List.setIfInBounds_toArray, List.set_cons_zero, List.set_cons_succ, i64_w, i32_w]
                        rfl
                      refine take_ (i := 5) (N := some 73) (v := ?_) (a' := ?_) #[true, true, true, true, true, true, true, false, true, true, false, false, false, false, false, false, false, false] rfl rfl (qz43 HT_.out HW_.out (by kernel_rfl)) (fun _ _ _ h => h) (Or.inl ⟨by rfl, ?_⟩) hHeld ?_ ?_
                      rotate_left
                      · rintro w' ⟨s0, s1, s2, s3, s4, s5, s6, s7, s8, s9, s10, s11, s12⟩
                        go_simp
                        with_reducible rfl
                      rotate_left
                      · simp only [Act.put, List.setIfInBounds_toArray, List.set_cons_zero, List.set_cons_succ, i64_w, i32_w]
                        rfl
                      refine take_ (i := 7) (N := some 75) (v := ?_) (a' := ?_) #[true, true, true, true, true, true, true, true, true, true, false, false, false, false, false, false, false, false] rfl rfl (qz43 HT_.out HW_.out (by kernel_rfl)) (fun _ _ _ h => h) (Or.inl ⟨by rfl, ?_⟩) hHeld ?_ ?_
                      rotate_left
                      · rintro w' ⟨s0, s1, s2, s3, s4, s5, s6, s7, s8, s9, s10, s11, s12⟩
                        go_simp
                        with_reducible rfl
                      rotate_left
                      · simp only [Act.put, List.setIfInBounds_toArray, List.set_cons_zero, List.set_cons_succ, i64_w, i32_w]
                        rfl
                      refine take_ (i := 10) (N := some 78) (v := ?_) (a' := ?_) #[true, true, true, true, true, true, true, true, true, true, true, false, false, false, false, false, false, false] rfl rfl (qz43 HT_.out HW_.out (by kernel_rfl)) (fun _ _ _ h => h) (Or.inl ⟨by rfl, ?_⟩) hHeld ?_ ?_
                      rotate_left
                      · rintro w' ⟨s0, s1, s2, s3, s4, s5, s6, s7, s8, s9, s10, s11, s12⟩
                        go_simp
                        with_reducible rfl
                      rotate_left
                      · simp only [Act.put, List.setIfInBounds_toArray, List.set_cons_zero, List.set_cons_succ, i64_w, i32_w]
                        rfl
                      refine pure_ (i := 11) (N := some 79) (v := ?_) (a' := ?_) #[true, true, true, true, true, true, true, true, true, true, true, true, false, false, false, false, false, false] rfl rfl (qz39 HT_.out (by kernel_rfl)) (fun _ _ _ h => h) (Or.inl ⟨by rfl, ?_⟩) ?_ ?_
                      rotate_left
                      · intro w'
                        go_simp
                        with_reducible rfl
                      rotate_left
                      · simp only [Act.put, List.setIfInBounds_toArray, List.set_cons_zero, List.set_cons_succ, i64_w, i32_w]
                        rfl
                      refine take_ (i := 12) (N := some 80) (v := ?_) (a' := ?_) #[true, true, true, true, true, true, true, true, true, true, true, true, true, false, false, false, false, false] rfl rfl (qz43 HT_.out HW_.out (by kernel_rfl)) (fun _ _ _ h => h) (Or.inl ⟨by rfl, ?_⟩) hHeld ?_ ?_
                      rotate_left
                      · rintro w' ⟨s0, s1, s2, s3, s4, s5, s6, s7, s8, s9, s10, s11, s12⟩
                        go_simp
                        with_reducible rfl
                      rotate_left
                      · simp only [Act.put, List.setIfInBounds_toArray, List.set_cons_zero, List.set_cons_succ, i64_w, i32_w]
                        rfl
                      refine one_ (i := 13) (N := some 81) #[true, true, true, true, true, true, true, true, true, true, true, true, true, true, false, false, false, false] rfl rfl (one_of HT_.out (by kernel_rfl)) (by decide) (fun K hK => ?_)
                      refine goes_ Try.func22 (by kernel_rfl) rfl #[.agg #[.int .u64 a0_0, .int .u64 a0_1, .slice A0_2 l0_2.length c0_2], .int .u64 (rd t559 a0_4)] (by rfl) rfl rfl (by (try simp only [List.map_toArray, List.map_cons, List.map_nil]); first | done | rfl | (simp only [List.length_drop, List.length_take]; rfl)) ?_
                      with_reducible refine (ferruleref20_Puts.calls kj20 a0_0 a0_1 _ _ l0_2 (rd t559 a0_4) t566 _ ?side1 ?side2 A92.out).mono ?_
                      (case side1 => repeat (first | exact (Kd.C_below HR0_2.out HB.out) | (with_reducible refine Kd.C_alloc ?_ _) | (with_reducible refine Kd.C_drewN ?_ _) | (with_reducible refine Kd.C_drew ?_)))
                      (case side2 => exact HC0_2.out)
                      rintro e w98 ⟨v567, rfl, ho0, hb⟩
                      have HS11_ := (hb.cell (World.block_lt_of_cell? _ _ (hHeld.2.2.2.2.2.2.2.2.2.2.2.1))).trans (hHeld.2.2.2.2.2.2.2.2.2.2.2.1)
                      have HS12_ := (hb.cell (World.block_lt_of_cell? _ _ (hHeld.2.2.2.2.2.2.2.2.2.2.2.2))).trans (hHeld.2.2.2.2.2.2.2.2.2.2.2.2)
                      refine ⟨_, rfl, ?_⟩
                      have n0_ := qza.mk (Kd.R_below (by (with_reducible repeat (first | apply Kd.R_alloc | apply Kd.R_drewN | apply Kd.R_drew)); exact HO_6.out) hb)
                      have n1_ := qza.mk (Kd.R_lower ho0 (qz15 (by repeat (first | (with_reducible first | exact HB.out | apply qz10 | apply qz5 | apply qz9 | refine qz8 ?_ GE556.out | refine qz8 ?_ GE557.out | refine qz8 ?_ GE558.out) | exact HB.out))))
                      have n2_ := qza.mk (qz35 (g := gb556) (o := .cells #[.int .u64 a0_0, .int .u64 a0_1, .slice A0_2 l0_2.length c0_2, .int .i64 a0_3, .int .i64 a0_4, .bool a0_5, .bool a0_6, .bool a0_7, .slice A0_8 l0_8.length c0_8] 30 (0, 0)) (by (with_reducible repeat (first | refine qz3 ?_ _ | refine qz6 ?_ | refine qz4 ?_ _)); exact BK556.out) hb)
                      have n3_ := qza.mk (qz35 (g := gb557) (o := .cells #[.int .i64 0, .int .u64 0, .int .u64 0, .string (⟨#[]⟩ : ByteArray), .slice none 0 0, .bool false, .slice none 0 0] 38 (0, 0)) (by (with_reducible repeat (first | refine qz3 ?_ _ | refine qz6 ?_ | refine qz4 ?_ _)); exact BK557.out) hb)
                      have n4_ := qza.mk (qz35 (g := gb558) (o := .cells #[.int .u64 a0_0, .int .u64 a0_1] 24 (0, 0)) (by (with_reducible repeat (first | refine qz3 ?_ _ | refine qz6 ?_ | refine qz4 ?_ _)); exact BK558.out) hb)
                      have n5_ := qza.mk (qz25 (by repeat (first | (with_reducible first | exact HB.out | apply qz10 | apply qz5 | apply qz9 | refine qz8 ?_ GE556.out | refine qz8 ?_ GE557.out | refine qz8 ?_ GE558.out) | exact HB.out)) hb)
                      clear HO_6
                      clear BK556
                      clear BK557
                      clear BK558
                      clear HB
                      have HO_6 := n0_
                      have HO568 := n1_
                      have BK556 := n2_
                      have BK557 := n3_
                      have BK558 := n4_
                      have HB := n5_
                      clear n0_ n1_ n2_ n3_ n4_ n5_
                      (try clear hb)
                      (try clear hb2)
                      (try clear hk)
                      (try clear hi)
                      (try clear ho0)
                      obtain ⟨Ao99, co99, eo99⟩ := Kd.R_slice HO568.out
                      (first | subst eo99 | (injection eo99 with f1_ f2_ f3_; have f4_ := f1_.symm; have f5_ := f3_.symm; clear f1_ f2_ f3_; subst f4_; subst f5_))
                      refine hK.out _ _ ⟨(qz1 BK556.out 0).trans rfl, (qz1 BK556.out 1).trans rfl, (qz1 BK556.out 2).trans rfl, (qz1 BK556.out 3).trans rfl, (qz1 BK556.out 4).trans rfl, (qz1 BK556.out 5).trans rfl, (qz1 BK556.out 6).trans rfl, (qz1 BK556.out 7).trans rfl, (qz1 BK556.out 8).trans rfl, (qz1 BK558.out 0).trans rfl, (qz1 BK558.out 1).trans rfl, HS11_, HS12_⟩ (fun hHeld => ?_)
                      clear hK K
                      refine norm_ (a' := ?_) ?_ ?_
                      rotate_left
                      · show Act.put _ (some 81) _ = _
                        simp only [Act.put, List.setIfInBounds_toArray, List.set_cons_zero, List.set_cons_succ, i64_w, i32_w]
                        rfl
                      refine pure_ (i := 14) (N := some 82) (v := ?_) (a' := ?_) #[true, true, true, true, true, true, true, true, true, true, true, true, true, true, true, false, false, false] rfl rfl (qz39 HT_.out (by kernel_rfl)) (fun _ _ _ h => h) (Or.inl ⟨by rfl, ?_⟩) ?_ ?_
                      rotate_left
                      · intro w'
                        go_simp
                        with_reducible rfl
                      rotate_left
                      · simp only [Act.put, List.setIfInBounds_toArray, List.set_cons_zero, List.set_cons_succ, i64_w, i32_w]
                        rfl
                      refine pure_ (i := 15) (N := some 2) (v := ?_) (a' := ?_) #[true, true, true, true, true, true, true, true, true, true, true, true, true, true, true, true, false, false] rfl rfl (qz39 HT_.out (by kernel_rfl)) (fun _ _ _ h => h) (Or.inl ⟨by rfl, ?_⟩) ?_ ?_
                      rotate_left
                      · intro w'
                        go_simp
                        with_reducible rfl
                      rotate_left
                      · simp only [Act.put, List.setIfInBounds_toArray, List.set_cons_zero, List.set_cons_succ, i64_w, i32_w]
                        rfl
                      refine one_ (i := 16) (N := none) #[true, true, true, true, true, true, true, true, true, true, true, true, true, true, true, true, true, false] rfl rfl (one_of HT_.out (by kernel_rfl)) (by decide) (fun K hK => ?_)
                      have hs100 : w98.cell? ⟨gb557, 0, none⟩ = some (.int .i64 0) := (qz1 BK557.out 0).trans rfl
                      have hfs100 := qz0 BK557.out 0
                      have hns100_0 := NB556_557.out
                      have hns100_2 := NB558_557.out
                      have hms100_0 := NB557_556.out
                      have hms100_2 := NB557_558.out
                      have hs101 : w98.cell? ⟨gb557, 1, none⟩ = some (.int .u64 0) := (qz1 BK557.out 1).trans rfl
                      have hfs101 := qz0 BK557.out 1
                      have hns101_0 := NB556_557.out
                      have hns101_2 := NB558_557.out
                      have hms101_0 := NB557_556.out
                      have hms101_2 := NB557_558.out
                      have hs102 : w98.cell? ⟨gb557, 2, none⟩ = some (.int .u64 0) := (qz1 BK557.out 2).trans rfl
                      have hfs102 := qz0 BK557.out 2
                      have hns102_0 := NB556_557.out
                      have hns102_2 := NB558_557.out
                      have hms102_0 := NB557_556.out
                      have hms102_2 := NB557_558.out
                      have hs103 : w98.cell? ⟨gb557, 3, none⟩ = some (.string (⟨#[]⟩ : ByteArray)) := (qz1 BK557.out 3).trans rfl
                      have hfs103 := qz0 BK557.out 3
                      have hns103_0 := NB556_557.out
                      have hns103_2 := NB558_557.out
                      have hms103_0 := NB557_556.out
                      have hms103_2 := NB557_558.out
                      have hs104 : w98.cell? ⟨gb557, 4, none⟩ = some (.slice none 0 0) := (qz1 BK557.out 4).trans rfl
                      have hfs104 := qz0 BK557.out 4
                      have hns104_0 := NB556_557.out
                      have hns104_2 := NB558_557.out
                      have hms104_0 := NB557_556.out
                      have hms104_2 := NB557_558.out
                      have hs105 : w98.cell? ⟨gb557, 5, none⟩ = some (.bool false) := (qz1 BK557.out 5).trans rfl
                      have hfs105 := qz0 BK557.out 5
                      have hns105_0 := NB556_557.out
                      have hns105_2 := NB558_557.out
                      have hms105_0 := NB557_556.out
                      have hms105_2 := NB557_558.out
                      have hs106 : w98.cell? ⟨gb557, 6, none⟩ = some (.slice none 0 0) := (qz1 BK557.out 6).trans rfl
                      have hfs106 := qz0 BK557.out 6
                      have hns106_0 := NB556_557.out
                      have hns106_2 := NB558_557.out
                      have hms106_0 := NB557_556.out
                      have hms106_2 := NB557_558.out
                      refine skip_ (w1 := ?_) (by rfl) rfl ?_ ?_
                      rotate_left
                      · go_simp
                        rfl
                      refine hK.out _ _ ⟨((qz2 (p := ⟨gb557, _, none⟩) NB556_557.out _).trans (((qz2 (p := ⟨gb557, _, none⟩) NB556_557.out _).trans (((qz2 (p := ⟨gb557, _, none⟩) NB556_557.out _).trans (((qz2 (p := ⟨gb557, _, none⟩) NB556_557.out _).trans (((qz2 (p := ⟨gb557, _, none⟩) NB556_557.out _).trans (((qz2 (p := ⟨gb557, _, none⟩) NB556_557.out _).trans (((qz2 (p := ⟨gb557, _, none⟩) NB556_557.out _).trans (hHeld.1)))))))))))))), ((qz2 (p := ⟨gb557, _, none⟩) NB556_557.out _).trans (((qz2 (p := ⟨gb557, _, none⟩) NB556_557.out _).trans (((qz2 (p := ⟨gb557, _, none⟩) NB556_557.out _).trans (((qz2 (p := ⟨gb557, _, none⟩) NB556_557.out _).trans (((qz2 (p := ⟨gb557, _, none⟩) NB556_557.out _).trans (((qz2 (p := ⟨gb557, _, none⟩) NB556_557.out _).trans (((qz2 (p := ⟨gb557, _, none⟩) NB556_557.out _).trans (hHeld.2.1)))))))))))))), ((qz2 (p := ⟨gb557, _, none⟩) NB556_557.out _).trans (((qz2 (p := ⟨gb557, _, none⟩) NB556_557.out _).trans (((qz2 (p := ⟨gb557, _, none⟩) NB556_557.out _).trans (((qz2 (p := ⟨gb557, _, none⟩) NB556_557.out _).trans (((qz2 (p := ⟨gb557, _, none⟩) NB556_557.out _).trans (((qz2 (p := ⟨gb557, _, none⟩) NB556_557.out _).trans (((qz2 (p := ⟨gb557, _, none⟩) NB556_557.out _).trans (hHeld.2.2.1)))))))))))))), ((qz2 (p := ⟨gb557, _, none⟩) NB556_557.out _).trans (((qz2 (p := ⟨gb557, _, none⟩) NB556_557.out _).trans (((qz2 (p := ⟨gb557, _, none⟩) NB556_557.out _).trans (((qz2 (p := ⟨gb557, _, none⟩) NB556_557.out _).trans (((qz2 (p := ⟨gb557, _, none⟩) NB556_557.out _).trans (((qz2 (p := ⟨gb557, _, none⟩) NB556_557.out _).trans (((qz2 (p := ⟨gb557, _, none⟩) NB556_557.out _).trans (hHeld.2.2.2.1)))))))))))))), ((qz2 (p := ⟨gb557, _, none⟩) NB556_557.out _).trans (((qz2 (p := ⟨gb557, _, none⟩) NB556_557.out _).trans (((qz2 (p := ⟨gb557, _, none⟩) NB556_557.out _).trans (((qz2 (p := ⟨gb557, _, none⟩) NB556_557.out _).trans (((qz2 (p := ⟨gb557, _, none⟩) NB556_557.out _).trans (((qz2 (p := ⟨gb557, _, none⟩) NB556_557.out _).trans (((qz2 (p := ⟨gb557, _, none⟩) NB556_557.out _).trans (hHeld.2.2.2.2.1)))))))))))))), ((qz2 (p := ⟨gb557, _, none⟩) NB556_557.out _).trans (((qz2 (p := ⟨gb557, _, none⟩) NB556_557.out _).trans (((qz2 (p := ⟨gb557, _, none⟩) NB556_557.out _).trans (((qz2 (p := ⟨gb557, _, none⟩) NB556_557.out _).trans (((qz2 (p := ⟨gb557, _, none⟩) NB556_557.out _).trans (((qz2 (p := ⟨gb557, _, none⟩) NB556_557.out _).trans (((qz2 (p := ⟨gb557, _, none⟩) NB556_557.out _).trans (hHeld.2.2.2.2.2.1)))))))))))))), ((qz2 (p := ⟨gb557, _, none⟩) NB556_557.out _).trans (((qz2 (p := ⟨gb557, _, none⟩) NB556_557.out _).trans (((qz2 (p := ⟨gb557, _, none⟩) NB556_557.out _).trans (((qz2 (p := ⟨gb557, _, none⟩) NB556_557.out _).trans (((qz2 (p := ⟨gb557, _, none⟩) NB556_557.out _).trans (((qz2 (p := ⟨gb557, _, none⟩) NB556_557.out _).trans (((qz2 (p := ⟨gb557, _, none⟩) NB556_557.out _).trans (hHeld.2.2.2.2.2.2.1)))))))))))))), ((qz2 (p := ⟨gb557, _, none⟩) NB556_557.out _).trans (((qz2 (p := ⟨gb557, _, none⟩) NB556_557.out _).trans (((qz2 (p := ⟨gb557, _, none⟩) NB556_557.out _).trans (((qz2 (p := ⟨gb557, _, none⟩) NB556_557.out _).trans (((qz2 (p := ⟨gb557, _, none⟩) NB556_557.out _).trans (((qz2 (p := ⟨gb557, _, none⟩) NB556_557.out _).trans (((qz2 (p := ⟨gb557, _, none⟩) NB556_557.out _).trans (hHeld.2.2.2.2.2.2.2.1)))))))))))))), ((qz2 (p := ⟨gb557, _, none⟩) NB556_557.out _).trans (((qz2 (p := ⟨gb557, _, none⟩) NB556_557.out _).trans (((qz2 (p := ⟨gb557, _, none⟩) NB556_557.out _).trans (((qz2 (p := ⟨gb557, _, none⟩) NB556_557.out _).trans (((qz2 (p := ⟨gb557, _, none⟩) NB556_557.out _).trans (((qz2 (p := ⟨gb557, _, none⟩) NB556_557.out _).trans (((qz2 (p := ⟨gb557, _, none⟩) NB556_557.out _).trans (hHeld.2.2.2.2.2.2.2.2.1)))))))))))))), ((qz2 (p := ⟨gb557, _, none⟩) NB558_557.out _).trans (((qz2 (p := ⟨gb557, _, none⟩) NB558_557.out _).trans (((qz2 (p := ⟨gb557, _, none⟩) NB558_557.out _).trans (((qz2 (p := ⟨gb557, _, none⟩) NB558_557.out _).trans (((qz2 (p := ⟨gb557, _, none⟩) NB558_557.out _).trans (((qz2 (p := ⟨gb557, _, none⟩) NB558_557.out _).trans (((qz2 (p := ⟨gb557, _, none⟩) NB558_557.out _).trans (hHeld.2.2.2.2.2.2.2.2.2.1)))))))))))))), ((qz2 (p := ⟨gb557, _, none⟩) NB558_557.out _).trans (((qz2 (p := ⟨gb557, _, none⟩) NB558_557.out _).trans (((qz2 (p := ⟨gb557, _, none⟩) NB558_557.out _).trans (((qz2 (p := ⟨gb557, _, none⟩) NB558_557.out _).trans (((qz2 (p := ⟨gb557, _, none⟩) NB558_557.out _).trans (((qz2 (p := ⟨gb557, _, none⟩) NB558_557.out _).trans (((qz2 (p := ⟨gb557, _, none⟩) NB558_557.out _).trans (hHeld.2.2.2.2.2.2.2.2.2.2.1)))))))))))))), ((qz2 (p := ⟨gb557, _, none⟩) (by first | exact Kd.own_blk (Kd.R_ne HO_6.out BK557.out (by decide)) | (rw [qz24]; exact Kd.own_blk (Kd.R_ne HO_6.out BK557.out (by decide))) | (show (Addr.add _ _).block ≠ _; rw [qz24]; exact Kd.own_blk (Kd.R_ne HO_6.out BK557.out (by decide))) | (dsimp only; exact Kd.own_blk (Kd.R_ne HO_6.out BK557.out (by decide)))) _).trans (((qz2 (p := ⟨gb557, _, none⟩) (by first | exact Kd.own_blk (Kd.R_ne HO_6.out BK557.out (by decide)) | (rw [qz24]; exact Kd.own_blk (Kd.R_ne HO_6.out BK557.out (by decide))) | (show (Addr.add _ _).block ≠ _; rw [qz24]; exact Kd.own_blk (Kd.R_ne HO_6.out BK557.out (by decide))) | (dsimp only; exact Kd.own_blk (Kd.R_ne HO_6.out BK557.out (by decide)))) _).trans (((qz2 (p := ⟨gb557, _, none⟩) (by first | exact Kd.own_blk (Kd.R_ne HO_6.out BK557.out (by decide)) | (rw [qz24]; exact Kd.own_blk (Kd.R_ne HO_6.out BK557.out (by decide))) | (show (Addr.add _ _).block ≠ _; rw [qz24]; exact Kd.own_blk (Kd.R_ne HO_6.out BK557.out (by decide))) | (dsimp only; exact Kd.own_blk (Kd.R_ne HO_6.out BK557.out (by decide)))) _).trans (((qz2 (p := ⟨gb557, _, none⟩) (by first | exact Kd.own_blk (Kd.R_ne HO_6.out BK557.out (by decide)) | (rw [qz24]; exact Kd.own_blk (Kd.R_ne HO_6.out BK557.out (by decide))) | (show (Addr.add _ _).block ≠ _; rw [qz24]; exact Kd.own_blk (Kd.R_ne HO_6.out BK557.out (by decide))) | (dsimp only; exact Kd.own_blk (Kd.R_ne HO_6.out BK557.out (by decide)))) _).trans (((qz2 (p := ⟨gb557, _, none⟩) (by first | exact Kd.own_blk (Kd.R_ne HO_6.out BK557.out (by decide)) | (rw [qz24]; exact Kd.own_blk (Kd.R_ne HO_6.out BK557.out (by decide))) | (show (Addr.add _ _).block ≠ _; rw [qz24]; exact Kd.own_blk (Kd.R_ne HO_6.out BK557.out (by decide))) | (dsimp only; exact Kd.own_blk (Kd.R_ne HO_6.out BK557.out (by decide)))) _).trans (((qz2 (p := ⟨gb557, _, none⟩) (by first | exact Kd.own_blk (Kd.R_ne HO_6.out BK557.out (by decide)) | (rw [qz24]; exact Kd.own_blk (Kd.R_ne HO_6.out BK557.out (by decide))) | (show (Addr.add _ _).block ≠ _; rw [qz24]; exact Kd.own_blk (Kd.R_ne HO_6.out BK557.out (by decide))) | (dsimp only; exact Kd.own_blk (Kd.R_ne HO_6.out BK557.out (by decide)))) _).trans (((qz2 (p := ⟨gb557, _, none⟩) (by first | exact Kd.own_blk (Kd.R_ne HO_6.out BK557.out (by decide)) | (rw [qz24]; exact Kd.own_blk (Kd.R_ne HO_6.out BK557.out (by decide))) | (show (Addr.add _ _).block ≠ _; rw [qz24]; exact Kd.own_blk (Kd.R_ne HO_6.out BK557.out (by decide))) | (dsimp only; exact Kd.own_blk (Kd.R_ne HO_6.out BK557.out (by decide)))) _).trans (hHeld.2.2.2.2.2.2.2.2.2.2.2.1)))))))))))))), ((qz2 (p := ⟨gb557, _, none⟩) (by first | exact Kd.own_blk (Kd.R_ne HO_6.out BK557.out (by decide)) | (rw [qz24]; exact Kd.own_blk (Kd.R_ne HO_6.out BK557.out (by decide))) | (show (Addr.add _ _).block ≠ _; rw [qz24]; exact Kd.own_blk (Kd.R_ne HO_6.out BK557.out (by decide))) | (dsimp only; exact Kd.own_blk (Kd.R_ne HO_6.out BK557.out (by decide)))) _).trans (((qz2 (p := ⟨gb557, _, none⟩) (by first | exact Kd.own_blk (Kd.R_ne HO_6.out BK557.out (by decide)) | (rw [qz24]; exact Kd.own_blk (Kd.R_ne HO_6.out BK557.out (by decide))) | (show (Addr.add _ _).block ≠ _; rw [qz24]; exact Kd.own_blk (Kd.R_ne HO_6.out BK557.out (by decide))) | (dsimp only; exact Kd.own_blk (Kd.R_ne HO_6.out BK557.out (by decide)))) _).trans (((qz2 (p := ⟨gb557, _, none⟩) (by first | exact Kd.own_blk (Kd.R_ne HO_6.out BK557.out (by decide)) | (rw [qz24]; exact Kd.own_blk (Kd.R_ne HO_6.out BK557.out (by decide))) | (show (Addr.add _ _).block ≠ _; rw [qz24]; exact Kd.own_blk (Kd.R_ne HO_6.out BK557.out (by decide))) | (dsimp only; exact Kd.own_blk (Kd.R_ne HO_6.out BK557.out (by decide)))) _).trans (((qz2 (p := ⟨gb557, _, none⟩) (by first | exact Kd.own_blk (Kd.R_ne HO_6.out BK557.out (by decide)) | (rw [qz24]; exact Kd.own_blk (Kd.R_ne HO_6.out BK557.out (by decide))) | (show (Addr.add _ _).block ≠ _; rw [qz24]; exact Kd.own_blk (Kd.R_ne HO_6.out BK557.out (by decide))) | (dsimp only; exact Kd.own_blk (Kd.R_ne HO_6.out BK557.out (by decide)))) _).trans (((qz2 (p := ⟨gb557, _, none⟩) (by first | exact Kd.own_blk (Kd.R_ne HO_6.out BK557.out (by decide)) | (rw [qz24]; exact Kd.own_blk (Kd.R_ne HO_6.out BK557.out (by decide))) | (show (Addr.add _ _).block ≠ _; rw [qz24]; exact Kd.own_blk (Kd.R_ne HO_6.out BK557.out (by decide))) | (dsimp only; exact Kd.own_blk (Kd.R_ne HO_6.out BK557.out (by decide)))) _).trans (((qz2 (p := ⟨gb557, _, none⟩) (by first | exact Kd.own_blk (Kd.R_ne HO_6.out BK557.out (by decide)) | (rw [qz24]; exact Kd.own_blk (Kd.R_ne HO_6.out BK557.out (by decide))) | (show (Addr.add _ _).block ≠ _; rw [qz24]; exact Kd.own_blk (Kd.R_ne HO_6.out BK557.out (by decide))) | (dsimp only; exact Kd.own_blk (Kd.R_ne HO_6.out BK557.out (by decide)))) _).trans (((qz2 (p := ⟨gb557, _, none⟩) (by first | exact Kd.own_blk (Kd.R_ne HO_6.out BK557.out (by decide)) | (rw [qz24]; exact Kd.own_blk (Kd.R_ne HO_6.out BK557.out (by decide))) | (show (Addr.add _ _).block ≠ _; rw [qz24]; exact Kd.own_blk (Kd.R_ne HO_6.out BK557.out (by decide))) | (dsimp only; exact Kd.own_blk (Kd.R_ne HO_6.out BK557.out (by decide)))) _).trans (hHeld.2.2.2.2.2.2.2.2.2.2.2.2))))))))))))))⟩ (fun hHeld => ?_)
                      clear hK K
                      refine pure_ (i := 17) (N := some 4) (v := ?_) (a' := ?_) #[true, true, true, true, true, true, true, true, true, true, true, true, true, true, true, true, true, true] rfl rfl (qz39 HT_.out (by kernel_rfl)) (fun _ _ _ h => h) (Or.inl ⟨by rfl, ?_⟩) ?_ ?_
                      rotate_left
                      · intro w'
                        go_simp
                        with_reducible rfl
                      rotate_left
                      · simp only [Act.put, List.setIfInBounds_toArray, List.set_cons_zero, List.set_cons_succ, i64_w, i32_w]
                        rfl
                      refine done_ (done_of HT_.out (by kernel_rfl)) ?_
                      try go_wp2
                      refine bodyPost_ret (qz44 (rs := [.tmp 2, .cell 3 38, .tmp 4]) rfl (by simp) (.tmp (.cell gb557 38 #[.int .i64 3, .int .u64 a0_0, .int .u64 a0_1, .string (⟨#[]⟩ : ByteArray), .slice Ao99 t566.length co99, .bool false, .slice none 0 0] (0, 0) _ rfl (by (with_reducible repeat (first | refine qz3 ?_ _ | refine qz6 ?_ | refine qz4 ?_ _)); refine qz12 (cs := #[.int .i64 3, .int .u64 a0_0, .int .u64 a0_1, .string (⟨#[]⟩ : ByteArray), .slice Ao99 t566.length co99, .bool false, .slice none 0 0]) ?_ 6 _ rfl; (with_reducible repeat (first | refine qz3 ?_ _ | refine qz6 ?_ | refine qz4 ?_ _)); refine qz12 (cs := #[.int .i64 3, .int .u64 a0_0, .int .u64 a0_1, .string (⟨#[]⟩ : ByteArray), .slice Ao99 t566.length co99, .bool false, .slice none 0 0]) ?_ 5 _ rfl; (with_reducible repeat (first | refine qz3 ?_ _ | refine qz6 ?_ | refine qz4 ?_ _)); refine qz12 (cs := #[.int .i64 3, .int .u64 a0_0, .int .u64 a0_1, .string (⟨#[]⟩ : ByteArray), .slice none 0 0, .bool false, .slice none 0 0]) ?_ 4 _ rfl; (with_reducible repeat (first | refine qz3 ?_ _ | refine qz6 ?_ | refine qz4 ?_ _)); refine qz12 (cs := #[.int .i64 3, .int .u64 a0_0, .int .u64 a0_1, .string (⟨#[]⟩ : ByteArray), .slice none 0 0, .bool false, .slice none 0 0]) ?_ 3 _ rfl; (with_reducible repeat (first | refine qz3 ?_ _ | refine qz6 ?_ | refine qz4 ?_ _)); refine qz12 (cs := #[.int .i64 3, .int .u64 a0_0, .int .u64 0, .string (⟨#[]⟩ : ByteArray), .slice none 0 0, .bool false, .slice none 0 0]) ?_ 2 _ rfl; (with_reducible repeat (first | refine qz3 ?_ _ | refine qz6 ?_ | refine qz4 ?_ _)); refine qz12 (cs := #[.int .i64 3, .int .u64 0, .int .u64 0, .string (⟨#[]⟩ : ByteArray), .slice none 0 0, .bool false, .slice none 0 0]) ?_ 1 _ rfl; (with_reducible repeat (first | refine qz3 ?_ _ | refine qz6 ?_ | refine qz4 ?_ _)); refine qz12 (cs := #[.int .i64 0, .int .u64 0, .int .u64 0, .string (⟨#[]⟩ : ByteArray), .slice none 0 0, .bool false, .slice none 0 0]) ?_ 0 _ rfl; (with_reducible repeat (first | refine qz3 ?_ _ | refine qz6 ?_ | refine qz4 ?_ _)); exact BK557.out) Try.underlying38 rfl (by kernel_rfl) (.tmp .nil)))) rfl ?_
                      exact ⟨_, _, by first | rfl | (simp [qz21, qz22] <;> rfl) | (simp [*, qz21, qz22] <;> rfl), by (with_reducible repeat (first | apply Kd.R_alloc | apply Kd.R_drewN | apply Kd.R_drew)); exact Kd.R_mono (Kd.R_far (p := ⟨gb557, 6, none⟩) (Kd.R_far (p := ⟨gb557, 5, none⟩) (Kd.R_far (p := ⟨gb557, 4, none⟩) (Kd.R_far (p := ⟨gb557, 3, none⟩) (Kd.R_far (p := ⟨gb557, 2, none⟩) (Kd.R_far (p := ⟨gb557, 1, none⟩) (Kd.R_far (p := ⟨gb557, 0, none⟩) (Kd.R_types HO568.out BK557.out (by decide)) (fun _ hk => hk.2) (.int .i64 3)) (fun _ hk => hk.2) (.int .u64 a0_0)) (fun _ hk => hk.2) (.int .u64 a0_1)) (fun _ hk => hk.2) (.string (⟨#[]⟩ : ByteArray))) (fun _ hk => hk.2) (.slice Ao99 t566.length co99)) (fun _ hk => hk.2) (.bool false)) (fun _ hk => hk.2) (.slice none 0 0)) (fun _ hk => trivial), by first | exact Kd.R_nil _ _ _ _ _ | exact Kd.N_nil _ _ _ _ _ | exact Kd.V_nil _ _ _ _ _ | exact Kd.Q_nil _ _ _ _ _ | exact Kd.S_nil _ _ _ _ _, by repeat (first | (with_reducible first | exact HB.out | apply qz10 | apply qz5 | apply qz9 | refine qz8 ?_ GE556.out | refine qz8 ?_ GE557.out | refine qz8 ?_ GE558.out) | exact HB.out)⟩
                    · rw [if_neg c91] at H
                      exact absurd H (by simp)
                  · rw [if_neg c90] at H
                    exact absurd H (by simp)
                · replace c89 := Bool.eq_false_iff.mpr c89
                  subst c89
                  have H1 : (some (0, 0, 0, 0, (⟨#[]⟩ : ByteArray), ([] : List (S74)), false, ([] : List Int), false)) = some (r1, r2, r3, r4, r5, r6, r7, r8, r9) := by rw [if_neg (show ¬ (false = true) by decide)] at H; exact H
                  clear H
                  have H := H1
                  clear H1
                  simp only [Option.some.injEq, Prod.mk.injEq] at H
                  obtain ⟨rfl, rfl, rfl, rfl, rfl, rfl, rfl, rfl, rfl⟩ := H
                  have hnb107 := NB556_557.out
                  have hnc107 := NB557_556.out
                  have hnb108 := NB556_558.out
                  have hnc108 := NB558_556.out
                  have hcz109_0 : wc.cell? ⟨gb556, 0, none⟩ = some (.int .u64 a0_0) := (qz1 BK556.out 0).trans rfl
                  have hcz109_1 : wc.cell? ⟨gb556, 1, none⟩ = some (.int .u64 a0_1) := (qz1 BK556.out 1).trans rfl
                  have hcz109_2 : wc.cell? ⟨gb556, 2, none⟩ = some (.slice A0_2 l0_2.length c0_2) := (qz1 BK556.out 2).trans rfl
                  have hcz109_3 : wc.cell? ⟨gb556, 3, none⟩ = some (.int .i64 a0_3) := (qz1 BK556.out 3).trans rfl
                  have hcz109_4 : wc.cell? ⟨gb556, 4, none⟩ = some (.int .i64 a0_4) := (qz1 BK556.out 4).trans rfl
                  have hcz109_5 : wc.cell? ⟨gb556, 5, none⟩ = some (.bool a0_5) := (qz1 BK556.out 5).trans rfl
                  have hcz109_6 : wc.cell? ⟨gb556, 6, none⟩ = some (.bool a0_6) := (qz1 BK556.out 6).trans rfl
                  have hcz109_7 : wc.cell? ⟨gb556, 7, none⟩ = some (.bool a0_7) := (qz1 BK556.out 7).trans rfl
                  have hcz109_8 : wc.cell? ⟨gb556, 8, none⟩ = some (.slice A0_8 l0_8.length c0_8) := (qz1 BK556.out 8).trans rfl
                  have hfz109_0 := qz0 BK556.out 0
                  have hfz109_1 := qz0 BK556.out 1
                  have hfz109_2 := qz0 BK556.out 2
                  have hfz109_3 := qz0 BK556.out 3
                  have hfz109_4 := qz0 BK556.out 4
                  have hfz109_5 := qz0 BK556.out 5
                  have hfz109_6 := qz0 BK556.out 6
                  have hfz109_7 := qz0 BK556.out 7
                  have hfz109_8 := qz0 BK556.out 8
                  have hnb110 := NB557_558.out
                  have hnc110 := NB558_557.out
                  have hcz111_0 : wc.cell? ⟨gb557, 0, none⟩ = some (.int .i64 0) := (qz1 BK557.out 0).trans rfl
                  have hcz111_1 : wc.cell? ⟨gb557, 1, none⟩ = some (.int .u64 0) := (qz1 BK557.out 1).trans rfl
                  have hcz111_2 : wc.cell? ⟨gb557, 2, none⟩ = some (.int .u64 0) := (qz1 BK557.out 2).trans rfl
                  have hcz111_3 : wc.cell? ⟨gb557, 3, none⟩ = some (.string (⟨#[]⟩ : ByteArray)) := (qz1 BK557.out 3).trans rfl
                  have hcz111_4 : wc.cell? ⟨gb557, 4, none⟩ = some (.slice none 0 0) := (qz1 BK557.out 4).trans rfl
                  have hcz111_5 : wc.cell? ⟨gb557, 5, none⟩ = some (.bool false) := (qz1 BK557.out 5).trans rfl
                  have hcz111_6 : wc.cell? ⟨gb557, 6, none⟩ = some (.slice none 0 0) := (qz1 BK557.out 6).trans rfl
                  have hfz111_0 := qz0 BK557.out 0
                  have hfz111_1 := qz0 BK557.out 1
                  have hfz111_2 := qz0 BK557.out 2
                  have hfz111_3 := qz0 BK557.out 3
                  have hfz111_4 := qz0 BK557.out 4
                  have hfz111_5 := qz0 BK557.out 5
                  have hfz111_6 := qz0 BK557.out 6
                  go_wp2
                  refine bodyPost_ret (qz44 (rs := [.tmp 2, .cell 3 38, .tmp 4]) rfl (by simp) (.tmp (.cell gb557 38 #[.int .i64 0, .int .u64 0, .int .u64 0, .string (⟨#[]⟩ : ByteArray), .slice none 0 0, .bool false, .slice none 0 0] (0, 0) _ rfl (by (with_reducible repeat (first | refine qz3 ?_ _ | refine qz6 ?_ | refine qz4 ?_ _)); refine qz12 (cs := #[.int .i64 0, .int .u64 0, .int .u64 0, .string (⟨#[]⟩ : ByteArray), .slice none 0 0, .bool false, .slice none 0 0]) ?_ 6 _ rfl; (with_reducible repeat (first | refine qz3 ?_ _ | refine qz6 ?_ | refine qz4 ?_ _)); refine qz12 (cs := #[.int .i64 0, .int .u64 0, .int .u64 0, .string (⟨#[]⟩ : ByteArray), .slice none 0 0, .bool false, .slice none 0 0]) ?_ 5 _ rfl; (with_reducible repeat (first | refine qz3 ?_ _ | refine qz6 ?_ | refine qz4 ?_ _)); refine qz12 (cs := #[.int .i64 0, .int .u64 0, .int .u64 0, .string (⟨#[]⟩ : ByteArray), .slice none 0 0, .bool false, .slice none 0 0]) ?_ 4 _ rfl; (with_reducible repeat (first | refine qz3 ?_ _ | refine qz6 ?_ | refine qz4 ?_ _)); refine qz12 (cs := #[.int .i64 0, .int .u64 0, .int .u64 0, .string (⟨#[]⟩ : ByteArray), .slice none 0 0, .bool false, .slice none 0 0]) ?_ 3 _ rfl; (with_reducible repeat (first | refine qz3 ?_ _ | refine qz6 ?_ | refine qz4 ?_ _)); refine qz12 (cs := #[.int .i64 0, .int .u64 0, .int .u64 0, .string (⟨#[]⟩ : ByteArray), .slice none 0 0, .bool false, .slice none 0 0]) ?_ 2 _ rfl; (with_reducible repeat (first | refine qz3 ?_ _ | refine qz6 ?_ | refine qz4 ?_ _)); refine qz12 (cs := #[.int .i64 0, .int .u64 0, .int .u64 0, .string (⟨#[]⟩ : ByteArray), .slice none 0 0, .bool false, .slice none 0 0]) ?_ 1 _ rfl; (with_reducible repeat (first | refine qz3 ?_ _ | refine qz6 ?_ | refine qz4 ?_ _)); refine qz12 (cs := #[.int .i64 0, .int .u64 0, .int .u64 0, .string (⟨#[]⟩ : ByteArray), .slice none 0 0, .bool false, .slice none 0 0]) ?_ 0 _ rfl; (with_reducible repeat (first | refine qz3 ?_ _ | refine qz6 ?_ | refine qz4 ?_ _)); exact BK557.out) Try.underlying38 rfl (by kernel_rfl) (.tmp .nil)))) rfl ?_
                  exact ⟨_, _, by first | rfl | (simp [qz21, qz22] <;> rfl) | (simp [*, qz21, qz22] <;> rfl), by first | exact Kd.R_nil _ _ _ _ _ | exact Kd.N_nil _ _ _ _ _ | exact Kd.V_nil _ _ _ _ _ | exact Kd.Q_nil _ _ _ _ _ | exact Kd.S_nil _ _ _ _ _, by first | exact Kd.R_nil _ _ _ _ _ | exact Kd.N_nil _ _ _ _ _ | exact Kd.V_nil _ _ _ _ _ | exact Kd.Q_nil _ _ _ _ _ | exact Kd.S_nil _ _ _ _ _, by repeat (first | (with_reducible first | exact HB.out | apply qz10 | apply qz5 | apply qz9 | refine qz8 ?_ GE556.out | refine qz8 ?_ GE557.out | refine qz8 ?_ GE558.out) | exact HB.out)⟩
              · rw [if_neg c88] at H
                have c88b0 : (a0_3 == 2) = false := beq_eq_false_iff_ne.mpr c88
                have c88b1 : (a0_3 != 2) = true := bne_iff_ne.mpr c88
                by_cases c112 : a0_3 = 3
                · rw [if_pos c112] at H
                  have c112b0 : (a0_3 == 3) = true := beq_iff_eq.mpr c112
                  have c112b1 : (a0_3 != 3) = false := bne_eq_false_iff_eq.mpr c112
                  clear c112
                  by_cases c113 : a0_6 = true
                  · subst c113
                    have H1 : (some (0, 7, a0_0, a0_1, (⟨#[]⟩ : ByteArray), ([] : List (S74)), false, ([] : List Int), true)) = some (r1, r2, r3, r4, r5, r6, r7, r8, r9) := by rw [if_pos rfl] at H; exact H
                    clear H
                    have H := H1
                    clear H1
                    simp only [Option.some.injEq, Prod.mk.injEq] at H
                    obtain ⟨rfl, rfl, rfl, rfl, rfl, rfl, rfl, rfl, rfl⟩ := H
                    have hnb114 := NB556_557.out
                    have hnc114 := NB557_556.out
                    have hnb115 := NB556_558.out
                    have hnc115 := NB558_556.out
                    have hcz116_0 : wc.cell? ⟨gb556, 0, none⟩ = some (.int .u64 a0_0) := (qz1 BK556.out 0).trans rfl
                    have hcz116_1 : wc.cell? ⟨gb556, 1, none⟩ = some (.int .u64 a0_1) := (qz1 BK556.out 1).trans rfl
                    have hcz116_2 : wc.cell? ⟨gb556, 2, none⟩ = some (.slice A0_2 l0_2.length c0_2) := (qz1 BK556.out 2).trans rfl
                    have hcz116_3 : wc.cell? ⟨gb556, 3, none⟩ = some (.int .i64 a0_3) := (qz1 BK556.out 3).trans rfl
                    have hcz116_4 : wc.cell? ⟨gb556, 4, none⟩ = some (.int .i64 a0_4) := (qz1 BK556.out 4).trans rfl
                    have hcz116_5 : wc.cell? ⟨gb556, 5, none⟩ = some (.bool a0_5) := (qz1 BK556.out 5).trans rfl
                    have hcz116_6 : wc.cell? ⟨gb556, 6, none⟩ = some (.bool true) := (qz1 BK556.out 6).trans rfl
                    have hcz116_7 : wc.cell? ⟨gb556, 7, none⟩ = some (.bool a0_7) := (qz1 BK556.out 7).trans rfl
                    have hcz116_8 : wc.cell? ⟨gb556, 8, none⟩ = some (.slice A0_8 l0_8.length c0_8) := (qz1 BK556.out 8).trans rfl
                    have hfz116_0 := qz0 BK556.out 0
                    have hfz116_1 := qz0 BK556.out 1
                    have hfz116_2 := qz0 BK556.out 2
                    have hfz116_3 := qz0 BK556.out 3
                    have hfz116_4 := qz0 BK556.out 4
                    have hfz116_5 := qz0 BK556.out 5
                    have hfz116_6 := qz0 BK556.out 6
                    have hfz116_7 := qz0 BK556.out 7
                    have hfz116_8 := qz0 BK556.out 8
                    try go_wp2
                    have n0_ := qza.mk (Kd.R_drew HO_6.out)
                    have n1_ := qza.mk (qz6 BK556.out)
                    have n2_ := qza.mk (qz6 BK557.out)
                    have n3_ := qza.mk (qz6 BK558.out)
                    have n4_ := qza.mk (qz9 HB.out)
                    clear HO_6
                    clear BK556
                    clear BK557
                    clear BK558
                    clear HB
                    have HO_6 := n0_
                    have BK556 := n1_
                    have BK557 := n2_
                    have BK558 := n3_
                    have HB := n4_
                    clear n0_ n1_ n2_ n3_ n4_
                    refine start_ (n := 5) (S := fun w' => w'.cell? ⟨gb558, 0, none⟩ = some (.int .u64 a0_0) ∧ w'.cell? ⟨gb558, 1, none⟩ = some (.int .u64 a0_1)) (ds := []) #[false, false, false, false, false] (by kernel_rfl) rfl rfl ⟨(qz1 BK558.out 0).trans rfl, (qz1 BK558.out 1).trans rfl⟩ (fun hHeld => ?_)
                    generalize wc.drew = w117 at HO_6 BK556 BK557 BK558 HB hHeld ⊢
                    refine pure_ (i := 2) (N := some 2) (v := ?_) (a' := ?_) #[false, false, true, false, false] rfl rfl (by kernel_rfl) (fun _ _ _ h => h) (Or.inl ⟨by rfl, ?_⟩) ?_ ?_
                    rotate_left
                    · intro w'
                      go_simp
                      with_reducible rfl
                    rotate_left
                    · simp only [Act.put, List.setIfInBounds_toArray, List.set_cons_zero, List.set_cons_succ, i64_w, i32_w]
                      rfl
                    refine take_ (i := 0) (N := some 87) (v := ?_) (a' := ?_) #[true, false, true, false, false] rfl rfl (by kernel_rfl) (fun _ _ _ h => h) (Or.inl ⟨by rfl, ?_⟩) hHeld ?_ ?_
                    rotate_left
                    · rintro w' ⟨s0, s1⟩
                      go_simp
                      with_reducible rfl
                    rotate_left
                    · simp only [Act.put, List.setIfInBounds_toArray, List.set_cons_zero, List.set_cons_succ, i64_w, i32_w]
                      rfl
                    refine pure_ (i := 1) (N := some 88) (v := ?_) (a' := ?_) #[true, true, true, false, false] rfl rfl (by kernel_rfl) (fun _ _ _ h => h) (Or.inl ⟨by rfl, ?_⟩) ?_ ?_
                    rotate_left
                    · intro w'
                      go_simp
                      with_reducible rfl
                    rotate_left
                    · simp only [Act.put, List.setIfInBounds_toArray, List.set_cons_zero, List.set_cons_succ, i64_w, i32_w]
                      rfl
                    refine one_ (i := 3) (N := none) #[true, true, true, true, false] rfl rfl (by kernel_rfl) (by decide) (fun K hK => ?_)
                    have hs118 : w117.cell? ⟨gb557, 0, none⟩ = some (.int .i64 0) := (qz1 BK557.out 0).trans rfl
                    have hfs118 := qz0 BK557.out 0
                    have hns118_0 := NB556_557.out
                    have hns118_2 := NB558_557.out
                    have hms118_0 := NB557_556.out
                    have hms118_2 := NB557_558.out
                    have hs119 : w117.cell? ⟨gb557, 1, none⟩ = some (.int .u64 0) := (qz1 BK557.out 1).trans rfl
                    have hfs119 := qz0 BK557.out 1
                    have hns119_0 := NB556_557.out
                    have hns119_2 := NB558_557.out
                    have hms119_0 := NB557_556.out
                    have hms119_2 := NB557_558.out
                    have hs120 : w117.cell? ⟨gb557, 2, none⟩ = some (.int .u64 0) := (qz1 BK557.out 2).trans rfl
                    have hfs120 := qz0 BK557.out 2
                    have hns120_0 := NB556_557.out
                    have hns120_2 := NB558_557.out
                    have hms120_0 := NB557_556.out
                    have hms120_2 := NB557_558.out
                    have hs121 : w117.cell? ⟨gb557, 3, none⟩ = some (.string (⟨#[]⟩ : ByteArray)) := (qz1 BK557.out 3).trans rfl
                    have hfs121 := qz0 BK557.out 3
                    have hns121_0 := NB556_557.out
                    have hns121_2 := NB558_557.out
                    have hms121_0 := NB557_556.out
                    have hms121_2 := NB557_558.out
                    have hs122 : w117.cell? ⟨gb557, 4, none⟩ = some (.slice none 0 0) := (qz1 BK557.out 4).trans rfl
                    have hfs122 := qz0 BK557.out 4
                    have hns122_0 := NB556_557.out
                    have hns122_2 := NB558_557.out
                    have hms122_0 := NB557_556.out
                    have hms122_2 := NB557_558.out
                    have hs123 : w117.cell? ⟨gb557, 5, none⟩ = some (.bool false) := (qz1 BK557.out 5).trans rfl
                    have hfs123 := qz0 BK557.out 5
                    have hns123_0 := NB556_557.out
                    have hns123_2 := NB558_557.out
                    have hms123_0 := NB557_556.out
                    have hms123_2 := NB557_558.out
                    have hs124 : w117.cell? ⟨gb557, 6, none⟩ = some (.slice none 0 0) := (qz1 BK557.out 6).trans rfl
                    have hfs124 := qz0 BK557.out 6
                    have hns124_0 := NB556_557.out
                    have hns124_2 := NB558_557.out
                    have hms124_0 := NB557_556.out
                    have hms124_2 := NB557_558.out
                    refine skip_ (w1 := ?_) (by rfl) rfl ?_ ?_
                    rotate_left
                    · go_simp
                      rfl
                    refine hK.out _ _ ⟨((qz2 (p := ⟨gb557, _, none⟩) NB558_557.out _).trans (((qz2 (p := ⟨gb557, _, none⟩) NB558_557.out _).trans (((qz2 (p := ⟨gb557, _, none⟩) NB558_557.out _).trans (((qz2 (p := ⟨gb557, _, none⟩) NB558_557.out _).trans (((qz2 (p := ⟨gb557, _, none⟩) NB558_557.out _).trans (((qz2 (p := ⟨gb557, _, none⟩) NB558_557.out _).trans (((qz2 (p := ⟨gb557, _, none⟩) NB558_557.out _).trans (hHeld.1)))))))))))))), ((qz2 (p := ⟨gb557, _, none⟩) NB558_557.out _).trans (((qz2 (p := ⟨gb557, _, none⟩) NB558_557.out _).trans (((qz2 (p := ⟨gb557, _, none⟩) NB558_557.out _).trans (((qz2 (p := ⟨gb557, _, none⟩) NB558_557.out _).trans (((qz2 (p := ⟨gb557, _, none⟩) NB558_557.out _).trans (((qz2 (p := ⟨gb557, _, none⟩) NB558_557.out _).trans (((qz2 (p := ⟨gb557, _, none⟩) NB558_557.out _).trans (hHeld.2))))))))))))))⟩ (fun hHeld => ?_)
                    clear hK K
                    refine pure_ (i := 4) (N := some 4) (v := ?_) (a' := ?_) #[true, true, true, true, true] rfl rfl (by kernel_rfl) (fun _ _ _ h => h) (Or.inl ⟨by rfl, ?_⟩) ?_ ?_
                    rotate_left
                    · intro w'
                      go_simp
                      with_reducible rfl
                    rotate_left
                    · simp only [Act.put, List.setIfInBounds_toArray, List.set_cons_zero, List.set_cons_succ, i64_w, i32_w]
                      rfl
                    refine done_ (by kernel_rfl) ?_
                    try go_wp2
                    refine bodyPost_ret (qz44 (rs := [.tmp 2, .cell 3 38, .tmp 4]) rfl (by simp) (.tmp (.cell gb557 38 #[.int .i64 7, .int .u64 a0_0, .int .u64 a0_1, .string (⟨#[]⟩ : ByteArray), .slice none 0 0, .bool false, .slice none 0 0] (0, 0) _ rfl (by (with_reducible repeat (first | refine qz3 ?_ _ | refine qz6 ?_ | refine qz4 ?_ _)); refine qz12 (cs := #[.int .i64 7, .int .u64 a0_0, .int .u64 a0_1, .string (⟨#[]⟩ : ByteArray), .slice none 0 0, .bool false, .slice none 0 0]) ?_ 6 _ rfl; (with_reducible repeat (first | refine qz3 ?_ _ | refine qz6 ?_ | refine qz4 ?_ _)); refine qz12 (cs := #[.int .i64 7, .int .u64 a0_0, .int .u64 a0_1, .string (⟨#[]⟩ : ByteArray), .slice none 0 0, .bool false, .slice none 0 0]) ?_ 5 _ rfl; (with_reducible repeat (first | refine qz3 ?_ _ | refine qz6 ?_ | refine qz4 ?_ _)); refine qz12 (cs := #[.int .i64 7, .int .u64 a0_0, .int .u64 a0_1, .string (⟨#[]⟩ : ByteArray), .slice none 0 0, .bool false, .slice none 0 0]) ?_ 4 _ rfl; (with_reducible repeat (first | refine qz3 ?_ _ | refine qz6 ?_ | refine qz4 ?_ _)); refine qz12 (cs := #[.int .i64 7, .int .u64 a0_0, .int .u64 a0_1, .string (⟨#[]⟩ : ByteArray), .slice none 0 0, .bool false, .slice none 0 0]) ?_ 3 _ rfl; (with_reducible repeat (first | refine qz3 ?_ _ | refine qz6 ?_ | refine qz4 ?_ _)); refine qz12 (cs := #[.int .i64 7, .int .u64 a0_0, .int .u64 0, .string (⟨#[]⟩ : ByteArray), .slice none 0 0, .bool false, .slice none 0 0]) ?_ 2 _ rfl; (with_reducible repeat (first | refine qz3 ?_ _ | refine qz6 ?_ | refine qz4 ?_ _)); refine qz12 (cs := #[.int .i64 7, .int .u64 0, .int .u64 0, .string (⟨#[]⟩ : ByteArray), .slice none 0 0, .bool false, .slice none 0 0]) ?_ 1 _ rfl; (with_reducible repeat (first | refine qz3 ?_ _ | refine qz6 ?_ | refine qz4 ?_ _)); refine qz12 (cs := #[.int .i64 0, .int .u64 0, .int .u64 0, .string (⟨#[]⟩ : ByteArray), .slice none 0 0, .bool false, .slice none 0 0]) ?_ 0 _ rfl; (with_reducible repeat (first | refine qz3 ?_ _ | refine qz6 ?_ | refine qz4 ?_ _)); exact BK557.out) Try.underlying38 rfl (by kernel_rfl) (.tmp .nil)))) rfl ?_
                    exact ⟨_, _, by first | rfl | (simp [qz21, qz22] <;> rfl) | (simp [*, qz21, qz22] <;> rfl), by first | exact Kd.R_nil _ _ _ _ _ | exact Kd.N_nil _ _ _ _ _ | exact Kd.V_nil _ _ _ _ _ | exact Kd.Q_nil _ _ _ _ _ | exact Kd.S_nil _ _ _ _ _, by first | exact Kd.R_nil _ _ _ _ _ | exact Kd.N_nil _ _ _ _ _ | exact Kd.V_nil _ _ _ _ _ | exact Kd.Q_nil _ _ _ _ _ | exact Kd.S_nil _ _ _ _ _, by repeat (first | (with_reducible first | exact HB.out | apply qz10 | apply qz5 | apply qz9 | refine qz8 ?_ GE556.out | refine qz8 ?_ GE557.out | refine qz8 ?_ GE558.out) | exact HB.out)⟩
                  · replace c113 := Bool.eq_false_iff.mpr c113
                    subst c113
                    have H1 : (some (0, 6, a0_0, a0_1, (⟨#[]⟩ : ByteArray), ([] : List (S74)), !a0_5, ([] : List Int), true)) = some (r1, r2, r3, r4, r5, r6, r7, r8, r9) := by rw [if_neg (show ¬ (false = true) by decide)] at H; exact H
                    clear H
                    have H := H1
                    clear H1
                    simp only [Option.some.injEq, Prod.mk.injEq] at H
                    obtain ⟨rfl, rfl, rfl, rfl, rfl, rfl, rfl, rfl, rfl⟩ := H
                    have hnb125 := NB556_557.out
                    have hnc125 := NB557_556.out
                    have hnb126 := NB556_558.out
                    have hnc126 := NB558_556.out
                    have hcz127_0 : wc.cell? ⟨gb556, 0, none⟩ = some (.int .u64 a0_0) := (qz1 BK556.out 0).trans rfl
                    have hcz127_1 : wc.cell? ⟨gb556, 1, none⟩ = some (.int .u64 a0_1) := (qz1 BK556.out 1).trans rfl
                    have hcz127_2 : wc.cell? ⟨gb556, 2, none⟩ = some (.slice A0_2 l0_2.length c0_2) := (qz1 BK556.out 2).trans rfl
                    have hcz127_3 : wc.cell? ⟨gb556, 3, none⟩ = some (.int .i64 a0_3) := (qz1 BK556.out 3).trans rfl
                    have hcz127_4 : wc.cell? ⟨gb556, 4, none⟩ = some (.int .i64 a0_4) := (qz1 BK556.out 4).trans rfl
                    have hcz127_5 : wc.cell? ⟨gb556, 5, none⟩ = some (.bool a0_5) := (qz1 BK556.out 5).trans rfl
                    have hcz127_6 : wc.cell? ⟨gb556, 6, none⟩ = some (.bool false) := (qz1 BK556.out 6).trans rfl
                    have hcz127_7 : wc.cell? ⟨gb556, 7, none⟩ = some (.bool a0_7) := (qz1 BK556.out 7).trans rfl
                    have hcz127_8 : wc.cell? ⟨gb556, 8, none⟩ = some (.slice A0_8 l0_8.length c0_8) := (qz1 BK556.out 8).trans rfl
                    have hfz127_0 := qz0 BK556.out 0
                    have hfz127_1 := qz0 BK556.out 1
                    have hfz127_2 := qz0 BK556.out 2
                    have hfz127_3 := qz0 BK556.out 3
                    have hfz127_4 := qz0 BK556.out 4
                    have hfz127_5 := qz0 BK556.out 5
                    have hfz127_6 := qz0 BK556.out 6
                    have hfz127_7 := qz0 BK556.out 7
                    have hfz127_8 := qz0 BK556.out 8
                    try go_wp2
                    have n0_ := qza.mk (Kd.R_drew HO_6.out)
                    have n1_ := qza.mk (qz6 BK556.out)
                    have n2_ := qza.mk (qz6 BK557.out)
                    have n3_ := qza.mk (qz6 BK558.out)
                    have n4_ := qza.mk (qz9 HB.out)
                    clear HO_6
                    clear BK556
                    clear BK557
                    clear BK558
                    clear HB
                    have HO_6 := n0_
                    have BK556 := n1_
                    have BK557 := n2_
                    have BK558 := n3_
                    have HB := n4_
                    clear n0_ n1_ n2_ n3_ n4_
                    refine start_ (n := 8) (S := fun w' => w'.cell? ⟨gb558, 0, none⟩ = some (.int .u64 a0_0) ∧ w'.cell? ⟨gb558, 1, none⟩ = some (.int .u64 a0_1) ∧ w'.cell? ⟨gb556, 0, none⟩ = some (.int .u64 a0_0) ∧ w'.cell? ⟨gb556, 1, none⟩ = some (.int .u64 a0_1) ∧ w'.cell? ⟨gb556, 2, none⟩ = some (.slice A0_2 l0_2.length c0_2) ∧ w'.cell? ⟨gb556, 3, none⟩ = some (.int .i64 a0_3) ∧ w'.cell? ⟨gb556, 4, none⟩ = some (.int .i64 a0_4) ∧ w'.cell? ⟨gb556, 5, none⟩ = some (.bool a0_5) ∧ w'.cell? ⟨gb556, 6, none⟩ = some (.bool false) ∧ w'.cell? ⟨gb556, 7, none⟩ = some (.bool a0_7) ∧ w'.cell? ⟨gb556, 8, none⟩ = some (.slice A0_8 l0_8.length c0_8)) (ds := []) #[false, false, false, false, false, false, false, false] (by kernel_rfl) rfl rfl ⟨(qz1 BK558.out 0).trans rfl, (qz1 BK558.out 1).trans rfl, (qz1 BK556.out 0).trans rfl, (qz1 BK556.out 1).trans rfl, (qz1 BK556.out 2).trans rfl, (qz1 BK556.out 3).trans rfl, (qz1 BK556.out 4).trans rfl, (qz1 BK556.out 5).trans rfl, (qz1 BK556.out 6).trans rfl, (qz1 BK556.out 7).trans rfl, (qz1 BK556.out 8).trans rfl⟩ (fun hHeld => ?_); refine with_tabW ferruleref20_Next.tab21 ferruleref20_Next.bits21 (fun HT_ HW_ => ?_)
                    generalize wc.drew = w128 at HO_6 BK556 BK557 BK558 HB hHeld ⊢
                    refine pure_ (i := 1) (N := some 90) (v := ?_) (a' := ?_) #[false, true, false, false, false, false, false, false] rfl rfl (qz39 HT_.out (by kernel_rfl)) (fun _ _ _ h => h) (Or.inl ⟨by rfl, ?_⟩) ?_ ?_
                    rotate_left
                    · intro w'
                      go_simp
                      with_reducible rfl
                    rotate_left
                    · simp only [Act.put, List.setIfInBounds_toArray, List.set_cons_zero, List.set_cons_succ, i64_w, i32_w]
                      rfl
                    refine pure_ (i := 5) (N := some 2) (v := ?_) (a' := ?_) #[false, true, false, false, false, true, false, false] rfl rfl (qz39 HT_.out (by kernel_rfl)) (fun _ _ _ h => h) (Or.inl ⟨by rfl, ?_⟩) ?_ ?_
                    rotate_left
                    · intro w'
                      go_simp
                      with_reducible rfl
                    rotate_left
                    · simp only [Act.put, List.setIfInBounds_toArray, List.set_cons_zero, List.set_cons_succ, i64_w, i32_w]
                      rfl
                    refine take_ (i := 0) (N := some 89) (v := ?_) (a' := ?_) #[true, true, false, false, false, true, false, false] rfl rfl (qz43 HT_.out HW_.out (by kernel_rfl)) (fun _ _ _ h => h) (Or.inl ⟨by rfl, ?_⟩) hHeld ?_ ?_
                    rotate_left
                    · rintro w' ⟨s0, s1, s2, s3, s4, s5, s6, s7, s8, s9, s10⟩
                      go_simp
                      with_reducible rfl
                    rotate_left
                    · simp only [Act.put, List.setIfInBounds_toArray, List.set_cons_zero, List.set_cons_succ, i64_w, i32_w]
                      rfl
                    refine take_ (i := 2) (N := some 91) (v := ?_) (a' := ?_) #[true, true, true, false, false, true, false, false] rfl rfl (qz43 HT_.out HW_.out (by kernel_rfl)) (fun _ _ _ h => h) (Or.inl ⟨by rfl, ?_⟩) hHeld ?_ ?_
                    rotate_left
                    · rintro w' ⟨s0, s1, s2, s3, s4, s5, s6, s7, s8, s9, s10⟩
                      go_simp
                      with_reducible rfl
                    rotate_left
                    · simp only [Act.put, List.setIfInBounds_toArray, List.set_cons_zero, List.set_cons_succ, i64_w, i32_w]
                      rfl
                    refine pure_ (i := 3) (N := some 92) (v := ?_) (a' := ?_) #[true, true, true, true, false, true, false, false] rfl rfl (qz39 HT_.out (by kernel_rfl)) (fun _ _ _ h => h) (Or.inl ⟨by rfl, ?_⟩) ?_ ?_
                    rotate_left
                    · intro w'
                      go_simp
                      with_reducible rfl
                    rotate_left
                    · simp only [Act.put, List.setIfInBounds_toArray, List.set_cons_zero, List.set_cons_succ, i64_w, i32_w]
                      rfl
                    refine pure_ (i := 4) (N := some 93) (v := ?_) (a' := ?_) #[true, true, true, true, true, true, false, false] rfl rfl (qz39 HT_.out (by kernel_rfl)) (fun _ _ _ h => h) (Or.inl ⟨by rfl, ?_⟩) ?_ ?_
                    rotate_left
                    · intro w'
                      go_simp
                      with_reducible rfl
                    rotate_left
                    · simp only [Act.put, List.setIfInBounds_toArray, List.set_cons_zero, List.set_cons_succ, i64_w, i32_w]
                      rfl
                    refine one_ (i := 6) (N := none) #[true, true, true, true, true, true, true, false] rfl rfl (one_of HT_.out (by kernel_rfl)) (by decide) (fun K hK => ?_)
                    have hs129 : w128.cell? ⟨gb557, 0, none⟩ = some (.int .i64 0) := (qz1 BK557.out 0).trans rfl
                    have hfs129 := qz0 BK557.out 0
                    have hns129_0 := NB556_557.out
                    have hns129_2 := NB558_557.out
                    have hms129_0 := NB557_556.out
                    have hms129_2 := NB557_558.out
                    have hs130 : w128.cell? ⟨gb557, 1, none⟩ = some (.int .u64 0) := (qz1 BK557.out 1).trans rfl
                    have hfs130 := qz0 BK557.out 1
                    have hns130_0 := NB556_557.out
                    have hns130_2 := NB558_557.out
                    have hms130_0 := NB557_556.out
                    have hms130_2 := NB557_558.out
                    have hs131 : w128.cell? ⟨gb557, 2, none⟩ = some (.int .u64 0) := (qz1 BK557.out 2).trans rfl
                    have hfs131 := qz0 BK557.out 2
                    have hns131_0 := NB556_557.out
                    have hns131_2 := NB558_557.out
                    have hms131_0 := NB557_556.out
                    have hms131_2 := NB557_558.out
                    have hs132 : w128.cell? ⟨gb557, 3, none⟩ = some (.string (⟨#[]⟩ : ByteArray)) := (qz1 BK557.out 3).trans rfl
                    have hfs132 := qz0 BK557.out 3
                    have hns132_0 := NB556_557.out
                    have hns132_2 := NB558_557.out
                    have hms132_0 := NB557_556.out
                    have hms132_2 := NB557_558.out
                    have hs133 : w128.cell? ⟨gb557, 4, none⟩ = some (.slice none 0 0) := (qz1 BK557.out 4).trans rfl
                    have hfs133 := qz0 BK557.out 4
                    have hns133_0 := NB556_557.out
                    have hns133_2 := NB558_557.out
                    have hms133_0 := NB557_556.out
                    have hms133_2 := NB557_558.out
                    have hs134 : w128.cell? ⟨gb557, 5, none⟩ = some (.bool false) := (qz1 BK557.out 5).trans rfl
                    have hfs134 := qz0 BK557.out 5
                    have hns134_0 := NB556_557.out
                    have hns134_2 := NB558_557.out
                    have hms134_0 := NB557_556.out
                    have hms134_2 := NB557_558.out
                    have hs135 : w128.cell? ⟨gb557, 6, none⟩ = some (.slice none 0 0) := (qz1 BK557.out 6).trans rfl
                    have hfs135 := qz0 BK557.out 6
                    have hns135_0 := NB556_557.out
                    have hns135_2 := NB558_557.out
                    have hms135_0 := NB557_556.out
                    have hms135_2 := NB557_558.out
                    refine skip_ (w1 := ?_) (by rfl) rfl ?_ ?_
                    rotate_left
                    · go_simp
                      rfl
                    refine hK.out _ _ ⟨((qz2 (p := ⟨gb557, _, none⟩) NB558_557.out _).trans (((qz2 (p := ⟨gb557, _, none⟩) NB558_557.out _).trans (((qz2 (p := ⟨gb557, _, none⟩) NB558_557.out _).trans (((qz2 (p := ⟨gb557, _, none⟩) NB558_557.out _).trans (((qz2 (p := ⟨gb557, _, none⟩) NB558_557.out _).trans (((qz2 (p := ⟨gb557, _, none⟩) NB558_557.out _).trans (((qz2 (p := ⟨gb557, _, none⟩) NB558_557.out _).trans (hHeld.1)))))))))))))), ((qz2 (p := ⟨gb557, _, none⟩) NB558_557.out _).trans (((qz2 (p := ⟨gb557, _, none⟩) NB558_557.out _).trans (((qz2 (p := ⟨gb557, _, none⟩) NB558_557.out _).trans (((qz2 (p := ⟨gb557, _, none⟩) NB558_557.out _).trans (((qz2 (p := ⟨gb557, _, none⟩) NB558_557.out _).trans (((qz2 (p := ⟨gb557, _, none⟩) NB558_557.out _).trans (((qz2 (p := ⟨gb557, _, none⟩) NB558_557.out _).trans (hHeld.2.1)))))))))))))), ((qz2 (p := ⟨gb557, _, none⟩) NB556_557.out _).trans (((qz2 (p := ⟨gb557, _, none⟩) NB556_557.out _).trans (((qz2 (p := ⟨gb557, _, none⟩) NB556_557.out _).trans (((qz2 (p := ⟨gb557, _, none⟩) NB556_557.out _).trans (((qz2 (p := ⟨gb557, _, none⟩) NB556_557.out _).trans (((qz2 (p := ⟨gb557, _, none⟩) NB556_557.out _).trans (((qz2 (p := ⟨gb557, _, none⟩) NB556_557.out _).trans (hHeld.2.2.1)))))))))))))), ((qz2 (p := ⟨gb557, _, none⟩) NB556_557.out _).trans (((qz2 (p := ⟨gb557, _, none⟩) NB556_557.out _).trans (((qz2 (p := ⟨gb557, _, none⟩) NB556_557.out _).trans (((qz2 (p := ⟨gb557, _, none⟩) NB556_557.out _).trans (((qz2 (p := ⟨gb557, _, none⟩) NB556_557.out _).trans (((qz2 (p := ⟨gb557, _, none⟩) NB556_557.out _).trans (((qz2 (p := ⟨gb557, _, none⟩) NB556_557.out _).trans (hHeld.2.2.2.1)))))))))))))), ((qz2 (p := ⟨gb557, _, none⟩) NB556_557.out _).trans (((qz2 (p := ⟨gb557, _, none⟩) NB556_557.out _).trans (((qz2 (p := ⟨gb557, _, none⟩) NB556_557.out _).trans (((qz2 (p := ⟨gb557, _, none⟩) NB556_557.out _).trans (((qz2 (p := ⟨gb557, _, none⟩) NB556_557.out _).trans (((qz2 (p := ⟨gb557, _, none⟩) NB556_557.out _).trans (((qz2 (p := ⟨gb557, _, none⟩) NB556_557.out _).trans (hHeld.2.2.2.2.1)))))))))))))), ((qz2 (p := ⟨gb557, _, none⟩) NB556_557.out _).trans (((qz2 (p := ⟨gb557, _, none⟩) NB556_557.out _).trans (((qz2 (p := ⟨gb557, _, none⟩) NB556_557.out _).trans (((qz2 (p := ⟨gb557, _, none⟩) NB556_557.out _).trans (((qz2 (p := ⟨gb557, _, none⟩) NB556_557.out _).trans (((qz2 (p := ⟨gb557, _, none⟩) NB556_557.out _).trans (((qz2 (p := ⟨gb557, _, none⟩) NB556_557.out _).trans (hHeld.2.2.2.2.2.1)))))))))))))), ((qz2 (p := ⟨gb557, _, none⟩) NB556_557.out _).trans (((qz2 (p := ⟨gb557, _, none⟩) NB556_557.out _).trans (((qz2 (p := ⟨gb557, _, none⟩) NB556_557.out _).trans (((qz2 (p := ⟨gb557, _, none⟩) NB556_557.out _).trans (((qz2 (p := ⟨gb557, _, none⟩) NB556_557.out _).trans (((qz2 (p := ⟨gb557, _, none⟩) NB556_557.out _).trans (((qz2 (p := ⟨gb557, _, none⟩) NB556_557.out _).trans (hHeld.2.2.2.2.2.2.1)))))))))))))), ((qz2 (p := ⟨gb557, _, none⟩) NB556_557.out _).trans (((qz2 (p := ⟨gb557, _, none⟩) NB556_557.out _).trans (((qz2 (p := ⟨gb557, _, none⟩) NB556_557.out _).trans (((qz2 (p := ⟨gb557, _, none⟩) NB556_557.out _).trans (((qz2 (p := ⟨gb557, _, none⟩) NB556_557.out _).trans (((qz2 (p := ⟨gb557, _, none⟩) NB556_557.out _).trans (((qz2 (p := ⟨gb557, _, none⟩) NB556_557.out _).trans (hHeld.2.2.2.2.2.2.2.1)))))))))))))), ((qz2 (p := ⟨gb557, _, none⟩) NB556_557.out _).trans (((qz2 (p := ⟨gb557, _, none⟩) NB556_557.out _).trans (((qz2 (p := ⟨gb557, _, none⟩) NB556_557.out _).trans (((qz2 (p := ⟨gb557, _, none⟩) NB556_557.out _).trans (((qz2 (p := ⟨gb557, _, none⟩) NB556_557.out _).trans (((qz2 (p := ⟨gb557, _, none⟩) NB556_557.out _).trans (((qz2 (p := ⟨gb557, _, none⟩) NB556_557.out _).trans (hHeld.2.2.2.2.2.2.2.2.1)))))))))))))), ((qz2 (p := ⟨gb557, _, none⟩) NB556_557.out _).trans (((qz2 (p := ⟨gb557, _, none⟩) NB556_557.out _).trans (((qz2 (p := ⟨gb557, _, none⟩) NB556_557.out _).trans (((qz2 (p := ⟨gb557, _, none⟩) NB556_557.out _).trans (((qz2 (p := ⟨gb557, _, none⟩) NB556_557.out _).trans (((qz2 (p := ⟨gb557, _, none⟩) NB556_557.out _).trans (((qz2 (p := ⟨gb557, _, none⟩) NB556_557.out _).trans (hHeld.2.2.2.2.2.2.2.2.2.1)))))))))))))), ((qz2 (p := ⟨gb557, _, none⟩) NB556_557.out _).trans (((qz2 (p := ⟨gb557, _, none⟩) NB556_557.out _).trans (((qz2 (p := ⟨gb557, _, none⟩) NB556_557.out _).trans (((qz2 (p := ⟨gb557, _, none⟩) NB556_557.out _).trans (((qz2 (p := ⟨gb557, _, none⟩) NB556_557.out _).trans (((qz2 (p := ⟨gb557, _, none⟩) NB556_557.out _).trans (((qz2 (p := ⟨gb557, _, none⟩) NB556_557.out _).trans (hHeld.2.2.2.2.2.2.2.2.2.2))))))))))))))⟩ (fun hHeld => ?_)
                    clear hK K
                    refine pure_ (i := 7) (N := some 4) (v := ?_) (a' := ?_) #[true, true, true, true, true, true, true, true] rfl rfl (qz39 HT_.out (by kernel_rfl)) (fun _ _ _ h => h) (Or.inl ⟨by rfl, ?_⟩) ?_ ?_
                    rotate_left
                    · intro w'
                      go_simp
                      with_reducible rfl
                    rotate_left
                    · simp only [Act.put, List.setIfInBounds_toArray, List.set_cons_zero, List.set_cons_succ, i64_w, i32_w]
                      rfl
                    refine done_ (done_of HT_.out (by kernel_rfl)) ?_
                    try go_wp2
                    refine bodyPost_ret (qz44 (rs := [.tmp 2, .cell 3 38, .tmp 4]) rfl (by simp) (.tmp (.cell gb557 38 #[.int .i64 6, .int .u64 a0_0, .int .u64 a0_1, .string (⟨#[]⟩ : ByteArray), .slice none 0 0, .bool (!a0_5), .slice none 0 0] (0, 0) _ rfl (by (with_reducible repeat (first | refine qz3 ?_ _ | refine qz6 ?_ | refine qz4 ?_ _)); refine qz12 (cs := #[.int .i64 6, .int .u64 a0_0, .int .u64 a0_1, .string (⟨#[]⟩ : ByteArray), .slice none 0 0, .bool (!a0_5), .slice none 0 0]) ?_ 6 _ rfl; (with_reducible repeat (first | refine qz3 ?_ _ | refine qz6 ?_ | refine qz4 ?_ _)); refine qz12 (cs := #[.int .i64 6, .int .u64 a0_0, .int .u64 a0_1, .string (⟨#[]⟩ : ByteArray), .slice none 0 0, .bool false, .slice none 0 0]) ?_ 5 _ rfl; (with_reducible repeat (first | refine qz3 ?_ _ | refine qz6 ?_ | refine qz4 ?_ _)); refine qz12 (cs := #[.int .i64 6, .int .u64 a0_0, .int .u64 a0_1, .string (⟨#[]⟩ : ByteArray), .slice none 0 0, .bool false, .slice none 0 0]) ?_ 4 _ rfl; (with_reducible repeat (first | refine qz3 ?_ _ | refine qz6 ?_ | refine qz4 ?_ _)); refine qz12 (cs := #[.int .i64 6, .int .u64 a0_0, .int .u64 a0_1, .string (⟨#[]⟩ : ByteArray), .slice none 0 0, .bool false, .slice none 0 0]) ?_ 3 _ rfl; (with_reducible repeat (first | refine qz3 ?_ _ | refine qz6 ?_ | refine qz4 ?_ _)); refine qz12 (cs := #[.int .i64 6, .int .u64 a0_0, .int .u64 0, .string (⟨#[]⟩ : ByteArray), .slice none 0 0, .bool false, .slice none 0 0]) ?_ 2 _ rfl; (with_reducible repeat (first | refine qz3 ?_ _ | refine qz6 ?_ | refine qz4 ?_ _)); refine qz12 (cs := #[.int .i64 6, .int .u64 0, .int .u64 0, .string (⟨#[]⟩ : ByteArray), .slice none 0 0, .bool false, .slice none 0 0]) ?_ 1 _ rfl; (with_reducible repeat (first | refine qz3 ?_ _ | refine qz6 ?_ | refine qz4 ?_ _)); refine qz12 (cs := #[.int .i64 0, .int .u64 0, .int .u64 0, .string (⟨#[]⟩ : ByteArray), .slice none 0 0, .bool false, .slice none 0 0]) ?_ 0 _ rfl; (with_reducible repeat (first | refine qz3 ?_ _ | refine qz6 ?_ | refine qz4 ?_ _)); exact BK557.out) Try.underlying38 rfl (by kernel_rfl) (.tmp .nil)))) rfl ?_
                    exact ⟨_, _, by first | rfl | (simp [qz21, qz22] <;> rfl) | (simp [*, qz21, qz22] <;> rfl), by first | exact Kd.R_nil _ _ _ _ _ | exact Kd.N_nil _ _ _ _ _ | exact Kd.V_nil _ _ _ _ _ | exact Kd.Q_nil _ _ _ _ _ | exact Kd.S_nil _ _ _ _ _, by first | exact Kd.R_nil _ _ _ _ _ | exact Kd.N_nil _ _ _ _ _ | exact Kd.V_nil _ _ _ _ _ | exact Kd.Q_nil _ _ _ _ _ | exact Kd.S_nil _ _ _ _ _, by repeat (first | (with_reducible first | exact HB.out | apply qz10 | apply qz5 | apply qz9 | refine qz8 ?_ GE556.out | refine qz8 ?_ GE557.out | refine qz8 ?_ GE558.out) | exact HB.out)⟩
                · rw [if_neg c112] at H
                  have c112b0 : (a0_3 == 3) = false := beq_eq_false_iff_ne.mpr c112
                  have c112b1 : (a0_3 != 3) = true := bne_iff_ne.mpr c112
                  by_cases c136 : a0_3 = 4
                  · rw [if_pos c136] at H
                    have c136b0 : (a0_3 == 4) = true := beq_iff_eq.mpr c136
                    have c136b1 : (a0_3 != 4) = false := bne_eq_false_iff_eq.mpr c136
                    clear c136
                    by_cases c137 : x8_20 = true
                    · subst c137
                      have H1 : (if 0 ≤ a0_4 then (if a0_4 < (t559.length : Int) then (some (rd t559 a0_4, 4, a0_0, a0_1, (⟨#[]⟩ : ByteArray), ([] : List (S74)), a0_7, ([] : List Int), true)) else (none)) else (none)) = some (r1, r2, r3, r4, r5, r6, r7, r8, r9) := by rw [if_pos rfl] at H; exact H
                      clear H
                      have H := H1
                      clear H1
                      by_cases c138 : 0 ≤ a0_4
                      · rw [if_pos c138] at H
                        have c138b0 : decide (0 ≤ a0_4) = true := decide_eq_true c138
                        clear c138
                        by_cases c139 : a0_4 < (t559.length : Int)
                        · rw [if_pos c139] at H
                          have c139b0 : decide (a0_4 < (t559.length : Int)) = true := decide_eq_true c139
                          clear c139
                          simp only [Option.some.injEq, Prod.mk.injEq] at H
                          obtain ⟨rfl, rfl, rfl, rfl, rfl, rfl, rfl, rfl, rfl⟩ := H
                          have hnb140 := NB556_557.out
                          have hnc140 := NB557_556.out
                          have hnb141 := NB556_558.out
                          have hnc141 := NB558_556.out
                          have hcz142_0 : wc.cell? ⟨gb556, 0, none⟩ = some (.int .u64 a0_0) := (qz1 BK556.out 0).trans rfl
                          have hcz142_1 : wc.cell? ⟨gb556, 1, none⟩ = some (.int .u64 a0_1) := (qz1 BK556.out 1).trans rfl
                          have hcz142_2 : wc.cell? ⟨gb556, 2, none⟩ = some (.slice A0_2 l0_2.length c0_2) := (qz1 BK556.out 2).trans rfl
                          have hcz142_3 : wc.cell? ⟨gb556, 3, none⟩ = some (.int .i64 a0_3) := (qz1 BK556.out 3).trans rfl
                          have hcz142_4 : wc.cell? ⟨gb556, 4, none⟩ = some (.int .i64 a0_4) := (qz1 BK556.out 4).trans rfl
                          have hcz142_5 : wc.cell? ⟨gb556, 5, none⟩ = some (.bool a0_5) := (qz1 BK556.out 5).trans rfl
                          have hcz142_6 : wc.cell? ⟨gb556, 6, none⟩ = some (.bool a0_6) := (qz1 BK556.out 6).trans rfl
                          have hcz142_7 : wc.cell? ⟨gb556, 7, none⟩ = some (.bool a0_7) := (qz1 BK556.out 7).trans rfl
                          have hcz142_8 : wc.cell? ⟨gb556, 8, none⟩ = some (.slice A0_8 l0_8.length c0_8) := (qz1 BK556.out 8).trans rfl
                          have hfz142_0 := qz0 BK556.out 0
                          have hfz142_1 := qz0 BK556.out 1
                          have hfz142_2 := qz0 BK556.out 2
                          have hfz142_3 := qz0 BK556.out 3
                          have hfz142_4 := qz0 BK556.out 4
                          have hfz142_5 := qz0 BK556.out 5
                          have hfz142_6 := qz0 BK556.out 6
                          have hfz142_7 := qz0 BK556.out 7
                          have hfz142_8 := qz0 BK556.out 8
                          try go_wp2
                          have n0_ := qza.mk (Kd.R_drew HO_6.out)
                          have n1_ := qza.mk (qz6 BK556.out)
                          have n2_ := qza.mk (qz6 BK557.out)
                          have n3_ := qza.mk (qz6 BK558.out)
                          have n4_ := qza.mk (qz9 HB.out)
                          clear HO_6
                          clear BK556
                          clear BK557
                          clear BK558
                          clear HB
                          have HO_6 := n0_
                          have BK556 := n1_
                          have BK557 := n2_
                          have BK558 := n3_
                          have HB := n4_
                          clear n0_ n1_ n2_ n3_ n4_
                          obtain ⟨Ao144, co144, eo144⟩ := Kd.R_slice HO_6.out
                          (first | subst eo144 | (injection eo144 with f1_ f2_ f3_; have f4_ := f1_.symm; have f5_ := f3_.symm; clear f1_ f2_ f3_; subst f4_; subst f5_))
                          have p569 : 0 ≤ (a0_4 : Int) := of_decide_eq_true (by first | (with_reducible assumption) | assumption)
                          have q569 : a0_4 < (t559.length : Int) := of_decide_eq_true (by first | (with_reducible assumption) | assumption)
                          obtain ⟨ad569, e569, hx569_0⟩ := Kd.at_int (Kd.R_reads' HO_6.out).2.2 a0_4 p569 q569
                          cases e569
                          replace p569 := eq_true p569
                          replace q569 := eq_true q569
                          refine start_ (n := 12) (S := fun w' => w'.cell? ⟨gb556, 0, none⟩ = some (.int .u64 a0_0) ∧ w'.cell? ⟨gb556, 1, none⟩ = some (.int .u64 a0_1) ∧ w'.cell? ⟨gb556, 2, none⟩ = some (.slice A0_2 l0_2.length c0_2) ∧ w'.cell? ⟨gb556, 3, none⟩ = some (.int .i64 a0_3) ∧ w'.cell? ⟨gb556, 4, none⟩ = some (.int .i64 a0_4) ∧ w'.cell? ⟨gb556, 5, none⟩ = some (.bool a0_5) ∧ w'.cell? ⟨gb556, 6, none⟩ = some (.bool a0_6) ∧ w'.cell? ⟨gb556, 7, none⟩ = some (.bool a0_7) ∧ w'.cell? ⟨gb556, 8, none⟩ = some (.slice A0_8 l0_8.length c0_8) ∧ w'.cell? ⟨gb558, 0, none⟩ = some (.int .u64 a0_0) ∧ w'.cell? ⟨gb558, 1, none⟩ = some (.int .u64 a0_1) ∧ w'.cell? (ad569.add (a0_4).toNat) = some (.int .u64 (rd t559 a0_4))) (ds := []) #[false, false, false, false, false, false, false, false, false, false, false, false] (by kernel_rfl) rfl rfl ⟨(qz1 BK556.out 0).trans rfl, (qz1 BK556.out 1).trans rfl, (qz1 BK556.out 2).trans rfl, (qz1 BK556.out 3).trans rfl, (qz1 BK556.out 4).trans rfl, (qz1 BK556.out 5).trans rfl, (qz1 BK556.out 6).trans rfl, (qz1 BK556.out 7).trans rfl, (qz1 BK556.out 8).trans rfl, (qz1 BK558.out 0).trans rfl, (qz1 BK558.out 1).trans rfl, hx569_0⟩ (fun hHeld => ?_); refine with_tabW ferruleref20_Next.tab24 ferruleref20_Next.bits24 (fun HT_ HW_ => ?_)
                          generalize wc.drew = w143 at HO_6 BK556 BK557 BK558 HB hx569_0 hHeld ⊢
                          refine pure_ (i := 0) (N := some 97) (v := ?_) (a' := ?_) #[true, false, false, false, false, false, false, false, false, false, false, false] rfl rfl (qz39 HT_.out (by kernel_rfl)) (fun _ _ _ h => h) (Or.inl ⟨by rfl, ?_⟩) ?_ ?_
                          rotate_left
                          · intro w'
                            go_simp
                            with_reducible rfl
                          rotate_left
                          · simp only [Act.put, List.setIfInBounds_toArray, List.set_cons_zero, List.set_cons_succ, i64_w, i32_w]
                            rfl
                          refine pure_ (i := 1) (N := some 98) (v := ?_) (a' := ?_) #[true, true, false, false, false, false, false, false, false, false, false, false] rfl rfl (qz39 HT_.out (by kernel_rfl)) (fun _ _ _ h => h) (Or.inl ⟨by rfl, ?_⟩) ?_ ?_
                          rotate_left
                          · intro w'
                            go_simp
                            with_reducible rfl
                          rotate_left
                          · simp only [Act.put, List.setIfInBounds_toArray, List.set_cons_zero, List.set_cons_succ, i64_w, i32_w]
                            rfl
                          refine pure_ (i := 6) (N := some 103) (v := ?_) (a' := ?_) #[true, true, false, false, false, false, true, false, false, false, false, false] rfl rfl (qz39 HT_.out (by kernel_rfl)) (fun _ _ _ h => h) (Or.inl ⟨by rfl, ?_⟩) ?_ ?_
                          rotate_left
                          · intro w'
                            go_simp
                            with_reducible rfl
                          rotate_left
                          · simp only [Act.put, List.setIfInBounds_toArray, List.set_cons_zero, List.set_cons_succ, i64_w, i32_w]
                            rfl
                          refine take_ (i := 2) (N := some 99) (v := ?_) (a' := ?_) #[true, true, true, false, false, false, true, false, false, false, false, false] rfl rfl (qz43 HT_.out HW_.out (by kernel_rfl)) (fun _ _ _ h => h) (Or.inl ⟨by rfl, ?_⟩) hHeld ?_ ?_
                          rotate_left
                          · rintro w' ⟨s0, s1, s2, s3, s4, s5, s6, s7, s8, s9, s10, s11⟩
                            go_simp
                            with_reducible rfl
                          rotate_left
                          · simp only [Act.put, List.setIfInBounds_toArray, List.set_cons_zero, List.set_cons_succ, i64_w, i32_w]
                            rfl
                          refine pure_ (i := 3) (N := some 100) (v := ?_) (a' := ?_) #[true, true, true, true, false, false, true, false, false, false, false, false] rfl rfl (qz39 HT_.out (by kernel_rfl)) (fun _ _ _ h => h) (Or.inl ⟨by rfl, ?_⟩) ?_ ?_
                          rotate_left
                          · intro w'
                            go_simp
                            with_reducible rfl
                          rotate_left
                          · simp only [Act.put, List.setIfInBounds_toArray, List.set_cons_zero, List.set_cons_succ, i64_w, i32_w]
                            rfl
                          refine take_ (i := 4) (N := some 101) (v := ?_) (a' := ?_) #[true, true, true, true, true, false, true, false, false, false, false, false] rfl rfl (qz43 HT_.out HW_.out (by kernel_rfl)) (fun _ _ _ h => h) (Or.inl ⟨by rfl, ?_⟩) hHeld ?_ ?_
                          rotate_left
                          · rintro w' ⟨s0, s1, s2, s3, s4, s5, s6, s7, s8, s9, s10, s11⟩
                            go_simp
                            with_reducible rfl
                          rotate_left
                          · simp only [Act.put, List.setIfInBounds_toArray, List.set_cons_zero, List.set_cons_succ, i64_w, i32_w]
                            rfl
                          refine pure_ (i := 9) (N := some 2) (v := ?_) (a' := ?_) #[true, true, true, true, true, false, true, false, false, true, false, false] rfl rfl (qz39 HT_.out (by kernel_rfl)) (fun _ _ _ h => h) (Or.inl ⟨by rfl, ?_⟩) ?_ ?_
                          rotate_left
                          · intro w'
                            go_simp
                            with_reducible rfl
                          rotate_left
                          · simp only [Act.put, List.setIfInBounds_toArray, List.set_cons_zero, List.set_cons_succ, i64_w, i32_w]
                            rfl
                          refine take_ (i := 5) (N := some 102) (v := ?_) (a' := ?_) #[true, true, true, true, true, true, true, false, false, true, false, false] rfl rfl (qz43 HT_.out HW_.out (by kernel_rfl)) (fun _ _ _ h => h) (Or.inl ⟨by rfl, ?_⟩) hHeld ?_ ?_
                          rotate_left
                          · rintro w' ⟨s0, s1, s2, s3, s4, s5, s6, s7, s8, s9, s10, s11⟩
                            go_simp
                            with_reducible rfl
                          rotate_left
                          · simp only [Act.put, List.setIfInBounds_toArray, List.set_cons_zero, List.set_cons_succ, i64_w, i32_w]
                            rfl
                          refine take_ (i := 7) (N := some 104) (v := ?_) (a' := ?_) #[true, true, true, true, true, true, true, true, false, true, false, false] rfl rfl (qz43 HT_.out HW_.out (by kernel_rfl)) (fun _ _ _ h => h) (Or.inl ⟨by rfl, ?_⟩) hHeld ?_ ?_
                          rotate_left
                          · rintro w' ⟨s0, s1, s2, s3, s4, s5, s6, s7, s8, s9, s10, s11⟩
                            go_simp
                            with_reducible rfl
                          rotate_left
                          · simp only [Act.put, List.setIfInBounds_toArray, List.set_cons_zero, List.set_cons_succ, i64_w, i32_w]
                            rfl
                          refine pure_ (i := 8) (N := some 105) (v := ?_) (a' := ?_) #[true, true, true, true, true, true, true, true, true, true, false, false] rfl rfl (qz39 HT_.out (by kernel_rfl)) (fun _ _ _ h => h) (Or.inl ⟨by rfl, ?_⟩) ?_ ?_
                          rotate_left
                          · intro w'
                            go_simp
                            with_reducible rfl
                          rotate_left
                          · simp only [Act.put, List.setIfInBounds_toArray, List.set_cons_zero, List.set_cons_succ, i64_w, i32_w]
                            rfl
                          refine one_ (i := 10) (N := none) #[true, true, true, true, true, true, true, true, true, true, true, false] rfl rfl (one_of HT_.out (by kernel_rfl)) (by decide) (fun K hK => ?_)
                          have hs145 : w143.cell? ⟨gb557, 0, none⟩ = some (.int .i64 0) := (qz1 BK557.out 0).trans rfl
                          have hfs145 := qz0 BK557.out 0
                          have hns145_0 := NB556_557.out
                          have hns145_2 := NB558_557.out
                          have hms145_0 := NB557_556.out
                          have hms145_2 := NB557_558.out
                          have hs146 : w143.cell? ⟨gb557, 1, none⟩ = some (.int .u64 0) := (qz1 BK557.out 1).trans rfl
                          have hfs146 := qz0 BK557.out 1
                          have hns146_0 := NB556_557.out
                          have hns146_2 := NB558_557.out
                          have hms146_0 := NB557_556.out
                          have hms146_2 := NB557_558.out
                          have hs147 : w143.cell? ⟨gb557, 2, none⟩ = some (.int .u64 0) := (qz1 BK557.out 2).trans rfl
                          have hfs147 := qz0 BK557.out 2
                          have hns147_0 := NB556_557.out
                          have hns147_2 := NB558_557.out
                          have hms147_0 := NB557_556.out
                          have hms147_2 := NB557_558.out
                          have hs148 : w143.cell? ⟨gb557, 3, none⟩ = some (.string (⟨#[]⟩ : ByteArray)) := (qz1 BK557.out 3).trans rfl
                          have hfs148 := qz0 BK557.out 3
                          have hns148_0 := NB556_557.out
                          have hns148_2 := NB558_557.out
                          have hms148_0 := NB557_556.out
                          have hms148_2 := NB557_558.out
                          have hs149 : w143.cell? ⟨gb557, 4, none⟩ = some (.slice none 0 0) := (qz1 BK557.out 4).trans rfl
                          have hfs149 := qz0 BK557.out 4
                          have hns149_0 := NB556_557.out
                          have hns149_2 := NB558_557.out
                          have hms149_0 := NB557_556.out
                          have hms149_2 := NB557_558.out
                          have hs150 : w143.cell? ⟨gb557, 5, none⟩ = some (.bool false) := (qz1 BK557.out 5).trans rfl
                          have hfs150 := qz0 BK557.out 5
                          have hns150_0 := NB556_557.out
                          have hns150_2 := NB558_557.out
                          have hms150_0 := NB557_556.out
                          have hms150_2 := NB557_558.out
                          have hs151 : w143.cell? ⟨gb557, 6, none⟩ = some (.slice none 0 0) := (qz1 BK557.out 6).trans rfl
                          have hfs151 := qz0 BK557.out 6
                          have hns151_0 := NB556_557.out
                          have hns151_2 := NB558_557.out
                          have hms151_0 := NB557_556.out
                          have hms151_2 := NB557_558.out
                          refine skip_ (w1 := ?_) (by rfl) rfl ?_ ?_
                          rotate_left
                          · go_simp
                            rfl
                          refine hK.out _ _ ⟨((qz2 (p := ⟨gb557, _, none⟩) NB556_557.out _).trans (((qz2 (p := ⟨gb557, _, none⟩) NB556_557.out _).trans (((qz2 (p := ⟨gb557, _, none⟩) NB556_557.out _).trans (((qz2 (p := ⟨gb557, _, none⟩) NB556_557.out _).trans (((qz2 (p := ⟨gb557, _, none⟩) NB556_557.out _).trans (((qz2 (p := ⟨gb557, _, none⟩) NB556_557.out _).trans (((qz2 (p := ⟨gb557, _, none⟩) NB556_557.out _).trans (hHeld.1)))))))))))))), ((qz2 (p := ⟨gb557, _, none⟩) NB556_557.out _).trans (((qz2 (p := ⟨gb557, _, none⟩) NB556_557.out _).trans (((qz2 (p := ⟨gb557, _, none⟩) NB556_557.out _).trans (((qz2 (p := ⟨gb557, _, none⟩) NB556_557.out _).trans (((qz2 (p := ⟨gb557, _, none⟩) NB556_557.out _).trans (((qz2 (p := ⟨gb557, _, none⟩) NB556_557.out _).trans (((qz2 (p := ⟨gb557, _, none⟩) NB556_557.out _).trans (hHeld.2.1)))))))))))))), ((qz2 (p := ⟨gb557, _, none⟩) NB556_557.out _).trans (((qz2 (p := ⟨gb557, _, none⟩) NB556_557.out _).trans (((qz2 (p := ⟨gb557, _, none⟩) NB556_557.out _).trans (((qz2 (p := ⟨gb557, _, none⟩) NB556_557.out _).trans (((qz2 (p := ⟨gb557, _, none⟩) NB556_557.out _).trans (((qz2 (p := ⟨gb557, _, none⟩) NB556_557.out _).trans (((qz2 (p := ⟨gb557, _, none⟩) NB556_557.out _).trans (hHeld.2.2.1)))))))))))))), ((qz2 (p := ⟨gb557, _, none⟩) NB556_557.out _).trans (((qz2 (p := ⟨gb557, _, none⟩) NB556_557.out _).trans (((qz2 (p := ⟨gb557, _, none⟩) NB556_557.out _).trans (((qz2 (p := ⟨gb557, _, none⟩) NB556_557.out _).trans (((qz2 (p := ⟨gb557, _, none⟩) NB556_557.out _).trans (((qz2 (p := ⟨gb557, _, none⟩) NB556_557.out _).trans (((qz2 (p := ⟨gb557, _, none⟩) NB556_557.out _).trans (hHeld.2.2.2.1)))))))))))))), ((qz2 (p := ⟨gb557, _, none⟩) NB556_557.out _).trans (((qz2 (p := ⟨gb557, _, none⟩) NB556_557.out _).trans (((qz2 (p := ⟨gb557, _, none⟩) NB556_557.out _).trans (((qz2 (p := ⟨gb557, _, none⟩) NB556_557.out _).trans (((qz2 (p := ⟨gb557, _, none⟩) NB556_557.out _).trans (((qz2 (p := ⟨gb557, _, none⟩) NB556_557.out _).trans (((qz2 (p := ⟨gb557, _, none⟩) NB556_557.out _).trans (hHeld.2.2.2.2.1)))))))))))))), ((qz2 (p := ⟨gb557, _, none⟩) NB556_557.out _).trans (((qz2 (p := ⟨gb557, _, none⟩) NB556_557.out _).trans (((qz2 (p := ⟨gb557, _, none⟩) NB556_557.out _).trans (((qz2 (p := ⟨gb557, _, none⟩) NB556_557.out _).trans (((qz2 (p := ⟨gb557, _, none⟩) NB556_557.out _).trans (((qz2 (p := ⟨gb557, _, none⟩) NB556_557.out _).trans (((qz2 (p := ⟨gb557, _, none⟩) NB556_557.out _).trans (hHeld.2.2.2.2.2.1)))))))))))))), ((qz2 (p := ⟨gb557, _, none⟩) NB556_557.out _).trans (((qz2 (p := ⟨gb557, _, none⟩) NB556_557.out _).trans (((qz2 (p := ⟨gb557, _, none⟩) NB556_557.out _).trans (((qz2 (p := ⟨gb557, _, none⟩) NB556_557.out _).trans (((qz2 (p := ⟨gb557, _, none⟩) NB556_557.out _).trans (((qz2 (p := ⟨gb557, _, none⟩) NB556_557.out _).trans (((qz2 (p := ⟨gb557, _, none⟩) NB556_557.out _).trans (hHeld.2.2.2.2.2.2.1)))))))))))))), ((qz2 (p := ⟨gb557, _, none⟩) NB556_557.out _).trans (((qz2 (p := ⟨gb557, _, none⟩) NB556_557.out _).trans (((qz2 (p := ⟨gb557, _, none⟩) NB556_557.out _).trans (((qz2 (p := ⟨gb557, _, none⟩) NB556_557.out _).trans (((qz2 (p := ⟨gb557, _, none⟩) NB556_557.out _).trans (((qz2 (p := ⟨gb557, _, none⟩) NB556_557.out _).trans (((qz2 (p := ⟨gb557, _, none⟩) NB556_557.out _).trans (hHeld.2.2.2.2.2.2.2.1)))))))))))))), ((qz2 (p := ⟨gb557, _, none⟩) NB556_557.out _).trans (((qz2 (p := ⟨gb557, _, none⟩) NB556_557.out _).trans (((qz2 (p := ⟨gb557, _, none⟩) NB556_557.out _).trans (((qz2 (p := ⟨gb557, _, none⟩) NB556_557.out _).trans (((qz2 (p := ⟨gb557, _, none⟩) NB556_557.out _).trans (((qz2 (p := ⟨gb557, _, none⟩) NB556_557.out _).trans (((qz2 (p := ⟨gb557, _, none⟩) NB556_557.out _).trans (hHeld.2.2.2.2.2.2.2.2.1)))))))))))))), ((qz2 (p := ⟨gb557, _, none⟩) NB558_557.out _).trans (((qz2 (p := ⟨gb557, _, none⟩) NB558_557.out _).trans (((qz2 (p := ⟨gb557, _, none⟩) NB558_557.out _).trans (((qz2 (p := ⟨gb557, _, none⟩) NB558_557.out _).trans (((qz2 (p := ⟨gb557, _, none⟩) NB558_557.out _).trans (((qz2 (p := ⟨gb557, _, none⟩) NB558_557.out _).trans (((qz2 (p := ⟨gb557, _, none⟩) NB558_557.out _).trans (hHeld.2.2.2.2.2.2.2.2.2.1)))))))))))))), ((qz2 (p := ⟨gb557, _, none⟩) NB558_557.out _).trans (((qz2 (p := ⟨gb557, _, none⟩) NB558_557.out _).trans (((qz2 (p := ⟨gb557, _, none⟩) NB558_557.out _).trans (((qz2 (p := ⟨gb557, _, none⟩) NB558_557.out _).trans (((qz2 (p := ⟨gb557, _, none⟩) NB558_557.out _).trans (((qz2 (p := ⟨gb557, _, none⟩) NB558_557.out _).trans (((qz2 (p := ⟨gb557, _, none⟩) NB558_557.out _).trans (hHeld.2.2.2.2.2.2.2.2.2.2.1)))))))))))))), ((qz2 (p := ⟨gb557, _, none⟩) (by first | exact Kd.own_blk (Kd.R_ne HO_6.out BK557.out (by decide)) | (rw [qz24]; exact Kd.own_blk (Kd.R_ne HO_6.out BK557.out (by decide))) | (show (Addr.add _ _).block ≠ _; rw [qz24]; exact Kd.own_blk (Kd.R_ne HO_6.out BK557.out (by decide))) | (dsimp only; exact Kd.own_blk (Kd.R_ne HO_6.out BK557.out (by decide)))) _).trans (((qz2 (p := ⟨gb557, _, none⟩) (by first | exact Kd.own_blk (Kd.R_ne HO_6.out BK557.out (by decide)) | (rw [qz24]; exact Kd.own_blk (Kd.R_ne HO_6.out BK557.out (by decide))) | (show (Addr.add _ _).block ≠ _; rw [qz24]; exact Kd.own_blk (Kd.R_ne HO_6.out BK557.out (by decide))) | (dsimp only; exact Kd.own_blk (Kd.R_ne HO_6.out BK557.out (by decide)))) _).trans (((qz2 (p := ⟨gb557, _, none⟩) (by first | exact Kd.own_blk (Kd.R_ne HO_6.out BK557.out (by decide)) | (rw [qz24]; exact Kd.own_blk (Kd.R_ne HO_6.out BK557.out (by decide))) | (show (Addr.add _ _).block ≠ _; rw [qz24]; exact Kd.own_blk (Kd.R_ne HO_6.out BK557.out (by decide))) | (dsimp only; exact Kd.own_blk (Kd.R_ne HO_6.out BK557.out (by decide)))) _).trans (((qz2 (p := ⟨gb557, _, none⟩) (by first | exact Kd.own_blk (Kd.R_ne HO_6.out BK557.out (by decide)) | (rw [qz24]; exact Kd.own_blk (Kd.R_ne HO_6.out BK557.out (by decide))) | (show (Addr.add _ _).block ≠ _; rw [qz24]; exact Kd.own_blk (Kd.R_ne HO_6.out BK557.out (by decide))) | (dsimp only; exact Kd.own_blk (Kd.R_ne HO_6.out BK557.out (by decide)))) _).trans (((qz2 (p := ⟨gb557, _, none⟩) (by first | exact Kd.own_blk (Kd.R_ne HO_6.out BK557.out (by decide)) | (rw [qz24]; exact Kd.own_blk (Kd.R_ne HO_6.out BK557.out (by decide))) | (show (Addr.add _ _).block ≠ _; rw [qz24]; exact Kd.own_blk (Kd.R_ne HO_6.out BK557.out (by decide))) | (dsimp only; exact Kd.own_blk (Kd.R_ne HO_6.out BK557.out (by decide)))) _).trans (((qz2 (p := ⟨gb557, _, none⟩) (by first | exact Kd.own_blk (Kd.R_ne HO_6.out BK557.out (by decide)) | (rw [qz24]; exact Kd.own_blk (Kd.R_ne HO_6.out BK557.out (by decide))) | (show (Addr.add _ _).block ≠ _; rw [qz24]; exact Kd.own_blk (Kd.R_ne HO_6.out BK557.out (by decide))) | (dsimp only; exact Kd.own_blk (Kd.R_ne HO_6.out BK557.out (by decide)))) _).trans (((qz2 (p := ⟨gb557, _, none⟩) (by first | exact Kd.own_blk (Kd.R_ne HO_6.out BK557.out (by decide)) | (rw [qz24]; exact Kd.own_blk (Kd.R_ne HO_6.out BK557.out (by decide))) | (show (Addr.add _ _).block ≠ _; rw [qz24]; exact Kd.own_blk (Kd.R_ne HO_6.out BK557.out (by decide))) | (dsimp only; exact Kd.own_blk (Kd.R_ne HO_6.out BK557.out (by decide)))) _).trans (hHeld.2.2.2.2.2.2.2.2.2.2.2))))))))))))))⟩ (fun hHeld => ?_)
                          clear hK K
                          refine pure_ (i := 11) (N := some 4) (v := ?_) (a' := ?_) #[true, true, true, true, true, true, true, true, true, true, true, true] rfl rfl (qz39 HT_.out (by kernel_rfl)) (fun _ _ _ h => h) (Or.inl ⟨by rfl, ?_⟩) ?_ ?_
                          rotate_left
                          · intro w'
                            go_simp
                            with_reducible rfl
                          rotate_left
                          · simp only [Act.put, List.setIfInBounds_toArray, List.set_cons_zero, List.set_cons_succ, i64_w, i32_w]
                            rfl
                          refine done_ (done_of HT_.out (by kernel_rfl)) ?_
                          try go_wp2
                          refine bodyPost_ret (qz44 (rs := [.tmp 2, .cell 3 38, .tmp 4]) rfl (by simp) (.tmp (.cell gb557 38 #[.int .i64 4, .int .u64 a0_0, .int .u64 a0_1, .string (⟨#[]⟩ : ByteArray), .slice none 0 0, .bool a0_7, .slice none 0 0] (0, 0) _ rfl (by (with_reducible repeat (first | refine qz3 ?_ _ | refine qz6 ?_ | refine qz4 ?_ _)); refine qz12 (cs := #[.int .i64 4, .int .u64 a0_0, .int .u64 a0_1, .string (⟨#[]⟩ : ByteArray), .slice none 0 0, .bool a0_7, .slice none 0 0]) ?_ 6 _ rfl; (with_reducible repeat (first | refine qz3 ?_ _ | refine qz6 ?_ | refine qz4 ?_ _)); refine qz12 (cs := #[.int .i64 4, .int .u64 a0_0, .int .u64 a0_1, .string (⟨#[]⟩ : ByteArray), .slice none 0 0, .bool false, .slice none 0 0]) ?_ 5 _ rfl; (with_reducible repeat (first | refine qz3 ?_ _ | refine qz6 ?_ | refine qz4 ?_ _)); refine qz12 (cs := #[.int .i64 4, .int .u64 a0_0, .int .u64 a0_1, .string (⟨#[]⟩ : ByteArray), .slice none 0 0, .bool false, .slice none 0 0]) ?_ 4 _ rfl; (with_reducible repeat (first | refine qz3 ?_ _ | refine qz6 ?_ | refine qz4 ?_ _)); refine qz12 (cs := #[.int .i64 4, .int .u64 a0_0, .int .u64 a0_1, .string (⟨#[]⟩ : ByteArray), .slice none 0 0, .bool false, .slice none 0 0]) ?_ 3 _ rfl; (with_reducible repeat (first | refine qz3 ?_ _ | refine qz6 ?_ | refine qz4 ?_ _)); refine qz12 (cs := #[.int .i64 4, .int .u64 a0_0, .int .u64 0, .string (⟨#[]⟩ : ByteArray), .slice none 0 0, .bool false, .slice none 0 0]) ?_ 2 _ rfl; (with_reducible repeat (first | refine qz3 ?_ _ | refine qz6 ?_ | refine qz4 ?_ _)); refine qz12 (cs := #[.int .i64 4, .int .u64 0, .int .u64 0, .string (⟨#[]⟩ : ByteArray), .slice none 0 0, .bool false, .slice none 0 0]) ?_ 1 _ rfl; (with_reducible repeat (first | refine qz3 ?_ _ | refine qz6 ?_ | refine qz4 ?_ _)); refine qz12 (cs := #[.int .i64 0, .int .u64 0, .int .u64 0, .string (⟨#[]⟩ : ByteArray), .slice none 0 0, .bool false, .slice none 0 0]) ?_ 0 _ rfl; (with_reducible repeat (first | refine qz3 ?_ _ | refine qz6 ?_ | refine qz4 ?_ _)); exact BK557.out) Try.underlying38 rfl (by kernel_rfl) (.tmp .nil)))) rfl ?_
                          exact ⟨_, _, by first | rfl | (simp [qz21, qz22] <;> rfl) | (simp [*, qz21, qz22] <;> rfl), by first | exact Kd.R_nil _ _ _ _ _ | exact Kd.N_nil _ _ _ _ _ | exact Kd.V_nil _ _ _ _ _ | exact Kd.Q_nil _ _ _ _ _ | exact Kd.S_nil _ _ _ _ _, by first | exact Kd.R_nil _ _ _ _ _ | exact Kd.N_nil _ _ _ _ _ | exact Kd.V_nil _ _ _ _ _ | exact Kd.Q_nil _ _ _ _ _ | exact Kd.S_nil _ _ _ _ _, by repeat (first | (with_reducible first | exact HB.out | apply qz10 | apply qz5 | apply qz9 | refine qz8 ?_ GE556.out | refine qz8 ?_ GE557.out | refine qz8 ?_ GE558.out) | exact HB.out)⟩
                        · rw [if_neg c139] at H
                          exact absurd H (by simp)
                      · rw [if_neg c138] at H
                        exact absurd H (by simp)
                    · replace c137 := Bool.eq_false_iff.mpr c137
                      subst c137
                      have H1 : (some (0, 0, 0, 0, (⟨#[]⟩ : ByteArray), ([] : List (S74)), false, ([] : List Int), false)) = some (r1, r2, r3, r4, r5, r6, r7, r8, r9) := by rw [if_neg (show ¬ (false = true) by decide)] at H; exact H
                      clear H
                      have H := H1
                      clear H1
                      simp only [Option.some.injEq, Prod.mk.injEq] at H
                      obtain ⟨rfl, rfl, rfl, rfl, rfl, rfl, rfl, rfl, rfl⟩ := H
                      have hnb152 := NB556_557.out
                      have hnc152 := NB557_556.out
                      have hnb153 := NB556_558.out
                      have hnc153 := NB558_556.out
                      have hcz154_0 : wc.cell? ⟨gb556, 0, none⟩ = some (.int .u64 a0_0) := (qz1 BK556.out 0).trans rfl
                      have hcz154_1 : wc.cell? ⟨gb556, 1, none⟩ = some (.int .u64 a0_1) := (qz1 BK556.out 1).trans rfl
                      have hcz154_2 : wc.cell? ⟨gb556, 2, none⟩ = some (.slice A0_2 l0_2.length c0_2) := (qz1 BK556.out 2).trans rfl
                      have hcz154_3 : wc.cell? ⟨gb556, 3, none⟩ = some (.int .i64 a0_3) := (qz1 BK556.out 3).trans rfl
                      have hcz154_4 : wc.cell? ⟨gb556, 4, none⟩ = some (.int .i64 a0_4) := (qz1 BK556.out 4).trans rfl
                      have hcz154_5 : wc.cell? ⟨gb556, 5, none⟩ = some (.bool a0_5) := (qz1 BK556.out 5).trans rfl
                      have hcz154_6 : wc.cell? ⟨gb556, 6, none⟩ = some (.bool a0_6) := (qz1 BK556.out 6).trans rfl
                      have hcz154_7 : wc.cell? ⟨gb556, 7, none⟩ = some (.bool a0_7) := (qz1 BK556.out 7).trans rfl
                      have hcz154_8 : wc.cell? ⟨gb556, 8, none⟩ = some (.slice A0_8 l0_8.length c0_8) := (qz1 BK556.out 8).trans rfl
                      have hfz154_0 := qz0 BK556.out 0
                      have hfz154_1 := qz0 BK556.out 1
                      have hfz154_2 := qz0 BK556.out 2
                      have hfz154_3 := qz0 BK556.out 3
                      have hfz154_4 := qz0 BK556.out 4
                      have hfz154_5 := qz0 BK556.out 5
                      have hfz154_6 := qz0 BK556.out 6
                      have hfz154_7 := qz0 BK556.out 7
                      have hfz154_8 := qz0 BK556.out 8
                      have hnb155 := NB557_558.out
                      have hnc155 := NB558_557.out
                      have hcz156_0 : wc.cell? ⟨gb557, 0, none⟩ = some (.int .i64 0) := (qz1 BK557.out 0).trans rfl
                      have hcz156_1 : wc.cell? ⟨gb557, 1, none⟩ = some (.int .u64 0) := (qz1 BK557.out 1).trans rfl
                      have hcz156_2 : wc.cell? ⟨gb557, 2, none⟩ = some (.int .u64 0) := (qz1 BK557.out 2).trans rfl
                      have hcz156_3 : wc.cell? ⟨gb557, 3, none⟩ = some (.string (⟨#[]⟩ : ByteArray)) := (qz1 BK557.out 3).trans rfl
                      have hcz156_4 : wc.cell? ⟨gb557, 4, none⟩ = some (.slice none 0 0) := (qz1 BK557.out 4).trans rfl
                      have hcz156_5 : wc.cell? ⟨gb557, 5, none⟩ = some (.bool false) := (qz1 BK557.out 5).trans rfl
                      have hcz156_6 : wc.cell? ⟨gb557, 6, none⟩ = some (.slice none 0 0) := (qz1 BK557.out 6).trans rfl
                      have hfz156_0 := qz0 BK557.out 0
                      have hfz156_1 := qz0 BK557.out 1
                      have hfz156_2 := qz0 BK557.out 2
                      have hfz156_3 := qz0 BK557.out 3
                      have hfz156_4 := qz0 BK557.out 4
                      have hfz156_5 := qz0 BK557.out 5
                      have hfz156_6 := qz0 BK557.out 6
                      go_wp2
                      refine bodyPost_ret (qz44 (rs := [.tmp 2, .cell 3 38, .tmp 4]) rfl (by simp) (.tmp (.cell gb557 38 #[.int .i64 0, .int .u64 0, .int .u64 0, .string (⟨#[]⟩ : ByteArray), .slice none 0 0, .bool false, .slice none 0 0] (0, 0) _ rfl (by (with_reducible repeat (first | refine qz3 ?_ _ | refine qz6 ?_ | refine qz4 ?_ _)); refine qz12 (cs := #[.int .i64 0, .int .u64 0, .int .u64 0, .string (⟨#[]⟩ : ByteArray), .slice none 0 0, .bool false, .slice none 0 0]) ?_ 6 _ rfl; (with_reducible repeat (first | refine qz3 ?_ _ | refine qz6 ?_ | refine qz4 ?_ _)); refine qz12 (cs := #[.int .i64 0, .int .u64 0, .int .u64 0, .string (⟨#[]⟩ : ByteArray), .slice none 0 0, .bool false, .slice none 0 0]) ?_ 5 _ rfl; (with_reducible repeat (first | refine qz3 ?_ _ | refine qz6 ?_ | refine qz4 ?_ _)); refine qz12 (cs := #[.int .i64 0, .int .u64 0, .int .u64 0, .string (⟨#[]⟩ : ByteArray), .slice none 0 0, .bool false, .slice none 0 0]) ?_ 4 _ rfl; (with_reducible repeat (first | refine qz3 ?_ _ | refine qz6 ?_ | refine qz4 ?_ _)); refine qz12 (cs := #[.int .i64 0, .int .u64 0, .int .u64 0, .string (⟨#[]⟩ : ByteArray), .slice none 0 0, .bool false, .slice none 0 0]) ?_ 3 _ rfl; (with_reducible repeat (first | refine qz3 ?_ _ | refine qz6 ?_ | refine qz4 ?_ _)); refine qz12 (cs := #[.int .i64 0, .int .u64 0, .int .u64 0, .string (⟨#[]⟩ : ByteArray), .slice none 0 0, .bool false, .slice none 0 0]) ?_ 2 _ rfl; (with_reducible repeat (first | refine qz3 ?_ _ | refine qz6 ?_ | refine qz4 ?_ _)); refine qz12 (cs := #[.int .i64 0, .int .u64 0, .int .u64 0, .string (⟨#[]⟩ : ByteArray), .slice none 0 0, .bool false, .slice none 0 0]) ?_ 1 _ rfl; (with_reducible repeat (first | refine qz3 ?_ _ | refine qz6 ?_ | refine qz4 ?_ _)); refine qz12 (cs := #[.int .i64 0, .int .u64 0, .int .u64 0, .string (⟨#[]⟩ : ByteArray), .slice none 0 0, .bool false, .slice none 0 0]) ?_ 0 _ rfl; (with_reducible repeat (first | refine qz3 ?_ _ | refine qz6 ?_ | refine qz4 ?_ _)); exact BK557.out) Try.underlying38 rfl (by kernel_rfl) (.tmp .nil)))) rfl ?_
                      exact ⟨_, _, by first | rfl | (simp [qz21, qz22] <;> rfl) | (simp [*, qz21, qz22] <;> rfl), by first | exact Kd.R_nil _ _ _ _ _ | exact Kd.N_nil _ _ _ _ _ | exact Kd.V_nil _ _ _ _ _ | exact Kd.Q_nil _ _ _ _ _ | exact Kd.S_nil _ _ _ _ _, by first | exact Kd.R_nil _ _ _ _ _ | exact Kd.N_nil _ _ _ _ _ | exact Kd.V_nil _ _ _ _ _ | exact Kd.Q_nil _ _ _ _ _ | exact Kd.S_nil _ _ _ _ _, by repeat (first | (with_reducible first | exact HB.out | apply qz10 | apply qz5 | apply qz9 | refine qz8 ?_ GE556.out | refine qz8 ?_ GE557.out | refine qz8 ?_ GE558.out) | exact HB.out)⟩
                  · rw [if_neg c136] at H
                    have c136b0 : (a0_3 == 4) = false := beq_eq_false_iff_ne.mpr c136
                    have c136b1 : (a0_3 != 4) = true := bne_iff_ne.mpr c136
                    simp only [Option.some.injEq, Prod.mk.injEq] at H
                    obtain ⟨rfl, rfl, rfl, rfl, rfl, rfl, rfl, rfl, rfl⟩ := H
                    have hnb157 := NB556_557.out
                    have hnc157 := NB557_556.out
                    have hnb158 := NB556_558.out
                    have hnc158 := NB558_556.out
                    have hcz159_0 : wc.cell? ⟨gb556, 0, none⟩ = some (.int .u64 a0_0) := (qz1 BK556.out 0).trans rfl
                    have hcz159_1 : wc.cell? ⟨gb556, 1, none⟩ = some (.int .u64 a0_1) := (qz1 BK556.out 1).trans rfl
                    have hcz159_2 : wc.cell? ⟨gb556, 2, none⟩ = some (.slice A0_2 l0_2.length c0_2) := (qz1 BK556.out 2).trans rfl
                    have hcz159_3 : wc.cell? ⟨gb556, 3, none⟩ = some (.int .i64 a0_3) := (qz1 BK556.out 3).trans rfl
                    have hcz159_4 : wc.cell? ⟨gb556, 4, none⟩ = some (.int .i64 a0_4) := (qz1 BK556.out 4).trans rfl
                    have hcz159_5 : wc.cell? ⟨gb556, 5, none⟩ = some (.bool a0_5) := (qz1 BK556.out 5).trans rfl
                    have hcz159_6 : wc.cell? ⟨gb556, 6, none⟩ = some (.bool a0_6) := (qz1 BK556.out 6).trans rfl
                    have hcz159_7 : wc.cell? ⟨gb556, 7, none⟩ = some (.bool a0_7) := (qz1 BK556.out 7).trans rfl
                    have hcz159_8 : wc.cell? ⟨gb556, 8, none⟩ = some (.slice A0_8 l0_8.length c0_8) := (qz1 BK556.out 8).trans rfl
                    have hfz159_0 := qz0 BK556.out 0
                    have hfz159_1 := qz0 BK556.out 1
                    have hfz159_2 := qz0 BK556.out 2
                    have hfz159_3 := qz0 BK556.out 3
                    have hfz159_4 := qz0 BK556.out 4
                    have hfz159_5 := qz0 BK556.out 5
                    have hfz159_6 := qz0 BK556.out 6
                    have hfz159_7 := qz0 BK556.out 7
                    have hfz159_8 := qz0 BK556.out 8
                    have hnb160 := NB557_558.out
                    have hnc160 := NB558_557.out
                    have hcz161_0 : wc.cell? ⟨gb557, 0, none⟩ = some (.int .i64 0) := (qz1 BK557.out 0).trans rfl
                    have hcz161_1 : wc.cell? ⟨gb557, 1, none⟩ = some (.int .u64 0) := (qz1 BK557.out 1).trans rfl
                    have hcz161_2 : wc.cell? ⟨gb557, 2, none⟩ = some (.int .u64 0) := (qz1 BK557.out 2).trans rfl
                    have hcz161_3 : wc.cell? ⟨gb557, 3, none⟩ = some (.string (⟨#[]⟩ : ByteArray)) := (qz1 BK557.out 3).trans rfl
                    have hcz161_4 : wc.cell? ⟨gb557, 4, none⟩ = some (.slice none 0 0) := (qz1 BK557.out 4).trans rfl
                    have hcz161_5 : wc.cell? ⟨gb557, 5, none⟩ = some (.bool false) := (qz1 BK557.out 5).trans rfl
                    have hcz161_6 : wc.cell? ⟨gb557, 6, none⟩ = some (.slice none 0 0) := (qz1 BK557.out 6).trans rfl
                    have hfz161_0 := qz0 BK557.out 0
                    have hfz161_1 := qz0 BK557.out 1
                    have hfz161_2 := qz0 BK557.out 2
                    have hfz161_3 := qz0 BK557.out 3
                    have hfz161_4 := qz0 BK557.out 4
                    have hfz161_5 := qz0 BK557.out 5
                    have hfz161_6 := qz0 BK557.out 6
                    go_wp2
                    refine bodyPost_ret (qz44 (rs := [.tmp 2, .cell 3 38, .tmp 4]) rfl (by simp) (.tmp (.cell gb557 38 #[.int .i64 0, .int .u64 0, .int .u64 0, .string (⟨#[]⟩ : ByteArray), .slice none 0 0, .bool false, .slice none 0 0] (0, 0) _ rfl (by (with_reducible repeat (first | refine qz3 ?_ _ | refine qz6 ?_ | refine qz4 ?_ _)); refine qz12 (cs := #[.int .i64 0, .int .u64 0, .int .u64 0, .string (⟨#[]⟩ : ByteArray), .slice none 0 0, .bool false, .slice none 0 0]) ?_ 6 _ rfl; (with_reducible repeat (first | refine qz3 ?_ _ | refine qz6 ?_ | refine qz4 ?_ _)); refine qz12 (cs := #[.int .i64 0, .int .u64 0, .int .u64 0, .string (⟨#[]⟩ : ByteArray), .slice none 0 0, .bool false, .slice none 0 0]) ?_ 5 _ rfl; (with_reducible repeat (first | refine qz3 ?_ _ | refine qz6 ?_ | refine qz4 ?_ _)); refine qz12 (cs := #[.int .i64 0, .int .u64 0, .int .u64 0, .string (⟨#[]⟩ : ByteArray), .slice none 0 0, .bool false, .slice none 0 0]) ?_ 4 _ rfl; (with_reducible repeat (first | refine qz3 ?_ _ | refine qz6 ?_ | refine qz4 ?_ _)); refine qz12 (cs := #[.int .i64 0, .int .u64 0, .int .u64 0, .string (⟨#[]⟩ : ByteArray), .slice none 0 0, .bool false, .slice none 0 0]) ?_ 3 _ rfl; (with_reducible repeat (first | refine qz3 ?_ _ | refine qz6 ?_ | refine qz4 ?_ _)); refine qz12 (cs := #[.int .i64 0, .int .u64 0, .int .u64 0, .string (⟨#[]⟩ : ByteArray), .slice none 0 0, .bool false, .slice none 0 0]) ?_ 2 _ rfl; (with_reducible repeat (first | refine qz3 ?_ _ | refine qz6 ?_ | refine qz4 ?_ _)); refine qz12 (cs := #[.int .i64 0, .int .u64 0, .int .u64 0, .string (⟨#[]⟩ : ByteArray), .slice none 0 0, .bool false, .slice none 0 0]) ?_ 1 _ rfl; (with_reducible repeat (first | refine qz3 ?_ _ | refine qz6 ?_ | refine qz4 ?_ _)); refine qz12 (cs := #[.int .i64 0, .int .u64 0, .int .u64 0, .string (⟨#[]⟩ : ByteArray), .slice none 0 0, .bool false, .slice none 0 0]) ?_ 0 _ rfl; (with_reducible repeat (first | refine qz3 ?_ _ | refine qz6 ?_ | refine qz4 ?_ _)); exact BK557.out) Try.underlying38 rfl (by kernel_rfl) (.tmp .nil)))) rfl ?_
                    exact ⟨_, _, by first | rfl | (simp [qz21, qz22] <;> rfl) | (simp [*, qz21, qz22] <;> rfl), by first | exact Kd.R_nil _ _ _ _ _ | exact Kd.N_nil _ _ _ _ _ | exact Kd.V_nil _ _ _ _ _ | exact Kd.Q_nil _ _ _ _ _ | exact Kd.S_nil _ _ _ _ _, by first | exact Kd.R_nil _ _ _ _ _ | exact Kd.N_nil _ _ _ _ _ | exact Kd.V_nil _ _ _ _ _ | exact Kd.Q_nil _ _ _ _ _ | exact Kd.S_nil _ _ _ _ _, by repeat (first | (with_reducible first | exact HB.out | apply qz10 | apply qz5 | apply qz9 | refine qz8 ?_ GE556.out | refine qz8 ?_ GE557.out | refine qz8 ?_ GE558.out) | exact HB.out)⟩
end Go.Proofs.Ytkennobdoldlkaa.PAll
end
