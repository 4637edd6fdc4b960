/- Joined texts of the claim DriveSteps (part 44): contracts of functions and plain laws. -/
import Derived.Test.YtkennobdoldlkaaJDriveSteps15
import Derived.Test.YtkennobdoldlkaaJDriveSteps42
import Derived.Test.YtkennobdoldlkaaJDriveSteps43
set_option linter.unusedVariables false
set_option linter.unusedSimpArgs false
section
namespace Go.Proofs.Ytkennobdoldlkaa.PAll
open Go.RowKit Go.Proofs.YtkennobdoldlkaaW.PrintWords Go.Proofs.YtkennobdoldlkaaW.PrintLast Go.Proofs.YtkennobdoldlkaaW.PrintMore
attribute [local go_sem] qz51 qz52 max_two min_two qz45 qz46 qz53 qz54
attribute [local go_sem high] eqA24 eqA51
mutual
def ferruleref20_Same.j0 : Nat → Bool → Int → Int → List (S53) → Int → Int → Bool → Bool → Bool → List (S51) → Int → Int → List (S53) → Int → Int → Bool → Bool → Bool → List (S51) → Option (Bool)
  | 0, _, _, _, _, _, _, _, _, _, _, _, _, _, _, _, _, _, _, _ => none
  | k + 1, x68, x581000, x581001, x581002, x581003, x581004, x581005, x581006, x581007, x581008, x582000, x582001, x582002, x582003, x582004, x582005, x582006, x582007, x582008 => if x68 = true then (some false) else (ferruleref20_Same.l0 k 0 x581000 x581001 x581002 x581003 x581004 x581005 x581006 x581007 x581008 x582000 x582001 x582002 x582003 x582004 x582005 x582006 x582007 x582008)
def ferruleref20_Same.l0 : Nat → Int → Int → Int → List (S53) → Int → Int → Bool → Bool → Bool → List (S51) → Int → Int → List (S53) → Int → Int → Bool → Bool → Bool → List (S51) → Option (Bool)
  | 0, _, _, _, _, _, _, _, _, _, _, _, _, _, _, _, _, _, _, _ => none
  | k + 1, x6, x581000, x581001, x581002, x581003, x581004, x581005, x581006, x581007, x581008, x582000, x582001, x582002, x582003, x582004, x582005, x582006, x582007, x582008 => if x6 < (x581008.length : Int) then (if 0 ≤ x6 then (if x6 < (x582008.length : Int) then (if (!(((qz33 x581008 x6).f0) == ((qz33 x582008 x6).f0)) || (!((((qz33 x581008 x6).f1).toList) == (((qz33 x582008 x6).f1).toList)) || (!((((qz33 x581008 x6).f2).toList) == (((qz33 x582008 x6).f2).toList)) || (!(((qz33 x581008 x6).f3) == ((qz33 x582008 x6).f3)) || (!(((qz33 x581008 x6).f4) == ((qz33 x582008 x6).f4))))))) = true then (some false) else (ferruleref20_Same.l0 k (wrap64 (x6 + 1)) x581000 x581001 x581002 x581003 x581004 x581005 x581006 x581007 x581008 x582000 x582001 x582002 x582003 x582004 x582005 x582006 x582007 x582008)) else (none)) else (none)) else (some true)
end
def ferruleref20_Same.f (k : Nat) (a0_0 : Int) (a0_1 : Int) (l0_2 : List (S53)) (a0_3 : Int) (a0_4 : Int) (a0_5 : Bool) (a0_6 : Bool) (a0_7 : Bool) (l0_8 : List (S51)) (a1_0 : Int) (a1_1 : Int) (l1_2 : List (S53)) (a1_3 : Int) (a1_4 : Int) (a1_5 : Bool) (a1_6 : Bool) (a1_7 : Bool) (l1_8 : List (S51)) : Option (Bool) := (ferruleref20_SameSteps.f k l0_2 l1_2).bind fun t582 => (if t582 = true then (if (!(a0_0 == a1_0) || (!(a0_1 == a1_1))) = true then (ferruleref20_Same.j0 k true a0_0 a0_1 l0_2 a0_3 a0_4 a0_5 a0_6 a0_7 l0_8 a1_0 a1_1 l1_2 a1_3 a1_4 a1_5 a1_6 a1_7 l1_8) else (if a0_3 = a1_3 then (if a0_4 = a1_4 then (if (a0_5 != a1_5) = true then (ferruleref20_Same.j0 k true a0_0 a0_1 l0_2 a0_3 a0_4 a0_5 a0_6 a0_7 l0_8 a1_0 a1_1 l1_2 a1_3 a1_4 a1_5 a1_6 a1_7 l1_8) else (if (a0_6 != a1_6) = true then (ferruleref20_Same.j0 k true a0_0 a0_1 l0_2 a0_3 a0_4 a0_5 a0_6 a0_7 l0_8 a1_0 a1_1 l1_2 a1_3 a1_4 a1_5 a1_6 a1_7 l1_8) else (if (a0_7 != a1_7) = true then (ferruleref20_Same.j0 k true a0_0 a0_1 l0_2 a0_3 a0_4 a0_5 a0_6 a0_7 l0_8 a1_0 a1_1 l1_2 a1_3 a1_4 a1_5 a1_6 a1_7 l1_8) else (ferruleref20_Same.j0 k ((l0_8.length : Int) != (l1_8.length : Int)) a0_0 a0_1 l0_2 a0_3 a0_4 a0_5 a0_6 a0_7 l0_8 a1_0 a1_1 l1_2 a1_3 a1_4 a1_5 a1_6 a1_7 l1_8)))) else (ferruleref20_Same.j0 k true a0_0 a0_1 l0_2 a0_3 a0_4 a0_5 a0_6 a0_7 l0_8 a1_0 a1_1 l1_2 a1_3 a1_4 a1_5 a1_6 a1_7 l1_8)) else (ferruleref20_Same.j0 k true a0_0 a0_1 l0_2 a0_3 a0_4 a0_5 a0_6 a0_7 l0_8 a1_0 a1_1 l1_2 a1_3 a1_4 a1_5 a1_6 a1_7 l1_8))) else (ferruleref20_Same.j0 k true a0_0 a0_1 l0_2 a0_3 a0_4 a0_5 a0_6 a0_7 l0_8 a1_0 a1_1 l1_2 a1_3 a1_4 a1_5 a1_6 a1_7 l1_8))
set_option maxHeartbeats 8000000 in
set_option maxRecDepth 100000 in
theorem ferruleref20_Same.calls (k : Nat) (a0_0 : Int) (a0_1 : Int) (A0_2 : Option Addr) (c0_2 : Nat) (l0_2 : List (S53)) (a0_3 : Int) (a0_4 : Int) (a0_5 : Bool) (a0_6 : Bool) (a0_7 : Bool) (A0_8 : Option Addr) (c0_8 : Nat) (l0_8 : List (S51)) (a1_0 : Int) (a1_1 : Int) (A1_2 : Option Addr) (c1_2 : Nat) (l1_2 : List (S53)) (a1_3 : Int) (a1_4 : Int) (a1_5 : Bool) (a1_6 : Bool) (a1_7 : Bool) (A1_8 : Option Addr) (c1_8 : Nat) (l1_8 : List (S51)) (r : Bool) (w : World) (hr0_2 : Kd.C k53 w A0_2 l0_2.length l0_2) (hc0_2 : l0_2.length ≤ c0_2) (hr0_8 : Kd.C k51 w A0_8 l0_8.length l0_8) (hc0_8 : l0_8.length ≤ c0_8) (hr1_2 : Kd.C k53 w A1_2 l1_2.length l1_2) (hc1_2 : l1_2.length ≤ c1_2) (hr1_8 : Kd.C k51 w A1_8 l1_8.length l1_8) (hc1_8 : l1_8.length ≤ c1_8) (h : ferruleref20_Same.f k a0_0 a0_1 l0_2 a0_3 a0_4 a0_5 a0_6 a0_7 l0_8 a1_0 a1_1 l1_2 a1_3 a1_4 a1_5 a1_6 a1_7 l1_8 = some r) :
    Calls Try.prog 13 #[.agg #[.int .u64 a0_0, .int .u64 a0_1, .slice A0_2 l0_2.length c0_2, .int .i64 a0_3, .int .i64 a0_4, .bool a0_5, .bool a0_6, .bool a0_7, .slice A0_8 l0_8.length c0_8], .agg #[.int .u64 a1_0, .int .u64 a1_1, .slice A1_2 l1_2.length c1_2, .int .i64 a1_3, .int .i64 a1_4, .bool a1_5, .bool a1_6, .bool a1_7, .slice A1_8 l1_8.length c1_8]] w fun e w' => e = .returned (.bool r) ∧ Below w.heap.size w w' := by
  have hu30 := Try.underlying30
  have hu24 := Try.underlying24
  have hu51 := Try.underlying51
  have HR0_2 := qza.mk hr0_2
  have HC0_2 := qza.mk hc0_2
  clear hr0_2 hc0_2
  have HR0_8 := qza.mk hr0_8
  have HC0_8 := qza.mk hc0_8
  clear hr0_8 hc0_8
  have HR1_2 := qza.mk hr1_2
  have HC1_2 := qza.mk hc1_2
  clear hr1_2 hc1_2
  have HR1_8 := qza.mk hr1_8
  have HC1_8 := qza.mk hc1_8
  clear hr1_8 hc1_8
  have HB := qza.mk (Below.refl w.heap.size w)
  have H : ((ferruleref20_SameSteps.f k l0_2 l1_2).bind fun t582 => (if t582 = true then (if (!(a0_0 == a1_0) || (!(a0_1 == a1_1))) = true then (ferruleref20_Same.j0 k true a0_0 a0_1 l0_2 a0_3 a0_4 a0_5 a0_6 a0_7 l0_8 a1_0 a1_1 l1_2 a1_3 a1_4 a1_5 a1_6 a1_7 l1_8) else (if a0_3 = a1_3 then (if a0_4 = a1_4 then (if (a0_5 != a1_5) = true then (ferruleref20_Same.j0 k true a0_0 a0_1 l0_2 a0_3 a0_4 a0_5 a0_6 a0_7 l0_8 a1_0 a1_1 l1_2 a1_3 a1_4 a1_5 a1_6 a1_7 l1_8) else (if (a0_6 != a1_6) = true then (ferruleref20_Same.j0 k true a0_0 a0_1 l0_2 a0_3 a0_4 a0_5 a0_6 a0_7 l0_8 a1_0 a1_1 l1_2 a1_3 a1_4 a1_5 a1_6 a1_7 l1_8) else (if (a0_7 != a1_7) = true then (ferruleref20_Same.j0 k true a0_0 a0_1 l0_2 a0_3 a0_4 a0_5 a0_6 a0_7 l0_8 a1_0 a1_1 l1_2 a1_3 a1_4 a1_5 a1_6 a1_7 l1_8) else (ferruleref20_Same.j0 k ((l0_8.length : Int) != (l1_8.length : Int)) a0_0 a0_1 l0_2 a0_3 a0_4 a0_5 a0_6 a0_7 l0_8 a1_0 a1_1 l1_2 a1_3 a1_4 a1_5 a1_6 a1_7 l1_8)))) else (ferruleref20_Same.j0 k true a0_0 a0_1 l0_2 a0_3 a0_4 a0_5 a0_6 a0_7 l0_8 a1_0 a1_1 l1_2 a1_3 a1_4 a1_5 a1_6 a1_7 l1_8)) else (ferruleref20_Same.j0 k true a0_0 a0_1 l0_2 a0_3 a0_4 a0_5 a0_6 a0_7 l0_8 a1_0 a1_1 l1_2 a1_3 a1_4 a1_5 a1_6 a1_7 l1_8))) else (ferruleref20_Same.j0 k true a0_0 a0_1 l0_2 a0_3 a0_4 a0_5 a0_6 a0_7 l0_8 a1_0 a1_1 l1_2 a1_3 a1_4 a1_5 a1_6 a1_7 l1_8))) = some r := h
  clear h
  replace H := Option.bind_eq_some_iff.mp H
  obtain ⟨t582, A30, H⟩ := H
  replace H : (if t582 = true then (if (!(a0_0 == a1_0) || (!(a0_1 == a1_1))) = true then (ferruleref20_Same.j0 k true a0_0 a0_1 l0_2 a0_3 a0_4 a0_5 a0_6 a0_7 l0_8 a1_0 a1_1 l1_2 a1_3 a1_4 a1_5 a1_6 a1_7 l1_8) else (if a0_3 = a1_3 then (if a0_4 = a1_4 then (if (a0_5 != a1_5) = true then (ferruleref20_Same.j0 k true a0_0 a0_1 l0_2 a0_3 a0_4 a0_5 a0_6 a0_7 l0_8 a1_0 a1_1 l1_2 a1_3 a1_4 a1_5 a1_6 a1_7 l1_8) else (if (a0_6 != a1_6) = true then (ferruleref20_Same.j0 k true a0_0 a0_1 l0_2 a0_3 a0_4 a0_5 a0_6 a0_7 l0_8 a1_0 a1_1 l1_2 a1_3 a1_4 a1_5 a1_6 a1_7 l1_8) else (if (a0_7 != a1_7) = true then (ferruleref20_Same.j0 k true a0_0 a0_1 l0_2 a0_3 a0_4 a0_5 a0_6 a0_7 l0_8 a1_0 a1_1 l1_2 a1_3 a1_4 a1_5 a1_6 a1_7 l1_8) else (ferruleref20_Same.j0 k ((l0_8.length : Int) != (l1_8.length : Int)) a0_0 a0_1 l0_2 a0_3 a0_4 a0_5 a0_6 a0_7 l0_8 a1_0 a1_1 l1_2 a1_3 a1_4 a1_5 a1_6 a1_7 l1_8)))) else (ferruleref20_Same.j0 k true a0_0 a0_1 l0_2 a0_3 a0_4 a0_5 a0_6 a0_7 l0_8 a1_0 a1_1 l1_2 a1_3 a1_4 a1_5 a1_6 a1_7 l1_8)) else (ferruleref20_Same.j0 k true a0_0 a0_1 l0_2 a0_3 a0_4 a0_5 a0_6 a0_7 l0_8 a1_0 a1_1 l1_2 a1_3 a1_4 a1_5 a1_6 a1_7 l1_8))) else (ferruleref20_Same.j0 k true a0_0 a0_1 l0_2 a0_3 a0_4 a0_5 a0_6 a0_7 l0_8 a1_0 a1_1 l1_2 a1_3 a1_4 a1_5 a1_6 a1_7 l1_8)) = some r := H
  have A3 := qza.mk A30
  clear A30
  have HC4 := qza.mk H
  clear H
  go_enter Try.func13, Try.ntmps13
  go_upto_region 2 with (first | ((with_reducible refine qz31 (N := 2) rfl ?_); (try (refine qz55 (by rfl) ?_; dsimp only)); refine qz32 ?hg (N := 2) ?hd (cs := #[.int .u64 a0_0, .int .u64 a0_1, .slice A0_2 l0_2.length c0_2, .int .i64 a0_3, .int .i64 a0_4, .bool a0_5, .bool a0_6, .bool a0_7, .slice A0_8 l0_8.length c0_8]) (t := 30) ?hr ?_; (case hd => rfl); (case hg => rfl); (case hr => first | (go_simp; done) | (go_simp; rfl)); intro gb580 hg w5 hbox hb; have n0_ := qza.mk (qz25 (by repeat (first | (with_reducible first | exact HB.out | apply qz10 | apply qz5 | apply qz9) | exact HB.out)) hb); have n1_ := qza.mk (hbox); have n2_ := qza.mk ((by rw [hg]; exact (qz15 (by repeat (first | (with_reducible first | exact HB.out | apply qz10 | apply qz5 | apply qz9) | exact HB.out))) : w.heap.size ≤ gb580)); have n3_ := qza.mk ((by rw [hg]; exact (qz15 (by repeat (first | (with_reducible first | exact HB.out | apply qz10 | apply qz5 | apply qz9) | exact HB.out))) : w.heap.size ≤ gb580)); clear HB; have HB := n0_; have BK580 := n1_; have GW580 := n2_; have GE580 := n3_; clear n0_ n1_ n2_ n3_; clear hb hbox hg) | ((with_reducible refine qz31 (N := 3) rfl ?_); (try (refine qz55 (by rfl) ?_; dsimp only)); refine qz32 ?hg (N := 3) ?hd (cs := #[.int .u64 a1_0, .int .u64 a1_1, .slice A1_2 l1_2.length c1_2, .int .i64 a1_3, .int .i64 a1_4, .bool a1_5, .bool a1_6, .bool a1_7, .slice A1_8 l1_8.length c1_8]) (t := 30) ?hr ?_; (case hd => rfl); (case hg => rfl); (case hr => first | (go_simp; done) | (go_simp; rfl)); intro gb581 hg w6 hbox hb; have n0_ := qza.mk (qz35 (g := gb580) (o := .cells #[.int .u64 a0_0, .int .u64 a0_1, .slice A0_2 l0_2.length c0_2, .int .i64 a0_3, .int .i64 a0_4, .bool a0_5, .bool a0_6, .bool a0_7, .slice A0_8 l0_8.length c0_8] 30 (0, 0)) (by (with_reducible repeat (first | refine qz3 ?_ _ | refine qz6 ?_ | refine qz4 ?_ _)); exact BK580.out) hb); have n1_ := qza.mk (qz25 (by repeat (first | (with_reducible first | exact HB.out | apply qz10 | apply qz5 | apply qz9 | refine qz8 ?_ GE580.out) | exact HB.out)) hb); have n2_ := qza.mk (hbox); have n3_ := qza.mk ((by rw [hg]; exact (qz15 (by repeat (first | (with_reducible first | exact HB.out | apply qz10 | apply qz5 | apply qz9 | refine qz8 ?_ GE580.out) | exact HB.out))) : w.heap.size ≤ gb581)); have n4_ := qza.mk ((by rw [hg]; exact (qz15 (by repeat (first | (with_reducible first | exact HB.out | apply qz10 | apply qz5 | apply qz9 | refine qz8 ?_ GE580.out) | exact HB.out))) : w.heap.size ≤ gb581)); have n5_ := qza.mk ((by rw [hg]; exact Nat.ne_of_lt (qz36 (g := gb580) (o := .cells #[.int .u64 a0_0, .int .u64 a0_1, .slice A0_2 l0_2.length c0_2, .int .i64 a0_3, .int .i64 a0_4, .bool a0_5, .bool a0_6, .bool a0_7, .slice A0_8 l0_8.length c0_8] 30 (0, 0)) (by (with_reducible repeat (first | refine qz3 ?_ _ | refine qz6 ?_ | refine qz4 ?_ _)); exact BK580.out)) : gb580 ≠ gb581)); have n6_ := qza.mk ((by rw [hg]; exact Nat.ne_of_gt (qz36 (g := gb580) (o := .cells #[.int .u64 a0_0, .int .u64 a0_1, .slice A0_2 l0_2.length c0_2, .int .i64 a0_3, .int .i64 a0_4, .bool a0_5, .bool a0_6, .bool a0_7, .slice A0_8 l0_8.length c0_8] 30 (0, 0)) (by (with_reducible repeat (first | refine qz3 ?_ _ | refine qz6 ?_ | refine qz4 ?_ _)); exact BK580.out)) : gb581 ≠ gb580)); clear BK580; clear HB; have BK580 := n0_; have HB := n1_; have BK581 := n2_; have GW581 := n3_; have GE581 := n4_; have NB580_581 := n5_; have NB581_580 := n6_; clear n0_ n1_ n2_ n3_ n4_ n5_ n6_; clear hb hbox hg; have hnb7 := NB580_581.out; have hnc7 := NB581_580.out; have hcz8_0 : w6.cell? ⟨gb580, 0, none⟩ = some (.int .u64 a0_0) := (qz1 BK580.out 0).trans rfl; have hcz8_1 : w6.cell? ⟨gb580, 1, none⟩ = some (.int .u64 a0_1) := (qz1 BK580.out 1).trans rfl; have hcz8_2 : w6.cell? ⟨gb580, 2, none⟩ = some (.slice A0_2 l0_2.length c0_2) := (qz1 BK580.out 2).trans rfl; have hcz8_3 : w6.cell? ⟨gb580, 3, none⟩ = some (.int .i64 a0_3) := (qz1 BK580.out 3).trans rfl; have hcz8_4 : w6.cell? ⟨gb580, 4, none⟩ = some (.int .i64 a0_4) := (qz1 BK580.out 4).trans rfl; have hcz8_5 : w6.cell? ⟨gb580, 5, none⟩ = some (.bool a0_5) := (qz1 BK580.out 5).trans rfl; have hcz8_6 : w6.cell? ⟨gb580, 6, none⟩ = some (.bool a0_6) := (qz1 BK580.out 6).trans rfl; have hcz8_7 : w6.cell? ⟨gb580, 7, none⟩ = some (.bool a0_7) := (qz1 BK580.out 7).trans rfl; have hcz8_8 : w6.cell? ⟨gb580, 8, none⟩ = some (.slice A0_8 l0_8.length c0_8) := (qz1 BK580.out 8).trans rfl; have hfz8_0 := qz0 BK580.out 0; have hfz8_1 := qz0 BK580.out 1; have hfz8_2 := qz0 BK580.out 2; have hfz8_3 := qz0 BK580.out 3; have hfz8_4 := qz0 BK580.out 4; have hfz8_5 := qz0 BK580.out 5; have hfz8_6 := qz0 BK580.out 6; have hfz8_7 := qz0 BK580.out 7; have hfz8_8 := qz0 BK580.out 8; have hcz9_0 : w6.cell? ⟨gb581, 0, none⟩ = some (.int .u64 a1_0) := (qz1 BK581.out 0).trans rfl; have hcz9_1 : w6.cell? ⟨gb581, 1, none⟩ = some (.int .u64 a1_1) := (qz1 BK581.out 1).trans rfl; have hcz9_2 : w6.cell? ⟨gb581, 2, none⟩ = some (.slice A1_2 l1_2.length c1_2) := (qz1 BK581.out 2).trans rfl; have hcz9_3 : w6.cell? ⟨gb581, 3, none⟩ = some (.int .i64 a1_3) := (qz1 BK581.out 3).trans rfl; have hcz9_4 : w6.cell? ⟨gb581, 4, none⟩ = some (.int .i64 a1_4) := (qz1 BK581.out 4).trans rfl; have hcz9_5 : w6.cell? ⟨gb581, 5, none⟩ = some (.bool a1_5) := (qz1 BK581.out 5).trans rfl; have hcz9_6 : w6.cell? ⟨gb581, 6, none⟩ = some (.bool a1_6) := (qz1 BK581.out 6).trans rfl; have hcz9_7 : w6.cell? ⟨gb581, 7, none⟩ = some (.bool a1_7) := (qz1 BK581.out 7).trans rfl; have hcz9_8 : w6.cell? ⟨gb581, 8, none⟩ = some (.slice A1_8 l1_8.length c1_8) := (qz1 BK581.out 8).trans rfl; have hfz9_0 := qz0 BK581.out 0; have hfz9_1 := qz0 BK581.out 1; have hfz9_2 := qz0 BK581.out 2; have hfz9_3 := qz0 BK581.out 3; have hfz9_4 := qz0 BK581.out 4; have hfz9_5 := qz0 BK581.out 5; have hfz9_6 := qz0 BK581.out 6; have hfz9_7 := qz0 BK581.out 7; have hfz9_8 := qz0 BK581.out 8) | (go_at_call 31; (with_reducible refine (ferruleref20_SameSteps.calls k _ _ l0_2 _ _ l1_2 t582 _ ?side1 ?side2 ?side3 ?side4 A3.out).mono ?_); (case side1 => repeat (first | exact (Kd.C_below HR0_2.out HB.out) | (with_reducible refine Kd.C_alloc ?_ _) | (with_reducible refine Kd.C_drewN ?_ _) | (with_reducible refine Kd.C_drew ?_))); (case side2 => exact HC0_2.out); (case side3 => repeat (first | exact (Kd.C_below HR1_2.out HB.out) | (with_reducible refine Kd.C_alloc ?_ _) | (with_reducible refine Kd.C_drewN ?_ _) | (with_reducible refine Kd.C_drew ?_))); (case side4 => exact HC1_2.out); rintro e w' ⟨rfl, ⟨nd, rfl⟩⟩; (try first | exact ⟨rfl, _, World.drewN_drewN _ _ _⟩ | exact ⟨rfl, _, Eq.trans (World.drewN_drewN _ _ _) (congrArg (World.drewN _) (Nat.add_assoc _ _ _))⟩)))
  repeat (go_quiet (first | ((with_reducible refine qz31 (N := 2) rfl ?_); (try (refine qz55 (by rfl) ?_; dsimp only)); refine qz32 ?hg (N := 2) ?hd (cs := #[.int .u64 a0_0, .int .u64 a0_1, .slice A0_2 l0_2.length c0_2, .int .i64 a0_3, .int .i64 a0_4, .bool a0_5, .bool a0_6, .bool a0_7, .slice A0_8 l0_8.length c0_8]) (t := 30) ?hr ?_; (case hd => rfl); (case hg => rfl); (case hr => first | (go_simp; done) | (go_simp; rfl)); intro gb580 hg w5 hbox hb; have n0_ := qza.mk (qz25 (by repeat (first | (with_reducible first | exact HB.out | apply qz10 | apply qz5 | apply qz9) | exact HB.out)) hb); have n1_ := qza.mk (hbox); have n2_ := qza.mk ((by rw [hg]; exact (qz15 (by repeat (first | (with_reducible first | exact HB.out | apply qz10 | apply qz5 | apply qz9) | exact HB.out))) : w.heap.size ≤ gb580)); have n3_ := qza.mk ((by rw [hg]; exact (qz15 (by repeat (first | (with_reducible first | exact HB.out | apply qz10 | apply qz5 | apply qz9) | exact HB.out))) : w.heap.size ≤ gb580)); clear HB; have HB := n0_; have BK580 := n1_; have GW580 := n2_; have GE580 := n3_; clear n0_ n1_ n2_ n3_; clear hb hbox hg) | ((with_reducible refine qz31 (N := 3) rfl ?_); (try (refine qz55 (by rfl) ?_; dsimp only)); refine qz32 ?hg (N := 3) ?hd (cs := #[.int .u64 a1_0, .int .u64 a1_1, .slice A1_2 l1_2.length c1_2, .int .i64 a1_3, .int .i64 a1_4, .bool a1_5, .bool a1_6, .bool a1_7, .slice A1_8 l1_8.length c1_8]) (t := 30) ?hr ?_; (case hd => rfl); (case hg => rfl); (case hr => first | (go_simp; done) | (go_simp; rfl)); intro gb581 hg w6 hbox hb; have n0_ := qza.mk (qz35 (g := gb580) (o := .cells #[.int .u64 a0_0, .int .u64 a0_1, .slice A0_2 l0_2.length c0_2, .int .i64 a0_3, .int .i64 a0_4, .bool a0_5, .bool a0_6, .bool a0_7, .slice A0_8 l0_8.length c0_8] 30 (0, 0)) (by (with_reducible repeat (first | refine qz3 ?_ _ | refine qz6 ?_ | refine qz4 ?_ _)); exact BK580.out) hb); have n1_ := qza.mk (qz25 (by repeat (first | (with_reducible first | exact HB.out | apply qz10 | apply qz5 | apply qz9 | refine qz8 ?_ GE580.out) | exact HB.out)) hb); have n2_ := qza.mk (hbox); have n3_ := qza.mk ((by rw [hg]; exact (qz15 (by repeat (first | (with_reducible first | exact HB.out | apply qz10 | apply qz5 | apply qz9 | refine qz8 ?_ GE580.out) | exact HB.out))) : w.heap.size ≤ gb581)); have n4_ := qza.mk ((by rw [hg]; exact (qz15 (by repeat (first | (with_reducible first | exact HB.out | apply qz10 | apply qz5 | apply qz9 | refine qz8 ?_ GE580.out) | exact HB.out))) : w.heap.size ≤ gb581)); have n5_ := qza.mk ((by rw [hg]; exact Nat.ne_of_lt (qz36 (g := gb580) (o := .cells #[.int .u64 a0_0, .int .u64 a0_1, .slice A0_2 l0_2.length c0_2, .int .i64 a0_3, .int .i64 a0_4, .bool a0_5, .bool a0_6, .bool a0_7, .slice A0_8 l0_8.length c0_8] 30 (0, 0)) (by (with_reducible repeat (first | refine qz3 ?_ _ | refine qz6 ?_ | refine qz4 ?_ _)); exact BK580.out)) : gb580 ≠ gb581)); have n6_ := qza.mk ((by rw [hg]; exact Nat.ne_of_gt (qz36 (g := gb580) (o := .cells #[.int .u64 a0_0, .int .u64 a0_1, .slice A0_2 l0_2.length c0_2, .int .i64 a0_3, .int .i64 a0_4, .bool a0_5, .bool a0_6, .bool a0_7, .slice A0_8 l0_8.length c0_8] 30 (0, 0)) (by (with_reducible repeat (first | refine qz3 ?_ _ | refine qz6 ?_ | refine qz4 ?_ _)); exact BK580.out)) : gb581 ≠ gb580)); clear BK580; clear HB; have BK580 := n0_; have HB := n1_; have BK581 := n2_; have GW581 := n3_; have GE581 := n4_; have NB580_581 := n5_; have NB581_580 := n6_; clear n0_ n1_ n2_ n3_ n4_ n5_ n6_; clear hb hbox hg; have hnb7 := NB580_581.out; have hnc7 := NB581_580.out; have hcz8_0 : w6.cell? ⟨gb580, 0, none⟩ = some (.int .u64 a0_0) := (qz1 BK580.out 0).trans rfl; have hcz8_1 : w6.cell? ⟨gb580, 1, none⟩ = some (.int .u64 a0_1) := (qz1 BK580.out 1).trans rfl; have hcz8_2 : w6.cell? ⟨gb580, 2, none⟩ = some (.slice A0_2 l0_2.length c0_2) := (qz1 BK580.out 2).trans rfl; have hcz8_3 : w6.cell? ⟨gb580, 3, none⟩ = some (.int .i64 a0_3) := (qz1 BK580.out 3).trans rfl; have hcz8_4 : w6.cell? ⟨gb580, 4, none⟩ = some (.int .i64 a0_4) := (qz1 BK580.out 4).trans rfl; have hcz8_5 : w6.cell? ⟨gb580, 5, none⟩ = some (.bool a0_5) := (qz1 BK580.out 5).trans rfl; have hcz8_6 : w6.cell? ⟨gb580, 6, none⟩ = some (.bool a0_6) := (qz1 BK580.out 6).trans rfl; have hcz8_7 : w6.cell? ⟨gb580, 7, none⟩ = some (.bool a0_7) := (qz1 BK580.out 7).trans rfl; have hcz8_8 : w6.cell? ⟨gb580, 8, none⟩ = some (.slice A0_8 l0_8.length c0_8) := (qz1 BK580.out 8).trans rfl; have hfz8_0 := qz0 BK580.out 0; have hfz8_1 := qz0 BK580.out 1; have hfz8_2 := qz0 BK580.out 2; have hfz8_3 := qz0 BK580.out 3; have hfz8_4 := qz0 BK580.out 4; have hfz8_5 := qz0 BK580.out 5; have hfz8_6 := qz0 BK580.out 6; have hfz8_7 := qz0 BK580.out 7; have hfz8_8 := qz0 BK580.out 8; have hcz9_0 : w6.cell? ⟨gb581, 0, none⟩ = some (.int .u64 a1_0) := (qz1 BK581.out 0).trans rfl; have hcz9_1 : w6.cell? ⟨gb581, 1, none⟩ = some (.int .u64 a1_1) := (qz1 BK581.out 1).trans rfl; have hcz9_2 : w6.cell? ⟨gb581, 2, none⟩ = some (.slice A1_2 l1_2.length c1_2) := (qz1 BK581.out 2).trans rfl; have hcz9_3 : w6.cell? ⟨gb581, 3, none⟩ = some (.int .i64 a1_3) := (qz1 BK581.out 3).trans rfl; have hcz9_4 : w6.cell? ⟨gb581, 4, none⟩ = some (.int .i64 a1_4) := (qz1 BK581.out 4).trans rfl; have hcz9_5 : w6.cell? ⟨gb581, 5, none⟩ = some (.bool a1_5) := (qz1 BK581.out 5).trans rfl; have hcz9_6 : w6.cell? ⟨gb581, 6, none⟩ = some (.bool a1_6) := (qz1 BK581.out 6).trans rfl; have hcz9_7 : w6.cell? ⟨gb581, 7, none⟩ = some (.bool a1_7) := (qz1 BK581.out 7).trans rfl; have hcz9_8 : w6.cell? ⟨gb581, 8, none⟩ = some (.slice A1_8 l1_8.length c1_8) := (qz1 BK581.out 8).trans rfl; have hfz9_0 := qz0 BK581.out 0; have hfz9_1 := qz0 BK581.out 1; have hfz9_2 := qz0 BK581.out 2; have hfz9_3 := qz0 BK581.out 3; have hfz9_4 := qz0 BK581.out 4; have hfz9_5 := qz0 BK581.out 5; have hfz9_6 := qz0 BK581.out 6; have hfz9_7 := qz0 BK581.out 7; have hfz9_8 := qz0 BK581.out 8) | (go_at_call 31; (with_reducible refine (ferruleref20_SameSteps.calls k _ _ l0_2 _ _ l1_2 t582 _ ?side1 ?side2 ?side3 ?side4 A3.out).mono ?_); (case side1 => repeat (first | exact (Kd.C_below HR0_2.out HB.out) | (with_reducible refine Kd.C_alloc ?_ _) | (with_reducible refine Kd.C_drewN ?_ _) | (with_reducible refine Kd.C_drew ?_))); (case side2 => exact HC0_2.out); (case side3 => repeat (first | exact (Kd.C_below HR1_2.out HB.out) | (with_reducible refine Kd.C_alloc ?_ _) | (with_reducible refine Kd.C_drewN ?_ _) | (with_reducible refine Kd.C_drew ?_))); (case side4 => exact HC1_2.out); rintro e w' ⟨rfl, ⟨nd, rfl⟩⟩; (try first | exact ⟨rfl, _, World.drewN_drewN _ _ _⟩ | exact ⟨rfl, _, Eq.trans (World.drewN_drewN _ _ _) (congrArg (World.drewN _) (Nat.add_assoc _ _ _))⟩))); go_upto_region 2 with (first | ((with_reducible refine qz31 (N := 2) rfl ?_); (try (refine qz55 (by rfl) ?_; dsimp only)); refine qz32 ?hg (N := 2) ?hd (cs := #[.int .u64 a0_0, .int .u64 a0_1, .slice A0_2 l0_2.length c0_2, .int .i64 a0_3, .int .i64 a0_4, .bool a0_5, .bool a0_6, .bool a0_7, .slice A0_8 l0_8.length c0_8]) (t := 30) ?hr ?_; (case hd => rfl); (case hg => rfl); (case hr => first | (go_simp; done) | (go_simp; rfl)); intro gb580 hg w5 hbox hb; have n0_ := qza.mk (qz25 (by repeat (first | (with_reducible first | exact HB.out | apply qz10 | apply qz5 | apply qz9) | exact HB.out)) hb); have n1_ := qza.mk (hbox); have n2_ := qza.mk ((by rw [hg]; exact (qz15 (by repeat (first | (with_reducible first | exact HB.out | apply qz10 | apply qz5 | apply qz9) | exact HB.out))) : w.heap.size ≤ gb580)); have n3_ := qza.mk ((by rw [hg]; exact (qz15 (by repeat (first | (with_reducible first | exact HB.out | apply qz10 | apply qz5 | apply qz9) | exact HB.out))) : w.heap.size ≤ gb580)); clear HB; have HB := n0_; have BK580 := n1_; have GW580 := n2_; have GE580 := n3_; clear n0_ n1_ n2_ n3_; clear hb hbox hg) | ((with_reducible refine qz31 (N := 3) rfl ?_); (try (refine qz55 (by rfl) ?_; dsimp only)); refine qz32 ?hg (N := 3) ?hd (cs := #[.int .u64 a1_0, .int .u64 a1_1, .slice A1_2 l1_2.length c1_2, .int .i64 a1_3, .int .i64 a1_4, .bool a1_5, .bool a1_6, .bool a1_7, .slice A1_8 l1_8.length c1_8]) (t := 30) ?hr ?_; (case hd => rfl); (case hg => rfl); (case hr => first | (go_simp; done) | (go_simp; rfl)); intro gb581 hg w6 hbox hb; have n0_ := qza.mk (qz35 (g := gb580) (o := .cells #[.int .u64 a0_0, .int .u64 a0_1, .slice A0_2 l0_2.length c0_2, .int .i64 a0_3, .int .i64 a0_4, .bool a0_5, .bool a0_6, .bool a0_7, .slice A0_8 l0_8.length c0_8] 30 (0, 0)) (by (with_reducible repeat (first | refine qz3 ?_ _ | refine qz6 ?_ | refine qz4 ?_ _)); exact BK580.out) hb); have n1_ := qza.mk (qz25 (by repeat (first | (with_reducible first | exact HB.out | apply qz10 | apply qz5 | apply qz9 | refine qz8 ?_ GE580.out) | exact HB.out)) hb); have n2_ := qza.mk (hbox); have n3_ := qza.mk ((by rw [hg]; exact (qz15 (by repeat (first | (with_reducible first | exact HB.out | apply qz10 | apply qz5 | apply qz9 | refine qz8 ?_ GE580.out) | exact HB.out))) : w.heap.size ≤ gb581)); have n4_ := qza.mk ((by rw [hg]; exact (qz15 (by repeat (first | (with_reducible first | exact HB.out | apply qz10 | apply qz5 | apply qz9 | refine qz8 ?_ GE580.out) | exact HB.out))) : w.heap.size ≤ gb581)); have n5_ := qza.mk ((by rw [hg]; exact Nat.ne_of_lt (qz36 (g := gb580) (o := .cells #[.int .u64 a0_0, .int .u64 a0_1, .slice A0_2 l0_2.length c0_2, .int .i64 a0_3, .int .i64 a0_4, .bool a0_5, .bool a0_6, .bool a0_7, .slice A0_8 l0_8.length c0_8] 30 (0, 0)) (by (with_reducible repeat (first | refine qz3 ?_ _ | refine qz6 ?_ | refine qz4 ?_ _)); exact BK580.out)) : gb580 ≠ gb581)); have n6_ := qza.mk ((by rw [hg]; exact Nat.ne_of_gt (qz36 (g := gb580) (o := .cells #[.int .u64 a0_0, .int .u64 a0_1, .slice A0_2 l0_2.length c0_2, .int .i64 a0_3, .int .i64 a0_4, .bool a0_5, .bool a0_6, .bool a0_7, .slice A0_8 l0_8.length c0_8] 30 (0, 0)) (by (with_reducible repeat (first | refine qz3 ?_ _ | refine qz6 ?_ | refine qz4 ?_ _)); exact BK580.out)) : gb581 ≠ gb580)); clear BK580; clear HB; have BK580 := n0_; have HB := n1_; have BK581 := n2_; have GW581 := n3_; have GE581 := n4_; have NB580_581 := n5_; have NB581_580 := n6_; clear n0_ n1_ n2_ n3_ n4_ n5_ n6_; clear hb hbox hg; have hnb7 := NB580_581.out; have hnc7 := NB581_580.out; have hcz8_0 : w6.cell? ⟨gb580, 0, none⟩ = some (.int .u64 a0_0) := (qz1 BK580.out 0).trans rfl; have hcz8_1 : w6.cell? ⟨gb580, 1, none⟩ = some (.int .u64 a0_1) := (qz1 BK580.out 1).trans rfl; have hcz8_2 : w6.cell? ⟨gb580, 2, none⟩ = some (.slice A0_2 l0_2.length c0_2) := (qz1 BK580.out 2).trans rfl; have hcz8_3 : w6.cell? ⟨gb580, 3, none⟩ = some (.int .i64 a0_3) := (qz1 BK580.out 3).trans rfl; have hcz8_4 : w6.cell? ⟨gb580, 4, none⟩ = some (.int .i64 a0_4) := (qz1 BK580.out 4).trans rfl; have hcz8_5 : w6.cell? ⟨gb580, 5, none⟩ = some (.bool a0_5) := (qz1 BK580.out 5).trans rfl; have hcz8_6 : w6.cell? ⟨gb580, 6, none⟩ = some (.bool a0_6) := (qz1 BK580.out 6).trans rfl; have hcz8_7 : w6.cell? ⟨gb580, 7, none⟩ = some (.bool a0_7) := (qz1 BK580.out 7).trans rfl; have hcz8_8 : w6.cell? ⟨gb580, 8, none⟩ = some (.slice A0_8 l0_8.length c0_8) := (qz1 BK580.out 8).trans rfl; have hfz8_0 := qz0 BK580.out 0; have hfz8_1 := qz0 BK580.out 1; have hfz8_2 := qz0 BK580.out 2; have hfz8_3 := qz0 BK580.out 3; have hfz8_4 := qz0 BK580.out 4; have hfz8_5 := qz0 BK580.out 5; have hfz8_6 := qz0 BK580.out 6; have hfz8_7 := qz0 BK580.out 7; have hfz8_8 := qz0 BK580.out 8; have hcz9_0 : w6.cell? ⟨gb581, 0, none⟩ = some (.int .u64 a1_0) := (qz1 BK581.out 0).trans rfl; have hcz9_1 : w6.cell? ⟨gb581, 1, none⟩ = some (.int .u64 a1_1) := (qz1 BK581.out 1).trans rfl; have hcz9_2 : w6.cell? ⟨gb581, 2, none⟩ = some (.slice A1_2 l1_2.length c1_2) := (qz1 BK581.out 2).trans rfl; have hcz9_3 : w6.cell? ⟨gb581, 3, none⟩ = some (.int .i64 a1_3) := (qz1 BK581.out 3).trans rfl; have hcz9_4 : w6.cell? ⟨gb581, 4, none⟩ = some (.int .i64 a1_4) := (qz1 BK581.out 4).trans rfl; have hcz9_5 : w6.cell? ⟨gb581, 5, none⟩ = some (.bool a1_5) := (qz1 BK581.out 5).trans rfl; have hcz9_6 : w6.cell? ⟨gb581, 6, none⟩ = some (.bool a1_6) := (qz1 BK581.out 6).trans rfl; have hcz9_7 : w6.cell? ⟨gb581, 7, none⟩ = some (.bool a1_7) := (qz1 BK581.out 7).trans rfl; have hcz9_8 : w6.cell? ⟨gb581, 8, none⟩ = some (.slice A1_8 l1_8.length c1_8) := (qz1 BK581.out 8).trans rfl; have hfz9_0 := qz0 BK581.out 0; have hfz9_1 := qz0 BK581.out 1; have hfz9_2 := qz0 BK581.out 2; have hfz9_3 := qz0 BK581.out 3; have hfz9_4 := qz0 BK581.out 4; have hfz9_5 := qz0 BK581.out 5; have hfz9_6 := qz0 BK581.out 6; have hfz9_7 := qz0 BK581.out 7; have hfz9_8 := qz0 BK581.out 8) | (go_at_call 31; (with_reducible refine (ferruleref20_SameSteps.calls k _ _ l0_2 _ _ l1_2 t582 _ ?side1 ?side2 ?side3 ?side4 A3.out).mono ?_); (case side1 => repeat (first | exact (Kd.C_below HR0_2.out HB.out) | (with_reducible refine Kd.C_alloc ?_ _) | (with_reducible refine Kd.C_drewN ?_ _) | (with_reducible refine Kd.C_drew ?_))); (case side2 => exact HC0_2.out); (case side3 => repeat (first | exact (Kd.C_below HR1_2.out HB.out) | (with_reducible refine Kd.C_alloc ?_ _) | (with_reducible refine Kd.C_drewN ?_ _) | (with_reducible refine Kd.C_drew ?_))); (case side4 => exact HC1_2.out); rintro e w' ⟨rfl, ⟨nd, rfl⟩⟩; (try first | exact ⟨rfl, _, World.drewN_drewN _ _ _⟩ | exact ⟨rfl, _, Eq.trans (World.drewN_drewN _ _ _) (congrArg (World.drewN _) (Nat.add_assoc _ _ _))⟩))))
  (try simp only [Act.put, List.setIfInBounds_toArray, List.set_cons_zero, List.set_cons_succ])
  go_cut [68] (fun v68 wc => ∃ (kq : Nat) (x68_3 : Bool), v68 = .bool x68_3 ∧ qza (ferruleref20_Same.j0 kq x68_3 a0_0 a0_1 l0_2 a0_3 a0_4 a0_5 a0_6 a0_7 l0_8 a1_0 a1_1 l1_2 a1_3 a1_4 a1_5 a1_6 a1_7 l1_8 = some r) ∧ qza (kq ≤ k) ∧ qza (wc.heap[gb580]? = some (.cells #[.int .u64 a0_0, .int .u64 a0_1, (.slice A0_2 l0_2.length c0_2), .int .i64 a0_3, .int .i64 a0_4, .bool a0_5, .bool a0_6, .bool a0_7, (.slice A0_8 l0_8.length c0_8)] 30 (0, 0))) ∧ qza (wc.heap[gb581]? = some (.cells #[.int .u64 a1_0, .int .u64 a1_1, (.slice A1_2 l1_2.length c1_2), .int .i64 a1_3, .int .i64 a1_4, .bool a1_5, .bool a1_6, .bool a1_7, (.slice A1_8 l1_8.length c1_8)] 30 (0, 0))) ∧ qza (Below w.heap.size w wc))
  case first =>
    have H := HC4.out
    clear HC4
    by_cases c10 : t582 = true
    · subst c10
      have H1 : (if (!(a0_0 == a1_0) || (!(a0_1 == a1_1))) = true then (ferruleref20_Same.j0 k true a0_0 a0_1 l0_2 a0_3 a0_4 a0_5 a0_6 a0_7 l0_8 a1_0 a1_1 l1_2 a1_3 a1_4 a1_5 a1_6 a1_7 l1_8) else (if a0_3 = a1_3 then (if a0_4 = a1_4 then (if (a0_5 != a1_5) = true then (ferruleref20_Same.j0 k true a0_0 a0_1 l0_2 a0_3 a0_4 a0_5 a0_6 a0_7 l0_8 a1_0 a1_1 l1_2 a1_3 a1_4 a1_5 a1_6 a1_7 l1_8) else (if (a0_6 != a1_6) = true then (ferruleref20_Same.j0 k true a0_0 a0_1 l0_2 a0_3 a0_4 a0_5 a0_6 a0_7 l0_8 a1_0 a1_1 l1_2 a1_3 a1_4 a1_5 a1_6 a1_7 l1_8) else (if (a0_7 != a1_7) = true then (ferruleref20_Same.j0 k true a0_0 a0_1 l0_2 a0_3 a0_4 a0_5 a0_6 a0_7 l0_8 a1_0 a1_1 l1_2 a1_3 a1_4 a1_5 a1_6 a1_7 l1_8) else (ferruleref20_Same.j0 k ((l0_8.length : Int) != (l1_8.length : Int)) a0_0 a0_1 l0_2 a0_3 a0_4 a0_5 a0_6 a0_7 l0_8 a1_0 a1_1 l1_2 a1_3 a1_4 a1_5 a1_6 a1_7 l1_8)))) else (ferruleref20_Same.j0 k true a0_0 a0_1 l0_2 a0_3 a0_4 a0_5 a0_6 a0_7 l0_8 a1_0 a1_1 l1_2 a1_3 a1_4 a1_5 a1_6 a1_7 l1_8)) else (ferruleref20_Same.j0 k true a0_0 a0_1 l0_2 a0_3 a0_4 a0_5 a0_6 a0_7 l0_8 a1_0 a1_1 l1_2 a1_3 a1_4 a1_5 a1_6 a1_7 l1_8))) = some r := by rw [if_pos rfl] at H; exact H
      clear H
      have H := H1
      clear H1
      by_cases c11 : (!(a0_0 == a1_0) || (!(a0_1 == a1_1))) = true
      · rw [if_pos c11] at H
        have c11b0 : (!(a0_0 == a1_0) || (!(a0_1 == a1_1))) = true := c11
        clear c11
        (first | rw [c11b0] | (simp only [i64_w, i32_w]; rw [c11b0]) | skip)
        have H' := qza.mk H
        clear H
        have hnb12 := NB580_581.out
        have hnc12 := NB581_580.out
        have hcz13_0 : w6.cell? ⟨gb580, 0, none⟩ = some (.int .u64 a0_0) := (qz1 BK580.out 0).trans rfl
        have hcz13_1 : w6.cell? ⟨gb580, 1, none⟩ = some (.int .u64 a0_1) := (qz1 BK580.out 1).trans rfl
        have hcz13_2 : w6.cell? ⟨gb580, 2, none⟩ = some (.slice A0_2 l0_2.length c0_2) := (qz1 BK580.out 2).trans rfl
        have hcz13_3 : w6.cell? ⟨gb580, 3, none⟩ = some (.int .i64 a0_3) := (qz1 BK580.out 3).trans rfl
        have hcz13_4 : w6.cell? ⟨gb580, 4, none⟩ = some (.int .i64 a0_4) := (qz1 BK580.out 4).trans rfl
        have hcz13_5 : w6.cell? ⟨gb580, 5, none⟩ = some (.bool a0_5) := (qz1 BK580.out 5).trans rfl
        have hcz13_6 : w6.cell? ⟨gb580, 6, none⟩ = some (.bool a0_6) := (qz1 BK580.out 6).trans rfl
        have hcz13_7 : w6.cell? ⟨gb580, 7, none⟩ = some (.bool a0_7) := (qz1 BK580.out 7).trans rfl
        have hcz13_8 : w6.cell? ⟨gb580, 8, none⟩ = some (.slice A0_8 l0_8.length c0_8) := (qz1 BK580.out 8).trans rfl
        have hfz13_0 := qz0 BK580.out 0
        have hfz13_1 := qz0 BK580.out 1
        have hfz13_2 := qz0 BK580.out 2
        have hfz13_3 := qz0 BK580.out 3
        have hfz13_4 := qz0 BK580.out 4
        have hfz13_5 := qz0 BK580.out 5
        have hfz13_6 := qz0 BK580.out 6
        have hfz13_7 := qz0 BK580.out 7
        have hfz13_8 := qz0 BK580.out 8
        have hcz14_0 : w6.cell? ⟨gb581, 0, none⟩ = some (.int .u64 a1_0) := (qz1 BK581.out 0).trans rfl
        have hcz14_1 : w6.cell? ⟨gb581, 1, none⟩ = some (.int .u64 a1_1) := (qz1 BK581.out 1).trans rfl
        have hcz14_2 : w6.cell? ⟨gb581, 2, none⟩ = some (.slice A1_2 l1_2.length c1_2) := (qz1 BK581.out 2).trans rfl
        have hcz14_3 : w6.cell? ⟨gb581, 3, none⟩ = some (.int .i64 a1_3) := (qz1 BK581.out 3).trans rfl
        have hcz14_4 : w6.cell? ⟨gb581, 4, none⟩ = some (.int .i64 a1_4) := (qz1 BK581.out 4).trans rfl
        have hcz14_5 : w6.cell? ⟨gb581, 5, none⟩ = some (.bool a1_5) := (qz1 BK581.out 5).trans rfl
        have hcz14_6 : w6.cell? ⟨gb581, 6, none⟩ = some (.bool a1_6) := (qz1 BK581.out 6).trans rfl
        have hcz14_7 : w6.cell? ⟨gb581, 7, none⟩ = some (.bool a1_7) := (qz1 BK581.out 7).trans rfl
        have hcz14_8 : w6.cell? ⟨gb581, 8, none⟩ = some (.slice A1_8 l1_8.length c1_8) := (qz1 BK581.out 8).trans rfl
        have hfz14_0 := qz0 BK581.out 0
        have hfz14_1 := qz0 BK581.out 1
        have hfz14_2 := qz0 BK581.out 2
        have hfz14_3 := qz0 BK581.out 3
        have hfz14_4 := qz0 BK581.out 4
        have hfz14_5 := qz0 BK581.out 5
        have hfz14_6 := qz0 BK581.out 6
        have hfz14_7 := qz0 BK581.out 7
        have hfz14_8 := qz0 BK581.out 8
        go_wp2
        repeat (go_quiet (fail); try go_wp2)
        go_meet
        case rel => exact ⟨_, (true), (by first | rfl | (simp; done) | (simp [*]; done)), H', ⟨by first | omega | exact Nat.le_refl _⟩, ⟨by (with_reducible repeat (first | refine qz3 ?_ _ | refine qz6 ?_ | refine qz4 ?_ _)); exact BK580.out⟩, ⟨by (with_reducible repeat (first | refine qz3 ?_ _ | refine qz6 ?_ | refine qz4 ?_ _)); exact BK581.out⟩, ⟨by repeat (first | (with_reducible first | exact HB.out | apply qz10 | apply qz5 | apply qz9 | refine qz8 ?_ GE580.out | refine qz8 ?_ GE581.out) | exact HB.out)⟩⟩
      · rw [if_neg c11] at H
        have c11b0 : (!(a0_0 == a1_0) || (!(a0_1 == a1_1))) = false := by simpa using c11
        clear c11
        (first | rw [c11b0] | (simp only [i64_w, i32_w]; rw [c11b0]) | skip)
        by_cases c15 : a0_3 = a1_3
        · rw [if_pos c15] at H
          have c15b0 : (a0_3 == a1_3) = true := beq_iff_eq.mpr c15
          have c15b1 : (a0_3 != a1_3) = false := bne_eq_false_iff_eq.mpr c15
          clear c15
          by_cases c16 : a0_4 = a1_4
          · rw [if_pos c16] at H
            have c16b0 : (a0_4 == a1_4) = true := beq_iff_eq.mpr c16
            have c16b1 : (a0_4 != a1_4) = false := bne_eq_false_iff_eq.mpr c16
            clear c16
            by_cases c17 : (a0_5 != a1_5) = true
            · rw [if_pos c17] at H
              have c17b0 : (a0_5 != a1_5) = true := c17
              (try (have c17b1 : decide (a0_5 = a1_5) = false := by simpa using c17))
              (try (have c17b2 : (a0_5 == a1_5) = false := by simpa using c17))
              (try (have c17b3 : ¬ (a0_5 = a1_5) := by simpa using c17))
              clear c17
              have H' := qza.mk H
              clear H
              have hnb18 := NB580_581.out
              have hnc18 := NB581_580.out
              have hcz19_0 : w6.cell? ⟨gb580, 0, none⟩ = some (.int .u64 a0_0) := (qz1 BK580.out 0).trans rfl
              have hcz19_1 : w6.cell? ⟨gb580, 1, none⟩ = some (.int .u64 a0_1) := (qz1 BK580.out 1).trans rfl
              have hcz19_2 : w6.cell? ⟨gb580, 2, none⟩ = some (.slice A0_2 l0_2.length c0_2) := (qz1 BK580.out 2).trans rfl
              have hcz19_3 : w6.cell? ⟨gb580, 3, none⟩ = some (.int .i64 a0_3) := (qz1 BK580.out 3).trans rfl
              have hcz19_4 : w6.cell? ⟨gb580, 4, none⟩ = some (.int .i64 a0_4) := (qz1 BK580.out 4).trans rfl
              have hcz19_5 : w6.cell? ⟨gb580, 5, none⟩ = some (.bool a0_5) := (qz1 BK580.out 5).trans rfl
              have hcz19_6 : w6.cell? ⟨gb580, 6, none⟩ = some (.bool a0_6) := (qz1 BK580.out 6).trans rfl
              have hcz19_7 : w6.cell? ⟨gb580, 7, none⟩ = some (.bool a0_7) := (qz1 BK580.out 7).trans rfl
              have hcz19_8 : w6.cell? ⟨gb580, 8, none⟩ = some (.slice A0_8 l0_8.length c0_8) := (qz1 BK580.out 8).trans rfl
              have hfz19_0 := qz0 BK580.out 0
              have hfz19_1 := qz0 BK580.out 1
              have hfz19_2 := qz0 BK580.out 2
              have hfz19_3 := qz0 BK580.out 3
              have hfz19_4 := qz0 BK580.out 4
              have hfz19_5 := qz0 BK580.out 5
              have hfz19_6 := qz0 BK580.out 6
              have hfz19_7 := qz0 BK580.out 7
              have hfz19_8 := qz0 BK580.out 8
              have hcz20_0 : w6.cell? ⟨gb581, 0, none⟩ = some (.int .u64 a1_0) := (qz1 BK581.out 0).trans rfl
              have hcz20_1 : w6.cell? ⟨gb581, 1, none⟩ = some (.int .u64 a1_1) := (qz1 BK581.out 1).trans rfl
              have hcz20_2 : w6.cell? ⟨gb581, 2, none⟩ = some (.slice A1_2 l1_2.length c1_2) := (qz1 BK581.out 2).trans rfl
              have hcz20_3 : w6.cell? ⟨gb581, 3, none⟩ = some (.int .i64 a1_3) := (qz1 BK581.out 3).trans rfl
              have hcz20_4 : w6.cell? ⟨gb581, 4, none⟩ = some (.int .i64 a1_4) := (qz1 BK581.out 4).trans rfl
              have hcz20_5 : w6.cell? ⟨gb581, 5, none⟩ = some (.bool a1_5) := (qz1 BK581.out 5).trans rfl
              have hcz20_6 : w6.cell? ⟨gb581, 6, none⟩ = some (.bool a1_6) := (qz1 BK581.out 6).trans rfl
              have hcz20_7 : w6.cell? ⟨gb581, 7, none⟩ = some (.bool a1_7) := (qz1 BK581.out 7).trans rfl
              have hcz20_8 : w6.cell? ⟨gb581, 8, none⟩ = some (.slice A1_8 l1_8.length c1_8) := (qz1 BK581.out 8).trans rfl
              have hfz20_0 := qz0 BK581.out 0
              have hfz20_1 := qz0 BK581.out 1
              have hfz20_2 := qz0 BK581.out 2
              have hfz20_3 := qz0 BK581.out 3
              have hfz20_4 := qz0 BK581.out 4
              have hfz20_5 := qz0 BK581.out 5
              have hfz20_6 := qz0 BK581.out 6
              have hfz20_7 := qz0 BK581.out 7
              have hfz20_8 := qz0 BK581.out 8
              go_wp2
              repeat (go_quiet (fail); try go_wp2)
              go_meet
              case rel => exact ⟨_, (true), (by first | rfl | (simp; done) | (simp [*]; done)), H', ⟨by first | omega | exact Nat.le_refl _⟩, ⟨by (with_reducible repeat (first | refine qz3 ?_ _ | refine qz6 ?_ | refine qz4 ?_ _)); exact BK580.out⟩, ⟨by (with_reducible repeat (first | refine qz3 ?_ _ | refine qz6 ?_ | refine qz4 ?_ _)); exact BK581.out⟩, ⟨by repeat (first | (with_reducible first | exact HB.out | apply qz10 | apply qz5 | apply qz9 | refine qz8 ?_ GE580.out | refine qz8 ?_ GE581.out) | exact HB.out)⟩⟩
            · rw [if_neg c17] at H
              have c17b0 : (a0_5 != a1_5) = false := by simpa using c17
              (try (have c17b1 : decide (a0_5 = a1_5) = true := by simpa using c17))
              (try (have c17b2 : (a0_5 == a1_5) = true := by simpa using c17))
              clear c17
              by_cases c21 : (a0_6 != a1_6) = true
              · rw [if_pos c21] at H
                have c21b0 : (a0_6 != a1_6) = true := c21
                (try (have c21b1 : decide (a0_6 = a1_6) = false := by simpa using c21))
                (try (have c21b2 : (a0_6 == a1_6) = false := by simpa using c21))
                (try (have c21b3 : ¬ (a0_6 = a1_6) := by simpa using c21))
                clear c21
                have H' := qza.mk H
                clear H
                have hnb22 := NB580_581.out
                have hnc22 := NB581_580.out
                have hcz23_0 : w6.cell? ⟨gb580, 0, none⟩ = some (.int .u64 a0_0) := (qz1 BK580.out 0).trans rfl
                have hcz23_1 : w6.cell? ⟨gb580, 1, none⟩ = some (.int .u64 a0_1) := (qz1 BK580.out 1).trans rfl
                have hcz23_2 : w6.cell? ⟨gb580, 2, none⟩ = some (.slice A0_2 l0_2.length c0_2) := (qz1 BK580.out 2).trans rfl
                have hcz23_3 : w6.cell? ⟨gb580, 3, none⟩ = some (.int .i64 a0_3) := (qz1 BK580.out 3).trans rfl
                have hcz23_4 : w6.cell? ⟨gb580, 4, none⟩ = some (.int .i64 a0_4) := (qz1 BK580.out 4).trans rfl
                have hcz23_5 : w6.cell? ⟨gb580, 5, none⟩ = some (.bool a0_5) := (qz1 BK580.out 5).trans rfl
                have hcz23_6 : w6.cell? ⟨gb580, 6, none⟩ = some (.bool a0_6) := (qz1 BK580.out 6).trans rfl
                have hcz23_7 : w6.cell? ⟨gb580, 7, none⟩ = some (.bool a0_7) := (qz1 BK580.out 7).trans rfl
                have hcz23_8 : w6.cell? ⟨gb580, 8, none⟩ = some (.slice A0_8 l0_8.length c0_8) := (qz1 BK580.out 8).trans rfl
                have hfz23_0 := qz0 BK580.out 0
                have hfz23_1 := qz0 BK580.out 1
                have hfz23_2 := qz0 BK580.out 2
                have hfz23_3 := qz0 BK580.out 3
                have hfz23_4 := qz0 BK580.out 4
                have hfz23_5 := qz0 BK580.out 5
                have hfz23_6 := qz0 BK580.out 6
                have hfz23_7 := qz0 BK580.out 7
                have hfz23_8 := qz0 BK580.out 8
                have hcz24_0 : w6.cell? ⟨gb581, 0, none⟩ = some (.int .u64 a1_0) := (qz1 BK581.out 0).trans rfl
                have hcz24_1 : w6.cell? ⟨gb581, 1, none⟩ = some (.int .u64 a1_1) := (qz1 BK581.out 1).trans rfl
                have hcz24_2 : w6.cell? ⟨gb581, 2, none⟩ = some (.slice A1_2 l1_2.length c1_2) := (qz1 BK581.out 2).trans rfl
                have hcz24_3 : w6.cell? ⟨gb581, 3, none⟩ = some (.int .i64 a1_3) := (qz1 BK581.out 3).trans rfl
                have hcz24_4 : w6.cell? ⟨gb581, 4, none⟩ = some (.int .i64 a1_4) := (qz1 BK581.out 4).trans rfl
                have hcz24_5 : w6.cell? ⟨gb581, 5, none⟩ = some (.bool a1_5) := (qz1 BK581.out 5).trans rfl
                have hcz24_6 : w6.cell? ⟨gb581, 6, none⟩ = some (.bool a1_6) := (qz1 BK581.out 6).trans rfl
                have hcz24_7 : w6.cell? ⟨gb581, 7, none⟩ = some (.bool a1_7) := (qz1 BK581.out 7).trans rfl
                have hcz24_8 : w6.cell? ⟨gb581, 8, none⟩ = some (.slice A1_8 l1_8.length c1_8) := (qz1 BK581.out 8).trans rfl
                have hfz24_0 := qz0 BK581.out 0
                have hfz24_1 := qz0 BK581.out 1
                have hfz24_2 := qz0 BK581.out 2
                have hfz24_3 := qz0 BK581.out 3
                have hfz24_4 := qz0 BK581.out 4
                have hfz24_5 := qz0 BK581.out 5
                have hfz24_6 := qz0 BK581.out 6
                have hfz24_7 := qz0 BK581.out 7
                have hfz24_8 := qz0 BK581.out 8
                go_wp2
                repeat (go_quiet (fail); try go_wp2)
                go_meet
                case rel => exact ⟨_, (true), (by first | rfl | (simp; done) | (simp [*]; done)), H', ⟨by first | omega | exact Nat.le_refl _⟩, ⟨by (with_reducible repeat (first | refine qz3 ?_ _ | refine qz6 ?_ | refine qz4 ?_ _)); exact BK580.out⟩, ⟨by (with_reducible repeat (first | refine qz3 ?_ _ | refine qz6 ?_ | refine qz4 ?_ _)); exact BK581.out⟩, ⟨by repeat (first | (with_reducible first | exact HB.out | apply qz10 | apply qz5 | apply qz9 | refine qz8 ?_ GE580.out | refine qz8 ?_ GE581.out) | exact HB.out)⟩⟩
              · rw [if_neg c21] at H
                have c21b0 : (a0_6 != a1_6) = false := by simpa using c21
                (try (have c21b1 : decide (a0_6 = a1_6) = true := by simpa using c21))
                (try (have c21b2 : (a0_6 == a1_6) = true := by simpa using c21))
                clear c21
                by_cases c25 : (a0_7 != a1_7) = true
                · rw [if_pos c25] at H
                  have c25b0 : (a0_7 != a1_7) = true := c25
                  (try (have c25b1 : decide (a0_7 = a1_7) = false := by simpa using c25))
                  (try (have c25b2 : (a0_7 == a1_7) = false := by simpa using c25))
                  (try (have c25b3 : ¬ (a0_7 = a1_7) := by simpa using c25))
                  clear c25
                  have H' := qza.mk H
                  clear H
                  have hnb26 := NB580_581.out
                  have hnc26 := NB581_580.out
                  have hcz27_0 : w6.cell? ⟨gb580, 0, none⟩ = some (.int .u64 a0_0) := (qz1 BK580.out 0).trans rfl
                  have hcz27_1 : w6.cell? ⟨gb580, 1, none⟩ = some (.int .u64 a0_1) := (qz1 BK580.out 1).trans rfl
                  have hcz27_2 : w6.cell? ⟨gb580, 2, none⟩ = some (.slice A0_2 l0_2.length c0_2) := (qz1 BK580.out 2).trans rfl
                  have hcz27_3 : w6.cell? ⟨gb580, 3, none⟩ = some (.int .i64 a0_3) := (qz1 BK580.out 3).trans rfl
                  have hcz27_4 : w6.cell? ⟨gb580, 4, none⟩ = some (.int .i64 a0_4) := (qz1 BK580.out 4).trans rfl
                  have hcz27_5 : w6.cell? ⟨gb580, 5, none⟩ = some (.bool a0_5) := (qz1 BK580.out 5).trans rfl
                  have hcz27_6 : w6.cell? ⟨gb580, 6, none⟩ = some (.bool a0_6) := (qz1 BK580.out 6).trans rfl
                  have hcz27_7 : w6.cell? ⟨gb580, 7, none⟩ = some (.bool a0_7) := (qz1 BK580.out 7).trans rfl
                  have hcz27_8 : w6.cell? ⟨gb580, 8, none⟩ = some (.slice A0_8 l0_8.length c0_8) := (qz1 BK580.out 8).trans rfl
                  have hfz27_0 := qz0 BK580.out 0
                  have hfz27_1 := qz0 BK580.out 1
                  have hfz27_2 := qz0 BK580.out 2
                  have hfz27_3 := qz0 BK580.out 3
                  have hfz27_4 := qz0 BK580.out 4
                  have hfz27_5 := qz0 BK580.out 5
                  have hfz27_6 := qz0 BK580.out 6
                  have hfz27_7 := qz0 BK580.out 7
                  have hfz27_8 := qz0 BK580.out 8
                  have hcz28_0 : w6.cell? ⟨gb581, 0, none⟩ = some (.int .u64 a1_0) := (qz1 BK581.out 0).trans rfl
                  have hcz28_1 : w6.cell? ⟨gb581, 1, none⟩ = some (.int .u64 a1_1) := (qz1 BK581.out 1).trans rfl
                  have hcz28_2 : w6.cell? ⟨gb581, 2, none⟩ = some (.slice A1_2 l1_2.length c1_2) := (qz1 BK581.out 2).trans rfl
                  have hcz28_3 : w6.cell? ⟨gb581, 3, none⟩ = some (.int .i64 a1_3) := (qz1 BK581.out 3).trans rfl
                  have hcz28_4 : w6.cell? ⟨gb581, 4, none⟩ = some (.int .i64 a1_4) := (qz1 BK581.out 4).trans rfl
                  have hcz28_5 : w6.cell? ⟨gb581, 5, none⟩ = some (.bool a1_5) := (qz1 BK581.out 5).trans rfl
                  have hcz28_6 : w6.cell? ⟨gb581, 6, none⟩ = some (.bool a1_6) := (qz1 BK581.out 6).trans rfl
                  have hcz28_7 : w6.cell? ⟨gb581, 7, none⟩ = some (.bool a1_7) := (qz1 BK581.out 7).trans rfl
                  have hcz28_8 : w6.cell? ⟨gb581, 8, none⟩ = some (.slice A1_8 l1_8.length c1_8) := (qz1 BK581.out 8).trans rfl
                  have hfz28_0 := qz0 BK581.out 0
                  have hfz28_1 := qz0 BK581.out 1
                  have hfz28_2 := qz0 BK581.out 2
                  have hfz28_3 := qz0 BK581.out 3
                  have hfz28_4 := qz0 BK581.out 4
                  have hfz28_5 := qz0 BK581.out 5
                  have hfz28_6 := qz0 BK581.out 6
                  have hfz28_7 := qz0 BK581.out 7
                  have hfz28_8 := qz0 BK581.out 8
                  go_wp2
                  repeat (go_quiet (fail); try go_wp2)
                  go_meet
                  case rel => exact ⟨_, (true), (by first | rfl | (simp; done) | (simp [*]; done)), H', ⟨by first | omega | exact Nat.le_refl _⟩, ⟨by (with_reducible repeat (first | refine qz3 ?_ _ | refine qz6 ?_ | refine qz4 ?_ _)); exact BK580.out⟩, ⟨by (with_reducible repeat (first | refine qz3 ?_ _ | refine qz6 ?_ | refine qz4 ?_ _)); exact BK581.out⟩, ⟨by repeat (first | (with_reducible first | exact HB.out | apply qz10 | apply qz5 | apply qz9 | refine qz8 ?_ GE580.out | refine qz8 ?_ GE581.out) | exact HB.out)⟩⟩
                · rw [if_neg c25] at H
                  have c25b0 : (a0_7 != a1_7) = false := by simpa using c25
                  (try (have c25b1 : decide (a0_7 = a1_7) = true := by simpa using c25))
                  (try (have c25b2 : (a0_7 == a1_7) = true := by simpa using c25))
                  clear c25
                  have H' := qza.mk H
                  clear H
                  have hnb29 := NB580_581.out
                  have hnc29 := NB581_580.out
                  have hcz30_0 : w6.cell? ⟨gb580, 0, none⟩ = some (.int .u64 a0_0) := (qz1 BK580.out 0).trans rfl
                  have hcz30_1 : w6.cell? ⟨gb580, 1, none⟩ = some (.int .u64 a0_1) := (qz1 BK580.out 1).trans rfl
                  have hcz30_2 : w6.cell? ⟨gb580, 2, none⟩ = some (.slice A0_2 l0_2.length c0_2) := (qz1 BK580.out 2).trans rfl
                  have hcz30_3 : w6.cell? ⟨gb580, 3, none⟩ = some (.int .i64 a0_3) := (qz1 BK580.out 3).trans rfl
                  have hcz30_4 : w6.cell? ⟨gb580, 4, none⟩ = some (.int .i64 a0_4) := (qz1 BK580.out 4).trans rfl
                  have hcz30_5 : w6.cell? ⟨gb580, 5, none⟩ = some (.bool a0_5) := (qz1 BK580.out 5).trans rfl
                  have hcz30_6 : w6.cell? ⟨gb580, 6, none⟩ = some (.bool a0_6) := (qz1 BK580.out 6).trans rfl
                  have hcz30_7 : w6.cell? ⟨gb580, 7, none⟩ = some (.bool a0_7) := (qz1 BK580.out 7).trans rfl
                  have hcz30_8 : w6.cell? ⟨gb580, 8, none⟩ = some (.slice A0_8 l0_8.length c0_8) := (qz1 BK580.out 8).trans rfl
                  have hfz30_0 := qz0 BK580.out 0
                  have hfz30_1 := qz0 BK580.out 1
                  have hfz30_2 := qz0 BK580.out 2
                  have hfz30_3 := qz0 BK580.out 3
                  have hfz30_4 := qz0 BK580.out 4
                  have hfz30_5 := qz0 BK580.out 5
                  have hfz30_6 := qz0 BK580.out 6
                  have hfz30_7 := qz0 BK580.out 7
                  have hfz30_8 := qz0 BK580.out 8
                  have hcz31_0 : w6.cell? ⟨gb581, 0, none⟩ = some (.int .u64 a1_0) := (qz1 BK581.out 0).trans rfl
                  have hcz31_1 : w6.cell? ⟨gb581, 1, none⟩ = some (.int .u64 a1_1) := (qz1 BK581.out 1).trans rfl
                  have hcz31_2 : w6.cell? ⟨gb581, 2, none⟩ = some (.slice A1_2 l1_2.length c1_2) := (qz1 BK581.out 2).trans rfl
                  have hcz31_3 : w6.cell? ⟨gb581, 3, none⟩ = some (.int .i64 a1_3) := (qz1 BK581.out 3).trans rfl
                  have hcz31_4 : w6.cell? ⟨gb581, 4, none⟩ = some (.int .i64 a1_4) := (qz1 BK581.out 4).trans rfl
                  have hcz31_5 : w6.cell? ⟨gb581, 5, none⟩ = some (.bool a1_5) := (qz1 BK581.out 5).trans rfl
                  have hcz31_6 : w6.cell? ⟨gb581, 6, none⟩ = some (.bool a1_6) := (qz1 BK581.out 6).trans rfl
                  have hcz31_7 : w6.cell? ⟨gb581, 7, none⟩ = some (.bool a1_7) := (qz1 BK581.out 7).trans rfl
                  have hcz31_8 : w6.cell? ⟨gb581, 8, none⟩ = some (.slice A1_8 l1_8.length c1_8) := (qz1 BK581.out 8).trans rfl
                  have hfz31_0 := qz0 BK581.out 0
                  have hfz31_1 := qz0 BK581.out 1
                  have hfz31_2 := qz0 BK581.out 2
                  have hfz31_3 := qz0 BK581.out 3
                  have hfz31_4 := qz0 BK581.out 4
                  have hfz31_5 := qz0 BK581.out 5
                  have hfz31_6 := qz0 BK581.out 6
                  have hfz31_7 := qz0 BK581.out 7
                  have hfz31_8 := qz0 BK581.out 8
                  go_wp2
                  repeat (go_quiet (fail); try go_wp2)
                  go_meet
                  case rel => exact ⟨_, (((l0_8.length : Int) != (l1_8.length : Int))), (by first | rfl | (simp; done) | (simp [*]; done)), H', ⟨by first | omega | exact Nat.le_refl _⟩, ⟨by (with_reducible repeat (first | refine qz3 ?_ _ | refine qz6 ?_ | refine qz4 ?_ _)); exact BK580.out⟩, ⟨by (with_reducible repeat (first | refine qz3 ?_ _ | refine qz6 ?_ | refine qz4 ?_ _)); exact BK581.out⟩, ⟨by repeat (first | (with_reducible first | exact HB.out | apply qz10 | apply qz5 | apply qz9 | refine qz8 ?_ GE580.out | refine qz8 ?_ GE581.out) | exact HB.out)⟩⟩
          · rw [if_neg c16] at H
            have c16b0 : (a0_4 == a1_4) = false := beq_eq_false_iff_ne.mpr c16
            have c16b1 : (a0_4 != a1_4) = true := bne_iff_ne.mpr c16
            have H' := qza.mk H
            clear H
            have hnb32 := NB580_581.out
            have hnc32 := NB581_580.out
            have hcz33_0 : w6.cell? ⟨gb580, 0, none⟩ = some (.int .u64 a0_0) := (qz1 BK580.out 0).trans rfl
            have hcz33_1 : w6.cell? ⟨gb580, 1, none⟩ = some (.int .u64 a0_1) := (qz1 BK580.out 1).trans rfl
            have hcz33_2 : w6.cell? ⟨gb580, 2, none⟩ = some (.slice A0_2 l0_2.length c0_2) := (qz1 BK580.out 2).trans rfl
            have hcz33_3 : w6.cell? ⟨gb580, 3, none⟩ = some (.int .i64 a0_3) := (qz1 BK580.out 3).trans rfl
            have hcz33_4 : w6.cell? ⟨gb580, 4, none⟩ = some (.int .i64 a0_4) := (qz1 BK580.out 4).trans rfl
            have hcz33_5 : w6.cell? ⟨gb580, 5, none⟩ = some (.bool a0_5) := (qz1 BK580.out 5).trans rfl
            have hcz33_6 : w6.cell? ⟨gb580, 6, none⟩ = some (.bool a0_6) := (qz1 BK580.out 6).trans rfl
            have hcz33_7 : w6.cell? ⟨gb580, 7, none⟩ = some (.bool a0_7) := (qz1 BK580.out 7).trans rfl
            have hcz33_8 : w6.cell? ⟨gb580, 8, none⟩ = some (.slice A0_8 l0_8.length c0_8) := (qz1 BK580.out 8).trans rfl
            have hfz33_0 := qz0 BK580.out 0
            have hfz33_1 := qz0 BK580.out 1
            have hfz33_2 := qz0 BK580.out 2
            have hfz33_3 := qz0 BK580.out 3
            have hfz33_4 := qz0 BK580.out 4
            have hfz33_5 := qz0 BK580.out 5
            have hfz33_6 := qz0 BK580.out 6
            have hfz33_7 := qz0 BK580.out 7
            have hfz33_8 := qz0 BK580.out 8
            have hcz34_0 : w6.cell? ⟨gb581, 0, none⟩ = some (.int .u64 a1_0) := (qz1 BK581.out 0).trans rfl
            have hcz34_1 : w6.cell? ⟨gb581, 1, none⟩ = some (.int .u64 a1_1) := (qz1 BK581.out 1).trans rfl
            have hcz34_2 : w6.cell? ⟨gb581, 2, none⟩ = some (.slice A1_2 l1_2.length c1_2) := (qz1 BK581.out 2).trans rfl
            have hcz34_3 : w6.cell? ⟨gb581, 3, none⟩ = some (.int .i64 a1_3) := (qz1 BK581.out 3).trans rfl
            have hcz34_4 : w6.cell? ⟨gb581, 4, none⟩ = some (.int .i64 a1_4) := (qz1 BK581.out 4).trans rfl
            have hcz34_5 : w6.cell? ⟨gb581, 5, none⟩ = some (.bool a1_5) := (qz1 BK581.out 5).trans rfl
            have hcz34_6 : w6.cell? ⟨gb581, 6, none⟩ = some (.bool a1_6) := (qz1 BK581.out 6).trans rfl
            have hcz34_7 : w6.cell? ⟨gb581, 7, none⟩ = some (.bool a1_7) := (qz1 BK581.out 7).trans rfl
            have hcz34_8 : w6.cell? ⟨gb581, 8, none⟩ = some (.slice A1_8 l1_8.length c1_8) := (qz1 BK581.out 8).trans rfl
            have hfz34_0 := qz0 BK581.out 0
            have hfz34_1 := qz0 BK581.out 1
            have hfz34_2 := qz0 BK581.out 2
            have hfz34_3 := qz0 BK581.out 3
            have hfz34_4 := qz0 BK581.out 4
            have hfz34_5 := qz0 BK581.out 5
            have hfz34_6 := qz0 BK581.out 6
            have hfz34_7 := qz0 BK581.out 7
            have hfz34_8 := qz0 BK581.out 8
            go_wp2
            repeat (go_quiet (fail); try go_wp2)
            go_meet
            case rel => exact ⟨_, (true), (by first | rfl | (simp; done) | (simp [*]; done)), H', ⟨by first | omega | exact Nat.le_refl _⟩, ⟨by (with_reducible repeat (first | refine qz3 ?_ _ | refine qz6 ?_ | refine qz4 ?_ _)); exact BK580.out⟩, ⟨by (with_reducible repeat (first | refine qz3 ?_ _ | refine qz6 ?_ | refine qz4 ?_ _)); exact BK581.out⟩, ⟨by repeat (first | (with_reducible first | exact HB.out | apply qz10 | apply qz5 | apply qz9 | refine qz8 ?_ GE580.out | refine qz8 ?_ GE581.out) | exact HB.out)⟩⟩
        · rw [if_neg c15] at H
          have c15b0 : (a0_3 == a1_3) = false := beq_eq_false_iff_ne.mpr c15
          have c15b1 : (a0_3 != a1_3) = true := bne_iff_ne.mpr c15
          have H' := qza.mk H
          clear H
          have hnb35 := NB580_581.out
          have hnc35 := NB581_580.out
          have hcz36_0 : w6.cell? ⟨gb580, 0, none⟩ = some (.int .u64 a0_0) := (qz1 BK580.out 0).trans rfl
          have hcz36_1 : w6.cell? ⟨gb580, 1, none⟩ = some (.int .u64 a0_1) := (qz1 BK580.out 1).trans rfl
          have hcz36_2 : w6.cell? ⟨gb580, 2, none⟩ = some (.slice A0_2 l0_2.length c0_2) := (qz1 BK580.out 2).trans rfl
          have hcz36_3 : w6.cell? ⟨gb580, 3, none⟩ = some (.int .i64 a0_3) := (qz1 BK580.out 3).trans rfl
          have hcz36_4 : w6.cell? ⟨gb580, 4, none⟩ = some (.int .i64 a0_4) := (qz1 BK580.out 4).trans rfl
          have hcz36_5 : w6.cell? ⟨gb580, 5, none⟩ = some (.bool a0_5) := (qz1 BK580.out 5).trans rfl
          have hcz36_6 : w6.cell? ⟨gb580, 6, none⟩ = some (.bool a0_6) := (qz1 BK580.out 6).trans rfl
          have hcz36_7 : w6.cell? ⟨gb580, 7, none⟩ = some (.bool a0_7) := (qz1 BK580.out 7).trans rfl
          have hcz36_8 : w6.cell? ⟨gb580, 8, none⟩ = some (.slice A0_8 l0_8.length c0_8) := (qz1 BK580.out 8).trans rfl
          have hfz36_0 := qz0 BK580.out 0
          have hfz36_1 := qz0 BK580.out 1
          have hfz36_2 := qz0 BK580.out 2
          have hfz36_3 := qz0 BK580.out 3
          have hfz36_4 := qz0 BK580.out 4
          have hfz36_5 := qz0 BK580.out 5
          have hfz36_6 := qz0 BK580.out 6
          have hfz36_7 := qz0 BK580.out 7
          have hfz36_8 := qz0 BK580.out 8
          have hcz37_0 : w6.cell? ⟨gb581, 0, none⟩ = some (.int .u64 a1_0) := (qz1 BK581.out 0).trans rfl
          have hcz37_1 : w6.cell? ⟨gb581, 1, none⟩ = some (.int .u64 a1_1) := (qz1 BK581.out 1).trans rfl
          have hcz37_2 : w6.cell? ⟨gb581, 2, none⟩ = some (.slice A1_2 l1_2.length c1_2) := (qz1 BK581.out 2).trans rfl
          have hcz37_3 : w6.cell? ⟨gb581, 3, none⟩ = some (.int .i64 a1_3) := (qz1 BK581.out 3).trans rfl
          have hcz37_4 : w6.cell? ⟨gb581, 4, none⟩ = some (.int .i64 a1_4) := (qz1 BK581.out 4).trans rfl
          have hcz37_5 : w6.cell? ⟨gb581, 5, none⟩ = some (.bool a1_5) := (qz1 BK581.out 5).trans rfl
          have hcz37_6 : w6.cell? ⟨gb581, 6, none⟩ = some (.bool a1_6) := (qz1 BK581.out 6).trans rfl
          have hcz37_7 : w6.cell? ⟨gb581, 7, none⟩ = some (.bool a1_7) := (qz1 BK581.out 7).trans rfl
          have hcz37_8 : w6.cell? ⟨gb581, 8, none⟩ = some (.slice A1_8 l1_8.length c1_8) := (qz1 BK581.out 8).trans rfl
          have hfz37_0 := qz0 BK581.out 0
          have hfz37_1 := qz0 BK581.out 1
          have hfz37_2 := qz0 BK581.out 2
          have hfz37_3 := qz0 BK581.out 3
          have hfz37_4 := qz0 BK581.out 4
          have hfz37_5 := qz0 BK581.out 5
          have hfz37_6 := qz0 BK581.out 6
          have hfz37_7 := qz0 BK581.out 7
          have hfz37_8 := qz0 BK581.out 8
          go_wp2
          repeat (go_quiet (fail); try go_wp2)
          go_meet
          case rel => exact ⟨_, (true), (by first | rfl | (simp; done) | (simp [*]; done)), H', ⟨by first | omega | exact Nat.le_refl _⟩, ⟨by (with_reducible repeat (first | refine qz3 ?_ _ | refine qz6 ?_ | refine qz4 ?_ _)); exact BK580.out⟩, ⟨by (with_reducible repeat (first | refine qz3 ?_ _ | refine qz6 ?_ | refine qz4 ?_ _)); exact BK581.out⟩, ⟨by repeat (first | (with_reducible first | exact HB.out | apply qz10 | apply qz5 | apply qz9 | refine qz8 ?_ GE580.out | refine qz8 ?_ GE581.out) | exact HB.out)⟩⟩
    · replace c10 := Bool.eq_false_iff.mpr c10
      subst c10
      have H1 : (ferruleref20_Same.j0 k true a0_0 a0_1 l0_2 a0_3 a0_4 a0_5 a0_6 a0_7 l0_8 a1_0 a1_1 l1_2 a1_3 a1_4 a1_5 a1_6 a1_7 l1_8) = some r := by rw [if_neg (show ¬ (false = true) by decide)] at H; exact H
      clear H
      have H := H1
      clear H1
      have H' := qza.mk H
      clear H
      go_wp2
      repeat (go_quiet (fail); try go_wp2)
      go_meet
      case rel => exact ⟨_, (true), (by first | rfl | (simp; done) | (simp [*]; done)), H', ⟨by first | omega | exact Nat.le_refl _⟩, ⟨by (with_reducible repeat (first | refine qz3 ?_ _ | refine qz6 ?_ | refine qz4 ?_ _)); exact BK580.out⟩, ⟨by (with_reducible repeat (first | refine qz3 ?_ _ | refine qz6 ?_ | refine qz4 ?_ _)); exact BK581.out⟩, ⟨by repeat (first | (with_reducible first | exact HB.out | apply qz10 | apply qz5 | apply qz9 | refine qz8 ?_ GE580.out | refine qz8 ?_ GE581.out) | exact HB.out)⟩⟩
  case rest =>
    clear HC4
    try clear c1
    try clear c2
    try clear p2
    try clear c3
    try clear c7
    try clear c10
    try clear c11
    try clear c11b0
    try clear c12
    try clear c13
    try clear c15
    try clear c15b0
    try clear c15b1
    try clear c16
    try clear c16b0
    try clear c16b1
    try clear c17
    try clear c17b0
    try clear c17b1
    try clear c17b2
    try clear c18
    try clear c21
    try clear c21b0
    try clear c21b1
    try clear c21b2
    try clear c22
    try clear c25
    try clear c25b0
    try clear c25b1
    try clear c25b2
    try clear c26
    try clear c29
    try clear c32
    try clear c35
    try clear hcz13_0
    try clear hcz13_1
    try clear hcz13_2
    try clear hcz13_3
    try clear hcz13_4
    try clear hcz13_5
    try clear hcz13_6
    try clear hcz13_7
    try clear hcz13_8
    try clear hcz14_0
    try clear hcz14_1
    try clear hcz14_2
    try clear hcz14_3
    try clear hcz14_4
    try clear hcz14_5
    try clear hcz14_6
    try clear hcz14_7
    try clear hcz14_8
    try clear hcz19_0
    try clear hcz19_1
    try clear hcz19_2
    try clear hcz19_3
    try clear hcz19_4
    try clear hcz19_5
    try clear hcz19_6
    try clear hcz19_7
    try clear hcz19_8
    try clear hcz20_0
    try clear hcz20_1
    try clear hcz20_2
    try clear hcz20_3
    try clear hcz20_4
    try clear hcz20_5
    try clear hcz20_6
    try clear hcz20_7
    try clear hcz20_8
    try clear hcz23_0
    try clear hcz23_1
    try clear hcz23_2
    try clear hcz23_3
    try clear hcz23_4
    try clear hcz23_5
    try clear hcz23_6
    try clear hcz23_7
    try clear hcz23_8
    try clear hcz24_0
    try clear hcz24_1
    try clear hcz24_2
    try clear hcz24_3
    try clear hcz24_4
    try clear hcz24_5
    try clear hcz24_6
    try clear hcz24_7
    try clear hcz24_8
    try clear hcz27_0
    try clear hcz27_1
    try clear hcz27_2
    try clear hcz27_3
    try clear hcz27_4
    try clear hcz27_5
    try clear hcz27_6
    try clear hcz27_7
    try clear hcz27_8
    try clear hcz28_0
    try clear hcz28_1
    try clear hcz28_2
    try clear hcz28_3
    try clear hcz28_4
    try clear hcz28_5
    try clear hcz28_6
    try clear hcz28_7
    try clear hcz28_8
    try clear hcz30_0
    try clear hcz30_1
    try clear hcz30_2
    try clear hcz30_3
    try clear hcz30_4
    try clear hcz30_5
    try clear hcz30_6
    try clear hcz30_7
    try clear hcz30_8
    try clear hcz31_0
    try clear hcz31_1
    try clear hcz31_2
    try clear hcz31_3
    try clear hcz31_4
    try clear hcz31_5
    try clear hcz31_6
    try clear hcz31_7
    try clear hcz31_8
    try clear hcz33_0
    try clear hcz33_1
    try clear hcz33_2
    try clear hcz33_3
    try clear hcz33_4
    try clear hcz33_5
    try clear hcz33_6
    try clear hcz33_7
    try clear hcz33_8
    try clear hcz34_0
    try clear hcz34_1
    try clear hcz34_2
    try clear hcz34_3
    try clear hcz34_4
    try clear hcz34_5
    try clear hcz34_6
    try clear hcz34_7
    try clear hcz34_8
    try clear hcz36_0
    try clear hcz36_1
    try clear hcz36_2
    try clear hcz36_3
    try clear hcz36_4
    try clear hcz36_5
    try clear hcz36_6
    try clear hcz36_7
    try clear hcz36_8
    try clear hcz37_0
    try clear hcz37_1
    try clear hcz37_2
    try clear hcz37_3
    try clear hcz37_4
    try clear hcz37_5
    try clear hcz37_6
    try clear hcz37_7
    try clear hcz37_8
    try clear hcz8_0
    try clear hcz8_1
    try clear hcz8_2
    try clear hcz8_3
    try clear hcz8_4
    try clear hcz8_5
    try clear hcz8_6
    try clear hcz8_7
    try clear hcz8_8
    try clear hcz9_0
    try clear hcz9_1
    try clear hcz9_2
    try clear hcz9_3
    try clear hcz9_4
    try clear hcz9_5
    try clear hcz9_6
    try clear hcz9_7
    try clear hcz9_8
    try clear hfz13_0
    try clear hfz13_1
    try clear hfz13_2
    try clear hfz13_3
    try clear hfz13_4
    try clear hfz13_5
    try clear hfz13_6
    try clear hfz13_7
    try clear hfz13_8
    try clear hfz14_0
    try clear hfz14_1
    try clear hfz14_2
    try clear hfz14_3
    try clear hfz14_4
    try clear hfz14_5
    try clear hfz14_6
    try clear hfz14_7
    try clear hfz14_8
    try clear hfz19_0
    try clear hfz19_1
    try clear hfz19_2
    try clear hfz19_3
    try clear hfz19_4
    try clear hfz19_5
    try clear hfz19_6
    try clear hfz19_7
    try clear hfz19_8
    try clear hfz20_0
    try clear hfz20_1
    try clear hfz20_2
    try clear hfz20_3
    try clear hfz20_4
    try clear hfz20_5
    try clear hfz20_6
    try clear hfz20_7
    try clear hfz20_8
    try clear hfz23_0
    try clear hfz23_1
    try clear hfz23_2
    try clear hfz23_3
    try clear hfz23_4
    try clear hfz23_5
    try clear hfz23_6
    try clear hfz23_7
    try clear hfz23_8
    try clear hfz24_0
    try clear hfz24_1
    try clear hfz24_2
    try clear hfz24_3
    try clear hfz24_4
    try clear hfz24_5
    try clear hfz24_6
    try clear hfz24_7
    try clear hfz24_8
    try clear hfz27_0
    try clear hfz27_1
    try clear hfz27_2
    try clear hfz27_3
    try clear hfz27_4
    try clear hfz27_5
    try clear hfz27_6
    try clear hfz27_7
    try clear hfz27_8
    try clear hfz28_0
    try clear hfz28_1
    try clear hfz28_2
    try clear hfz28_3
    try clear hfz28_4
    try clear hfz28_5
    try clear hfz28_6
    try clear hfz28_7
    try clear hfz28_8
    try clear hfz30_0
    try clear hfz30_1
    try clear hfz30_2
    try clear hfz30_3
    try clear hfz30_4
    try clear hfz30_5
    try clear hfz30_6
    try clear hfz30_7
    try clear hfz30_8
    try clear hfz31_0
    try clear hfz31_1
    try clear hfz31_2
    try clear hfz31_3
    try clear hfz31_4
    try clear hfz31_5
    try clear hfz31_6
    try clear hfz31_7
    try clear hfz31_8
    try clear hfz33_0
    try clear hfz33_1
    try clear hfz33_2
    try clear hfz33_3
    try clear hfz33_4
    try clear hfz33_5
    try clear hfz33_6
    try clear hfz33_7
    try clear hfz33_8
    try clear hfz34_0
    try clear hfz34_1
    try clear hfz34_2
    try clear hfz34_3
    try clear hfz34_4
    try clear hfz34_5
    try clear hfz34_6
    try clear hfz34_7
    try clear hfz34_8
    try clear hfz36_0
    try clear hfz36_1
    try clear hfz36_2
    try clear hfz36_3
    try clear hfz36_4
    try clear hfz36_5
    try clear hfz36_6
    try clear hfz36_7
    try clear hfz36_8
    try clear hfz37_0
    try clear hfz37_1
    try clear hfz37_2
    try clear hfz37_3
    try clear hfz37_4
    try clear hfz37_5
    try clear hfz37_6
    try clear hfz37_7
    try clear hfz37_8
    try clear hfz8_0
    try clear hfz8_1
    try clear hfz8_2
    try clear hfz8_3
    try clear hfz8_4
    try clear hfz8_5
    try clear hfz8_6
    try clear hfz8_7
    try clear hfz8_8
    try clear hfz9_0
    try clear hfz9_1
    try clear hfz9_2
    try clear hfz9_3
    try clear hfz9_4
    try clear hfz9_5
    try clear hfz9_6
    try clear hfz9_7
    try clear hfz9_8
    obtain ⟨kq, x68_3, rfl, HA, HJ3, BK580, BK581, HB⟩ := hcut
    cases kq with
    | zero => exact absurd HA.out (by simp [ferruleref20_Same.j0])
    | succ kj3 =>
      have H := HA.out
      clear HA
      simp only [ferruleref20_Same.j0] at H
      by_cases c38 : x68_3 = true
      · subst c38
        have H1 : (some false) = some r := by rw [if_pos rfl] at H; exact H
        clear H
        have H := H1
        clear H1
        obtain rfl := Option.some.inj H
        go_wp2
        repeat (go_quiet (fail); try go_wp2)
        go_ret
        exact ⟨by first | rfl | (simp [qz21, qz22] <;> rfl) | (simp [*, qz21, qz22] <;> rfl), by repeat (first | (with_reducible first | exact HB.out | apply qz10 | apply qz5 | apply qz9 | refine qz8 ?_ GE580.out | refine qz8 ?_ GE581.out) | exact HB.out)⟩
      · replace c38 := Bool.eq_false_iff.mpr c38
        subst c38
        have H1 : (ferruleref20_Same.l0 kj3 0 a0_0 a0_1 l0_2 a0_3 a0_4 a0_5 a0_6 a0_7 l0_8 a1_0 a1_1 l1_2 a1_3 a1_4 a1_5 a1_6 a1_7 l1_8) = some r := by rw [if_neg (show ¬ (false = true) by decide)] at H; exact H
        clear H
        have H := H1
        clear H1
        have H' := qza.mk H
        clear H
        go_wp2
        repeat (go_quiet (fail); try go_wp2)
        go_loopg [6] kj3 (fun kq v6 w' => ∃ (x6_2 : Int), v6 = .int .i64 x6_2 ∧ qza (ferruleref20_Same.l0 kq x6_2 a0_0 a0_1 l0_2 a0_3 a0_4 a0_5 a0_6 a0_7 l0_8 a1_0 a1_1 l1_2 a1_3 a1_4 a1_5 a1_6 a1_7 l1_8 = some r) ∧ qza (kq ≤ kj3) ∧ qza (w'.heap[gb580]? = some (.cells #[.int .u64 a0_0, .int .u64 a0_1, (.slice A0_2 l0_2.length c0_2), .int .i64 a0_3, .int .i64 a0_4, .bool a0_5, .bool a0_6, .bool a0_7, (.slice A0_8 l0_8.length c0_8)] 30 (0, 0))) ∧ qza (w'.heap[gb581]? = some (.cells #[.int .u64 a1_0, .int .u64 a1_1, (.slice A1_2 l1_2.length c1_2), .int .i64 a1_3, .int .i64 a1_4, .bool a1_5, .bool a1_6, .bool a1_7, (.slice A1_8 l1_8.length c1_8)] 30 (0, 0))) ∧ qza (Below w.heap.size w w'))
        case atStart => exact ⟨(0), (by first | rfl | (simp; done) | (simp [*]; done)), H', ⟨Nat.le_refl _⟩, ⟨by (with_reducible repeat (first | refine qz3 ?_ _ | refine qz6 ?_ | refine qz4 ?_ _)); exact BK580.out⟩, ⟨by (with_reducible repeat (first | refine qz3 ?_ _ | refine qz6 ?_ | refine qz4 ?_ _)); exact BK581.out⟩, ⟨by repeat (first | (with_reducible first | exact HB.out | apply qz10 | apply qz5 | apply qz9 | refine qz8 ?_ GE580.out | refine qz8 ?_ GE581.out) | exact HB.out)⟩⟩
        case round =>
          clear H'
          try clear c1
          try clear c2
          try clear p2
          try clear c3
          try clear c7
          try clear c10
          try clear c11
          try clear c11b0
          try clear c12
          try clear c13
          try clear c15
          try clear c15b0
          try clear c15b1
          try clear c16
          try clear c16b0
          try clear c16b1
          try clear c17
          try clear c17b0
          try clear c17b1
          try clear c17b2
          try clear c18
          try clear c21
          try clear c21b0
          try clear c21b1
          try clear c21b2
          try clear c22
          try clear c25
          try clear c25b0
          try clear c25b1
          try clear c25b2
          try clear c26
          try clear c29
          try clear c32
          try clear c35
          try clear c38
          try clear hcz13_0
          try clear hcz13_1
          try clear hcz13_2
          try clear hcz13_3
          try clear hcz13_4
          try clear hcz13_5
          try clear hcz13_6
          try clear hcz13_7
          try clear hcz13_8
          try clear hcz14_0
          try clear hcz14_1
          try clear hcz14_2
          try clear hcz14_3
          try clear hcz14_4
          try clear hcz14_5
          try clear hcz14_6
          try clear hcz14_7
          try clear hcz14_8
          try clear hcz19_0
          try clear hcz19_1
          try clear hcz19_2
          try clear hcz19_3
          try clear hcz19_4
          try clear hcz19_5
          try clear hcz19_6
          try clear hcz19_7
          try clear hcz19_8
          try clear hcz20_0
          try clear hcz20_1
          try clear hcz20_2
          try clear hcz20_3
          try clear hcz20_4
          try clear hcz20_5
          try clear hcz20_6
          try clear hcz20_7
          try clear hcz20_8
          try clear hcz23_0
          try clear hcz23_1
          try clear hcz23_2
          try clear hcz23_3
          try clear hcz23_4
          try clear hcz23_5
          try clear hcz23_6
          try clear hcz23_7
          try clear hcz23_8
          try clear hcz24_0
          try clear hcz24_1
          try clear hcz24_2
          try clear hcz24_3
          try clear hcz24_4
          try clear hcz24_5
          try clear hcz24_6
          try clear hcz24_7
          try clear hcz24_8
          try clear hcz27_0
          try clear hcz27_1
          try clear hcz27_2
          try clear hcz27_3
          try clear hcz27_4
          try clear hcz27_5
          try clear hcz27_6
          try clear hcz27_7
          try clear hcz27_8
          try clear hcz28_0
          try clear hcz28_1
          try clear hcz28_2
          try clear hcz28_3
          try clear hcz28_4
          try clear hcz28_5
          try clear hcz28_6
          try clear hcz28_7
          try clear hcz28_8
          try clear hcz30_0
          try clear hcz30_1
          try clear hcz30_2
          try clear hcz30_3
          try clear hcz30_4
          try clear hcz30_5
          try clear hcz30_6
          try clear hcz30_7
          try clear hcz30_8
          try clear hcz31_0
          try clear hcz31_1
          try clear hcz31_2
          try clear hcz31_3
          try clear hcz31_4
          try clear hcz31_5
          try clear hcz31_6
          try clear hcz31_7
          try clear hcz31_8
          try clear hcz33_0
          try clear hcz33_1
          try clear hcz33_2
          try clear hcz33_3
          try clear hcz33_4
          try clear hcz33_5
          try clear hcz33_6
          try clear hcz33_7
          try clear hcz33_8
          try clear hcz34_0
          try clear hcz34_1
          try clear hcz34_2
          try clear hcz34_3
          try clear hcz34_4
          try clear hcz34_5
          try clear hcz34_6
          try clear hcz34_7
          try clear hcz34_8
          try clear hcz36_0
          try clear hcz36_1
          try clear hcz36_2
          try clear hcz36_3
          try clear hcz36_4
          try clear hcz36_5
          try clear hcz36_6
          try clear hcz36_7
          try clear hcz36_8
          try clear hcz37_0
          try clear hcz37_1
          try clear hcz37_2
          try clear hcz37_3
          try clear hcz37_4
          try clear hcz37_5
          try clear hcz37_6
          try clear hcz37_7
          try clear hcz37_8
          try clear hcz8_0
          try clear hcz8_1
          try clear hcz8_2
          try clear hcz8_3
          try clear hcz8_4
          try clear hcz8_5
          try clear hcz8_6
          try clear hcz8_7
          try clear hcz8_8
          try clear hcz9_0
          try clear hcz9_1
          try clear hcz9_2
          try clear hcz9_3
          try clear hcz9_4
          try clear hcz9_5
          try clear hcz9_6
          try clear hcz9_7
          try clear hcz9_8
          try clear hfz13_0
          try clear hfz13_1
          try clear hfz13_2
          try clear hfz13_3
          try clear hfz13_4
          try clear hfz13_5
          try clear hfz13_6
          try clear hfz13_7
          try clear hfz13_8
          try clear hfz14_0
          try clear hfz14_1
          try clear hfz14_2
          try clear hfz14_3
          try clear hfz14_4
          try clear hfz14_5
          try clear hfz14_6
          try clear hfz14_7
          try clear hfz14_8
          try clear hfz19_0
          try clear hfz19_1
          try clear hfz19_2
          try clear hfz19_3
          try clear hfz19_4
          try clear hfz19_5
          try clear hfz19_6
          try clear hfz19_7
          try clear hfz19_8
          try clear hfz20_0
          try clear hfz20_1
          try clear hfz20_2
          try clear hfz20_3
          try clear hfz20_4
          try clear hfz20_5
          try clear hfz20_6
          try clear hfz20_7
          try clear hfz20_8
          try clear hfz23_0
          try clear hfz23_1
          try clear hfz23_2
          try clear hfz23_3
          try clear hfz23_4
          try clear hfz23_5
          try clear hfz23_6
          try clear hfz23_7
          try clear hfz23_8
          try clear hfz24_0
          try clear hfz24_1
          try clear hfz24_2
          try clear hfz24_3
          try clear hfz24_4
          try clear hfz24_5
          try clear hfz24_6
          try clear hfz24_7
          try clear hfz24_8
          try clear hfz27_0
          try clear hfz27_1
          try clear hfz27_2
          try clear hfz27_3
          try clear hfz27_4
          try clear hfz27_5
          try clear hfz27_6
          try clear hfz27_7
          try clear hfz27_8
          try clear hfz28_0
          try clear hfz28_1
          try clear hfz28_2
          try clear hfz28_3
          try clear hfz28_4
          try clear hfz28_5
          try clear hfz28_6
          try clear hfz28_7
          try clear hfz28_8
          try clear hfz30_0
          try clear hfz30_1
          try clear hfz30_2
          try clear hfz30_3
          try clear hfz30_4
          try clear hfz30_5
          try clear hfz30_6
          try clear hfz30_7
          try clear hfz30_8
          try clear hfz31_0
          try clear hfz31_1
          try clear hfz31_2
          try clear hfz31_3
          try clear hfz31_4
          try clear hfz31_5
          try clear hfz31_6
          try clear hfz31_7
          try clear hfz31_8
          try clear hfz33_0
          try clear hfz33_1
          try clear hfz33_2
          try clear hfz33_3
          try clear hfz33_4
          try clear hfz33_5
          try clear hfz33_6
          try clear hfz33_7
          try clear hfz33_8
          try clear hfz34_0
          try clear hfz34_1
          try clear hfz34_2
          try clear hfz34_3
          try clear hfz34_4
          try clear hfz34_5
          try clear hfz34_6
          try clear hfz34_7
          try clear hfz34_8
          try clear hfz36_0
          try clear hfz36_1
          try clear hfz36_2
          try clear hfz36_3
          try clear hfz36_4
          try clear hfz36_5
          try clear hfz36_6
          try clear hfz36_7
          try clear hfz36_8
          try clear hfz37_0
          try clear hfz37_1
          try clear hfz37_2
          try clear hfz37_3
          try clear hfz37_4
          try clear hfz37_5
          try clear hfz37_6
          try clear hfz37_7
          try clear hfz37_8
          try clear hfz8_0
          try clear hfz8_1
          try clear hfz8_2
          try clear hfz8_3
          try clear hfz8_4
          try clear hfz8_5
          try clear hfz8_6
          try clear hfz8_7
          try clear hfz8_8
          try clear hfz9_0
          try clear hfz9_1
          try clear hfz9_2
          try clear hfz9_3
          try clear hfz9_4
          try clear hfz9_5
          try clear hfz9_6
          try clear hfz9_7
          try clear hfz9_8
          try clear p2
          obtain ⟨x6_2, rfl, HA, HK2, BK580, BK581, HB⟩ := hrel
          cases gk with
          | zero => exact absurd HA.out (by simp [ferruleref20_Same.l0])
          | succ k2 =>
            have H := HA.out
            clear HA
            simp only [ferruleref20_Same.l0] at H
            by_cases c39 : x6_2 < (l0_8.length : Int)
            · rw [if_pos c39] at H
              have c39b0 : decide (x6_2 < (l0_8.length : Int)) = true := decide_eq_true c39
              clear c39
              by_cases c40 : 0 ≤ x6_2
              · rw [if_pos c40] at H
                have c40b0 : decide (0 ≤ x6_2) = true := decide_eq_true c40
                clear c40
                by_cases c41 : x6_2 < (l1_8.length : Int)
                · rw [if_pos c41] at H
                  have c41b0 : decide (x6_2 < (l1_8.length : Int)) = true := decide_eq_true c41
                  clear c41
                  by_cases c42 : (!(((qz33 l0_8 x6_2).f0) == ((qz33 l1_8 x6_2).f0)) || (!((((qz33 l0_8 x6_2).f1).toList) == (((qz33 l1_8 x6_2).f1).toList)) || (!((((qz33 l0_8 x6_2).f2).toList) == (((qz33 l1_8 x6_2).f2).toList)) || (!(((qz33 l0_8 x6_2).f3) == ((qz33 l1_8 x6_2).f3)) || (!(((qz33 l0_8 x6_2).f4) == ((qz33 l1_8 x6_2).f4))))))) = true
                  · rw [if_pos c42] at H
                    have c42b0 : (!(((qz33 l0_8 x6_2).f0) == ((qz33 l1_8 x6_2).f0)) || (!((((qz33 l0_8 x6_2).f1).toList) == (((qz33 l1_8 x6_2).f1).toList)) || (!((((qz33 l0_8 x6_2).f2).toList) == (((qz33 l1_8 x6_2).f2).toList)) || (!(((qz33 l0_8 x6_2).f3) == ((qz33 l1_8 x6_2).f3)) || (!(((qz33 l0_8 x6_2).f4) == ((qz33 l1_8 x6_2).f4))))))) = true := c42
                    clear c42
                    obtain rfl := Option.some.inj H
                    have hnb43 := NB580_581.out
                    have hnc43 := NB581_580.out
                    have hcz44_0 : wr.cell? ⟨gb580, 0, none⟩ = some (.int .u64 a0_0) := (qz1 BK580.out 0).trans rfl
                    have hcz44_1 : wr.cell? ⟨gb580, 1, none⟩ = some (.int .u64 a0_1) := (qz1 BK580.out 1).trans rfl
                    have hcz44_2 : wr.cell? ⟨gb580, 2, none⟩ = some (.slice A0_2 l0_2.length c0_2) := (qz1 BK580.out 2).trans rfl
                    have hcz44_3 : wr.cell? ⟨gb580, 3, none⟩ = some (.int .i64 a0_3) := (qz1 BK580.out 3).trans rfl
                    have hcz44_4 : wr.cell? ⟨gb580, 4, none⟩ = some (.int .i64 a0_4) := (qz1 BK580.out 4).trans rfl
                    have hcz44_5 : wr.cell? ⟨gb580, 5, none⟩ = some (.bool a0_5) := (qz1 BK580.out 5).trans rfl
                    have hcz44_6 : wr.cell? ⟨gb580, 6, none⟩ = some (.bool a0_6) := (qz1 BK580.out 6).trans rfl
                    have hcz44_7 : wr.cell? ⟨gb580, 7, none⟩ = some (.bool a0_7) := (qz1 BK580.out 7).trans rfl
                    have hcz44_8 : wr.cell? ⟨gb580, 8, none⟩ = some (.slice A0_8 l0_8.length c0_8) := (qz1 BK580.out 8).trans rfl
                    have hfz44_0 := qz0 BK580.out 0
                    have hfz44_1 := qz0 BK580.out 1
                    have hfz44_2 := qz0 BK580.out 2
                    have hfz44_3 := qz0 BK580.out 3
                    have hfz44_4 := qz0 BK580.out 4
                    have hfz44_5 := qz0 BK580.out 5
                    have hfz44_6 := qz0 BK580.out 6
                    have hfz44_7 := qz0 BK580.out 7
                    have hfz44_8 := qz0 BK580.out 8
                    have p583 : 0 ≤ (x6_2 : Int) := of_decide_eq_true (by first | (with_reducible assumption) | assumption)
                    have q583 : x6_2 < (l0_8.length : Int) := of_decide_eq_true (by first | (with_reducible assumption) | assumption)
                    obtain ⟨ad583, e583, hx583_0, hx583_1, hx583_2, hx583_3, hx583_4⟩ := at_T51 HR0_8.out x6_2 p583 q583
                    cases e583
                    replace hx583_0 := (HB.out.cell (World.block_lt_of_cell? w _ hx583_0)).trans hx583_0
                    replace hx583_1 := (HB.out.cell (World.block_lt_of_cell? w _ hx583_1)).trans hx583_1
                    replace hx583_2 := (HB.out.cell (World.block_lt_of_cell? w _ hx583_2)).trans hx583_2
                    replace hx583_3 := (HB.out.cell (World.block_lt_of_cell? w _ hx583_3)).trans hx583_3
                    replace hx583_4 := (HB.out.cell (World.block_lt_of_cell? w _ hx583_4)).trans hx583_4
                    replace p583 := eq_true p583
                    replace q583 := eq_true q583
                    have hcz45_0 : wr.cell? ⟨gb581, 0, none⟩ = some (.int .u64 a1_0) := (qz1 BK581.out 0).trans rfl
                    have hcz45_1 : wr.cell? ⟨gb581, 1, none⟩ = some (.int .u64 a1_1) := (qz1 BK581.out 1).trans rfl
                    have hcz45_2 : wr.cell? ⟨gb581, 2, none⟩ = some (.slice A1_2 l1_2.length c1_2) := (qz1 BK581.out 2).trans rfl
                    have hcz45_3 : wr.cell? ⟨gb581, 3, none⟩ = some (.int .i64 a1_3) := (qz1 BK581.out 3).trans rfl
                    have hcz45_4 : wr.cell? ⟨gb581, 4, none⟩ = some (.int .i64 a1_4) := (qz1 BK581.out 4).trans rfl
                    have hcz45_5 : wr.cell? ⟨gb581, 5, none⟩ = some (.bool a1_5) := (qz1 BK581.out 5).trans rfl
                    have hcz45_6 : wr.cell? ⟨gb581, 6, none⟩ = some (.bool a1_6) := (qz1 BK581.out 6).trans rfl
                    have hcz45_7 : wr.cell? ⟨gb581, 7, none⟩ = some (.bool a1_7) := (qz1 BK581.out 7).trans rfl
                    have hcz45_8 : wr.cell? ⟨gb581, 8, none⟩ = some (.slice A1_8 l1_8.length c1_8) := (qz1 BK581.out 8).trans rfl
                    have hfz45_0 := qz0 BK581.out 0
                    have hfz45_1 := qz0 BK581.out 1
                    have hfz45_2 := qz0 BK581.out 2
                    have hfz45_3 := qz0 BK581.out 3
                    have hfz45_4 := qz0 BK581.out 4
                    have hfz45_5 := qz0 BK581.out 5
                    have hfz45_6 := qz0 BK581.out 6
                    have hfz45_7 := qz0 BK581.out 7
                    have hfz45_8 := qz0 BK581.out 8
                    have p584 : 0 ≤ (x6_2 : Int) := of_decide_eq_true (by first | (with_reducible assumption) | assumption)
                    have q584 : x6_2 < (l1_8.length : Int) := of_decide_eq_true (by first | (with_reducible assumption) | assumption)
                    obtain ⟨ad584, e584, hx584_0, hx584_1, hx584_2, hx584_3, hx584_4⟩ := at_T51 HR1_8.out x6_2 p584 q584
                    cases e584
                    replace hx584_0 := (HB.out.cell (World.block_lt_of_cell? w _ hx584_0)).trans hx584_0
                    replace hx584_1 := (HB.out.cell (World.block_lt_of_cell? w _ hx584_1)).trans hx584_1
                    replace hx584_2 := (HB.out.cell (World.block_lt_of_cell? w _ hx584_2)).trans hx584_2
                    replace hx584_3 := (HB.out.cell (World.block_lt_of_cell? w _ hx584_3)).trans hx584_3
                    replace hx584_4 := (HB.out.cell (World.block_lt_of_cell? w _ hx584_4)).trans hx584_4
                    replace p584 := eq_true p584
                    replace q584 := eq_true q584
                    go_wp2
                    repeat (go_quiet (fail); try go_wp2)
                    go_ret
                    exact ⟨by first | rfl | (simp [qz21, qz22] <;> rfl) | (simp [*, qz21, qz22] <;> rfl), by repeat (first | (with_reducible first | exact HB.out | apply qz10 | apply qz5 | apply qz9 | refine qz8 ?_ GE580.out | refine qz8 ?_ GE581.out) | exact HB.out)⟩
                  · rw [if_neg c42] at H
                    have c42b0 : (!(((qz33 l0_8 x6_2).f0) == ((qz33 l1_8 x6_2).f0)) || (!((((qz33 l0_8 x6_2).f1).toList) == (((qz33 l1_8 x6_2).f1).toList)) || (!((((qz33 l0_8 x6_2).f2).toList) == (((qz33 l1_8 x6_2).f2).toList)) || (!(((qz33 l0_8 x6_2).f3) == ((qz33 l1_8 x6_2).f3)) || (!(((qz33 l0_8 x6_2).f4) == ((qz33 l1_8 x6_2).f4))))))) = false := by simpa using c42
                    clear c42
                    have H' := qza.mk H
                    clear H
                    have hnb46 := NB580_581.out
                    have hnc46 := NB581_580.out
                    have hcz47_0 : wr.cell? ⟨gb580, 0, none⟩ = some (.int .u64 a0_0) := (qz1 BK580.out 0).trans rfl
                    have hcz47_1 : wr.cell? ⟨gb580, 1, none⟩ = some (.int .u64 a0_1) := (qz1 BK580.out 1).trans rfl
                    have hcz47_2 : wr.cell? ⟨gb580, 2, none⟩ = some (.slice A0_2 l0_2.length c0_2) := (qz1 BK580.out 2).trans rfl
                    have hcz47_3 : wr.cell? ⟨gb580, 3, none⟩ = some (.int .i64 a0_3) := (qz1 BK580.out 3).trans rfl
                    have hcz47_4 : wr.cell? ⟨gb580, 4, none⟩ = some (.int .i64 a0_4) := (qz1 BK580.out 4).trans rfl
                    have hcz47_5 : wr.cell? ⟨gb580, 5, none⟩ = some (.bool a0_5) := (qz1 BK580.out 5).trans rfl
                    have hcz47_6 : wr.cell? ⟨gb580, 6, none⟩ = some (.bool a0_6) := (qz1 BK580.out 6).trans rfl
                    have hcz47_7 : wr.cell? ⟨gb580, 7, none⟩ = some (.bool a0_7) := (qz1 BK580.out 7).trans rfl
                    have hcz47_8 : wr.cell? ⟨gb580, 8, none⟩ = some (.slice A0_8 l0_8.length c0_8) := (qz1 BK580.out 8).trans rfl
                    have hfz47_0 := qz0 BK580.out 0
                    have hfz47_1 := qz0 BK580.out 1
                    have hfz47_2 := qz0 BK580.out 2
                    have hfz47_3 := qz0 BK580.out 3
                    have hfz47_4 := qz0 BK580.out 4
                    have hfz47_5 := qz0 BK580.out 5
                    have hfz47_6 := qz0 BK580.out 6
                    have hfz47_7 := qz0 BK580.out 7
                    have hfz47_8 := qz0 BK580.out 8
                    have p583 : 0 ≤ (x6_2 : Int) := of_decide_eq_true (by first | (with_reducible assumption) | assumption)
                    have q583 : x6_2 < (l0_8.length : Int) := of_decide_eq_true (by first | (with_reducible assumption) | assumption)
                    obtain ⟨ad583, e583, hx583_0, hx583_1, hx583_2, hx583_3, hx583_4⟩ := at_T51 HR0_8.out x6_2 p583 q583
                    cases e583
                    replace hx583_0 := (HB.out.cell (World.block_lt_of_cell? w _ hx583_0)).trans hx583_0
                    replace hx583_1 := (HB.out.cell (World.block_lt_of_cell? w _ hx583_1)).trans hx583_1
                    replace hx583_2 := (HB.out.cell (World.block_lt_of_cell? w _ hx583_2)).trans hx583_2
                    replace hx583_3 := (HB.out.cell (World.block_lt_of_cell? w _ hx583_3)).trans hx583_3
                    replace hx583_4 := (HB.out.cell (World.block_lt_of_cell? w _ hx583_4)).trans hx583_4
                    replace p583 := eq_true p583
                    replace q583 := eq_true q583
                    have hcz48_0 : wr.cell? ⟨gb581, 0, none⟩ = some (.int .u64 a1_0) := (qz1 BK581.out 0).trans rfl
                    have hcz48_1 : wr.cell? ⟨gb581, 1, none⟩ = some (.int .u64 a1_1) := (qz1 BK581.out 1).trans rfl
                    have hcz48_2 : wr.cell? ⟨gb581, 2, none⟩ = some (.slice A1_2 l1_2.length c1_2) := (qz1 BK581.out 2).trans rfl
                    have hcz48_3 : wr.cell? ⟨gb581, 3, none⟩ = some (.int .i64 a1_3) := (qz1 BK581.out 3).trans rfl
                    have hcz48_4 : wr.cell? ⟨gb581, 4, none⟩ = some (.int .i64 a1_4) := (qz1 BK581.out 4).trans rfl
                    have hcz48_5 : wr.cell? ⟨gb581, 5, none⟩ = some (.bool a1_5) := (qz1 BK581.out 5).trans rfl
                    have hcz48_6 : wr.cell? ⟨gb581, 6, none⟩ = some (.bool a1_6) := (qz1 BK581.out 6).trans rfl
                    have hcz48_7 : wr.cell? ⟨gb581, 7, none⟩ = some (.bool a1_7) := (qz1 BK581.out 7).trans rfl
                    have hcz48_8 : wr.cell? ⟨gb581, 8, none⟩ = some (.slice A1_8 l1_8.length c1_8) := (qz1 BK581.out 8).trans rfl
                    have hfz48_0 := qz0 BK581.out 0
                    have hfz48_1 := qz0 BK581.out 1
                    have hfz48_2 := qz0 BK581.out 2
                    have hfz48_3 := qz0 BK581.out 3
                    have hfz48_4 := qz0 BK581.out 4
                    have hfz48_5 := qz0 BK581.out 5
                    have hfz48_6 := qz0 BK581.out 6
                    have hfz48_7 := qz0 BK581.out 7
                    have hfz48_8 := qz0 BK581.out 8
                    have p584 : 0 ≤ (x6_2 : Int) := of_decide_eq_true (by first | (with_reducible assumption) | assumption)
                    have q584 : x6_2 < (l1_8.length : Int) := of_decide_eq_true (by first | (with_reducible assumption) | assumption)
                    obtain ⟨ad584, e584, hx584_0, hx584_1, hx584_2, hx584_3, hx584_4⟩ := at_T51 HR1_8.out x6_2 p584 q584
                    cases e584
                    replace hx584_0 := (HB.out.cell (World.block_lt_of_cell? w _ hx584_0)).trans hx584_0
                    replace hx584_1 := (HB.out.cell (World.block_lt_of_cell? w _ hx584_1)).trans hx584_1
                    replace hx584_2 := (HB.out.cell (World.block_lt_of_cell? w _ hx584_2)).trans hx584_2
                    replace hx584_3 := (HB.out.cell (World.block_lt_of_cell? w _ hx584_3)).trans hx584_3
                    replace hx584_4 := (HB.out.cell (World.block_lt_of_cell? w _ hx584_4)).trans hx584_4
                    replace p584 := eq_true p584
                    replace q584 := eq_true q584
                    go_wp2
                    repeat (go_quiet (fail); try go_wp2)
                    go_roundg k2
                    case measure => have := HJ3.out; have := HK2.out; omega
                    case rel => exact ⟨(wrap64 (x6_2 + 1)), (by first | rfl | (simp; done) | (simp [*]; done)), H', ⟨by have := HJ3.out; have := HK2.out; omega⟩, ⟨by (with_reducible repeat (first | refine qz3 ?_ _ | refine qz6 ?_ | refine qz4 ?_ _)); exact BK580.out⟩, ⟨by (with_reducible repeat (first | refine qz3 ?_ _ | refine qz6 ?_ | refine qz4 ?_ _)); exact BK581.out⟩, ⟨by repeat (first | (with_reducible first | exact HB.out | apply qz10 | apply qz5 | apply qz9 | refine qz8 ?_ GE580.out | refine qz8 ?_ GE581.out) | exact HB.out)⟩⟩
                · rw [if_neg c41] at H
                  exact absurd H (by simp)
              · rw [if_neg c40] at H
                exact absurd H (by simp)
            · rw [if_neg c39] at H
              have c39b0 : decide (x6_2 < (l0_8.length : Int)) = false := decide_eq_false c39
              clear c39
              obtain rfl := Option.some.inj H
              have hnb49 := NB580_581.out
              have hnc49 := NB581_580.out
              have hcz50_0 : wr.cell? ⟨gb580, 0, none⟩ = some (.int .u64 a0_0) := (qz1 BK580.out 0).trans rfl
              have hcz50_1 : wr.cell? ⟨gb580, 1, none⟩ = some (.int .u64 a0_1) := (qz1 BK580.out 1).trans rfl
              have hcz50_2 : wr.cell? ⟨gb580, 2, none⟩ = some (.slice A0_2 l0_2.length c0_2) := (qz1 BK580.out 2).trans rfl
              have hcz50_3 : wr.cell? ⟨gb580, 3, none⟩ = some (.int .i64 a0_3) := (qz1 BK580.out 3).trans rfl
              have hcz50_4 : wr.cell? ⟨gb580, 4, none⟩ = some (.int .i64 a0_4) := (qz1 BK580.out 4).trans rfl
              have hcz50_5 : wr.cell? ⟨gb580, 5, none⟩ = some (.bool a0_5) := (qz1 BK580.out 5).trans rfl
              have hcz50_6 : wr.cell? ⟨gb580, 6, none⟩ = some (.bool a0_6) := (qz1 BK580.out 6).trans rfl
              have hcz50_7 : wr.cell? ⟨gb580, 7, none⟩ = some (.bool a0_7) := (qz1 BK580.out 7).trans rfl
              have hcz50_8 : wr.cell? ⟨gb580, 8, none⟩ = some (.slice A0_8 l0_8.length c0_8) := (qz1 BK580.out 8).trans rfl
              have hfz50_0 := qz0 BK580.out 0
              have hfz50_1 := qz0 BK580.out 1
              have hfz50_2 := qz0 BK580.out 2
              have hfz50_3 := qz0 BK580.out 3
              have hfz50_4 := qz0 BK580.out 4
              have hfz50_5 := qz0 BK580.out 5
              have hfz50_6 := qz0 BK580.out 6
              have hfz50_7 := qz0 BK580.out 7
              have hfz50_8 := qz0 BK580.out 8
              go_wp2
              repeat (go_quiet (fail); try go_wp2)
              go_ret
              exact ⟨by first | rfl | (simp [qz21, qz22] <;> rfl) | (simp [*, qz21, qz22] <;> rfl), by repeat (first | (with_reducible first | exact HB.out | apply qz10 | apply qz5 | apply qz9 | refine qz8 ?_ GE580.out | refine qz8 ?_ GE581.out) | exact HB.out)⟩
end Go.Proofs.Ytkennobdoldlkaa.PAll
end
