/- Joined texts of the claim DrivePlans (part 43): contracts of functions and plain laws. -/
import Derived.Test.YtkennobdoldlkaaJDrivePlans15
import Derived.Test.YtkennobdoldlkaaJDrivePlans40
import Derived.Test.YtkennobdoldlkaaJDrivePlans41
import Derived.Test.YtkennobdoldlkaaJDrivePlans42
section
-- Printed by this session's pr.sh (the kit's print.py, several laws in one namespace). Not trusted: Lean checks it.
namespace Go.Proofs.Ytkennobdoldlkaa.PAll
open Go.RowKit Go.Proofs.YtkennobdoldlkaaW.PrintWords Go.Proofs.YtkennobdoldlkaaW.PrintLast Go.Proofs.YtkennobdoldlkaaW.PrintMore
attribute [local go_sem] max2_int min2_int max_two min_two max_three min_three max_four min_four   -- for this text's walks alone
set_option linter.unusedVariables false
set_option linter.unusedSimpArgs false

/-! ### ferruleref20_May: function 27 -/
mutual
def ferruleref20_May.j0 : Nat → List Int → Bool → Int → Int → List (S53) → Option (Bool)
  | 0, _, _, _, _, _ => none
  | k + 1, x3, x35, x624000, x624001, x624002 => if x35 = true then (some false) else (ferruleref20_May.l0 k x3 0 x624000 x624001 x624002)
def ferruleref20_May.l0 : Nat → List Int → Int → Int → Int → List (S53) → Option (Bool)
  | 0, _, _, _, _, _ => none
  | k + 1, x3, x4, x624000, x624001, x624002 => if x4 < (x624002.length : Int) then (if 0 ≤ x4 then (if ((rd_T53 x624002 x4).f0) < 1 then (some false) else (if ((rd_T53 x624002 x4).f0) > 63 then (some false) else (if (((rd_T53 x624002 x4).f1).size : Int) < 1 then (some false) else (if (((rd_T53 x624002 x4).f1).size : Int) > 16 then (some false) else (if (((rd_T53 x624002 x4).f2).size : Int) > 32 then (some false) else (if ((rd_T53 x624002 x4).f3 = true) then (if (rd_T53 x624002 x4).f4 = true then (if (((rd_T53 x624002 x4).f2).size : Int) > 0 then (some false) else (ferruleref20_May.l0 k x3 (wrap64 (x4 + 1)) x624000 x624001 x624002)) else (ferruleref20_May.l0 k x3 (wrap64 (x4 + 1)) x624000 x624001 x624002)) else (if (((rd_T53 x624002 x4).f2).size : Int) > 0 then (some false) else (if (rd_T53 x624002 x4).f4 = true then (some false) else (ferruleref20_May.l0 k x3 (wrap64 (x4 + 1)) x624000 x624001 x624002))))))))) else (none)) else (ferruleref20_May.l1 k x3 0 x624000 x624001 x624002)
def ferruleref20_May.l1 : Nat → List Int → Int → Int → Int → List (S53) → Option (Bool)
  | 0, _, _, _, _, _ => none
  | k + 1, x3, x6, x624000, x624001, x624002 => if x6 < (x3.length : Int) then (if 0 ≤ x6 then ((ferruleref20_Puts.f k x624000 x624001 x624002 (rd x3 x6)).bind fun t630 => ((ferruleref11_Fits.f t630).bind fun t633 => (if t633 = 0 then (ferruleref20_May.l1 k x3 (wrap64 (x6 + 1)) x624000 x624001 x624002) else (some false)))) else (none)) else (some true)
end
def ferruleref20_May.f (k : Nat) (a0_0 : Int) (a0_1 : Int) (l0_2 : List (S53)) : Option (Bool) := (ferruleref20_Parts.f k a0_0 a0_1 l0_2).bind fun t624 => (if (l0_2.length : Int) < 1 then (ferruleref20_May.j0 k t624 true a0_0 a0_1 l0_2) else (if (l0_2.length : Int) > 12 then (ferruleref20_May.j0 k t624 true a0_0 a0_1 l0_2) else (if (t624.length : Int) > 8 then (ferruleref20_May.j0 k t624 true a0_0 a0_1 l0_2) else (if a0_0 > 4611686018427387903 then (ferruleref20_May.j0 k t624 true a0_0 a0_1 l0_2) else (ferruleref20_May.j0 k t624 (decide (a0_1 > 4611686018427387903)) a0_0 a0_1 l0_2)))))
def ferruleref20_May.T13 : Bool × List (List Nat × List Nat) := (true, [([], []), ([], []), ([], []), ([1, 2], [1, 2]), ([3], [3]), ([0, 4], [0, 4]), ([5, 5], [5]), ([6], [6])])
def ferruleref20_May.B13 : List Nat := [0, 0, 0, 6, 14, 31, 63, 127]
theorem ferruleref20_May.tab13 : rtab .any (opsOf Try.f27 13) = ferruleref20_May.T13 := by kernel_rfl
theorem ferruleref20_May.bits13 : waitsOk ferruleref20_May.T13.2 ferruleref20_May.B13 = true := by kernel_rfl
set_option maxHeartbeats 8000000 in
set_option maxRecDepth 100000 in
theorem ferruleref20_May.calls (k : Nat) (a0_0 : Int) (a0_1 : Int) (A0_2 : Option Addr) (c0_2 : Nat) (l0_2 : List (S53)) (r : Bool) (w : World) (hr0_2 : Kd.C k53 w A0_2 l0_2.length l0_2) (hc0_2 : l0_2.length ≤ c0_2) (h : ferruleref20_May.f k a0_0 a0_1 l0_2 = some r) :
    Calls Try.prog 27 #[.agg #[.int .u64 a0_0, .int .u64 a0_1, .slice A0_2 l0_2.length c0_2]] w fun e w' => e = .returned (.bool r) ∧ Below w.heap.size w w' := by
  have hu27 := Try.underlying27
  have hu53 := Try.underlying53
  have HR0_2 := Aside0.mk hr0_2
  have HC0_2 := Aside0.mk hc0_2
  clear hr0_2 hc0_2
  have HB := Aside0.mk (Below.refl w.heap.size w)
  have H : ((ferruleref20_Parts.f k a0_0 a0_1 l0_2).bind fun t624 => (if (l0_2.length : Int) < 1 then (ferruleref20_May.j0 k t624 true a0_0 a0_1 l0_2) else (if (l0_2.length : Int) > 12 then (ferruleref20_May.j0 k t624 true a0_0 a0_1 l0_2) else (if (t624.length : Int) > 8 then (ferruleref20_May.j0 k t624 true a0_0 a0_1 l0_2) else (if a0_0 > 4611686018427387903 then (ferruleref20_May.j0 k t624 true a0_0 a0_1 l0_2) else (ferruleref20_May.j0 k t624 (decide (a0_1 > 4611686018427387903)) a0_0 a0_1 l0_2)))))) = some r := h
  clear h
  replace H := Option.bind_eq_some_iff.mp H
  obtain ⟨t624, A20, H⟩ := H
  replace H : (if (l0_2.length : Int) < 1 then (ferruleref20_May.j0 k t624 true a0_0 a0_1 l0_2) else (if (l0_2.length : Int) > 12 then (ferruleref20_May.j0 k t624 true a0_0 a0_1 l0_2) else (if (t624.length : Int) > 8 then (ferruleref20_May.j0 k t624 true a0_0 a0_1 l0_2) else (if a0_0 > 4611686018427387903 then (ferruleref20_May.j0 k t624 true a0_0 a0_1 l0_2) else (ferruleref20_May.j0 k t624 (decide (a0_1 > 4611686018427387903)) a0_0 a0_1 l0_2))))) = some r := H
  have A2 := Aside0.mk A20
  clear A20
  have HC3 := Aside0.mk H
  clear H
  go_enter Try.func27, Try.ntmps27
  go_upto_region 2 with (first | ((with_reducible refine gate_dst (N := 1) rfl ?_); (try (refine gate_guard (by rfl) ?_; dsimp only)); refine box_event ?hg (N := 1) ?hd (cs := #[.int .u64 a0_0, .int .u64 a0_1, .slice A0_2 l0_2.length c0_2]) (t := 27) ?hr ?_; (case hd => rfl); (case hg => rfl); (case hr => first | (go_simp; done) | (go_simp; rfl)); intro gb623 hg w4 hbox hb; have n0_ := Aside0.mk (below_step (by repeat (first | (with_reducible first | exact HB.out | apply below_alloc | apply pw_below_drewN | apply below_drew1) | exact HB.out)) hb); have n1_ := Aside0.mk (hbox); have n2_ := Aside0.mk ((by rw [hg]; exact (below_size (by repeat (first | (with_reducible first | exact HB.out | apply below_alloc | apply pw_below_drewN | apply below_drew1) | exact HB.out))) : w.heap.size ≤ gb623)); have n3_ := Aside0.mk ((by rw [hg]; exact (below_size (by repeat (first | (with_reducible first | exact HB.out | apply below_alloc | apply pw_below_drewN | apply below_drew1) | exact HB.out))) : w.heap.size ≤ gb623)); clear HB; have HB := n0_; have BK623 := n1_; have GW623 := n2_; have GE623 := n3_; clear n0_ n1_ n2_ n3_; clear hb hbox hg; have hcz5_0 : w4.cell? ⟨gb623, 0, none⟩ = some (.int .u64 a0_0) := (blk_cell BK623.out 0).trans rfl; have hcz5_1 : w4.cell? ⟨gb623, 1, none⟩ = some (.int .u64 a0_1) := (blk_cell BK623.out 1).trans rfl; have hcz5_2 : w4.cell? ⟨gb623, 2, none⟩ = some (.slice A0_2 l0_2.length c0_2) := (blk_cell BK623.out 2).trans rfl; have hfz5_0 := blk_frozen BK623.out 0; have hfz5_1 := blk_frozen BK623.out 1; have hfz5_2 := blk_frozen BK623.out 2) | ((with_reducible refine gate_callee (f := 19) rfl ?_); refine goesL_ (some 8) rfl rfl Try.func19 (by kernel_rfl) rfl #[.agg #[.int .u64 a0_0, .int .u64 a0_1, .slice A0_2 l0_2.length c0_2]] rfl (by (try simp only [List.map_toArray, List.map_cons, List.map_nil]); first | done | rfl | (simp only [List.length_drop, List.length_take]; rfl)) ?_; (with_reducible refine (ferruleref20_Parts.calls k a0_0 a0_1 _ _ l0_2 t624 _ ?side1 ?side2 A2.out).mono ?_); (case side1 => repeat (first | exact (Kd.C_below HR0_2.out HB.out) | (with_reducible refine Kd.C_alloc ?_ _) | (with_reducible refine Kd.C_drewN ?_ _) | (with_reducible refine Kd.C_drew ?_))); (case side2 => exact HC0_2.out); rintro e w6 ⟨v625, rfl, ho0, hb⟩; refine ⟨_, rfl, ?_⟩; have n0_ := Aside0.mk (Kd.R_lower ho0 (below_size (by repeat (first | (with_reducible first | exact HB.out | apply below_alloc | apply pw_below_drewN | apply below_drew1 | refine below_set ?_ GE623.out) | exact HB.out)))); have n1_ := Aside0.mk (blk_below (g := gb623) (o := .cells #[.int .u64 a0_0, .int .u64 a0_1, .slice A0_2 l0_2.length c0_2] 27 (0, 0)) (by (with_reducible repeat (first | refine blk_drewN ?_ _ | refine blk_drew ?_ | refine blk_alloc ?_ _)); exact BK623.out) hb); have n2_ := Aside0.mk (below_step (by repeat (first | (with_reducible first | exact HB.out | apply below_alloc | apply pw_below_drewN | apply below_drew1 | refine below_set ?_ GE623.out) | exact HB.out)) hb); clear BK623; clear HB; have HO626 := n0_; have BK623 := n1_; have HB := n2_; clear n0_ n1_ n2_; (try clear hb); (try clear hb2); (try clear hk); (try clear hi); (try clear ho0)))
  (try simp only [Act.put, List.setIfInBounds_toArray, List.set_cons_zero, List.set_cons_succ])
  go_cut [35] (fun v35 wc => ∃ (kq : Nat) (x35_2 : Bool), v35 = .bool x35_2 ∧ Aside0 (ferruleref20_May.j0 kq t624 x35_2 a0_0 a0_1 l0_2 = some r) ∧ Aside0 (kq ≤ k) ∧ Aside0 (Kd.R (Kd.int .u64) 22 wc w.heap.size (fun _ => True) v625 t624) ∧ Aside0 (wc.heap[gb623]? = some (.cells #[.int .u64 a0_0, .int .u64 a0_1, (.slice A0_2 l0_2.length c0_2)] 27 (0, 0))) ∧ Aside0 (Below w.heap.size w wc))
  case first =>
    have H := HC3.out
    clear HC3
    by_cases c7 : (l0_2.length : Int) < 1
    · rw [if_pos c7] at H
      have c7b0 : decide ((l0_2.length : Int) < 1) = true := decide_eq_true c7
      have c7b1 : decide (l0_2.length < 1) = true := decide_eq_true (by omega)
      clear c7
      (first | rw [c7b0] | (simp only [i64_w, i32_w]; rw [c7b0]) | skip)
      have H' := Aside0.mk H
      clear H
      have hcz8_0 : w6.cell? ⟨gb623, 0, none⟩ = some (.int .u64 a0_0) := (blk_cell BK623.out 0).trans rfl
      have hcz8_1 : w6.cell? ⟨gb623, 1, none⟩ = some (.int .u64 a0_1) := (blk_cell BK623.out 1).trans rfl
      have hcz8_2 : w6.cell? ⟨gb623, 2, none⟩ = some (.slice A0_2 l0_2.length c0_2) := (blk_cell BK623.out 2).trans rfl
      have hfz8_0 := blk_frozen BK623.out 0
      have hfz8_1 := blk_frozen BK623.out 1
      have hfz8_2 := blk_frozen BK623.out 2
      go_wp2
      go_meet
      case rel => exact ⟨_, (true), (by first | rfl | (simp; done) | (simp [*]; done)), H', ⟨by first | omega | exact Nat.le_refl _⟩, ⟨by (with_reducible repeat (first | apply Kd.R_alloc | apply Kd.R_drewN | apply Kd.R_drew)); exact HO626.out⟩, ⟨by (with_reducible repeat (first | refine blk_drewN ?_ _ | refine blk_drew ?_ | refine blk_alloc ?_ _)); exact BK623.out⟩, ⟨by repeat (first | (with_reducible first | exact HB.out | apply below_alloc | apply pw_below_drewN | apply below_drew1 | refine below_set ?_ GE623.out) | exact HB.out)⟩⟩
    · rw [if_neg c7] at H
      have c7b0 : decide ((l0_2.length : Int) < 1) = false := decide_eq_false c7
      have c7b1 : decide (l0_2.length < 1) = false := decide_eq_false (by omega)
      clear c7
      (first | rw [c7b0] | (simp only [i64_w, i32_w]; rw [c7b0]) | skip)
      by_cases c9 : (l0_2.length : Int) > 12
      · rw [if_pos c9] at H
        have c9b0 : decide (12 < (l0_2.length : Int)) = true := decide_eq_true c9
        have c9b1 : decide (12 < l0_2.length) = true := decide_eq_true (by omega)
        clear c9
        have H' := Aside0.mk H
        clear H
        have hcz10_0 : w6.cell? ⟨gb623, 0, none⟩ = some (.int .u64 a0_0) := (blk_cell BK623.out 0).trans rfl
        have hcz10_1 : w6.cell? ⟨gb623, 1, none⟩ = some (.int .u64 a0_1) := (blk_cell BK623.out 1).trans rfl
        have hcz10_2 : w6.cell? ⟨gb623, 2, none⟩ = some (.slice A0_2 l0_2.length c0_2) := (blk_cell BK623.out 2).trans rfl
        have hfz10_0 := blk_frozen BK623.out 0
        have hfz10_1 := blk_frozen BK623.out 1
        have hfz10_2 := blk_frozen BK623.out 2
        go_wp2
        go_meet
        case rel => exact ⟨_, (true), (by first | rfl | (simp; done) | (simp [*]; done)), H', ⟨by first | omega | exact Nat.le_refl _⟩, ⟨by (with_reducible repeat (first | apply Kd.R_alloc | apply Kd.R_drewN | apply Kd.R_drew)); exact HO626.out⟩, ⟨by (with_reducible repeat (first | refine blk_drewN ?_ _ | refine blk_drew ?_ | refine blk_alloc ?_ _)); exact BK623.out⟩, ⟨by repeat (first | (with_reducible first | exact HB.out | apply below_alloc | apply pw_below_drewN | apply below_drew1 | refine below_set ?_ GE623.out) | exact HB.out)⟩⟩
      · rw [if_neg c9] at H
        have c9b0 : decide (12 < (l0_2.length : Int)) = false := decide_eq_false c9
        have c9b1 : decide (12 < l0_2.length) = false := decide_eq_false (by omega)
        clear c9
        by_cases c11 : (t624.length : Int) > 8
        · rw [if_pos c11] at H
          have c11b0 : decide (8 < (t624.length : Int)) = true := decide_eq_true c11
          have c11b1 : decide (8 < t624.length) = true := decide_eq_true (by omega)
          clear c11
          have H' := Aside0.mk H
          clear H
          have hcz12_0 : w6.cell? ⟨gb623, 0, none⟩ = some (.int .u64 a0_0) := (blk_cell BK623.out 0).trans rfl
          have hcz12_1 : w6.cell? ⟨gb623, 1, none⟩ = some (.int .u64 a0_1) := (blk_cell BK623.out 1).trans rfl
          have hcz12_2 : w6.cell? ⟨gb623, 2, none⟩ = some (.slice A0_2 l0_2.length c0_2) := (blk_cell BK623.out 2).trans rfl
          have hfz12_0 := blk_frozen BK623.out 0
          have hfz12_1 := blk_frozen BK623.out 1
          have hfz12_2 := blk_frozen BK623.out 2
          obtain ⟨Ao13, co13, eo13⟩ := Kd.R_slice HO626.out
          subst eo13
          go_wp2
          go_meet
          case rel => exact ⟨_, (true), (by first | rfl | (simp; done) | (simp [*]; done)), H', ⟨by first | omega | exact Nat.le_refl _⟩, ⟨by (with_reducible repeat (first | apply Kd.R_alloc | apply Kd.R_drewN | apply Kd.R_drew)); exact HO626.out⟩, ⟨by (with_reducible repeat (first | refine blk_drewN ?_ _ | refine blk_drew ?_ | refine blk_alloc ?_ _)); exact BK623.out⟩, ⟨by repeat (first | (with_reducible first | exact HB.out | apply below_alloc | apply pw_below_drewN | apply below_drew1 | refine below_set ?_ GE623.out) | exact HB.out)⟩⟩
        · rw [if_neg c11] at H
          have c11b0 : decide (8 < (t624.length : Int)) = false := decide_eq_false c11
          have c11b1 : decide (8 < t624.length) = false := decide_eq_false (by omega)
          clear c11
          by_cases c14 : a0_0 > 4611686018427387903
          · rw [if_pos c14] at H
            have c14b0 : decide (4611686018427387903 < a0_0) = true := decide_eq_true c14
            clear c14
            have H' := Aside0.mk H
            clear H
            have hcz15_0 : w6.cell? ⟨gb623, 0, none⟩ = some (.int .u64 a0_0) := (blk_cell BK623.out 0).trans rfl
            have hcz15_1 : w6.cell? ⟨gb623, 1, none⟩ = some (.int .u64 a0_1) := (blk_cell BK623.out 1).trans rfl
            have hcz15_2 : w6.cell? ⟨gb623, 2, none⟩ = some (.slice A0_2 l0_2.length c0_2) := (blk_cell BK623.out 2).trans rfl
            have hfz15_0 := blk_frozen BK623.out 0
            have hfz15_1 := blk_frozen BK623.out 1
            have hfz15_2 := blk_frozen BK623.out 2
            obtain ⟨Ao16, co16, eo16⟩ := Kd.R_slice HO626.out
            subst eo16
            go_wp2
            go_meet
            case rel => exact ⟨_, (true), (by first | rfl | (simp; done) | (simp [*]; done)), H', ⟨by first | omega | exact Nat.le_refl _⟩, ⟨by (with_reducible repeat (first | apply Kd.R_alloc | apply Kd.R_drewN | apply Kd.R_drew)); exact HO626.out⟩, ⟨by (with_reducible repeat (first | refine blk_drewN ?_ _ | refine blk_drew ?_ | refine blk_alloc ?_ _)); exact BK623.out⟩, ⟨by repeat (first | (with_reducible first | exact HB.out | apply below_alloc | apply pw_below_drewN | apply below_drew1 | refine below_set ?_ GE623.out) | exact HB.out)⟩⟩
          · rw [if_neg c14] at H
            have c14b0 : decide (4611686018427387903 < a0_0) = false := decide_eq_false c14
            clear c14
            have H' := Aside0.mk H
            clear H
            have hcz17_0 : w6.cell? ⟨gb623, 0, none⟩ = some (.int .u64 a0_0) := (blk_cell BK623.out 0).trans rfl
            have hcz17_1 : w6.cell? ⟨gb623, 1, none⟩ = some (.int .u64 a0_1) := (blk_cell BK623.out 1).trans rfl
            have hcz17_2 : w6.cell? ⟨gb623, 2, none⟩ = some (.slice A0_2 l0_2.length c0_2) := (blk_cell BK623.out 2).trans rfl
            have hfz17_0 := blk_frozen BK623.out 0
            have hfz17_1 := blk_frozen BK623.out 1
            have hfz17_2 := blk_frozen BK623.out 2
            obtain ⟨Ao18, co18, eo18⟩ := Kd.R_slice HO626.out
            subst eo18
            go_wp2
            go_meet
            case rel => exact ⟨_, (decide (a0_1 > 4611686018427387903)), (by first | rfl | (simp; done) | (simp [*]; done)), H', ⟨by first | omega | exact Nat.le_refl _⟩, ⟨by (with_reducible repeat (first | apply Kd.R_alloc | apply Kd.R_drewN | apply Kd.R_drew)); exact HO626.out⟩, ⟨by (with_reducible repeat (first | refine blk_drewN ?_ _ | refine blk_drew ?_ | refine blk_alloc ?_ _)); exact BK623.out⟩, ⟨by repeat (first | (with_reducible first | exact HB.out | apply below_alloc | apply pw_below_drewN | apply below_drew1 | refine below_set ?_ GE623.out) | exact HB.out)⟩⟩
  case rest =>
    clear HC3
    try clear c1
    try clear c2
    try clear p2
    try clear c7
    try clear c7b0
    try clear c7b1
    try clear c9
    try clear c9b0
    try clear c9b1
    try clear c11
    try clear c11b0
    try clear c11b1
    try clear c14
    try clear c14b0
    try clear hcz10_0
    try clear hcz10_1
    try clear hcz10_2
    try clear hcz12_0
    try clear hcz12_1
    try clear hcz12_2
    try clear hcz15_0
    try clear hcz15_1
    try clear hcz15_2
    try clear hcz17_0
    try clear hcz17_1
    try clear hcz17_2
    try clear hcz5_0
    try clear hcz5_1
    try clear hcz5_2
    try clear hcz8_0
    try clear hcz8_1
    try clear hcz8_2
    try clear hfz10_0
    try clear hfz10_1
    try clear hfz10_2
    try clear hfz12_0
    try clear hfz12_1
    try clear hfz12_2
    try clear hfz15_0
    try clear hfz15_1
    try clear hfz15_2
    try clear hfz17_0
    try clear hfz17_1
    try clear hfz17_2
    try clear hfz5_0
    try clear hfz5_1
    try clear hfz5_2
    try clear hfz8_0
    try clear hfz8_1
    try clear hfz8_2
    obtain ⟨kq, x35_2, rfl, HA, HJ2, HO_3, BK623, HB⟩ := hcut
    cases kq with
    | zero => exact absurd HA.out (by simp [ferruleref20_May.j0])
    | succ kj2 =>
      have H := HA.out
      clear HA
      simp only [ferruleref20_May.j0] at H
      by_cases c19 : x35_2 = true
      · subst c19
        have H1 : (some false) = some r := by rw [if_pos rfl] at H; exact H
        clear H
        have H := H1
        clear H1
        obtain rfl := Option.some.inj H
        go_wp2
        go_ret
        exact ⟨by first | rfl | (simp [errW_none, errW_some] <;> rfl) | (simp [*, errW_none, errW_some] <;> rfl), by repeat (first | (with_reducible first | exact HB.out | apply below_alloc | apply pw_below_drewN | apply below_drew1 | refine below_set ?_ GE623.out) | exact HB.out)⟩
      · replace c19 := Bool.eq_false_iff.mpr c19
        subst c19
        have H1 : (ferruleref20_May.l0 kj2 t624 0 a0_0 a0_1 l0_2) = some r := by rw [if_neg (show ¬ (false = true) by decide)] at H; exact H
        clear H
        have H := H1
        clear H1
        have H' := Aside0.mk H
        clear H
        go_wp2
        go_loopg [4] kj2 (fun kq v4 w' => ∃ (x4_2 : Int), v4 = .int .i64 x4_2 ∧ Aside0 (ferruleref20_May.l0 kq t624 x4_2 a0_0 a0_1 l0_2 = some r) ∧ Aside0 (kq ≤ kj2) ∧ Aside0 (Kd.R (Kd.int .u64) 22 w' w.heap.size (fun _ => True) v625 t624) ∧ Aside0 (w'.heap[gb623]? = some (.cells #[.int .u64 a0_0, .int .u64 a0_1, (.slice A0_2 l0_2.length c0_2)] 27 (0, 0))) ∧ Aside0 (Below w.heap.size w w'))
        case atStart => exact ⟨(0), (by first | rfl | (simp; done) | (simp [*]; done)), H', ⟨Nat.le_refl _⟩, ⟨by (with_reducible repeat (first | apply Kd.R_alloc | apply Kd.R_drewN | apply Kd.R_drew)); exact HO_3.out⟩, ⟨by (with_reducible repeat (first | refine blk_drewN ?_ _ | refine blk_drew ?_ | refine blk_alloc ?_ _)); exact BK623.out⟩, ⟨by repeat (first | (with_reducible first | exact HB.out | apply below_alloc | apply pw_below_drewN | apply below_drew1 | refine below_set ?_ GE623.out) | exact HB.out)⟩⟩
        case round =>
          clear H'
          try clear c1
          try clear c2
          try clear p2
          try clear c7
          try clear c7b0
          try clear c7b1
          try clear c9
          try clear c9b0
          try clear c9b1
          try clear c11
          try clear c11b0
          try clear c11b1
          try clear c14
          try clear c14b0
          try clear c19
          try clear hcz10_0
          try clear hcz10_1
          try clear hcz10_2
          try clear hcz12_0
          try clear hcz12_1
          try clear hcz12_2
          try clear hcz15_0
          try clear hcz15_1
          try clear hcz15_2
          try clear hcz17_0
          try clear hcz17_1
          try clear hcz17_2
          try clear hcz5_0
          try clear hcz5_1
          try clear hcz5_2
          try clear hcz8_0
          try clear hcz8_1
          try clear hcz8_2
          try clear hfz10_0
          try clear hfz10_1
          try clear hfz10_2
          try clear hfz12_0
          try clear hfz12_1
          try clear hfz12_2
          try clear hfz15_0
          try clear hfz15_1
          try clear hfz15_2
          try clear hfz17_0
          try clear hfz17_1
          try clear hfz17_2
          try clear hfz5_0
          try clear hfz5_1
          try clear hfz5_2
          try clear hfz8_0
          try clear hfz8_1
          try clear hfz8_2
          try clear p2
          obtain ⟨x4_2, rfl, HA, HK2, HO_3, BK623, HB⟩ := hrel
          cases gk with
          | zero => exact absurd HA.out (by simp [ferruleref20_May.l0])
          | succ k2 =>
            have H := HA.out
            clear HA
            simp only [ferruleref20_May.l0] at H
            by_cases c20 : x4_2 < (l0_2.length : Int)
            · rw [if_pos c20] at H
              have c20b0 : decide (x4_2 < (l0_2.length : Int)) = true := decide_eq_true c20
              clear c20
              by_cases c21 : 0 ≤ x4_2
              · rw [if_pos c21] at H
                have c21b0 : decide (0 ≤ x4_2) = true := decide_eq_true c21
                clear c21
                by_cases c22 : ((rd_T53 l0_2 x4_2).f0) < 1
                · rw [if_pos c22] at H
                  have c22b0 : decide (((rd_T53 l0_2 x4_2).f0) < 1) = true := decide_eq_true c22
                  clear c22
                  obtain rfl := Option.some.inj H
                  have hcz23_0 : wr.cell? ⟨gb623, 0, none⟩ = some (.int .u64 a0_0) := (blk_cell BK623.out 0).trans rfl
                  have hcz23_1 : wr.cell? ⟨gb623, 1, none⟩ = some (.int .u64 a0_1) := (blk_cell BK623.out 1).trans rfl
                  have hcz23_2 : wr.cell? ⟨gb623, 2, none⟩ = some (.slice A0_2 l0_2.length c0_2) := (blk_cell BK623.out 2).trans rfl
                  have hfz23_0 := blk_frozen BK623.out 0
                  have hfz23_1 := blk_frozen BK623.out 1
                  have hfz23_2 := blk_frozen BK623.out 2
                  have p627 : 0 ≤ (x4_2 : Int) := of_decide_eq_true (by first | (with_reducible assumption) | assumption)
                  have q627 : x4_2 < (l0_2.length : Int) := of_decide_eq_true (by first | (with_reducible assumption) | assumption)
                  obtain ⟨ad627, e627, hx627_0, hx627_1, hx627_2, hx627_3, hx627_4⟩ := at_T53 HR0_2.out x4_2 p627 q627
                  cases e627
                  replace hx627_0 := (HB.out.cell (World.block_lt_of_cell? w _ hx627_0)).trans hx627_0
                  replace hx627_1 := (HB.out.cell (World.block_lt_of_cell? w _ hx627_1)).trans hx627_1
                  replace hx627_2 := (HB.out.cell (World.block_lt_of_cell? w _ hx627_2)).trans hx627_2
                  replace hx627_3 := (HB.out.cell (World.block_lt_of_cell? w _ hx627_3)).trans hx627_3
                  replace hx627_4 := (HB.out.cell (World.block_lt_of_cell? w _ hx627_4)).trans hx627_4
                  replace p627 := eq_true p627
                  replace q627 := eq_true q627
                  go_wp2_with (first | ((with_reducible refine gate_dst (N := 5) rfl ?_); (try (refine gate_guard (by rfl) ?_; dsimp only)); refine box_event ?hg (N := 5) ?hd (cs := #[.int .u64 0, .string (⟨#[]⟩ : ByteArray), .string (⟨#[]⟩ : ByteArray), .bool false, .bool false]) (t := 53) ?hr ?_; (case hd => rfl); (case hg => rfl); (case hr => first | (go_simp; done) | (go_simp; rfl)); intro gb628 hg w24 hbox hb; have n0_ := Aside0.mk (Kd.R_below (by (with_reducible repeat (first | apply Kd.R_alloc | apply Kd.R_drewN | apply Kd.R_drew)); exact HO_3.out) hb); have n1_ := Aside0.mk (blk_below (g := gb623) (o := .cells #[.int .u64 a0_0, .int .u64 a0_1, .slice (some ad627) l0_2.length c0_2] 27 (0, 0)) (by (with_reducible repeat (first | refine blk_drewN ?_ _ | refine blk_drew ?_ | refine blk_alloc ?_ _)); exact BK623.out) hb); have n2_ := Aside0.mk (below_step (by repeat (first | (with_reducible first | exact HB.out | apply below_alloc | apply pw_below_drewN | apply below_drew1 | refine below_set ?_ GE623.out) | exact HB.out)) hb); have n3_ := Aside0.mk (hbox); have n4_ := Aside0.mk ((by rw [hg]; exact (below_size (by repeat (first | (with_reducible first | exact HB.out | apply below_alloc | apply pw_below_drewN | apply below_drew1 | refine below_set ?_ GE623.out) | exact HB.out))) : w.heap.size ≤ gb628)); have n5_ := Aside0.mk ((by rw [hg]; exact (below_size (by repeat (first | (with_reducible first | exact HB.out | apply below_alloc | apply pw_below_drewN | apply below_drew1 | refine below_set ?_ GE623.out) | exact HB.out))) : w.heap.size ≤ gb628)); have n6_ := Aside0.mk ((by rw [hg]; exact Nat.ne_of_lt (blk_lt (g := gb623) (o := .cells #[.int .u64 a0_0, .int .u64 a0_1, .slice (some ad627) l0_2.length c0_2] 27 (0, 0)) (by (with_reducible repeat (first | refine blk_drewN ?_ _ | refine blk_drew ?_ | refine blk_alloc ?_ _)); exact BK623.out)) : gb623 ≠ gb628)); have n7_ := Aside0.mk ((by rw [hg]; exact Nat.ne_of_gt (blk_lt (g := gb623) (o := .cells #[.int .u64 a0_0, .int .u64 a0_1, .slice (some ad627) l0_2.length c0_2] 27 (0, 0)) (by (with_reducible repeat (first | refine blk_drewN ?_ _ | refine blk_drew ?_ | refine blk_alloc ?_ _)); exact BK623.out)) : gb628 ≠ gb623)); clear HO_3; clear BK623; clear HB; have HO_3 := n0_; have BK623 := n1_; have HB := n2_; have BK628 := n3_; have GW628 := n4_; have GE628 := n5_; have NB623_628 := n6_; have NB628_623 := n7_; clear n0_ n1_ n2_ n3_ n4_ n5_ n6_ n7_; clear hb hbox hg; have hnb25 := NB628_623.out; have hnc25 := NB623_628.out; have hcz26_0 : w24.cell? ⟨gb628, 0, none⟩ = some (.int .u64 0) := (blk_cell BK628.out 0).trans rfl; have hcz26_1 : w24.cell? ⟨gb628, 1, none⟩ = some (.string (⟨#[]⟩ : ByteArray)) := (blk_cell BK628.out 1).trans rfl; have hcz26_2 : w24.cell? ⟨gb628, 2, none⟩ = some (.string (⟨#[]⟩ : ByteArray)) := (blk_cell BK628.out 2).trans rfl; have hcz26_3 : w24.cell? ⟨gb628, 3, none⟩ = some (.bool false) := (blk_cell BK628.out 3).trans rfl; have hcz26_4 : w24.cell? ⟨gb628, 4, none⟩ = some (.bool false) := (blk_cell BK628.out 4).trans rfl; have hfz26_0 := blk_frozen BK628.out 0; have hfz26_1 := blk_frozen BK628.out 1; have hfz26_2 := blk_frozen BK628.out 2; have hfz26_3 := blk_frozen BK628.out 3; have hfz26_4 := blk_frozen BK628.out 4))
                  go_ret
                  exact ⟨by first | rfl | (simp [errW_none, errW_some] <;> rfl) | (simp [*, errW_none, errW_some] <;> rfl), by repeat (first | (with_reducible first | exact HB.out | apply below_alloc | apply pw_below_drewN | apply below_drew1 | refine below_set ?_ GE623.out | refine below_set ?_ GE628.out) | exact HB.out)⟩
                · rw [if_neg c22] at H
                  have c22b0 : decide (((rd_T53 l0_2 x4_2).f0) < 1) = false := decide_eq_false c22
                  clear c22
                  by_cases c27 : ((rd_T53 l0_2 x4_2).f0) > 63
                  · rw [if_pos c27] at H
                    have c27b0 : decide (63 < ((rd_T53 l0_2 x4_2).f0)) = true := decide_eq_true c27
                    clear c27
                    obtain rfl := Option.some.inj H
                    have hcz28_0 : wr.cell? ⟨gb623, 0, none⟩ = some (.int .u64 a0_0) := (blk_cell BK623.out 0).trans rfl
                    have hcz28_1 : wr.cell? ⟨gb623, 1, none⟩ = some (.int .u64 a0_1) := (blk_cell BK623.out 1).trans rfl
                    have hcz28_2 : wr.cell? ⟨gb623, 2, none⟩ = some (.slice A0_2 l0_2.length c0_2) := (blk_cell BK623.out 2).trans rfl
                    have hfz28_0 := blk_frozen BK623.out 0
                    have hfz28_1 := blk_frozen BK623.out 1
                    have hfz28_2 := blk_frozen BK623.out 2
                    have p627 : 0 ≤ (x4_2 : Int) := of_decide_eq_true (by first | (with_reducible assumption) | assumption)
                    have q627 : x4_2 < (l0_2.length : Int) := of_decide_eq_true (by first | (with_reducible assumption) | assumption)
                    obtain ⟨ad627, e627, hx627_0, hx627_1, hx627_2, hx627_3, hx627_4⟩ := at_T53 HR0_2.out x4_2 p627 q627
                    cases e627
                    replace hx627_0 := (HB.out.cell (World.block_lt_of_cell? w _ hx627_0)).trans hx627_0
                    replace hx627_1 := (HB.out.cell (World.block_lt_of_cell? w _ hx627_1)).trans hx627_1
                    replace hx627_2 := (HB.out.cell (World.block_lt_of_cell? w _ hx627_2)).trans hx627_2
                    replace hx627_3 := (HB.out.cell (World.block_lt_of_cell? w _ hx627_3)).trans hx627_3
                    replace hx627_4 := (HB.out.cell (World.block_lt_of_cell? w _ hx627_4)).trans hx627_4
                    replace p627 := eq_true p627
                    replace q627 := eq_true q627
                    go_wp2_with (first | ((with_reducible refine gate_dst (N := 5) rfl ?_); (try (refine gate_guard (by rfl) ?_; dsimp only)); refine box_event ?hg (N := 5) ?hd (cs := #[.int .u64 0, .string (⟨#[]⟩ : ByteArray), .string (⟨#[]⟩ : ByteArray), .bool false, .bool false]) (t := 53) ?hr ?_; (case hd => rfl); (case hg => rfl); (case hr => first | (go_simp; done) | (go_simp; rfl)); intro gb628 hg w29 hbox hb; have n0_ := Aside0.mk (Kd.R_below (by (with_reducible repeat (first | apply Kd.R_alloc | apply Kd.R_drewN | apply Kd.R_drew)); exact HO_3.out) hb); have n1_ := Aside0.mk (blk_below (g := gb623) (o := .cells #[.int .u64 a0_0, .int .u64 a0_1, .slice (some ad627) l0_2.length c0_2] 27 (0, 0)) (by (with_reducible repeat (first | refine blk_drewN ?_ _ | refine blk_drew ?_ | refine blk_alloc ?_ _)); exact BK623.out) hb); have n2_ := Aside0.mk (below_step (by repeat (first | (with_reducible first | exact HB.out | apply below_alloc | apply pw_below_drewN | apply below_drew1 | refine below_set ?_ GE623.out) | exact HB.out)) hb); have n3_ := Aside0.mk (hbox); have n4_ := Aside0.mk ((by rw [hg]; exact (below_size (by repeat (first | (with_reducible first | exact HB.out | apply below_alloc | apply pw_below_drewN | apply below_drew1 | refine below_set ?_ GE623.out) | exact HB.out))) : w.heap.size ≤ gb628)); have n5_ := Aside0.mk ((by rw [hg]; exact (below_size (by repeat (first | (with_reducible first | exact HB.out | apply below_alloc | apply pw_below_drewN | apply below_drew1 | refine below_set ?_ GE623.out) | exact HB.out))) : w.heap.size ≤ gb628)); have n6_ := Aside0.mk ((by rw [hg]; exact Nat.ne_of_lt (blk_lt (g := gb623) (o := .cells #[.int .u64 a0_0, .int .u64 a0_1, .slice (some ad627) l0_2.length c0_2] 27 (0, 0)) (by (with_reducible repeat (first | refine blk_drewN ?_ _ | refine blk_drew ?_ | refine blk_alloc ?_ _)); exact BK623.out)) : gb623 ≠ gb628)); have n7_ := Aside0.mk ((by rw [hg]; exact Nat.ne_of_gt (blk_lt (g := gb623) (o := .cells #[.int .u64 a0_0, .int .u64 a0_1, .slice (some ad627) l0_2.length c0_2] 27 (0, 0)) (by (with_reducible repeat (first | refine blk_drewN ?_ _ | refine blk_drew ?_ | refine blk_alloc ?_ _)); exact BK623.out)) : gb628 ≠ gb623)); clear HO_3; clear BK623; clear HB; have HO_3 := n0_; have BK623 := n1_; have HB := n2_; have BK628 := n3_; have GW628 := n4_; have GE628 := n5_; have NB623_628 := n6_; have NB628_623 := n7_; clear n0_ n1_ n2_ n3_ n4_ n5_ n6_ n7_; clear hb hbox hg; have hnb30 := NB628_623.out; have hnc30 := NB623_628.out; have hcz31_0 : w29.cell? ⟨gb628, 0, none⟩ = some (.int .u64 0) := (blk_cell BK628.out 0).trans rfl; have hcz31_1 : w29.cell? ⟨gb628, 1, none⟩ = some (.string (⟨#[]⟩ : ByteArray)) := (blk_cell BK628.out 1).trans rfl; have hcz31_2 : w29.cell? ⟨gb628, 2, none⟩ = some (.string (⟨#[]⟩ : ByteArray)) := (blk_cell BK628.out 2).trans rfl; have hcz31_3 : w29.cell? ⟨gb628, 3, none⟩ = some (.bool false) := (blk_cell BK628.out 3).trans rfl; have hcz31_4 : w29.cell? ⟨gb628, 4, none⟩ = some (.bool false) := (blk_cell BK628.out 4).trans rfl; have hfz31_0 := blk_frozen BK628.out 0; have hfz31_1 := blk_frozen BK628.out 1; have hfz31_2 := blk_frozen BK628.out 2; have hfz31_3 := blk_frozen BK628.out 3; have hfz31_4 := blk_frozen BK628.out 4))
                    go_ret
                    exact ⟨by first | rfl | (simp [errW_none, errW_some] <;> rfl) | (simp [*, errW_none, errW_some] <;> rfl), by repeat (first | (with_reducible first | exact HB.out | apply below_alloc | apply pw_below_drewN | apply below_drew1 | refine below_set ?_ GE623.out | refine below_set ?_ GE628.out) | exact HB.out)⟩
                  · rw [if_neg c27] at H
                    have c27b0 : decide (63 < ((rd_T53 l0_2 x4_2).f0)) = false := decide_eq_false c27
                    clear c27
                    by_cases c32 : (((rd_T53 l0_2 x4_2).f1).size : Int) < 1
                    · rw [if_pos c32] at H
                      have c32b0 : decide ((((rd_T53 l0_2 x4_2).f1).size : Int) < 1) = true := decide_eq_true c32
                      have c32b1 : decide (((rd_T53 l0_2 x4_2).f1).size < 1) = true := decide_eq_true (by omega)
                      clear c32
                      obtain rfl := Option.some.inj H
                      have hcz33_0 : wr.cell? ⟨gb623, 0, none⟩ = some (.int .u64 a0_0) := (blk_cell BK623.out 0).trans rfl
                      have hcz33_1 : wr.cell? ⟨gb623, 1, none⟩ = some (.int .u64 a0_1) := (blk_cell BK623.out 1).trans rfl
                      have hcz33_2 : wr.cell? ⟨gb623, 2, none⟩ = some (.slice A0_2 l0_2.length c0_2) := (blk_cell BK623.out 2).trans rfl
                      have hfz33_0 := blk_frozen BK623.out 0
                      have hfz33_1 := blk_frozen BK623.out 1
                      have hfz33_2 := blk_frozen BK623.out 2
                      have p627 : 0 ≤ (x4_2 : Int) := of_decide_eq_true (by first | (with_reducible assumption) | assumption)
                      have q627 : x4_2 < (l0_2.length : Int) := of_decide_eq_true (by first | (with_reducible assumption) | assumption)
                      obtain ⟨ad627, e627, hx627_0, hx627_1, hx627_2, hx627_3, hx627_4⟩ := at_T53 HR0_2.out x4_2 p627 q627
                      cases e627
                      replace hx627_0 := (HB.out.cell (World.block_lt_of_cell? w _ hx627_0)).trans hx627_0
                      replace hx627_1 := (HB.out.cell (World.block_lt_of_cell? w _ hx627_1)).trans hx627_1
                      replace hx627_2 := (HB.out.cell (World.block_lt_of_cell? w _ hx627_2)).trans hx627_2
                      replace hx627_3 := (HB.out.cell (World.block_lt_of_cell? w _ hx627_3)).trans hx627_3
                      replace hx627_4 := (HB.out.cell (World.block_lt_of_cell? w _ hx627_4)).trans hx627_4
                      replace p627 := eq_true p627
                      replace q627 := eq_true q627
                      go_wp2_with (first | ((with_reducible refine gate_dst (N := 5) rfl ?_); (try (refine gate_guard (by rfl) ?_; dsimp only)); refine box_event ?hg (N := 5) ?hd (cs := #[.int .u64 0, .string (⟨#[]⟩ : ByteArray), .string (⟨#[]⟩ : ByteArray), .bool false, .bool false]) (t := 53) ?hr ?_; (case hd => rfl); (case hg => rfl); (case hr => first | (go_simp; done) | (go_simp; rfl)); intro gb628 hg w34 hbox hb; have n0_ := Aside0.mk (Kd.R_below (by (with_reducible repeat (first | apply Kd.R_alloc | apply Kd.R_drewN | apply Kd.R_drew)); exact HO_3.out) hb); have n1_ := Aside0.mk (blk_below (g := gb623) (o := .cells #[.int .u64 a0_0, .int .u64 a0_1, .slice (some ad627) l0_2.length c0_2] 27 (0, 0)) (by (with_reducible repeat (first | refine blk_drewN ?_ _ | refine blk_drew ?_ | refine blk_alloc ?_ _)); exact BK623.out) hb); have n2_ := Aside0.mk (below_step (by repeat (first | (with_reducible first | exact HB.out | apply below_alloc | apply pw_below_drewN | apply below_drew1 | refine below_set ?_ GE623.out) | exact HB.out)) hb); have n3_ := Aside0.mk (hbox); have n4_ := Aside0.mk ((by rw [hg]; exact (below_size (by repeat (first | (with_reducible first | exact HB.out | apply below_alloc | apply pw_below_drewN | apply below_drew1 | refine below_set ?_ GE623.out) | exact HB.out))) : w.heap.size ≤ gb628)); have n5_ := Aside0.mk ((by rw [hg]; exact (below_size (by repeat (first | (with_reducible first | exact HB.out | apply below_alloc | apply pw_below_drewN | apply below_drew1 | refine below_set ?_ GE623.out) | exact HB.out))) : w.heap.size ≤ gb628)); have n6_ := Aside0.mk ((by rw [hg]; exact Nat.ne_of_lt (blk_lt (g := gb623) (o := .cells #[.int .u64 a0_0, .int .u64 a0_1, .slice (some ad627) l0_2.length c0_2] 27 (0, 0)) (by (with_reducible repeat (first | refine blk_drewN ?_ _ | refine blk_drew ?_ | refine blk_alloc ?_ _)); exact BK623.out)) : gb623 ≠ gb628)); have n7_ := Aside0.mk ((by rw [hg]; exact Nat.ne_of_gt (blk_lt (g := gb623) (o := .cells #[.int .u64 a0_0, .int .u64 a0_1, .slice (some ad627) l0_2.length c0_2] 27 (0, 0)) (by (with_reducible repeat (first | refine blk_drewN ?_ _ | refine blk_drew ?_ | refine blk_alloc ?_ _)); exact BK623.out)) : gb628 ≠ gb623)); clear HO_3; clear BK623; clear HB; have HO_3 := n0_; have BK623 := n1_; have HB := n2_; have BK628 := n3_; have GW628 := n4_; have GE628 := n5_; have NB623_628 := n6_; have NB628_623 := n7_; clear n0_ n1_ n2_ n3_ n4_ n5_ n6_ n7_; clear hb hbox hg; have hnb35 := NB628_623.out; have hnc35 := NB623_628.out; have hcz36_0 : w34.cell? ⟨gb628, 0, none⟩ = some (.int .u64 0) := (blk_cell BK628.out 0).trans rfl; have hcz36_1 : w34.cell? ⟨gb628, 1, none⟩ = some (.string (⟨#[]⟩ : ByteArray)) := (blk_cell BK628.out 1).trans rfl; have hcz36_2 : w34.cell? ⟨gb628, 2, none⟩ = some (.string (⟨#[]⟩ : ByteArray)) := (blk_cell BK628.out 2).trans rfl; have hcz36_3 : w34.cell? ⟨gb628, 3, none⟩ = some (.bool false) := (blk_cell BK628.out 3).trans rfl; have hcz36_4 : w34.cell? ⟨gb628, 4, none⟩ = some (.bool false) := (blk_cell BK628.out 4).trans rfl; have hfz36_0 := blk_frozen BK628.out 0; have hfz36_1 := blk_frozen BK628.out 1; have hfz36_2 := blk_frozen BK628.out 2; have hfz36_3 := blk_frozen BK628.out 3; have hfz36_4 := blk_frozen BK628.out 4))
                      go_ret
                      exact ⟨by first | rfl | (simp [errW_none, errW_some] <;> rfl) | (simp [*, errW_none, errW_some] <;> rfl), by repeat (first | (with_reducible first | exact HB.out | apply below_alloc | apply pw_below_drewN | apply below_drew1 | refine below_set ?_ GE623.out | refine below_set ?_ GE628.out) | exact HB.out)⟩
                    · rw [if_neg c32] at H
                      have c32b0 : decide ((((rd_T53 l0_2 x4_2).f1).size : Int) < 1) = false := decide_eq_false c32
                      have c32b1 : decide (((rd_T53 l0_2 x4_2).f1).size < 1) = false := decide_eq_false (by omega)
                      clear c32
                      by_cases c37 : (((rd_T53 l0_2 x4_2).f1).size : Int) > 16
                      · rw [if_pos c37] at H
                        have c37b0 : decide (16 < (((rd_T53 l0_2 x4_2).f1).size : Int)) = true := decide_eq_true c37
                        have c37b1 : decide (16 < ((rd_T53 l0_2 x4_2).f1).size) = true := decide_eq_true (by omega)
                        clear c37
                        obtain rfl := Option.some.inj H
                        have hcz38_0 : wr.cell? ⟨gb623, 0, none⟩ = some (.int .u64 a0_0) := (blk_cell BK623.out 0).trans rfl
                        have hcz38_1 : wr.cell? ⟨gb623, 1, none⟩ = some (.int .u64 a0_1) := (blk_cell BK623.out 1).trans rfl
                        have hcz38_2 : wr.cell? ⟨gb623, 2, none⟩ = some (.slice A0_2 l0_2.length c0_2) := (blk_cell BK623.out 2).trans rfl
                        have hfz38_0 := blk_frozen BK623.out 0
                        have hfz38_1 := blk_frozen BK623.out 1
                        have hfz38_2 := blk_frozen BK623.out 2
                        have p627 : 0 ≤ (x4_2 : Int) := of_decide_eq_true (by first | (with_reducible assumption) | assumption)
                        have q627 : x4_2 < (l0_2.length : Int) := of_decide_eq_true (by first | (with_reducible assumption) | assumption)
                        obtain ⟨ad627, e627, hx627_0, hx627_1, hx627_2, hx627_3, hx627_4⟩ := at_T53 HR0_2.out x4_2 p627 q627
                        cases e627
                        replace hx627_0 := (HB.out.cell (World.block_lt_of_cell? w _ hx627_0)).trans hx627_0
                        replace hx627_1 := (HB.out.cell (World.block_lt_of_cell? w _ hx627_1)).trans hx627_1
                        replace hx627_2 := (HB.out.cell (World.block_lt_of_cell? w _ hx627_2)).trans hx627_2
                        replace hx627_3 := (HB.out.cell (World.block_lt_of_cell? w _ hx627_3)).trans hx627_3
                        replace hx627_4 := (HB.out.cell (World.block_lt_of_cell? w _ hx627_4)).trans hx627_4
                        replace p627 := eq_true p627
                        replace q627 := eq_true q627
                        go_wp2_with (first | ((with_reducible refine gate_dst (N := 5) rfl ?_); (try (refine gate_guard (by rfl) ?_; dsimp only)); refine box_event ?hg (N := 5) ?hd (cs := #[.int .u64 0, .string (⟨#[]⟩ : ByteArray), .string (⟨#[]⟩ : ByteArray), .bool false, .bool false]) (t := 53) ?hr ?_; (case hd => rfl); (case hg => rfl); (case hr => first | (go_simp; done) | (go_simp; rfl)); intro gb628 hg w39 hbox hb; have n0_ := Aside0.mk (Kd.R_below (by (with_reducible repeat (first | apply Kd.R_alloc | apply Kd.R_drewN | apply Kd.R_drew)); exact HO_3.out) hb); have n1_ := Aside0.mk (blk_below (g := gb623) (o := .cells #[.int .u64 a0_0, .int .u64 a0_1, .slice (some ad627) l0_2.length c0_2] 27 (0, 0)) (by (with_reducible repeat (first | refine blk_drewN ?_ _ | refine blk_drew ?_ | refine blk_alloc ?_ _)); exact BK623.out) hb); have n2_ := Aside0.mk (below_step (by repeat (first | (with_reducible first | exact HB.out | apply below_alloc | apply pw_below_drewN | apply below_drew1 | refine below_set ?_ GE623.out) | exact HB.out)) hb); have n3_ := Aside0.mk (hbox); have n4_ := Aside0.mk ((by rw [hg]; exact (below_size (by repeat (first | (with_reducible first | exact HB.out | apply below_alloc | apply pw_below_drewN | apply below_drew1 | refine below_set ?_ GE623.out) | exact HB.out))) : w.heap.size ≤ gb628)); have n5_ := Aside0.mk ((by rw [hg]; exact (below_size (by repeat (first | (with_reducible first | exact HB.out | apply below_alloc | apply pw_below_drewN | apply below_drew1 | refine below_set ?_ GE623.out) | exact HB.out))) : w.heap.size ≤ gb628)); have n6_ := Aside0.mk ((by rw [hg]; exact Nat.ne_of_lt (blk_lt (g := gb623) (o := .cells #[.int .u64 a0_0, .int .u64 a0_1, .slice (some ad627) l0_2.length c0_2] 27 (0, 0)) (by (with_reducible repeat (first | refine blk_drewN ?_ _ | refine blk_drew ?_ | refine blk_alloc ?_ _)); exact BK623.out)) : gb623 ≠ gb628)); have n7_ := Aside0.mk ((by rw [hg]; exact Nat.ne_of_gt (blk_lt (g := gb623) (o := .cells #[.int .u64 a0_0, .int .u64 a0_1, .slice (some ad627) l0_2.length c0_2] 27 (0, 0)) (by (with_reducible repeat (first | refine blk_drewN ?_ _ | refine blk_drew ?_ | refine blk_alloc ?_ _)); exact BK623.out)) : gb628 ≠ gb623)); clear HO_3; clear BK623; clear HB; have HO_3 := n0_; have BK623 := n1_; have HB := n2_; have BK628 := n3_; have GW628 := n4_; have GE628 := n5_; have NB623_628 := n6_; have NB628_623 := n7_; clear n0_ n1_ n2_ n3_ n4_ n5_ n6_ n7_; clear hb hbox hg; have hnb40 := NB628_623.out; have hnc40 := NB623_628.out; have hcz41_0 : w39.cell? ⟨gb628, 0, none⟩ = some (.int .u64 0) := (blk_cell BK628.out 0).trans rfl; have hcz41_1 : w39.cell? ⟨gb628, 1, none⟩ = some (.string (⟨#[]⟩ : ByteArray)) := (blk_cell BK628.out 1).trans rfl; have hcz41_2 : w39.cell? ⟨gb628, 2, none⟩ = some (.string (⟨#[]⟩ : ByteArray)) := (blk_cell BK628.out 2).trans rfl; have hcz41_3 : w39.cell? ⟨gb628, 3, none⟩ = some (.bool false) := (blk_cell BK628.out 3).trans rfl; have hcz41_4 : w39.cell? ⟨gb628, 4, none⟩ = some (.bool false) := (blk_cell BK628.out 4).trans rfl; have hfz41_0 := blk_frozen BK628.out 0; have hfz41_1 := blk_frozen BK628.out 1; have hfz41_2 := blk_frozen BK628.out 2; have hfz41_3 := blk_frozen BK628.out 3; have hfz41_4 := blk_frozen BK628.out 4))
                        go_ret
                        exact ⟨by first | rfl | (simp [errW_none, errW_some] <;> rfl) | (simp [*, errW_none, errW_some] <;> rfl), by repeat (first | (with_reducible first | exact HB.out | apply below_alloc | apply pw_below_drewN | apply below_drew1 | refine below_set ?_ GE623.out | refine below_set ?_ GE628.out) | exact HB.out)⟩
                      · rw [if_neg c37] at H
                        have c37b0 : decide (16 < (((rd_T53 l0_2 x4_2).f1).size : Int)) = false := decide_eq_false c37
                        have c37b1 : decide (16 < ((rd_T53 l0_2 x4_2).f1).size) = false := decide_eq_false (by omega)
                        clear c37
                        by_cases c42 : (((rd_T53 l0_2 x4_2).f2).size : Int) > 32
                        · rw [if_pos c42] at H
                          have c42b0 : decide (32 < (((rd_T53 l0_2 x4_2).f2).size : Int)) = true := decide_eq_true c42
                          have c42b1 : decide (32 < ((rd_T53 l0_2 x4_2).f2).size) = true := decide_eq_true (by omega)
                          clear c42
                          obtain rfl := Option.some.inj H
                          have hcz43_0 : wr.cell? ⟨gb623, 0, none⟩ = some (.int .u64 a0_0) := (blk_cell BK623.out 0).trans rfl
                          have hcz43_1 : wr.cell? ⟨gb623, 1, none⟩ = some (.int .u64 a0_1) := (blk_cell BK623.out 1).trans rfl
                          have hcz43_2 : wr.cell? ⟨gb623, 2, none⟩ = some (.slice A0_2 l0_2.length c0_2) := (blk_cell BK623.out 2).trans rfl
                          have hfz43_0 := blk_frozen BK623.out 0
                          have hfz43_1 := blk_frozen BK623.out 1
                          have hfz43_2 := blk_frozen BK623.out 2
                          have p627 : 0 ≤ (x4_2 : Int) := of_decide_eq_true (by first | (with_reducible assumption) | assumption)
                          have q627 : x4_2 < (l0_2.length : Int) := of_decide_eq_true (by first | (with_reducible assumption) | assumption)
                          obtain ⟨ad627, e627, hx627_0, hx627_1, hx627_2, hx627_3, hx627_4⟩ := at_T53 HR0_2.out x4_2 p627 q627
                          cases e627
                          replace hx627_0 := (HB.out.cell (World.block_lt_of_cell? w _ hx627_0)).trans hx627_0
                          replace hx627_1 := (HB.out.cell (World.block_lt_of_cell? w _ hx627_1)).trans hx627_1
                          replace hx627_2 := (HB.out.cell (World.block_lt_of_cell? w _ hx627_2)).trans hx627_2
                          replace hx627_3 := (HB.out.cell (World.block_lt_of_cell? w _ hx627_3)).trans hx627_3
                          replace hx627_4 := (HB.out.cell (World.block_lt_of_cell? w _ hx627_4)).trans hx627_4
                          replace p627 := eq_true p627
                          replace q627 := eq_true q627
                          go_wp2_with (first | ((with_reducible refine gate_dst (N := 5) rfl ?_); (try (refine gate_guard (by rfl) ?_; dsimp only)); refine box_event ?hg (N := 5) ?hd (cs := #[.int .u64 0, .string (⟨#[]⟩ : ByteArray), .string (⟨#[]⟩ : ByteArray), .bool false, .bool false]) (t := 53) ?hr ?_; (case hd => rfl); (case hg => rfl); (case hr => first | (go_simp; done) | (go_simp; rfl)); intro gb628 hg w44 hbox hb; have n0_ := Aside0.mk (Kd.R_below (by (with_reducible repeat (first | apply Kd.R_alloc | apply Kd.R_drewN | apply Kd.R_drew)); exact HO_3.out) hb); have n1_ := Aside0.mk (blk_below (g := gb623) (o := .cells #[.int .u64 a0_0, .int .u64 a0_1, .slice (some ad627) l0_2.length c0_2] 27 (0, 0)) (by (with_reducible repeat (first | refine blk_drewN ?_ _ | refine blk_drew ?_ | refine blk_alloc ?_ _)); exact BK623.out) hb); have n2_ := Aside0.mk (below_step (by repeat (first | (with_reducible first | exact HB.out | apply below_alloc | apply pw_below_drewN | apply below_drew1 | refine below_set ?_ GE623.out) | exact HB.out)) hb); have n3_ := Aside0.mk (hbox); have n4_ := Aside0.mk ((by rw [hg]; exact (below_size (by repeat (first | (with_reducible first | exact HB.out | apply below_alloc | apply pw_below_drewN | apply below_drew1 | refine below_set ?_ GE623.out) | exact HB.out))) : w.heap.size ≤ gb628)); have n5_ := Aside0.mk ((by rw [hg]; exact (below_size (by repeat (first | (with_reducible first | exact HB.out | apply below_alloc | apply pw_below_drewN | apply below_drew1 | refine below_set ?_ GE623.out) | exact HB.out))) : w.heap.size ≤ gb628)); have n6_ := Aside0.mk ((by rw [hg]; exact Nat.ne_of_lt (blk_lt (g := gb623) (o := .cells #[.int .u64 a0_0, .int .u64 a0_1, .slice (some ad627) l0_2.length c0_2] 27 (0, 0)) (by (with_reducible repeat (first | refine blk_drewN ?_ _ | refine blk_drew ?_ | refine blk_alloc ?_ _)); exact BK623.out)) : gb623 ≠ gb628)); have n7_ := Aside0.mk ((by rw [hg]; exact Nat.ne_of_gt (blk_lt (g := gb623) (o := .cells #[.int .u64 a0_0, .int .u64 a0_1, .slice (some ad627) l0_2.length c0_2] 27 (0, 0)) (by (with_reducible repeat (first | refine blk_drewN ?_ _ | refine blk_drew ?_ | refine blk_alloc ?_ _)); exact BK623.out)) : gb628 ≠ gb623)); clear HO_3; clear BK623; clear HB; have HO_3 := n0_; have BK623 := n1_; have HB := n2_; have BK628 := n3_; have GW628 := n4_; have GE628 := n5_; have NB623_628 := n6_; have NB628_623 := n7_; clear n0_ n1_ n2_ n3_ n4_ n5_ n6_ n7_; clear hb hbox hg; have hnb45 := NB628_623.out; have hnc45 := NB623_628.out; have hcz46_0 : w44.cell? ⟨gb628, 0, none⟩ = some (.int .u64 0) := (blk_cell BK628.out 0).trans rfl; have hcz46_1 : w44.cell? ⟨gb628, 1, none⟩ = some (.string (⟨#[]⟩ : ByteArray)) := (blk_cell BK628.out 1).trans rfl; have hcz46_2 : w44.cell? ⟨gb628, 2, none⟩ = some (.string (⟨#[]⟩ : ByteArray)) := (blk_cell BK628.out 2).trans rfl; have hcz46_3 : w44.cell? ⟨gb628, 3, none⟩ = some (.bool false) := (blk_cell BK628.out 3).trans rfl; have hcz46_4 : w44.cell? ⟨gb628, 4, none⟩ = some (.bool false) := (blk_cell BK628.out 4).trans rfl; have hfz46_0 := blk_frozen BK628.out 0; have hfz46_1 := blk_frozen BK628.out 1; have hfz46_2 := blk_frozen BK628.out 2; have hfz46_3 := blk_frozen BK628.out 3; have hfz46_4 := blk_frozen BK628.out 4))
                          go_ret
                          exact ⟨by first | rfl | (simp [errW_none, errW_some] <;> rfl) | (simp [*, errW_none, errW_some] <;> rfl), by repeat (first | (with_reducible first | exact HB.out | apply below_alloc | apply pw_below_drewN | apply below_drew1 | refine below_set ?_ GE623.out | refine below_set ?_ GE628.out) | exact HB.out)⟩
                        · rw [if_neg c42] at H
                          have c42b0 : decide (32 < (((rd_T53 l0_2 x4_2).f2).size : Int)) = false := decide_eq_false c42
                          have c42b1 : decide (32 < ((rd_T53 l0_2 x4_2).f2).size) = false := decide_eq_false (by omega)
                          clear c42
                          obtain ⟨bq47, hbq47⟩ : ∃ b_ : Bool, b_ = ((rd_T53 l0_2 x4_2).f3) := ⟨_, rfl⟩
                          replace H : (if (bq47 = true) then (if (rd_T53 l0_2 x4_2).f4 = true then (if (((rd_T53 l0_2 x4_2).f2).size : Int) > 0 then (some false) else (ferruleref20_May.l0 k2 t624 (wrap64 (x4_2 + 1)) a0_0 a0_1 l0_2)) else (ferruleref20_May.l0 k2 t624 (wrap64 (x4_2 + 1)) a0_0 a0_1 l0_2)) else (if (((rd_T53 l0_2 x4_2).f2).size : Int) > 0 then (some false) else (if (rd_T53 l0_2 x4_2).f4 = true then (some false) else (ferruleref20_May.l0 k2 t624 (wrap64 (x4_2 + 1)) a0_0 a0_1 l0_2)))) = some r := by rw [← hbq47] at H; exact H
                          have Nbq47 := Aside0.mk hbq47
                          clear hbq47
                          by_cases c48 : (bq47 = true)
                          · subst c48
                            have H1 : (if (rd_T53 l0_2 x4_2).f4 = true then (if (((rd_T53 l0_2 x4_2).f2).size : Int) > 0 then (some false) else (ferruleref20_May.l0 k2 t624 (wrap64 (x4_2 + 1)) a0_0 a0_1 l0_2)) else (ferruleref20_May.l0 k2 t624 (wrap64 (x4_2 + 1)) a0_0 a0_1 l0_2)) = some r := by rw [if_pos rfl] at H; exact H
                            clear H
                            have H := H1
                            clear H1
                            obtain ⟨bq49, hbq49⟩ : ∃ b_ : Bool, b_ = ((rd_T53 l0_2 x4_2).f4) := ⟨_, rfl⟩
                            replace H : (if bq49 = true then (if (((rd_T53 l0_2 x4_2).f2).size : Int) > 0 then (some false) else (ferruleref20_May.l0 k2 t624 (wrap64 (x4_2 + 1)) a0_0 a0_1 l0_2)) else (ferruleref20_May.l0 k2 t624 (wrap64 (x4_2 + 1)) a0_0 a0_1 l0_2)) = some r := by rw [← hbq49] at H; exact H
                            have Nbq49 := Aside0.mk hbq49
                            clear hbq49
                            by_cases c50 : bq49 = true
                            · subst c50
                              have H1 : (if (((rd_T53 l0_2 x4_2).f2).size : Int) > 0 then (some false) else (ferruleref20_May.l0 k2 t624 (wrap64 (x4_2 + 1)) a0_0 a0_1 l0_2)) = some r := by rw [if_pos rfl] at H; exact H
                              clear H
                              have H := H1
                              clear H1
                              by_cases c51 : (((rd_T53 l0_2 x4_2).f2).size : Int) > 0
                              · rw [if_pos c51] at H
                                have c51b0 : decide (0 < (((rd_T53 l0_2 x4_2).f2).size : Int)) = true := decide_eq_true c51
                                have c51b1 : decide (0 < ((rd_T53 l0_2 x4_2).f2).size) = true := decide_eq_true (by omega)
                                clear c51
                                obtain rfl := Option.some.inj H
                                have hcz52_0 : wr.cell? ⟨gb623, 0, none⟩ = some (.int .u64 a0_0) := (blk_cell BK623.out 0).trans rfl
                                have hcz52_1 : wr.cell? ⟨gb623, 1, none⟩ = some (.int .u64 a0_1) := (blk_cell BK623.out 1).trans rfl
                                have hcz52_2 : wr.cell? ⟨gb623, 2, none⟩ = some (.slice A0_2 l0_2.length c0_2) := (blk_cell BK623.out 2).trans rfl
                                have hfz52_0 := blk_frozen BK623.out 0
                                have hfz52_1 := blk_frozen BK623.out 1
                                have hfz52_2 := blk_frozen BK623.out 2
                                have p627 : 0 ≤ (x4_2 : Int) := of_decide_eq_true (by first | (with_reducible assumption) | assumption)
                                have q627 : x4_2 < (l0_2.length : Int) := of_decide_eq_true (by first | (with_reducible assumption) | assumption)
                                obtain ⟨ad627, e627, hx627_0, hx627_1, hx627_2, hx627_3, hx627_4⟩ := at_T53 HR0_2.out x4_2 p627 q627
                                (try rw [← Nbq47.out] at hx627_3)
                                (try rw [← Nbq49.out] at hx627_3)
                                (try rw [← Nbq47.out] at hx627_4)
                                (try rw [← Nbq49.out] at hx627_4)
                                cases e627
                                replace hx627_0 := (HB.out.cell (World.block_lt_of_cell? w _ hx627_0)).trans hx627_0
                                replace hx627_1 := (HB.out.cell (World.block_lt_of_cell? w _ hx627_1)).trans hx627_1
                                replace hx627_2 := (HB.out.cell (World.block_lt_of_cell? w _ hx627_2)).trans hx627_2
                                replace hx627_3 := (HB.out.cell (World.block_lt_of_cell? w _ hx627_3)).trans hx627_3
                                replace hx627_4 := (HB.out.cell (World.block_lt_of_cell? w _ hx627_4)).trans hx627_4
                                replace p627 := eq_true p627
                                replace q627 := eq_true q627
                                go_wp2_with (first | ((with_reducible refine gate_dst (N := 5) rfl ?_); (try (refine gate_guard (by rfl) ?_; dsimp only)); refine box_event ?hg (N := 5) ?hd (cs := #[.int .u64 0, .string (⟨#[]⟩ : ByteArray), .string (⟨#[]⟩ : ByteArray), .bool false, .bool false]) (t := 53) ?hr ?_; (case hd => rfl); (case hg => rfl); (case hr => first | (go_simp; done) | (go_simp; rfl)); intro gb628 hg w53 hbox hb; have n0_ := Aside0.mk (Kd.R_below (by (with_reducible repeat (first | apply Kd.R_alloc | apply Kd.R_drewN | apply Kd.R_drew)); exact HO_3.out) hb); have n1_ := Aside0.mk (blk_below (g := gb623) (o := .cells #[.int .u64 a0_0, .int .u64 a0_1, .slice (some ad627) l0_2.length c0_2] 27 (0, 0)) (by (with_reducible repeat (first | refine blk_drewN ?_ _ | refine blk_drew ?_ | refine blk_alloc ?_ _)); exact BK623.out) hb); have n2_ := Aside0.mk (below_step (by repeat (first | (with_reducible first | exact HB.out | apply below_alloc | apply pw_below_drewN | apply below_drew1 | refine below_set ?_ GE623.out) | exact HB.out)) hb); have n3_ := Aside0.mk (hbox); have n4_ := Aside0.mk ((by rw [hg]; exact (below_size (by repeat (first | (with_reducible first | exact HB.out | apply below_alloc | apply pw_below_drewN | apply below_drew1 | refine below_set ?_ GE623.out) | exact HB.out))) : w.heap.size ≤ gb628)); have n5_ := Aside0.mk ((by rw [hg]; exact (below_size (by repeat (first | (with_reducible first | exact HB.out | apply below_alloc | apply pw_below_drewN | apply below_drew1 | refine below_set ?_ GE623.out) | exact HB.out))) : w.heap.size ≤ gb628)); have n6_ := Aside0.mk ((by rw [hg]; exact Nat.ne_of_lt (blk_lt (g := gb623) (o := .cells #[.int .u64 a0_0, .int .u64 a0_1, .slice (some ad627) l0_2.length c0_2] 27 (0, 0)) (by (with_reducible repeat (first | refine blk_drewN ?_ _ | refine blk_drew ?_ | refine blk_alloc ?_ _)); exact BK623.out)) : gb623 ≠ gb628)); have n7_ := Aside0.mk ((by rw [hg]; exact Nat.ne_of_gt (blk_lt (g := gb623) (o := .cells #[.int .u64 a0_0, .int .u64 a0_1, .slice (some ad627) l0_2.length c0_2] 27 (0, 0)) (by (with_reducible repeat (first | refine blk_drewN ?_ _ | refine blk_drew ?_ | refine blk_alloc ?_ _)); exact BK623.out)) : gb628 ≠ gb623)); clear HO_3; clear BK623; clear HB; have HO_3 := n0_; have BK623 := n1_; have HB := n2_; have BK628 := n3_; have GW628 := n4_; have GE628 := n5_; have NB623_628 := n6_; have NB628_623 := n7_; clear n0_ n1_ n2_ n3_ n4_ n5_ n6_ n7_; clear hb hbox hg; have hnb54 := NB628_623.out; have hnc54 := NB623_628.out; have hcz55_0 : w53.cell? ⟨gb628, 0, none⟩ = some (.int .u64 0) := (blk_cell BK628.out 0).trans rfl; have hcz55_1 : w53.cell? ⟨gb628, 1, none⟩ = some (.string (⟨#[]⟩ : ByteArray)) := (blk_cell BK628.out 1).trans rfl; have hcz55_2 : w53.cell? ⟨gb628, 2, none⟩ = some (.string (⟨#[]⟩ : ByteArray)) := (blk_cell BK628.out 2).trans rfl; have hcz55_3 : w53.cell? ⟨gb628, 3, none⟩ = some (.bool false) := (blk_cell BK628.out 3).trans rfl; have hcz55_4 : w53.cell? ⟨gb628, 4, none⟩ = some (.bool false) := (blk_cell BK628.out 4).trans rfl; have hfz55_0 := blk_frozen BK628.out 0; have hfz55_1 := blk_frozen BK628.out 1; have hfz55_2 := blk_frozen BK628.out 2; have hfz55_3 := blk_frozen BK628.out 3; have hfz55_4 := blk_frozen BK628.out 4))
                                go_ret
                                exact ⟨by first | rfl | (simp [errW_none, errW_some] <;> rfl) | (simp [*, errW_none, errW_some] <;> rfl), by repeat (first | (with_reducible first | exact HB.out | apply below_alloc | apply pw_below_drewN | apply below_drew1 | refine below_set ?_ GE623.out | refine below_set ?_ GE628.out) | exact HB.out)⟩
                              · rw [if_neg c51] at H
                                have c51b0 : decide (0 < (((rd_T53 l0_2 x4_2).f2).size : Int)) = false := decide_eq_false c51
                                have c51b1 : decide (0 < ((rd_T53 l0_2 x4_2).f2).size) = false := decide_eq_false (by omega)
                                clear c51
                                have H' := Aside0.mk H
                                clear H
                                have hcz56_0 : wr.cell? ⟨gb623, 0, none⟩ = some (.int .u64 a0_0) := (blk_cell BK623.out 0).trans rfl
                                have hcz56_1 : wr.cell? ⟨gb623, 1, none⟩ = some (.int .u64 a0_1) := (blk_cell BK623.out 1).trans rfl
                                have hcz56_2 : wr.cell? ⟨gb623, 2, none⟩ = some (.slice A0_2 l0_2.length c0_2) := (blk_cell BK623.out 2).trans rfl
                                have hfz56_0 := blk_frozen BK623.out 0
                                have hfz56_1 := blk_frozen BK623.out 1
                                have hfz56_2 := blk_frozen BK623.out 2
                                have p627 : 0 ≤ (x4_2 : Int) := of_decide_eq_true (by first | (with_reducible assumption) | assumption)
                                have q627 : x4_2 < (l0_2.length : Int) := of_decide_eq_true (by first | (with_reducible assumption) | assumption)
                                obtain ⟨ad627, e627, hx627_0, hx627_1, hx627_2, hx627_3, hx627_4⟩ := at_T53 HR0_2.out x4_2 p627 q627
                                (try rw [← Nbq47.out] at hx627_3)
                                (try rw [← Nbq49.out] at hx627_3)
                                (try rw [← Nbq47.out] at hx627_4)
                                (try rw [← Nbq49.out] at hx627_4)
                                cases e627
                                replace hx627_0 := (HB.out.cell (World.block_lt_of_cell? w _ hx627_0)).trans hx627_0
                                replace hx627_1 := (HB.out.cell (World.block_lt_of_cell? w _ hx627_1)).trans hx627_1
                                replace hx627_2 := (HB.out.cell (World.block_lt_of_cell? w _ hx627_2)).trans hx627_2
                                replace hx627_3 := (HB.out.cell (World.block_lt_of_cell? w _ hx627_3)).trans hx627_3
                                replace hx627_4 := (HB.out.cell (World.block_lt_of_cell? w _ hx627_4)).trans hx627_4
                                replace p627 := eq_true p627
                                replace q627 := eq_true q627
                                go_wp2_with (first | ((with_reducible refine gate_dst (N := 5) rfl ?_); (try (refine gate_guard (by rfl) ?_; dsimp only)); refine box_event ?hg (N := 5) ?hd (cs := #[.int .u64 0, .string (⟨#[]⟩ : ByteArray), .string (⟨#[]⟩ : ByteArray), .bool false, .bool false]) (t := 53) ?hr ?_; (case hd => rfl); (case hg => rfl); (case hr => first | (go_simp; done) | (go_simp; rfl)); intro gb628 hg w57 hbox hb; have n0_ := Aside0.mk (Kd.R_below (by (with_reducible repeat (first | apply Kd.R_alloc | apply Kd.R_drewN | apply Kd.R_drew)); exact HO_3.out) hb); have n1_ := Aside0.mk (blk_below (g := gb623) (o := .cells #[.int .u64 a0_0, .int .u64 a0_1, .slice (some ad627) l0_2.length c0_2] 27 (0, 0)) (by (with_reducible repeat (first | refine blk_drewN ?_ _ | refine blk_drew ?_ | refine blk_alloc ?_ _)); exact BK623.out) hb); have n2_ := Aside0.mk (below_step (by repeat (first | (with_reducible first | exact HB.out | apply below_alloc | apply pw_below_drewN | apply below_drew1 | refine below_set ?_ GE623.out) | exact HB.out)) hb); have n3_ := Aside0.mk (hbox); have n4_ := Aside0.mk ((by rw [hg]; exact (below_size (by repeat (first | (with_reducible first | exact HB.out | apply below_alloc | apply pw_below_drewN | apply below_drew1 | refine below_set ?_ GE623.out) | exact HB.out))) : w.heap.size ≤ gb628)); have n5_ := Aside0.mk ((by rw [hg]; exact (below_size (by repeat (first | (with_reducible first | exact HB.out | apply below_alloc | apply pw_below_drewN | apply below_drew1 | refine below_set ?_ GE623.out) | exact HB.out))) : w.heap.size ≤ gb628)); have n6_ := Aside0.mk ((by rw [hg]; exact Nat.ne_of_lt (blk_lt (g := gb623) (o := .cells #[.int .u64 a0_0, .int .u64 a0_1, .slice (some ad627) l0_2.length c0_2] 27 (0, 0)) (by (with_reducible repeat (first | refine blk_drewN ?_ _ | refine blk_drew ?_ | refine blk_alloc ?_ _)); exact BK623.out)) : gb623 ≠ gb628)); have n7_ := Aside0.mk ((by rw [hg]; exact Nat.ne_of_gt (blk_lt (g := gb623) (o := .cells #[.int .u64 a0_0, .int .u64 a0_1, .slice (some ad627) l0_2.length c0_2] 27 (0, 0)) (by (with_reducible repeat (first | refine blk_drewN ?_ _ | refine blk_drew ?_ | refine blk_alloc ?_ _)); exact BK623.out)) : gb628 ≠ gb623)); clear HO_3; clear BK623; clear HB; have HO_3 := n0_; have BK623 := n1_; have HB := n2_; have BK628 := n3_; have GW628 := n4_; have GE628 := n5_; have NB623_628 := n6_; have NB628_623 := n7_; clear n0_ n1_ n2_ n3_ n4_ n5_ n6_ n7_; clear hb hbox hg; have hnb58 := NB628_623.out; have hnc58 := NB623_628.out; have hcz59_0 : w57.cell? ⟨gb628, 0, none⟩ = some (.int .u64 0) := (blk_cell BK628.out 0).trans rfl; have hcz59_1 : w57.cell? ⟨gb628, 1, none⟩ = some (.string (⟨#[]⟩ : ByteArray)) := (blk_cell BK628.out 1).trans rfl; have hcz59_2 : w57.cell? ⟨gb628, 2, none⟩ = some (.string (⟨#[]⟩ : ByteArray)) := (blk_cell BK628.out 2).trans rfl; have hcz59_3 : w57.cell? ⟨gb628, 3, none⟩ = some (.bool false) := (blk_cell BK628.out 3).trans rfl; have hcz59_4 : w57.cell? ⟨gb628, 4, none⟩ = some (.bool false) := (blk_cell BK628.out 4).trans rfl; have hfz59_0 := blk_frozen BK628.out 0; have hfz59_1 := blk_frozen BK628.out 1; have hfz59_2 := blk_frozen BK628.out 2; have hfz59_3 := blk_frozen BK628.out 3; have hfz59_4 := blk_frozen BK628.out 4))
                                go_roundg k2
                                case measure => have := HJ2.out; have := HK2.out; omega
                                case rel => exact ⟨(wrap64 (x4_2 + 1)), (by first | rfl | (simp; done) | (simp [*]; done)), H', ⟨by have := HJ2.out; have := HK2.out; omega⟩, ⟨by (with_reducible repeat (first | apply Kd.R_alloc | apply Kd.R_drewN | apply Kd.R_drew)); exact Kd.R_mono (Kd.R_far (p := ⟨gb628, 4, none⟩) (Kd.R_far (p := ⟨gb628, 3, none⟩) (Kd.R_far (p := ⟨gb628, 2, none⟩) (Kd.R_far (p := ⟨gb628, 1, none⟩) (Kd.R_far (p := ⟨gb628, 0, none⟩) (Kd.R_types HO_3.out BK628.out (by decide)) (fun _ hk => hk.2) (.int .u64 ((rd_T53 l0_2 x4_2).f0))) (fun _ hk => hk.2) (.string ((rd_T53 l0_2 x4_2).f1))) (fun _ hk => hk.2) (.string ((rd_T53 l0_2 x4_2).f2))) (fun _ hk => hk.2) (.bool true)) (fun _ hk => hk.2) (.bool true)) (fun _ hk => trivial)⟩, ⟨by (with_reducible repeat (first | refine blk_drewN ?_ _ | refine blk_drew ?_ | refine blk_alloc ?_ _)); refine blk_far ?_ NB623_628.out _; (with_reducible repeat (first | refine blk_drewN ?_ _ | refine blk_drew ?_ | refine blk_alloc ?_ _)); refine blk_far ?_ NB623_628.out _; (with_reducible repeat (first | refine blk_drewN ?_ _ | refine blk_drew ?_ | refine blk_alloc ?_ _)); refine blk_far ?_ NB623_628.out _; (with_reducible repeat (first | refine blk_drewN ?_ _ | refine blk_drew ?_ | refine blk_alloc ?_ _)); refine blk_far ?_ NB623_628.out _; (with_reducible repeat (first | refine blk_drewN ?_ _ | refine blk_drew ?_ | refine blk_alloc ?_ _)); refine blk_far ?_ NB623_628.out _; (with_reducible repeat (first | refine blk_drewN ?_ _ | refine blk_drew ?_ | refine blk_alloc ?_ _)); exact BK623.out⟩, ⟨by repeat (first | (with_reducible first | exact HB.out | apply below_alloc | apply pw_below_drewN | apply below_drew1 | refine below_set ?_ GE623.out | refine below_set ?_ GE628.out) | exact HB.out)⟩⟩
                            · replace c50 := Bool.eq_false_iff.mpr c50
                              subst c50
                              have H1 : (ferruleref20_May.l0 k2 t624 (wrap64 (x4_2 + 1)) a0_0 a0_1 l0_2) = some r := by rw [if_neg (show ¬ (false = true) by decide)] at H; exact H
                              clear H
                              have H := H1
                              clear H1
                              have H' := Aside0.mk H
                              clear H
                              have hcz60_0 : wr.cell? ⟨gb623, 0, none⟩ = some (.int .u64 a0_0) := (blk_cell BK623.out 0).trans rfl
                              have hcz60_1 : wr.cell? ⟨gb623, 1, none⟩ = some (.int .u64 a0_1) := (blk_cell BK623.out 1).trans rfl
                              have hcz60_2 : wr.cell? ⟨gb623, 2, none⟩ = some (.slice A0_2 l0_2.length c0_2) := (blk_cell BK623.out 2).trans rfl
                              have hfz60_0 := blk_frozen BK623.out 0
                              have hfz60_1 := blk_frozen BK623.out 1
                              have hfz60_2 := blk_frozen BK623.out 2
                              have p627 : 0 ≤ (x4_2 : Int) := of_decide_eq_true (by first | (with_reducible assumption) | assumption)
                              have q627 : x4_2 < (l0_2.length : Int) := of_decide_eq_true (by first | (with_reducible assumption) | assumption)
                              obtain ⟨ad627, e627, hx627_0, hx627_1, hx627_2, hx627_3, hx627_4⟩ := at_T53 HR0_2.out x4_2 p627 q627
                              (try rw [← Nbq47.out] at hx627_3)
                              (try rw [← Nbq49.out] at hx627_3)
                              (try rw [← Nbq47.out] at hx627_4)
                              (try rw [← Nbq49.out] at hx627_4)
                              cases e627
                              replace hx627_0 := (HB.out.cell (World.block_lt_of_cell? w _ hx627_0)).trans hx627_0
                              replace hx627_1 := (HB.out.cell (World.block_lt_of_cell? w _ hx627_1)).trans hx627_1
                              replace hx627_2 := (HB.out.cell (World.block_lt_of_cell? w _ hx627_2)).trans hx627_2
                              replace hx627_3 := (HB.out.cell (World.block_lt_of_cell? w _ hx627_3)).trans hx627_3
                              replace hx627_4 := (HB.out.cell (World.block_lt_of_cell? w _ hx627_4)).trans hx627_4
                              replace p627 := eq_true p627
                              replace q627 := eq_true q627
                              go_wp2_with (first | ((with_reducible refine gate_dst (N := 5) rfl ?_); (try (refine gate_guard (by rfl) ?_; dsimp only)); refine box_event ?hg (N := 5) ?hd (cs := #[.int .u64 0, .string (⟨#[]⟩ : ByteArray), .string (⟨#[]⟩ : ByteArray), .bool false, .bool false]) (t := 53) ?hr ?_; (case hd => rfl); (case hg => rfl); (case hr => first | (go_simp; done) | (go_simp; rfl)); intro gb628 hg w61 hbox hb; have n0_ := Aside0.mk (Kd.R_below (by (with_reducible repeat (first | apply Kd.R_alloc | apply Kd.R_drewN | apply Kd.R_drew)); exact HO_3.out) hb); have n1_ := Aside0.mk (blk_below (g := gb623) (o := .cells #[.int .u64 a0_0, .int .u64 a0_1, .slice (some ad627) l0_2.length c0_2] 27 (0, 0)) (by (with_reducible repeat (first | refine blk_drewN ?_ _ | refine blk_drew ?_ | refine blk_alloc ?_ _)); exact BK623.out) hb); have n2_ := Aside0.mk (below_step (by repeat (first | (with_reducible first | exact HB.out | apply below_alloc | apply pw_below_drewN | apply below_drew1 | refine below_set ?_ GE623.out) | exact HB.out)) hb); have n3_ := Aside0.mk (hbox); have n4_ := Aside0.mk ((by rw [hg]; exact (below_size (by repeat (first | (with_reducible first | exact HB.out | apply below_alloc | apply pw_below_drewN | apply below_drew1 | refine below_set ?_ GE623.out) | exact HB.out))) : w.heap.size ≤ gb628)); have n5_ := Aside0.mk ((by rw [hg]; exact (below_size (by repeat (first | (with_reducible first | exact HB.out | apply below_alloc | apply pw_below_drewN | apply below_drew1 | refine below_set ?_ GE623.out) | exact HB.out))) : w.heap.size ≤ gb628)); have n6_ := Aside0.mk ((by rw [hg]; exact Nat.ne_of_lt (blk_lt (g := gb623) (o := .cells #[.int .u64 a0_0, .int .u64 a0_1, .slice (some ad627) l0_2.length c0_2] 27 (0, 0)) (by (with_reducible repeat (first | refine blk_drewN ?_ _ | refine blk_drew ?_ | refine blk_alloc ?_ _)); exact BK623.out)) : gb623 ≠ gb628)); have n7_ := Aside0.mk ((by rw [hg]; exact Nat.ne_of_gt (blk_lt (g := gb623) (o := .cells #[.int .u64 a0_0, .int .u64 a0_1, .slice (some ad627) l0_2.length c0_2] 27 (0, 0)) (by (with_reducible repeat (first | refine blk_drewN ?_ _ | refine blk_drew ?_ | refine blk_alloc ?_ _)); exact BK623.out)) : gb628 ≠ gb623)); clear HO_3; clear BK623; clear HB; have HO_3 := n0_; have BK623 := n1_; have HB := n2_; have BK628 := n3_; have GW628 := n4_; have GE628 := n5_; have NB623_628 := n6_; have NB628_623 := n7_; clear n0_ n1_ n2_ n3_ n4_ n5_ n6_ n7_; clear hb hbox hg; have hnb62 := NB628_623.out; have hnc62 := NB623_628.out; have hcz63_0 : w61.cell? ⟨gb628, 0, none⟩ = some (.int .u64 0) := (blk_cell BK628.out 0).trans rfl; have hcz63_1 : w61.cell? ⟨gb628, 1, none⟩ = some (.string (⟨#[]⟩ : ByteArray)) := (blk_cell BK628.out 1).trans rfl; have hcz63_2 : w61.cell? ⟨gb628, 2, none⟩ = some (.string (⟨#[]⟩ : ByteArray)) := (blk_cell BK628.out 2).trans rfl; have hcz63_3 : w61.cell? ⟨gb628, 3, none⟩ = some (.bool false) := (blk_cell BK628.out 3).trans rfl; have hcz63_4 : w61.cell? ⟨gb628, 4, none⟩ = some (.bool false) := (blk_cell BK628.out 4).trans rfl; have hfz63_0 := blk_frozen BK628.out 0; have hfz63_1 := blk_frozen BK628.out 1; have hfz63_2 := blk_frozen BK628.out 2; have hfz63_3 := blk_frozen BK628.out 3; have hfz63_4 := blk_frozen BK628.out 4))
                              go_roundg k2
                              case measure => have := HJ2.out; have := HK2.out; omega
                              case rel => exact ⟨(wrap64 (x4_2 + 1)), (by first | rfl | (simp; done) | (simp [*]; done)), H', ⟨by have := HJ2.out; have := HK2.out; omega⟩, ⟨by (with_reducible repeat (first | apply Kd.R_alloc | apply Kd.R_drewN | apply Kd.R_drew)); exact Kd.R_mono (Kd.R_far (p := ⟨gb628, 4, none⟩) (Kd.R_far (p := ⟨gb628, 3, none⟩) (Kd.R_far (p := ⟨gb628, 2, none⟩) (Kd.R_far (p := ⟨gb628, 1, none⟩) (Kd.R_far (p := ⟨gb628, 0, none⟩) (Kd.R_types HO_3.out BK628.out (by decide)) (fun _ hk => hk.2) (.int .u64 ((rd_T53 l0_2 x4_2).f0))) (fun _ hk => hk.2) (.string ((rd_T53 l0_2 x4_2).f1))) (fun _ hk => hk.2) (.string ((rd_T53 l0_2 x4_2).f2))) (fun _ hk => hk.2) (.bool true)) (fun _ hk => hk.2) (.bool false)) (fun _ hk => trivial)⟩, ⟨by (with_reducible repeat (first | refine blk_drewN ?_ _ | refine blk_drew ?_ | refine blk_alloc ?_ _)); refine blk_far ?_ NB623_628.out _; (with_reducible repeat (first | refine blk_drewN ?_ _ | refine blk_drew ?_ | refine blk_alloc ?_ _)); refine blk_far ?_ NB623_628.out _; (with_reducible repeat (first | refine blk_drewN ?_ _ | refine blk_drew ?_ | refine blk_alloc ?_ _)); refine blk_far ?_ NB623_628.out _; (with_reducible repeat (first | refine blk_drewN ?_ _ | refine blk_drew ?_ | refine blk_alloc ?_ _)); refine blk_far ?_ NB623_628.out _; (with_reducible repeat (first | refine blk_drewN ?_ _ | refine blk_drew ?_ | refine blk_alloc ?_ _)); refine blk_far ?_ NB623_628.out _; (with_reducible repeat (first | refine blk_drewN ?_ _ | refine blk_drew ?_ | refine blk_alloc ?_ _)); exact BK623.out⟩, ⟨by repeat (first | (with_reducible first | exact HB.out | apply below_alloc | apply pw_below_drewN | apply below_drew1 | refine below_set ?_ GE623.out | refine below_set ?_ GE628.out) | exact HB.out)⟩⟩
                          · replace c48 := Bool.eq_false_iff.mpr c48
                            subst c48
                            have H1 : (if (((rd_T53 l0_2 x4_2).f2).size : Int) > 0 then (some false) else (if (rd_T53 l0_2 x4_2).f4 = true then (some false) else (ferruleref20_May.l0 k2 t624 (wrap64 (x4_2 + 1)) a0_0 a0_1 l0_2))) = some r := by rw [if_neg (show ¬ (false = true) by decide)] at H; exact H
                            clear H
                            have H := H1
                            clear H1
                            by_cases c64 : (((rd_T53 l0_2 x4_2).f2).size : Int) > 0
                            · rw [if_pos c64] at H
                              have c64b0 : decide (0 < (((rd_T53 l0_2 x4_2).f2).size : Int)) = true := decide_eq_true c64
                              have c64b1 : decide (0 < ((rd_T53 l0_2 x4_2).f2).size) = true := decide_eq_true (by omega)
                              clear c64
                              obtain rfl := Option.some.inj H
                              have hcz65_0 : wr.cell? ⟨gb623, 0, none⟩ = some (.int .u64 a0_0) := (blk_cell BK623.out 0).trans rfl
                              have hcz65_1 : wr.cell? ⟨gb623, 1, none⟩ = some (.int .u64 a0_1) := (blk_cell BK623.out 1).trans rfl
                              have hcz65_2 : wr.cell? ⟨gb623, 2, none⟩ = some (.slice A0_2 l0_2.length c0_2) := (blk_cell BK623.out 2).trans rfl
                              have hfz65_0 := blk_frozen BK623.out 0
                              have hfz65_1 := blk_frozen BK623.out 1
                              have hfz65_2 := blk_frozen BK623.out 2
                              have p627 : 0 ≤ (x4_2 : Int) := of_decide_eq_true (by first | (with_reducible assumption) | assumption)
                              have q627 : x4_2 < (l0_2.length : Int) := of_decide_eq_true (by first | (with_reducible assumption) | assumption)
                              obtain ⟨ad627, e627, hx627_0, hx627_1, hx627_2, hx627_3, hx627_4⟩ := at_T53 HR0_2.out x4_2 p627 q627
                              (try rw [← Nbq47.out] at hx627_3)
                              (try rw [← Nbq47.out] at hx627_4)
                              cases e627
                              replace hx627_0 := (HB.out.cell (World.block_lt_of_cell? w _ hx627_0)).trans hx627_0
                              replace hx627_1 := (HB.out.cell (World.block_lt_of_cell? w _ hx627_1)).trans hx627_1
                              replace hx627_2 := (HB.out.cell (World.block_lt_of_cell? w _ hx627_2)).trans hx627_2
                              replace hx627_3 := (HB.out.cell (World.block_lt_of_cell? w _ hx627_3)).trans hx627_3
                              replace hx627_4 := (HB.out.cell (World.block_lt_of_cell? w _ hx627_4)).trans hx627_4
                              replace p627 := eq_true p627
                              replace q627 := eq_true q627
                              go_wp2_with (first | ((with_reducible refine gate_dst (N := 5) rfl ?_); (try (refine gate_guard (by rfl) ?_; dsimp only)); refine box_event ?hg (N := 5) ?hd (cs := #[.int .u64 0, .string (⟨#[]⟩ : ByteArray), .string (⟨#[]⟩ : ByteArray), .bool false, .bool false]) (t := 53) ?hr ?_; (case hd => rfl); (case hg => rfl); (case hr => first | (go_simp; done) | (go_simp; rfl)); intro gb628 hg w66 hbox hb; have n0_ := Aside0.mk (Kd.R_below (by (with_reducible repeat (first | apply Kd.R_alloc | apply Kd.R_drewN | apply Kd.R_drew)); exact HO_3.out) hb); have n1_ := Aside0.mk (blk_below (g := gb623) (o := .cells #[.int .u64 a0_0, .int .u64 a0_1, .slice (some ad627) l0_2.length c0_2] 27 (0, 0)) (by (with_reducible repeat (first | refine blk_drewN ?_ _ | refine blk_drew ?_ | refine blk_alloc ?_ _)); exact BK623.out) hb); have n2_ := Aside0.mk (below_step (by repeat (first | (with_reducible first | exact HB.out | apply below_alloc | apply pw_below_drewN | apply below_drew1 | refine below_set ?_ GE623.out) | exact HB.out)) hb); have n3_ := Aside0.mk (hbox); have n4_ := Aside0.mk ((by rw [hg]; exact (below_size (by repeat (first | (with_reducible first | exact HB.out | apply below_alloc | apply pw_below_drewN | apply below_drew1 | refine below_set ?_ GE623.out) | exact HB.out))) : w.heap.size ≤ gb628)); have n5_ := Aside0.mk ((by rw [hg]; exact (below_size (by repeat (first | (with_reducible first | exact HB.out | apply below_alloc | apply pw_below_drewN | apply below_drew1 | refine below_set ?_ GE623.out) | exact HB.out))) : w.heap.size ≤ gb628)); have n6_ := Aside0.mk ((by rw [hg]; exact Nat.ne_of_lt (blk_lt (g := gb623) (o := .cells #[.int .u64 a0_0, .int .u64 a0_1, .slice (some ad627) l0_2.length c0_2] 27 (0, 0)) (by (with_reducible repeat (first | refine blk_drewN ?_ _ | refine blk_drew ?_ | refine blk_alloc ?_ _)); exact BK623.out)) : gb623 ≠ gb628)); have n7_ := Aside0.mk ((by rw [hg]; exact Nat.ne_of_gt (blk_lt (g := gb623) (o := .cells #[.int .u64 a0_0, .int .u64 a0_1, .slice (some ad627) l0_2.length c0_2] 27 (0, 0)) (by (with_reducible repeat (first | refine blk_drewN ?_ _ | refine blk_drew ?_ | refine blk_alloc ?_ _)); exact BK623.out)) : gb628 ≠ gb623)); clear HO_3; clear BK623; clear HB; have HO_3 := n0_; have BK623 := n1_; have HB := n2_; have BK628 := n3_; have GW628 := n4_; have GE628 := n5_; have NB623_628 := n6_; have NB628_623 := n7_; clear n0_ n1_ n2_ n3_ n4_ n5_ n6_ n7_; clear hb hbox hg; have hnb67 := NB628_623.out; have hnc67 := NB623_628.out; have hcz68_0 : w66.cell? ⟨gb628, 0, none⟩ = some (.int .u64 0) := (blk_cell BK628.out 0).trans rfl; have hcz68_1 : w66.cell? ⟨gb628, 1, none⟩ = some (.string (⟨#[]⟩ : ByteArray)) := (blk_cell BK628.out 1).trans rfl; have hcz68_2 : w66.cell? ⟨gb628, 2, none⟩ = some (.string (⟨#[]⟩ : ByteArray)) := (blk_cell BK628.out 2).trans rfl; have hcz68_3 : w66.cell? ⟨gb628, 3, none⟩ = some (.bool false) := (blk_cell BK628.out 3).trans rfl; have hcz68_4 : w66.cell? ⟨gb628, 4, none⟩ = some (.bool false) := (blk_cell BK628.out 4).trans rfl; have hfz68_0 := blk_frozen BK628.out 0; have hfz68_1 := blk_frozen BK628.out 1; have hfz68_2 := blk_frozen BK628.out 2; have hfz68_3 := blk_frozen BK628.out 3; have hfz68_4 := blk_frozen BK628.out 4))
                              go_ret
                              exact ⟨by first | rfl | (simp [errW_none, errW_some] <;> rfl) | (simp [*, errW_none, errW_some] <;> rfl), by repeat (first | (with_reducible first | exact HB.out | apply below_alloc | apply pw_below_drewN | apply below_drew1 | refine below_set ?_ GE623.out | refine below_set ?_ GE628.out) | exact HB.out)⟩
                            · rw [if_neg c64] at H
                              have c64b0 : decide (0 < (((rd_T53 l0_2 x4_2).f2).size : Int)) = false := decide_eq_false c64
                              have c64b1 : decide (0 < ((rd_T53 l0_2 x4_2).f2).size) = false := decide_eq_false (by omega)
                              clear c64
                              obtain ⟨bq69, hbq69⟩ : ∃ b_ : Bool, b_ = ((rd_T53 l0_2 x4_2).f4) := ⟨_, rfl⟩
                              replace H : (if bq69 = true then (some false) else (ferruleref20_May.l0 k2 t624 (wrap64 (x4_2 + 1)) a0_0 a0_1 l0_2)) = some r := by rw [← hbq69] at H; exact H
                              have Nbq69 := Aside0.mk hbq69
                              clear hbq69
                              by_cases c70 : bq69 = true
                              · subst c70
                                have H1 : (some false) = some r := by rw [if_pos rfl] at H; exact H
                                clear H
                                have H := H1
                                clear H1
                                obtain rfl := Option.some.inj H
                                have hcz71_0 : wr.cell? ⟨gb623, 0, none⟩ = some (.int .u64 a0_0) := (blk_cell BK623.out 0).trans rfl
                                have hcz71_1 : wr.cell? ⟨gb623, 1, none⟩ = some (.int .u64 a0_1) := (blk_cell BK623.out 1).trans rfl
                                have hcz71_2 : wr.cell? ⟨gb623, 2, none⟩ = some (.slice A0_2 l0_2.length c0_2) := (blk_cell BK623.out 2).trans rfl
                                have hfz71_0 := blk_frozen BK623.out 0
                                have hfz71_1 := blk_frozen BK623.out 1
                                have hfz71_2 := blk_frozen BK623.out 2
                                have p627 : 0 ≤ (x4_2 : Int) := of_decide_eq_true (by first | (with_reducible assumption) | assumption)
                                have q627 : x4_2 < (l0_2.length : Int) := of_decide_eq_true (by first | (with_reducible assumption) | assumption)
                                obtain ⟨ad627, e627, hx627_0, hx627_1, hx627_2, hx627_3, hx627_4⟩ := at_T53 HR0_2.out x4_2 p627 q627
                                (try rw [← Nbq47.out] at hx627_3)
                                (try rw [← Nbq69.out] at hx627_3)
                                (try rw [← Nbq47.out] at hx627_4)
                                (try rw [← Nbq69.out] at hx627_4)
                                cases e627
                                replace hx627_0 := (HB.out.cell (World.block_lt_of_cell? w _ hx627_0)).trans hx627_0
                                replace hx627_1 := (HB.out.cell (World.block_lt_of_cell? w _ hx627_1)).trans hx627_1
                                replace hx627_2 := (HB.out.cell (World.block_lt_of_cell? w _ hx627_2)).trans hx627_2
                                replace hx627_3 := (HB.out.cell (World.block_lt_of_cell? w _ hx627_3)).trans hx627_3
                                replace hx627_4 := (HB.out.cell (World.block_lt_of_cell? w _ hx627_4)).trans hx627_4
                                replace p627 := eq_true p627
                                replace q627 := eq_true q627
                                go_wp2_with (first | ((with_reducible refine gate_dst (N := 5) rfl ?_); (try (refine gate_guard (by rfl) ?_; dsimp only)); refine box_event ?hg (N := 5) ?hd (cs := #[.int .u64 0, .string (⟨#[]⟩ : ByteArray), .string (⟨#[]⟩ : ByteArray), .bool false, .bool false]) (t := 53) ?hr ?_; (case hd => rfl); (case hg => rfl); (case hr => first | (go_simp; done) | (go_simp; rfl)); intro gb628 hg w72 hbox hb; have n0_ := Aside0.mk (Kd.R_below (by (with_reducible repeat (first | apply Kd.R_alloc | apply Kd.R_drewN | apply Kd.R_drew)); exact HO_3.out) hb); have n1_ := Aside0.mk (blk_below (g := gb623) (o := .cells #[.int .u64 a0_0, .int .u64 a0_1, .slice (some ad627) l0_2.length c0_2] 27 (0, 0)) (by (with_reducible repeat (first | refine blk_drewN ?_ _ | refine blk_drew ?_ | refine blk_alloc ?_ _)); exact BK623.out) hb); have n2_ := Aside0.mk (below_step (by repeat (first | (with_reducible first | exact HB.out | apply below_alloc | apply pw_below_drewN | apply below_drew1 | refine below_set ?_ GE623.out) | exact HB.out)) hb); have n3_ := Aside0.mk (hbox); have n4_ := Aside0.mk ((by rw [hg]; exact (below_size (by repeat (first | (with_reducible first | exact HB.out | apply below_alloc | apply pw_below_drewN | apply below_drew1 | refine below_set ?_ GE623.out) | exact HB.out))) : w.heap.size ≤ gb628)); have n5_ := Aside0.mk ((by rw [hg]; exact (below_size (by repeat (first | (with_reducible first | exact HB.out | apply below_alloc | apply pw_below_drewN | apply below_drew1 | refine below_set ?_ GE623.out) | exact HB.out))) : w.heap.size ≤ gb628)); have n6_ := Aside0.mk ((by rw [hg]; exact Nat.ne_of_lt (blk_lt (g := gb623) (o := .cells #[.int .u64 a0_0, .int .u64 a0_1, .slice (some ad627) l0_2.length c0_2] 27 (0, 0)) (by (with_reducible repeat (first | refine blk_drewN ?_ _ | refine blk_drew ?_ | refine blk_alloc ?_ _)); exact BK623.out)) : gb623 ≠ gb628)); have n7_ := Aside0.mk ((by rw [hg]; exact Nat.ne_of_gt (blk_lt (g := gb623) (o := .cells #[.int .u64 a0_0, .int .u64 a0_1, .slice (some ad627) l0_2.length c0_2] 27 (0, 0)) (by (with_reducible repeat (first | refine blk_drewN ?_ _ | refine blk_drew ?_ | refine blk_alloc ?_ _)); exact BK623.out)) : gb628 ≠ gb623)); clear HO_3; clear BK623; clear HB; have HO_3 := n0_; have BK623 := n1_; have HB := n2_; have BK628 := n3_; have GW628 := n4_; have GE628 := n5_; have NB623_628 := n6_; have NB628_623 := n7_; clear n0_ n1_ n2_ n3_ n4_ n5_ n6_ n7_; clear hb hbox hg; have hnb73 := NB628_623.out; have hnc73 := NB623_628.out; have hcz74_0 : w72.cell? ⟨gb628, 0, none⟩ = some (.int .u64 0) := (blk_cell BK628.out 0).trans rfl; have hcz74_1 : w72.cell? ⟨gb628, 1, none⟩ = some (.string (⟨#[]⟩ : ByteArray)) := (blk_cell BK628.out 1).trans rfl; have hcz74_2 : w72.cell? ⟨gb628, 2, none⟩ = some (.string (⟨#[]⟩ : ByteArray)) := (blk_cell BK628.out 2).trans rfl; have hcz74_3 : w72.cell? ⟨gb628, 3, none⟩ = some (.bool false) := (blk_cell BK628.out 3).trans rfl; have hcz74_4 : w72.cell? ⟨gb628, 4, none⟩ = some (.bool false) := (blk_cell BK628.out 4).trans rfl; have hfz74_0 := blk_frozen BK628.out 0; have hfz74_1 := blk_frozen BK628.out 1; have hfz74_2 := blk_frozen BK628.out 2; have hfz74_3 := blk_frozen BK628.out 3; have hfz74_4 := blk_frozen BK628.out 4))
                                go_ret
                                exact ⟨by first | rfl | (simp [errW_none, errW_some] <;> rfl) | (simp [*, errW_none, errW_some] <;> rfl), by repeat (first | (with_reducible first | exact HB.out | apply below_alloc | apply pw_below_drewN | apply below_drew1 | refine below_set ?_ GE623.out | refine below_set ?_ GE628.out) | exact HB.out)⟩
                              · replace c70 := Bool.eq_false_iff.mpr c70
                                subst c70
                                have H1 : (ferruleref20_May.l0 k2 t624 (wrap64 (x4_2 + 1)) a0_0 a0_1 l0_2) = some r := by rw [if_neg (show ¬ (false = true) by decide)] at H; exact H
                                clear H
                                have H := H1
                                clear H1
                                have H' := Aside0.mk H
                                clear H
                                have hcz75_0 : wr.cell? ⟨gb623, 0, none⟩ = some (.int .u64 a0_0) := (blk_cell BK623.out 0).trans rfl
                                have hcz75_1 : wr.cell? ⟨gb623, 1, none⟩ = some (.int .u64 a0_1) := (blk_cell BK623.out 1).trans rfl
                                have hcz75_2 : wr.cell? ⟨gb623, 2, none⟩ = some (.slice A0_2 l0_2.length c0_2) := (blk_cell BK623.out 2).trans rfl
                                have hfz75_0 := blk_frozen BK623.out 0
                                have hfz75_1 := blk_frozen BK623.out 1
                                have hfz75_2 := blk_frozen BK623.out 2
                                have p627 : 0 ≤ (x4_2 : Int) := of_decide_eq_true (by first | (with_reducible assumption) | assumption)
                                have q627 : x4_2 < (l0_2.length : Int) := of_decide_eq_true (by first | (with_reducible assumption) | assumption)
                                obtain ⟨ad627, e627, hx627_0, hx627_1, hx627_2, hx627_3, hx627_4⟩ := at_T53 HR0_2.out x4_2 p627 q627
                                (try rw [← Nbq47.out] at hx627_3)
                                (try rw [← Nbq69.out] at hx627_3)
                                (try rw [← Nbq47.out] at hx627_4)
                                (try rw [← Nbq69.out] at hx627_4)
                                cases e627
                                replace hx627_0 := (HB.out.cell (World.block_lt_of_cell? w _ hx627_0)).trans hx627_0
                                replace hx627_1 := (HB.out.cell (World.block_lt_of_cell? w _ hx627_1)).trans hx627_1
                                replace hx627_2 := (HB.out.cell (World.block_lt_of_cell? w _ hx627_2)).trans hx627_2
                                replace hx627_3 := (HB.out.cell (World.block_lt_of_cell? w _ hx627_3)).trans hx627_3
                                replace hx627_4 := (HB.out.cell (World.block_lt_of_cell? w _ hx627_4)).trans hx627_4
                                replace p627 := eq_true p627
                                replace q627 := eq_true q627
                                go_wp2_with (first | ((with_reducible refine gate_dst (N := 5) rfl ?_); (try (refine gate_guard (by rfl) ?_; dsimp only)); refine box_event ?hg (N := 5) ?hd (cs := #[.int .u64 0, .string (⟨#[]⟩ : ByteArray), .string (⟨#[]⟩ : ByteArray), .bool false, .bool false]) (t := 53) ?hr ?_; (case hd => rfl); (case hg => rfl); (case hr => first | (go_simp; done) | (go_simp; rfl)); intro gb628 hg w76 hbox hb; have n0_ := Aside0.mk (Kd.R_below (by (with_reducible repeat (first | apply Kd.R_alloc | apply Kd.R_drewN | apply Kd.R_drew)); exact HO_3.out) hb); have n1_ := Aside0.mk (blk_below (g := gb623) (o := .cells #[.int .u64 a0_0, .int .u64 a0_1, .slice (some ad627) l0_2.length c0_2] 27 (0, 0)) (by (with_reducible repeat (first | refine blk_drewN ?_ _ | refine blk_drew ?_ | refine blk_alloc ?_ _)); exact BK623.out) hb); have n2_ := Aside0.mk (below_step (by repeat (first | (with_reducible first | exact HB.out | apply below_alloc | apply pw_below_drewN | apply below_drew1 | refine below_set ?_ GE623.out) | exact HB.out)) hb); have n3_ := Aside0.mk (hbox); have n4_ := Aside0.mk ((by rw [hg]; exact (below_size (by repeat (first | (with_reducible first | exact HB.out | apply below_alloc | apply pw_below_drewN | apply below_drew1 | refine below_set ?_ GE623.out) | exact HB.out))) : w.heap.size ≤ gb628)); have n5_ := Aside0.mk ((by rw [hg]; exact (below_size (by repeat (first | (with_reducible first | exact HB.out | apply below_alloc | apply pw_below_drewN | apply below_drew1 | refine below_set ?_ GE623.out) | exact HB.out))) : w.heap.size ≤ gb628)); have n6_ := Aside0.mk ((by rw [hg]; exact Nat.ne_of_lt (blk_lt (g := gb623) (o := .cells #[.int .u64 a0_0, .int .u64 a0_1, .slice (some ad627) l0_2.length c0_2] 27 (0, 0)) (by (with_reducible repeat (first | refine blk_drewN ?_ _ | refine blk_drew ?_ | refine blk_alloc ?_ _)); exact BK623.out)) : gb623 ≠ gb628)); have n7_ := Aside0.mk ((by rw [hg]; exact Nat.ne_of_gt (blk_lt (g := gb623) (o := .cells #[.int .u64 a0_0, .int .u64 a0_1, .slice (some ad627) l0_2.length c0_2] 27 (0, 0)) (by (with_reducible repeat (first | refine blk_drewN ?_ _ | refine blk_drew ?_ | refine blk_alloc ?_ _)); exact BK623.out)) : gb628 ≠ gb623)); clear HO_3; clear BK623; clear HB; have HO_3 := n0_; have BK623 := n1_; have HB := n2_; have BK628 := n3_; have GW628 := n4_; have GE628 := n5_; have NB623_628 := n6_; have NB628_623 := n7_; clear n0_ n1_ n2_ n3_ n4_ n5_ n6_ n7_; clear hb hbox hg; have hnb77 := NB628_623.out; have hnc77 := NB623_628.out; have hcz78_0 : w76.cell? ⟨gb628, 0, none⟩ = some (.int .u64 0) := (blk_cell BK628.out 0).trans rfl; have hcz78_1 : w76.cell? ⟨gb628, 1, none⟩ = some (.string (⟨#[]⟩ : ByteArray)) := (blk_cell BK628.out 1).trans rfl; have hcz78_2 : w76.cell? ⟨gb628, 2, none⟩ = some (.string (⟨#[]⟩ : ByteArray)) := (blk_cell BK628.out 2).trans rfl; have hcz78_3 : w76.cell? ⟨gb628, 3, none⟩ = some (.bool false) := (blk_cell BK628.out 3).trans rfl; have hcz78_4 : w76.cell? ⟨gb628, 4, none⟩ = some (.bool false) := (blk_cell BK628.out 4).trans rfl; have hfz78_0 := blk_frozen BK628.out 0; have hfz78_1 := blk_frozen BK628.out 1; have hfz78_2 := blk_frozen BK628.out 2; have hfz78_3 := blk_frozen BK628.out 3; have hfz78_4 := blk_frozen BK628.out 4))
                                go_roundg k2
                                case measure => have := HJ2.out; have := HK2.out; omega
                                case rel => exact ⟨(wrap64 (x4_2 + 1)), (by first | rfl | (simp; done) | (simp [*]; done)), H', ⟨by have := HJ2.out; have := HK2.out; omega⟩, ⟨by (with_reducible repeat (first | apply Kd.R_alloc | apply Kd.R_drewN | apply Kd.R_drew)); exact Kd.R_mono (Kd.R_far (p := ⟨gb628, 4, none⟩) (Kd.R_far (p := ⟨gb628, 3, none⟩) (Kd.R_far (p := ⟨gb628, 2, none⟩) (Kd.R_far (p := ⟨gb628, 1, none⟩) (Kd.R_far (p := ⟨gb628, 0, none⟩) (Kd.R_types HO_3.out BK628.out (by decide)) (fun _ hk => hk.2) (.int .u64 ((rd_T53 l0_2 x4_2).f0))) (fun _ hk => hk.2) (.string ((rd_T53 l0_2 x4_2).f1))) (fun _ hk => hk.2) (.string ((rd_T53 l0_2 x4_2).f2))) (fun _ hk => hk.2) (.bool false)) (fun _ hk => hk.2) (.bool false)) (fun _ hk => trivial)⟩, ⟨by (with_reducible repeat (first | refine blk_drewN ?_ _ | refine blk_drew ?_ | refine blk_alloc ?_ _)); refine blk_far ?_ NB623_628.out _; (with_reducible repeat (first | refine blk_drewN ?_ _ | refine blk_drew ?_ | refine blk_alloc ?_ _)); refine blk_far ?_ NB623_628.out _; (with_reducible repeat (first | refine blk_drewN ?_ _ | refine blk_drew ?_ | refine blk_alloc ?_ _)); refine blk_far ?_ NB623_628.out _; (with_reducible repeat (first | refine blk_drewN ?_ _ | refine blk_drew ?_ | refine blk_alloc ?_ _)); refine blk_far ?_ NB623_628.out _; (with_reducible repeat (first | refine blk_drewN ?_ _ | refine blk_drew ?_ | refine blk_alloc ?_ _)); refine blk_far ?_ NB623_628.out _; (with_reducible repeat (first | refine blk_drewN ?_ _ | refine blk_drew ?_ | refine blk_alloc ?_ _)); exact BK623.out⟩, ⟨by repeat (first | (with_reducible first | exact HB.out | apply below_alloc | apply pw_below_drewN | apply below_drew1 | refine below_set ?_ GE623.out | refine below_set ?_ GE628.out) | exact HB.out)⟩⟩
              · rw [if_neg c21] at H
                exact absurd H (by simp)
            · rw [if_neg c20] at H
              have c20b0 : decide (x4_2 < (l0_2.length : Int)) = false := decide_eq_false c20
              clear c20
              have H' := Aside0.mk H
              clear H
              have hcz79_0 : wr.cell? ⟨gb623, 0, none⟩ = some (.int .u64 a0_0) := (blk_cell BK623.out 0).trans rfl
              have hcz79_1 : wr.cell? ⟨gb623, 1, none⟩ = some (.int .u64 a0_1) := (blk_cell BK623.out 1).trans rfl
              have hcz79_2 : wr.cell? ⟨gb623, 2, none⟩ = some (.slice A0_2 l0_2.length c0_2) := (blk_cell BK623.out 2).trans rfl
              have hfz79_0 := blk_frozen BK623.out 0
              have hfz79_1 := blk_frozen BK623.out 1
              have hfz79_2 := blk_frozen BK623.out 2
              go_wp2
              go_loopg [6] k2 (fun kq v6 w' => ∃ (x6_3 : Int), v6 = .int .i64 x6_3 ∧ Aside0 (ferruleref20_May.l1 kq t624 x6_3 a0_0 a0_1 l0_2 = some r) ∧ Aside0 (kq ≤ k2) ∧ Aside0 (Kd.R (Kd.int .u64) 22 w' w.heap.size (fun _ => True) v625 t624) ∧ Aside0 (w'.heap[gb623]? = some (.cells #[.int .u64 a0_0, .int .u64 a0_1, (.slice A0_2 l0_2.length c0_2)] 27 (0, 0))) ∧ Aside0 (Below w.heap.size w w'))
              case atStart => exact ⟨(0), (by first | rfl | (simp; done) | (simp [*]; done)), H', ⟨Nat.le_refl _⟩, ⟨by (with_reducible repeat (first | apply Kd.R_alloc | apply Kd.R_drewN | apply Kd.R_drew)); exact HO_3.out⟩, ⟨by (with_reducible repeat (first | refine blk_drewN ?_ _ | refine blk_drew ?_ | refine blk_alloc ?_ _)); exact BK623.out⟩, ⟨by repeat (first | (with_reducible first | exact HB.out | apply below_alloc | apply pw_below_drewN | apply below_drew1 | refine below_set ?_ GE623.out) | exact HB.out)⟩⟩
              case round =>
                clear H'
                try clear c1
                try clear c2
                try clear p2
                try clear c3
                try clear c4
                try clear q4
                try clear c5
                try clear c6
                try clear p6
                try clear q6
                try clear hx6
                try clear c7
                try clear c7b0
                try clear c7b1
                try clear c9
                try clear c9b0
                try clear c9b1
                try clear c11
                try clear c11b0
                try clear c11b1
                try clear c14
                try clear c14b0
                try clear c19
                try clear c20
                try clear c20b0
                try clear c21
                try clear c21b0
                try clear c22
                try clear c22b0
                try clear c25
                try clear c27
                try clear c27b0
                try clear c30
                try clear c32
                try clear c32b0
                try clear c32b1
                try clear c35
                try clear c37
                try clear c37b0
                try clear c37b1
                try clear c40
                try clear c42
                try clear c42b0
                try clear c42b1
                try clear c45
                try clear q47
                try clear c48
                try clear q49
                try clear c50
                try clear c51
                try clear c51b0
                try clear c51b1
                try clear c54
                try clear c58
                try clear c62
                try clear p62
                try clear q62
                try clear hx62
                try clear c64
                try clear c64b0
                try clear c64b1
                try clear p64
                try clear c67
                try clear q69
                try clear c70
                try clear c73
                try clear c77
                try clear hcz10_0
                try clear hcz10_1
                try clear hcz10_2
                try clear hcz12_0
                try clear hcz12_1
                try clear hcz12_2
                try clear hcz15_0
                try clear hcz15_1
                try clear hcz15_2
                try clear hcz17_0
                try clear hcz17_1
                try clear hcz17_2
                try clear hcz23_0
                try clear hcz23_1
                try clear hcz23_2
                try clear hcz26_0
                try clear hcz26_1
                try clear hcz26_2
                try clear hcz26_3
                try clear hcz26_4
                try clear hcz28_0
                try clear hcz28_1
                try clear hcz28_2
                try clear hcz31_0
                try clear hcz31_1
                try clear hcz31_2
                try clear hcz31_3
                try clear hcz31_4
                try clear hcz33_0
                try clear hcz33_1
                try clear hcz33_2
                try clear hcz36_0
                try clear hcz36_1
                try clear hcz36_2
                try clear hcz36_3
                try clear hcz36_4
                try clear hcz38_0
                try clear hcz38_1
                try clear hcz38_2
                try clear hcz41_0
                try clear hcz41_1
                try clear hcz41_2
                try clear hcz41_3
                try clear hcz41_4
                try clear hcz43_0
                try clear hcz43_1
                try clear hcz43_2
                try clear hcz46_0
                try clear hcz46_1
                try clear hcz46_2
                try clear hcz46_3
                try clear hcz46_4
                try clear hcz52_0
                try clear hcz52_1
                try clear hcz52_2
                try clear hcz55_0
                try clear hcz55_1
                try clear hcz55_2
                try clear hcz55_3
                try clear hcz55_4
                try clear hcz56_0
                try clear hcz56_1
                try clear hcz56_2
                try clear hcz59_0
                try clear hcz59_1
                try clear hcz59_2
                try clear hcz59_3
                try clear hcz59_4
                try clear hcz5_0
                try clear hcz5_1
                try clear hcz5_2
                try clear hcz60_0
                try clear hcz60_1
                try clear hcz60_2
                try clear hcz63_0
                try clear hcz63_1
                try clear hcz63_2
                try clear hcz63_3
                try clear hcz63_4
                try clear hcz65_0
                try clear hcz65_1
                try clear hcz65_2
                try clear hcz68_0
                try clear hcz68_1
                try clear hcz68_2
                try clear hcz68_3
                try clear hcz68_4
                try clear hcz71_0
                try clear hcz71_1
                try clear hcz71_2
                try clear hcz74_0
                try clear hcz74_1
                try clear hcz74_2
                try clear hcz74_3
                try clear hcz74_4
                try clear hcz75_0
                try clear hcz75_1
                try clear hcz75_2
                try clear hcz78_0
                try clear hcz78_1
                try clear hcz78_2
                try clear hcz78_3
                try clear hcz78_4
                try clear hcz79_0
                try clear hcz79_1
                try clear hcz79_2
                try clear hcz8_0
                try clear hcz8_1
                try clear hcz8_2
                try clear hfz10_0
                try clear hfz10_1
                try clear hfz10_2
                try clear hfz12_0
                try clear hfz12_1
                try clear hfz12_2
                try clear hfz15_0
                try clear hfz15_1
                try clear hfz15_2
                try clear hfz17_0
                try clear hfz17_1
                try clear hfz17_2
                try clear hfz23_0
                try clear hfz23_1
                try clear hfz23_2
                try clear hfz26_0
                try clear hfz26_1
                try clear hfz26_2
                try clear hfz26_3
                try clear hfz26_4
                try clear hfz28_0
                try clear hfz28_1
                try clear hfz28_2
                try clear hfz31_0
                try clear hfz31_1
                try clear hfz31_2
                try clear hfz31_3
                try clear hfz31_4
                try clear hfz33_0
                try clear hfz33_1
                try clear hfz33_2
                try clear hfz36_0
                try clear hfz36_1
                try clear hfz36_2
                try clear hfz36_3
                try clear hfz36_4
                try clear hfz38_0
                try clear hfz38_1
                try clear hfz38_2
                try clear hfz41_0
                try clear hfz41_1
                try clear hfz41_2
                try clear hfz41_3
                try clear hfz41_4
                try clear hfz43_0
                try clear hfz43_1
                try clear hfz43_2
                try clear hfz46_0
                try clear hfz46_1
                try clear hfz46_2
                try clear hfz46_3
                try clear hfz46_4
                try clear hfz52_0
                try clear hfz52_1
                try clear hfz52_2
                try clear hfz55_0
                try clear hfz55_1
                try clear hfz55_2
                try clear hfz55_3
                try clear hfz55_4
                try clear hfz56_0
                try clear hfz56_1
                try clear hfz56_2
                try clear hfz59_0
                try clear hfz59_1
                try clear hfz59_2
                try clear hfz59_3
                try clear hfz59_4
                try clear hfz5_0
                try clear hfz5_1
                try clear hfz5_2
                try clear hfz60_0
                try clear hfz60_1
                try clear hfz60_2
                try clear hfz63_0
                try clear hfz63_1
                try clear hfz63_2
                try clear hfz63_3
                try clear hfz63_4
                try clear hfz65_0
                try clear hfz65_1
                try clear hfz65_2
                try clear hfz68_0
                try clear hfz68_1
                try clear hfz68_2
                try clear hfz68_3
                try clear hfz68_4
                try clear hfz71_0
                try clear hfz71_1
                try clear hfz71_2
                try clear hfz74_0
                try clear hfz74_1
                try clear hfz74_2
                try clear hfz74_3
                try clear hfz74_4
                try clear hfz75_0
                try clear hfz75_1
                try clear hfz75_2
                try clear hfz78_0
                try clear hfz78_1
                try clear hfz78_2
                try clear hfz78_3
                try clear hfz78_4
                try clear hfz79_0
                try clear hfz79_1
                try clear hfz79_2
                try clear hfz8_0
                try clear hfz8_1
                try clear hfz8_2
                try clear hx627_0
                try clear hx627_1
                try clear hx627_2
                try clear hx627_3
                try clear hx627_4
                try clear p2
                try clear p627
                try clear q627
                obtain ⟨x6_3, rfl, HA, HK3, HO_3, BK623, HB⟩ := hrel
                cases gk with
                | zero => exact absurd HA.out (by simp [ferruleref20_May.l1])
                | succ k3 =>
                  have H := HA.out
                  clear HA
                  simp only [ferruleref20_May.l1] at H
                  by_cases c80 : x6_3 < (t624.length : Int)
                  · rw [if_pos c80] at H
                    have c80b0 : decide (x6_3 < (t624.length : Int)) = true := decide_eq_true c80
                    clear c80
                    by_cases c81 : 0 ≤ x6_3
                    · rw [if_pos c81] at H
                      have c81b0 : decide (0 ≤ x6_3) = true := decide_eq_true c81
                      clear c81
                      replace H := Option.bind_eq_some_iff.mp H
                      obtain ⟨t630, A820, H⟩ := H
                      replace H : ((ferruleref11_Fits.f t630).bind fun t633 => (if t633 = 0 then (ferruleref20_May.l1 k3 t624 (wrap64 (x6_3 + 1)) a0_0 a0_1 l0_2) else (some false))) = some r := H
                      have A82 := Aside0.mk A820
                      clear A820
                      replace H := Option.bind_eq_some_iff.mp H
                      obtain ⟨t633, A830, H⟩ := H
                      replace H : (if t633 = 0 then (ferruleref20_May.l1 k3 t624 (wrap64 (x6_3 + 1)) a0_0 a0_1 l0_2) else (some false)) = some r := H
                      have A83 := Aside0.mk A830
                      clear A830
                      by_cases c84 : t633 = 0
                      · rw [if_pos c84] at H
                        have c84b0 : (t633 == 0) = true := beq_iff_eq.mpr c84
                        have c84b1 : (t633 != 0) = false := bne_eq_false_iff_eq.mpr c84
                        clear c84
                        have H' := Aside0.mk H
                        clear H
                        obtain ⟨Ao85, co85, eo85⟩ := Kd.R_slice HO_3.out
                        subst eo85
                        try go_wp2
                        have n0_ := Aside0.mk (Kd.R_drew HO_3.out)
                        have n1_ := Aside0.mk (blk_drew BK623.out)
                        have n2_ := Aside0.mk (below_drew1 HB.out)
                        clear HO_3
                        clear BK623
                        clear HB
                        have HO_3 := n0_
                        have BK623 := n1_
                        have HB := n2_
                        clear n0_ n1_ n2_
                        have p629 : 0 ≤ (x6_3 : Int) := of_decide_eq_true (by first | (with_reducible assumption) | assumption)
                        have q629 : x6_3 < (t624.length : Int) := of_decide_eq_true (by first | (with_reducible assumption) | assumption)
                        obtain ⟨ad629, e629, hx629_0⟩ := Kd.at_int (Kd.R_reads' HO_3.out).2.2 x6_3 p629 q629
                        cases e629
                        replace p629 := eq_true p629
                        replace q629 := eq_true q629
                        refine start_ (n := 8) (S := fun w' => w'.cell? ⟨gb623, 0, none⟩ = some (.int .u64 a0_0) ∧ w'.cell? ⟨gb623, 1, none⟩ = some (.int .u64 a0_1) ∧ w'.cell? ⟨gb623, 2, none⟩ = some (.slice A0_2 l0_2.length c0_2) ∧ w'.cell? (ad629.add (x6_3).toNat) = some (.int .u64 (rd t624 x6_3))) (ds := []) #[false, false, false, false, false, false, false, false] (by kernel_rfl) rfl rfl ⟨(blk_cell BK623.out 0).trans rfl, (blk_cell BK623.out 1).trans rfl, (blk_cell BK623.out 2).trans rfl, hx629_0⟩ (fun hHeld => ?_); refine with_tabW ferruleref20_May.tab13 ferruleref20_May.bits13 (fun HT_ HW_ => ?_)
                        generalize wr.drew = w86 at HO_3 BK623 HB hx629_0 hHeld ⊢
                        refine pure_ (i := 1) (N := some 106) (v := ?_) (a' := ?_) #[false, true, false, false, false, false, false, false] rfl rfl (any_of HT_.out (by kernel_rfl)) (fun _ _ _ h => h) (Or.inl ⟨by rfl, ?_⟩) ?_ ?_
                        rotate_left
                        · intro w'
                          go_simp
                          with_reducible rfl
                        rotate_left
                        · simp only [Act.put, List.setIfInBounds_toArray, List.set_cons_zero, List.set_cons_succ, i64_w, i32_w]
                          rfl
                        refine pure_ (i := 2) (N := some 107) (v := ?_) (a' := ?_) #[false, true, true, false, false, false, false, false] rfl rfl (any_of HT_.out (by kernel_rfl)) (fun _ _ _ h => h) (Or.inl ⟨by rfl, ?_⟩) ?_ ?_
                        rotate_left
                        · intro w'
                          go_simp
                          with_reducible rfl
                        rotate_left
                        · simp only [Act.put, List.setIfInBounds_toArray, List.set_cons_zero, List.set_cons_succ, i64_w, i32_w]
                          rfl
                        refine pure_ (i := 3) (N := some 108) (v := ?_) (a' := ?_) #[false, true, true, true, false, false, false, false] rfl rfl (any_of HT_.out (by kernel_rfl)) (fun _ _ _ h => h) (Or.inl ⟨by rfl, ?_⟩) ?_ ?_
                        rotate_left
                        · intro w'
                          go_simp
                          with_reducible rfl
                        rotate_left
                        · simp only [Act.put, List.setIfInBounds_toArray, List.set_cons_zero, List.set_cons_succ, i64_w, i32_w]
                          rfl
                        refine take_ (i := 0) (N := some 105) (v := ?_) (a' := ?_) #[true, true, true, true, false, false, false, false] rfl rfl (take_ofW HT_.out HW_.out (by kernel_rfl)) (fun _ _ _ h => h) (Or.inl ⟨by rfl, ?_⟩) hHeld ?_ ?_
                        rotate_left
                        · rintro w' ⟨s0, s1, s2, s3⟩
                          go_simp
                          with_reducible rfl
                        rotate_left
                        · simp only [Act.put, List.setIfInBounds_toArray, List.set_cons_zero, List.set_cons_succ, i64_w, i32_w]
                          rfl
                        refine take_ (i := 4) (N := some 109) (v := ?_) (a' := ?_) #[true, true, true, true, true, false, false, false] rfl rfl (take_ofW HT_.out HW_.out (by kernel_rfl)) (fun _ _ _ h => h) (Or.inl ⟨by rfl, ?_⟩) hHeld ?_ ?_
                        rotate_left
                        · rintro w' ⟨s0, s1, s2, s3⟩
                          go_simp
                          with_reducible rfl
                        rotate_left
                        · simp only [Act.put, List.setIfInBounds_toArray, List.set_cons_zero, List.set_cons_succ, i64_w, i32_w]
                          rfl
                        refine one_ (i := 5) (N := some 110) #[true, true, true, true, true, true, false, false] rfl rfl (one_of HT_.out (by kernel_rfl)) (by decide) (fun K hK => ?_)
                        refine goes_ Try.func22 (by kernel_rfl) rfl #[.agg #[.int .u64 a0_0, .int .u64 a0_1, .slice A0_2 l0_2.length c0_2], .int .u64 (rd t624 x6_3)] (by rfl) rfl rfl (by (try simp only [List.map_toArray, List.map_cons, List.map_nil]); first | done | rfl | (simp only [List.length_drop, List.length_take]; rfl)) ?_
                        with_reducible refine (ferruleref20_Puts.calls k3 a0_0 a0_1 _ _ l0_2 (rd t624 x6_3) t630 _ ?side1 ?side2 A82.out).mono ?_
                        (case side1 => repeat (first | exact (Kd.C_below HR0_2.out HB.out) | (with_reducible refine Kd.C_alloc ?_ _) | (with_reducible refine Kd.C_drewN ?_ _) | (with_reducible refine Kd.C_drew ?_)))
                        (case side2 => exact HC0_2.out)
                        rintro e w87 ⟨v631, rfl, ho0, hb⟩
                        have HS3_ := (hb.cell (World.block_lt_of_cell? _ _ (hHeld.2.2.2))).trans (hHeld.2.2.2)
                        refine ⟨_, rfl, ?_⟩
                        have n0_ := Aside0.mk (Kd.R_below (by (with_reducible repeat (first | apply Kd.R_alloc | apply Kd.R_drewN | apply Kd.R_drew)); exact HO_3.out) hb)
                        have n1_ := Aside0.mk (Kd.R_lower ho0 (below_size (by repeat (first | (with_reducible first | exact HB.out | apply below_alloc | apply pw_below_drewN | apply below_drew1 | refine below_set ?_ GE623.out) | exact HB.out))))
                        have n2_ := Aside0.mk (blk_below (g := gb623) (o := .cells #[.int .u64 a0_0, .int .u64 a0_1, .slice A0_2 l0_2.length c0_2] 27 (0, 0)) (by (with_reducible repeat (first | refine blk_drewN ?_ _ | refine blk_drew ?_ | refine blk_alloc ?_ _)); exact BK623.out) hb)
                        have n3_ := Aside0.mk (below_step (by repeat (first | (with_reducible first | exact HB.out | apply below_alloc | apply pw_below_drewN | apply below_drew1 | refine below_set ?_ GE623.out) | exact HB.out)) hb)
                        clear HO_3
                        clear BK623
                        clear HB
                        have HO_3 := n0_
                        have HO632 := n1_
                        have BK623 := n2_
                        have HB := n3_
                        clear n0_ n1_ n2_ n3_
                        (try clear hb)
                        (try clear hb2)
                        (try clear hk)
                        (try clear hi)
                        (try clear ho0)
                        obtain ⟨Ao88, co88, eo88⟩ := Kd.R_slice HO632.out
                        (first | subst eo88 | (injection eo88 with f1_ f2_ f3_; have f4_ := f1_.symm; have f5_ := f3_.symm; clear f1_ f2_ f3_; subst f4_; subst f5_))
                        refine hK.out _ _ ⟨(blk_cell BK623.out 0).trans rfl, (blk_cell BK623.out 1).trans rfl, (blk_cell BK623.out 2).trans rfl, HS3_⟩ (fun hHeld => ?_)
                        clear hK K
                        refine norm_ (a' := ?_) ?_ ?_
                        rotate_left
                        · show Act.put _ (some 110) _ = _
                          simp only [Act.put, List.setIfInBounds_toArray, List.set_cons_zero, List.set_cons_succ, i64_w, i32_w]
                          rfl
                        refine one_ (i := 6) (N := some 111) #[true, true, true, true, true, true, true, false] rfl rfl (one_of HT_.out (by kernel_rfl)) (by decide) (fun K hK => ?_)
                        refine goes_ Try.func46 (by kernel_rfl) rfl #[.slice Ao88 t630.length co88] (by rfl) rfl rfl (by (try simp only [List.map_toArray, List.map_cons, List.map_nil]); first | done | rfl | (simp only [List.length_drop, List.length_take]; rfl)) ?_
                        with_reducible refine (ferruleref11_Fits.calls _ _ t630 t633 _ ?side1 ?side2 A83.out).mono ?_
                        (case side1 => repeat (first | exact (Kd.R_reads' HO632.out).2.2 | (with_reducible refine Kd.C_alloc ?_ _) | (with_reducible refine Kd.C_drewN ?_ _) | (with_reducible refine Kd.C_drew ?_)))
                        (case side2 => exact (Kd.R_reads' HO632.out).2.1)
                        rintro e w89 ⟨rfl, hb⟩
                        have HS3_ := (hb.cell (World.block_lt_of_cell? _ _ (hHeld.2.2.2))).trans (hHeld.2.2.2)
                        refine ⟨_, rfl, ?_⟩
                        have n0_ := Aside0.mk (Kd.R_below (by (with_reducible repeat (first | apply Kd.R_alloc | apply Kd.R_drewN | apply Kd.R_drew)); exact HO_3.out) hb)
                        have n1_ := Aside0.mk (Kd.R_below (by (with_reducible repeat (first | apply Kd.R_alloc | apply Kd.R_drewN | apply Kd.R_drew)); exact HO632.out) hb)
                        have n2_ := Aside0.mk (blk_below (g := gb623) (o := .cells #[.int .u64 a0_0, .int .u64 a0_1, .slice A0_2 l0_2.length c0_2] 27 (0, 0)) (by (with_reducible repeat (first | refine blk_drewN ?_ _ | refine blk_drew ?_ | refine blk_alloc ?_ _)); exact BK623.out) hb)
                        have n3_ := Aside0.mk (below_step (by repeat (first | (with_reducible first | exact HB.out | apply below_alloc | apply pw_below_drewN | apply below_drew1 | refine below_set ?_ GE623.out) | exact HB.out)) hb)
                        clear HO_3
                        clear HO632
                        clear BK623
                        clear HB
                        have HO_3 := n0_
                        have HO632 := n1_
                        have BK623 := n2_
                        have HB := n3_
                        clear n0_ n1_ n2_ n3_
                        (try clear hb)
                        (try clear hb2)
                        (try clear hk)
                        (try clear hi)
                        refine hK.out _ _ ⟨(blk_cell BK623.out 0).trans rfl, (blk_cell BK623.out 1).trans rfl, (blk_cell BK623.out 2).trans rfl, HS3_⟩ (fun hHeld => ?_)
                        clear hK K
                        refine norm_ (a' := ?_) ?_ ?_
                        rotate_left
                        · show Act.put _ (some 111) _ = _
                          simp only [Act.put, List.setIfInBounds_toArray, List.set_cons_zero, List.set_cons_succ, i64_w, i32_w]
                          rfl
                        refine pure_ (i := 7) (N := some 112) (v := ?_) (a' := ?_) #[true, true, true, true, true, true, true, true] rfl rfl (any_of HT_.out (by kernel_rfl)) (fun _ _ _ h => h) (Or.inl ⟨by rfl, ?_⟩) ?_ ?_
                        rotate_left
                        · intro w'
                          go_simp
                          with_reducible rfl
                        rotate_left
                        · simp only [Act.put, List.setIfInBounds_toArray, List.set_cons_zero, List.set_cons_succ, i64_w, i32_w]
                          rfl
                        refine done_ (done_of HT_.out (by kernel_rfl)) ?_
                        try go_wp2
                        go_roundg k3
                        case measure => have := HJ2.out; have := HK2.out; have := HK3.out; omega
                        case rel => exact ⟨(wrap64 (x6_3 + 1)), (by first | rfl | (simp; done) | (simp [*]; done)), H', ⟨by have := HJ2.out; have := HK2.out; have := HK3.out; omega⟩, ⟨by (with_reducible repeat (first | apply Kd.R_alloc | apply Kd.R_drewN | apply Kd.R_drew)); exact HO_3.out⟩, ⟨by (with_reducible repeat (first | refine blk_drewN ?_ _ | refine blk_drew ?_ | refine blk_alloc ?_ _)); exact BK623.out⟩, ⟨by repeat (first | (with_reducible first | exact HB.out | apply below_alloc | apply pw_below_drewN | apply below_drew1 | refine below_set ?_ GE623.out) | exact HB.out)⟩⟩
                      · rw [if_neg c84] at H
                        have c84b0 : (t633 == 0) = false := beq_eq_false_iff_ne.mpr c84
                        have c84b1 : (t633 != 0) = true := bne_iff_ne.mpr c84
                        obtain rfl := Option.some.inj H
                        obtain ⟨Ao90, co90, eo90⟩ := Kd.R_slice HO_3.out
                        subst eo90
                        try go_wp2
                        have n0_ := Aside0.mk (Kd.R_drew HO_3.out)
                        have n1_ := Aside0.mk (blk_drew BK623.out)
                        have n2_ := Aside0.mk (below_drew1 HB.out)
                        clear HO_3
                        clear BK623
                        clear HB
                        have HO_3 := n0_
                        have BK623 := n1_
                        have HB := n2_
                        clear n0_ n1_ n2_
                        have p629 : 0 ≤ (x6_3 : Int) := of_decide_eq_true (by first | (with_reducible assumption) | assumption)
                        have q629 : x6_3 < (t624.length : Int) := of_decide_eq_true (by first | (with_reducible assumption) | assumption)
                        obtain ⟨ad629, e629, hx629_0⟩ := Kd.at_int (Kd.R_reads' HO_3.out).2.2 x6_3 p629 q629
                        cases e629
                        replace p629 := eq_true p629
                        replace q629 := eq_true q629
                        refine start_ (n := 8) (S := fun w' => w'.cell? ⟨gb623, 0, none⟩ = some (.int .u64 a0_0) ∧ w'.cell? ⟨gb623, 1, none⟩ = some (.int .u64 a0_1) ∧ w'.cell? ⟨gb623, 2, none⟩ = some (.slice A0_2 l0_2.length c0_2) ∧ w'.cell? (ad629.add (x6_3).toNat) = some (.int .u64 (rd t624 x6_3))) (ds := []) #[false, false, false, false, false, false, false, false] (by kernel_rfl) rfl rfl ⟨(blk_cell BK623.out 0).trans rfl, (blk_cell BK623.out 1).trans rfl, (blk_cell BK623.out 2).trans rfl, hx629_0⟩ (fun hHeld => ?_); refine with_tabW ferruleref20_May.tab13 ferruleref20_May.bits13 (fun HT_ HW_ => ?_)
                        generalize wr.drew = w91 at HO_3 BK623 HB hx629_0 hHeld ⊢
                        refine pure_ (i := 1) (N := some 106) (v := ?_) (a' := ?_) #[false, true, false, false, false, false, false, false] rfl rfl (any_of HT_.out (by kernel_rfl)) (fun _ _ _ h => h) (Or.inl ⟨by rfl, ?_⟩) ?_ ?_
                        rotate_left
                        · intro w'
                          go_simp
                          with_reducible rfl
                        rotate_left
                        · simp only [Act.put, List.setIfInBounds_toArray, List.set_cons_zero, List.set_cons_succ, i64_w, i32_w]
                          rfl
                        refine pure_ (i := 2) (N := some 107) (v := ?_) (a' := ?_) #[false, true, true, false, false, false, false, false] rfl rfl (any_of HT_.out (by kernel_rfl)) (fun _ _ _ h => h) (Or.inl ⟨by rfl, ?_⟩) ?_ ?_
                        rotate_left
                        · intro w'
                          go_simp
                          with_reducible rfl
                        rotate_left
                        · simp only [Act.put, List.setIfInBounds_toArray, List.set_cons_zero, List.set_cons_succ, i64_w, i32_w]
                          rfl
                        refine pure_ (i := 3) (N := some 108) (v := ?_) (a' := ?_) #[false, true, true, true, false, false, false, false] rfl rfl (any_of HT_.out (by kernel_rfl)) (fun _ _ _ h => h) (Or.inl ⟨by rfl, ?_⟩) ?_ ?_
                        rotate_left
                        · intro w'
                          go_simp
                          with_reducible rfl
                        rotate_left
                        · simp only [Act.put, List.setIfInBounds_toArray, List.set_cons_zero, List.set_cons_succ, i64_w, i32_w]
                          rfl
                        refine take_ (i := 0) (N := some 105) (v := ?_) (a' := ?_) #[true, true, true, true, false, false, false, false] rfl rfl (take_ofW HT_.out HW_.out (by kernel_rfl)) (fun _ _ _ h => h) (Or.inl ⟨by rfl, ?_⟩) hHeld ?_ ?_
                        rotate_left
                        · rintro w' ⟨s0, s1, s2, s3⟩
                          go_simp
                          with_reducible rfl
                        rotate_left
                        · simp only [Act.put, List.setIfInBounds_toArray, List.set_cons_zero, List.set_cons_succ, i64_w, i32_w]
                          rfl
                        refine take_ (i := 4) (N := some 109) (v := ?_) (a' := ?_) #[true, true, true, true, true, false, false, false] rfl rfl (take_ofW HT_.out HW_.out (by kernel_rfl)) (fun _ _ _ h => h) (Or.inl ⟨by rfl, ?_⟩) hHeld ?_ ?_
                        rotate_left
                        · rintro w' ⟨s0, s1, s2, s3⟩
                          go_simp
                          with_reducible rfl
                        rotate_left
                        · simp only [Act.put, List.setIfInBounds_toArray, List.set_cons_zero, List.set_cons_succ, i64_w, i32_w]
                          rfl
                        refine one_ (i := 5) (N := some 110) #[true, true, true, true, true, true, false, false] rfl rfl (one_of HT_.out (by kernel_rfl)) (by decide) (fun K hK => ?_)
                        refine goes_ Try.func22 (by kernel_rfl) rfl #[.agg #[.int .u64 a0_0, .int .u64 a0_1, .slice A0_2 l0_2.length c0_2], .int .u64 (rd t624 x6_3)] (by rfl) rfl rfl (by (try simp only [List.map_toArray, List.map_cons, List.map_nil]); first | done | rfl | (simp only [List.length_drop, List.length_take]; rfl)) ?_
                        with_reducible refine (ferruleref20_Puts.calls k3 a0_0 a0_1 _ _ l0_2 (rd t624 x6_3) t630 _ ?side1 ?side2 A82.out).mono ?_
                        (case side1 => repeat (first | exact (Kd.C_below HR0_2.out HB.out) | (with_reducible refine Kd.C_alloc ?_ _) | (with_reducible refine Kd.C_drewN ?_ _) | (with_reducible refine Kd.C_drew ?_)))
                        (case side2 => exact HC0_2.out)
                        rintro e w92 ⟨v631, rfl, ho0, hb⟩
                        have HS3_ := (hb.cell (World.block_lt_of_cell? _ _ (hHeld.2.2.2))).trans (hHeld.2.2.2)
                        refine ⟨_, rfl, ?_⟩
                        have n0_ := Aside0.mk (Kd.R_below (by (with_reducible repeat (first | apply Kd.R_alloc | apply Kd.R_drewN | apply Kd.R_drew)); exact HO_3.out) hb)
                        have n1_ := Aside0.mk (Kd.R_lower ho0 (below_size (by repeat (first | (with_reducible first | exact HB.out | apply below_alloc | apply pw_below_drewN | apply below_drew1 | refine below_set ?_ GE623.out) | exact HB.out))))
                        have n2_ := Aside0.mk (blk_below (g := gb623) (o := .cells #[.int .u64 a0_0, .int .u64 a0_1, .slice A0_2 l0_2.length c0_2] 27 (0, 0)) (by (with_reducible repeat (first | refine blk_drewN ?_ _ | refine blk_drew ?_ | refine blk_alloc ?_ _)); exact BK623.out) hb)
                        have n3_ := Aside0.mk (below_step (by repeat (first | (with_reducible first | exact HB.out | apply below_alloc | apply pw_below_drewN | apply below_drew1 | refine below_set ?_ GE623.out) | exact HB.out)) hb)
                        clear HO_3
                        clear BK623
                        clear HB
                        have HO_3 := n0_
                        have HO632 := n1_
                        have BK623 := n2_
                        have HB := n3_
                        clear n0_ n1_ n2_ n3_
                        (try clear hb)
                        (try clear hb2)
                        (try clear hk)
                        (try clear hi)
                        (try clear ho0)
                        obtain ⟨Ao93, co93, eo93⟩ := Kd.R_slice HO632.out
                        (first | subst eo93 | (injection eo93 with f1_ f2_ f3_; have f4_ := f1_.symm; have f5_ := f3_.symm; clear f1_ f2_ f3_; subst f4_; subst f5_))
                        refine hK.out _ _ ⟨(blk_cell BK623.out 0).trans rfl, (blk_cell BK623.out 1).trans rfl, (blk_cell BK623.out 2).trans rfl, HS3_⟩ (fun hHeld => ?_)
                        clear hK K
                        refine norm_ (a' := ?_) ?_ ?_
                        rotate_left
                        · show Act.put _ (some 110) _ = _
                          simp only [Act.put, List.setIfInBounds_toArray, List.set_cons_zero, List.set_cons_succ, i64_w, i32_w]
                          rfl
                        refine one_ (i := 6) (N := some 111) #[true, true, true, true, true, true, true, false] rfl rfl (one_of HT_.out (by kernel_rfl)) (by decide) (fun K hK => ?_)
                        refine goes_ Try.func46 (by kernel_rfl) rfl #[.slice Ao93 t630.length co93] (by rfl) rfl rfl (by (try simp only [List.map_toArray, List.map_cons, List.map_nil]); first | done | rfl | (simp only [List.length_drop, List.length_take]; rfl)) ?_
                        with_reducible refine (ferruleref11_Fits.calls _ _ t630 t633 _ ?side1 ?side2 A83.out).mono ?_
                        (case side1 => repeat (first | exact (Kd.R_reads' HO632.out).2.2 | (with_reducible refine Kd.C_alloc ?_ _) | (with_reducible refine Kd.C_drewN ?_ _) | (with_reducible refine Kd.C_drew ?_)))
                        (case side2 => exact (Kd.R_reads' HO632.out).2.1)
                        rintro e w94 ⟨rfl, hb⟩
                        have HS3_ := (hb.cell (World.block_lt_of_cell? _ _ (hHeld.2.2.2))).trans (hHeld.2.2.2)
                        refine ⟨_, rfl, ?_⟩
                        have n0_ := Aside0.mk (Kd.R_below (by (with_reducible repeat (first | apply Kd.R_alloc | apply Kd.R_drewN | apply Kd.R_drew)); exact HO_3.out) hb)
                        have n1_ := Aside0.mk (Kd.R_below (by (with_reducible repeat (first | apply Kd.R_alloc | apply Kd.R_drewN | apply Kd.R_drew)); exact HO632.out) hb)
                        have n2_ := Aside0.mk (blk_below (g := gb623) (o := .cells #[.int .u64 a0_0, .int .u64 a0_1, .slice A0_2 l0_2.length c0_2] 27 (0, 0)) (by (with_reducible repeat (first | refine blk_drewN ?_ _ | refine blk_drew ?_ | refine blk_alloc ?_ _)); exact BK623.out) hb)
                        have n3_ := Aside0.mk (below_step (by repeat (first | (with_reducible first | exact HB.out | apply below_alloc | apply pw_below_drewN | apply below_drew1 | refine below_set ?_ GE623.out) | exact HB.out)) hb)
                        clear HO_3
                        clear HO632
                        clear BK623
                        clear HB
                        have HO_3 := n0_
                        have HO632 := n1_
                        have BK623 := n2_
                        have HB := n3_
                        clear n0_ n1_ n2_ n3_
                        (try clear hb)
                        (try clear hb2)
                        (try clear hk)
                        (try clear hi)
                        refine hK.out _ _ ⟨(blk_cell BK623.out 0).trans rfl, (blk_cell BK623.out 1).trans rfl, (blk_cell BK623.out 2).trans rfl, HS3_⟩ (fun hHeld => ?_)
                        clear hK K
                        refine norm_ (a' := ?_) ?_ ?_
                        rotate_left
                        · show Act.put _ (some 111) _ = _
                          simp only [Act.put, List.setIfInBounds_toArray, List.set_cons_zero, List.set_cons_succ, i64_w, i32_w]
                          rfl
                        refine pure_ (i := 7) (N := some 112) (v := ?_) (a' := ?_) #[true, true, true, true, true, true, true, true] rfl rfl (any_of HT_.out (by kernel_rfl)) (fun _ _ _ h => h) (Or.inl ⟨by rfl, ?_⟩) ?_ ?_
                        rotate_left
                        · intro w'
                          go_simp
                          with_reducible rfl
                        rotate_left
                        · simp only [Act.put, List.setIfInBounds_toArray, List.set_cons_zero, List.set_cons_succ, i64_w, i32_w]
                          rfl
                        refine done_ (done_of HT_.out (by kernel_rfl)) ?_
                        try go_wp2
                        go_ret
                        exact ⟨by first | rfl | (simp [errW_none, errW_some] <;> rfl) | (simp [*, errW_none, errW_some] <;> rfl), by repeat (first | (with_reducible first | exact HB.out | apply below_alloc | apply pw_below_drewN | apply below_drew1 | refine below_set ?_ GE623.out) | exact HB.out)⟩
                    · rw [if_neg c81] at H
                      exact absurd H (by simp)
                  · rw [if_neg c80] at H
                    have c80b0 : decide (x6_3 < (t624.length : Int)) = false := decide_eq_false c80
                    clear c80
                    obtain rfl := Option.some.inj H
                    obtain ⟨Ao95, co95, eo95⟩ := Kd.R_slice HO_3.out
                    subst eo95
                    go_wp2
                    go_ret
                    exact ⟨by first | rfl | (simp [errW_none, errW_some] <;> rfl) | (simp [*, errW_none, errW_some] <;> rfl), by repeat (first | (with_reducible first | exact HB.out | apply below_alloc | apply pw_below_drewN | apply below_drew1 | refine below_set ?_ GE623.out) | exact HB.out)⟩

end Go.Proofs.Ytkennobdoldlkaa.PAll
end
