/- Joined texts of the claim ShardRight (part 30): contracts of functions and plain laws. -/
import Derived.Test.YtmcgcdpiceikeaaJShardRight14
import Derived.Test.YtmcgcdpiceikeaaJShardRight25
section
-- Printed by this session's pr.sh (the kit's print.py, several laws in one namespace). Not trusted: Lean checks it.
namespace Go.Proofs.Ytmcgcdpiceikeaa.PAll
open Go.RowKit Go.Proofs.YtmcgcdpiceikeaaW.PrintWords Go.Proofs.YtmcgcdpiceikeaaW.PrintLast Go.Proofs.YtmcgcdpiceikeaaW.PrintMore
attribute [local go_sem] max2_int min2_int max_two min_two max_three min_three max_four min_four   -- for this text's walks alone
set_option linter.unusedVariables false
set_option linter.unusedSimpArgs false

/-! ### ferruleref11_Right: function 31 -/
mutual
def ferruleref11_Right.l0 : Nat → List (S50) → Int → Option (Bool)
  | 0, _, _ => none
  | k + 1, x0, x3 => if x3 < (x0.length : Int) then (if 0 ≤ x3 then (if (((rd_T50 x0 x3).f0).size : Int) < 1 then (ferruleref11_Right.j1 k x0 x3 true ((rd_T50 x0 x3).f0) ((rd_T50 x0 x3).f1) ((rd_T50 x0 x3).f2)) else (if (((rd_T50 x0 x3).f0).size : Int) > 16 then (ferruleref11_Right.j1 k x0 x3 true ((rd_T50 x0 x3).f0) ((rd_T50 x0 x3).f1) ((rd_T50 x0 x3).f2)) else (if (((rd_T50 x0 x3).f1).size : Int) > 32 then (ferruleref11_Right.j1 k x0 x3 true ((rd_T50 x0 x3).f0) ((rd_T50 x0 x3).f1) ((rd_T50 x0 x3).f2)) else (ferruleref11_Right.j1 k x0 x3 (decide (((rd_T50 x0 x3).f2) > 4611686018427387903)) ((rd_T50 x0 x3).f0) ((rd_T50 x0 x3).f1) ((rd_T50 x0 x3).f2))))) else (none)) else (some true)
def ferruleref11_Right.j1 : Nat → List (S50) → Int → Bool → ByteArray → ByteArray → Int → Option (Bool)
  | 0, _, _, _, _, _, _ => none
  | k + 1, x0, x3, x38, x530000, x530001, x530002 => if x38 = true then (some false) else (if x3 > 0 then (if 0 ≤ (wrap64 (x3 - 1)) then (if (wrap64 (x3 - 1)) < (x0.length : Int) then ((ferruleref11_Less.f k ((rd_T50 x0 (wrap64 (x3 - 1))).f0) x530000).bind fun t531 => (if t531 = true then (ferruleref11_Right.l0 k x0 (wrap64 (x3 + 1))) else (some false))) else (none)) else (none)) else (ferruleref11_Right.l0 k x0 (wrap64 (x3 + 1))))
end
def ferruleref11_Right.f (k : Nat) (l0 : List (S50)) : Option (Bool) := if (l0.length : Int) > 32 then (some false) else (ferruleref11_Right.l0 k l0 0)
set_option maxHeartbeats 8000000 in
set_option maxRecDepth 100000 in
theorem ferruleref11_Right.calls (k : Nat) (A0 : Option Addr) (c0 : Nat) (l0 : List (S50)) (r : Bool) (w : World) (hr0 : Kd.C k50 w A0 l0.length l0) (hc0 : l0.length ≤ c0) (h : ferruleref11_Right.f k l0 = some r) :
    Calls Try.prog 31 #[.slice A0 l0.length c0] w fun e w' => e = .returned (.bool r) ∧ Below w.heap.size w w' := by
  have hu50 := Try.underlying50
  have HR0 := Aside0.mk hr0
  have HC0 := Aside0.mk hc0
  clear hr0 hc0
  have HB := Aside0.mk (Below.refl w.heap.size w)
  have H : (if (l0.length : Int) > 32 then (some false) else (ferruleref11_Right.l0 k l0 0)) = some r := h
  clear h
  by_cases c2 : (l0.length : Int) > 32
  · rw [if_pos c2] at H
    have c2b0 : decide (32 < (l0.length : Int)) = true := decide_eq_true c2
    have c2b1 : decide (32 < l0.length) = true := decide_eq_true (by omega)
    clear c2
    obtain rfl := Option.some.inj H
    go_enter Try.func31, Try.ntmps31
    go_wp2
    repeat (go_quiet (fail); try go_wp2)
    go_ret
    exact ⟨by first | rfl | (simp [errW_none, errW_some] <;> rfl) | (simp [*, errW_none, errW_some] <;> rfl), by repeat (first | (with_reducible first | exact HB.out | apply below_alloc | apply pw_below_drewN | apply below_drew1) | exact HB.out)⟩
  · rw [if_neg c2] at H
    have c2b0 : decide (32 < (l0.length : Int)) = false := decide_eq_false c2
    have c2b1 : decide (32 < l0.length) = false := decide_eq_false (by omega)
    clear c2
    have H' := Aside0.mk H
    clear H
    go_enter Try.func31, Try.ntmps31
    go_wp2
    repeat (go_quiet (fail); try go_wp2)
    go_loopg [3] k (fun kq v3 w' => ∃ (x3_1 : Int), v3 = .int .i64 x3_1 ∧ Aside0 (ferruleref11_Right.l0 kq l0 x3_1 = some r) ∧ Aside0 (kq ≤ k) ∧ Aside0 (Below w.heap.size w w'))
    case atStart => exact ⟨(0), (by first | rfl | (simp; done) | (simp [*]; done)), H', ⟨Nat.le_refl _⟩, ⟨by repeat (first | (with_reducible first | exact HB.out | apply below_alloc | apply pw_below_drewN | apply below_drew1) | exact HB.out)⟩⟩
    case round =>
      clear H'
      try clear c2
      try clear c2b0
      try clear c2b1
      try clear p2
      obtain ⟨x3_1, rfl, HA, HK1, HB⟩ := hrel
      cases gk with
      | zero => exact absurd HA.out (by simp [ferruleref11_Right.l0])
      | succ k1 =>
        have H := HA.out
        clear HA
        simp only [ferruleref11_Right.l0] at H
        by_cases c3 : x3_1 < (l0.length : Int)
        · rw [if_pos c3] at H
          have c3b0 : decide (x3_1 < (l0.length : Int)) = true := decide_eq_true c3
          clear c3
          by_cases c4 : 0 ≤ x3_1
          · rw [if_pos c4] at H
            have c4b0 : decide (0 ≤ x3_1) = true := decide_eq_true c4
            clear c4
            have HC5 := Aside0.mk H
            clear H
            have p528 : 0 ≤ (x3_1 : Int) := of_decide_eq_true (by first | (with_reducible assumption) | assumption)
            have q528 : x3_1 < (l0.length : Int) := of_decide_eq_true (by first | (with_reducible assumption) | assumption)
            obtain ⟨ad528, e528, hx528_0, hx528_1, hx528_2⟩ := at_T50 HR0.out x3_1 p528 q528
            cases e528
            replace hx528_0 := (HB.out.cell (World.block_lt_of_cell? w _ hx528_0)).trans hx528_0
            replace hx528_1 := (HB.out.cell (World.block_lt_of_cell? w _ hx528_1)).trans hx528_1
            replace hx528_2 := (HB.out.cell (World.block_lt_of_cell? w _ hx528_2)).trans hx528_2
            replace p528 := eq_true p528
            replace q528 := eq_true q528
            go_upto_region 7 with (first | ((with_reducible refine gate_dst (N := 4) rfl ?_); (try (refine gate_guard (by rfl) ?_; dsimp only)); refine box_event ?hg (N := 4) ?hd (cs := #[.string (⟨#[]⟩ : ByteArray), .string (⟨#[]⟩ : ByteArray), .int .u64 0]) (t := 50) ?hr ?_; (case hd => rfl); (case hg => rfl); (case hr => first | (go_simp; done) | (go_simp; rfl)); intro gb529 hg w6 hbox hb; have n0_ := Aside0.mk (below_step (by repeat (first | (with_reducible first | exact HB.out | apply below_alloc | apply pw_below_drewN | apply below_drew1) | exact HB.out)) hb); have n1_ := Aside0.mk (hbox); have n2_ := Aside0.mk ((by rw [hg]; exact (below_size (by repeat (first | (with_reducible first | exact HB.out | apply below_alloc | apply pw_below_drewN | apply below_drew1) | exact HB.out))) : w.heap.size ≤ gb529)); have n3_ := Aside0.mk ((by rw [hg]; exact (below_size (by repeat (first | (with_reducible first | exact HB.out | apply below_alloc | apply pw_below_drewN | apply below_drew1) | exact HB.out))) : w.heap.size ≤ gb529)); clear HB; have HB := n0_; have BK529 := n1_; have GW529 := n2_; have GE529 := n3_; clear n0_ n1_ n2_ n3_; clear hb hbox hg; have hcz7_0 : w6.cell? ⟨gb529, 0, none⟩ = some (.string (⟨#[]⟩ : ByteArray)) := (blk_cell BK529.out 0).trans rfl; have hcz7_1 : w6.cell? ⟨gb529, 1, none⟩ = some (.string (⟨#[]⟩ : ByteArray)) := (blk_cell BK529.out 1).trans rfl; have hcz7_2 : w6.cell? ⟨gb529, 2, none⟩ = some (.int .u64 0) := (blk_cell BK529.out 2).trans rfl; have hfz7_0 := blk_frozen BK529.out 0; have hfz7_1 := blk_frozen BK529.out 1; have hfz7_2 := blk_frozen BK529.out 2))
            repeat (go_quiet (first | ((with_reducible refine gate_dst (N := 4) rfl ?_); (try (refine gate_guard (by rfl) ?_; dsimp only)); refine box_event ?hg (N := 4) ?hd (cs := #[.string (⟨#[]⟩ : ByteArray), .string (⟨#[]⟩ : ByteArray), .int .u64 0]) (t := 50) ?hr ?_; (case hd => rfl); (case hg => rfl); (case hr => first | (go_simp; done) | (go_simp; rfl)); intro gb529 hg w6 hbox hb; have n0_ := Aside0.mk (below_step (by repeat (first | (with_reducible first | exact HB.out | apply below_alloc | apply pw_below_drewN | apply below_drew1) | exact HB.out)) hb); have n1_ := Aside0.mk (hbox); have n2_ := Aside0.mk ((by rw [hg]; exact (below_size (by repeat (first | (with_reducible first | exact HB.out | apply below_alloc | apply pw_below_drewN | apply below_drew1) | exact HB.out))) : w.heap.size ≤ gb529)); have n3_ := Aside0.mk ((by rw [hg]; exact (below_size (by repeat (first | (with_reducible first | exact HB.out | apply below_alloc | apply pw_below_drewN | apply below_drew1) | exact HB.out))) : w.heap.size ≤ gb529)); clear HB; have HB := n0_; have BK529 := n1_; have GW529 := n2_; have GE529 := n3_; clear n0_ n1_ n2_ n3_; clear hb hbox hg; have hcz7_0 : w6.cell? ⟨gb529, 0, none⟩ = some (.string (⟨#[]⟩ : ByteArray)) := (blk_cell BK529.out 0).trans rfl; have hcz7_1 : w6.cell? ⟨gb529, 1, none⟩ = some (.string (⟨#[]⟩ : ByteArray)) := (blk_cell BK529.out 1).trans rfl; have hcz7_2 : w6.cell? ⟨gb529, 2, none⟩ = some (.int .u64 0) := (blk_cell BK529.out 2).trans rfl; have hfz7_0 := blk_frozen BK529.out 0; have hfz7_1 := blk_frozen BK529.out 1; have hfz7_2 := blk_frozen BK529.out 2)); go_upto_region 7 with (first | ((with_reducible refine gate_dst (N := 4) rfl ?_); (try (refine gate_guard (by rfl) ?_; dsimp only)); refine box_event ?hg (N := 4) ?hd (cs := #[.string (⟨#[]⟩ : ByteArray), .string (⟨#[]⟩ : ByteArray), .int .u64 0]) (t := 50) ?hr ?_; (case hd => rfl); (case hg => rfl); (case hr => first | (go_simp; done) | (go_simp; rfl)); intro gb529 hg w6 hbox hb; have n0_ := Aside0.mk (below_step (by repeat (first | (with_reducible first | exact HB.out | apply below_alloc | apply pw_below_drewN | apply below_drew1) | exact HB.out)) hb); have n1_ := Aside0.mk (hbox); have n2_ := Aside0.mk ((by rw [hg]; exact (below_size (by repeat (first | (with_reducible first | exact HB.out | apply below_alloc | apply pw_below_drewN | apply below_drew1) | exact HB.out))) : w.heap.size ≤ gb529)); have n3_ := Aside0.mk ((by rw [hg]; exact (below_size (by repeat (first | (with_reducible first | exact HB.out | apply below_alloc | apply pw_below_drewN | apply below_drew1) | exact HB.out))) : w.heap.size ≤ gb529)); clear HB; have HB := n0_; have BK529 := n1_; have GW529 := n2_; have GE529 := n3_; clear n0_ n1_ n2_ n3_; clear hb hbox hg; have hcz7_0 : w6.cell? ⟨gb529, 0, none⟩ = some (.string (⟨#[]⟩ : ByteArray)) := (blk_cell BK529.out 0).trans rfl; have hcz7_1 : w6.cell? ⟨gb529, 1, none⟩ = some (.string (⟨#[]⟩ : ByteArray)) := (blk_cell BK529.out 1).trans rfl; have hcz7_2 : w6.cell? ⟨gb529, 2, none⟩ = some (.int .u64 0) := (blk_cell BK529.out 2).trans rfl; have hfz7_0 := blk_frozen BK529.out 0; have hfz7_1 := blk_frozen BK529.out 1; have hfz7_2 := blk_frozen BK529.out 2)))
            (try simp only [Act.put, List.setIfInBounds_toArray, List.set_cons_zero, List.set_cons_succ])
            go_cut [38] (fun v38 wc => ∃ (kq : Nat) (x38_4 : Bool), v38 = .bool x38_4 ∧ Aside0 (ferruleref11_Right.j1 kq l0 x3_1 x38_4 ((rd_T50 l0 x3_1).f0) ((rd_T50 l0 x3_1).f1) ((rd_T50 l0 x3_1).f2) = some r) ∧ Aside0 (kq ≤ k1) ∧ Aside0 (wc.heap[gb529]? = some (.cells #[.string ((rd_T50 l0 x3_1).f0), .string ((rd_T50 l0 x3_1).f1), .int .u64 ((rd_T50 l0 x3_1).f2)] 50 (0, 0))) ∧ Aside0 (Below w.heap.size w wc))
            case first =>
              have H := HC5.out
              clear HC5
              by_cases c8 : (((rd_T50 l0 x3_1).f0).size : Int) < 1
              · rw [if_pos c8] at H
                have c8b0 : decide ((((rd_T50 l0 x3_1).f0).size : Int) < 1) = true := decide_eq_true c8
                have c8b1 : decide (((rd_T50 l0 x3_1).f0).size < 1) = true := decide_eq_true (by omega)
                clear c8
                (first | rw [c8b0] | (simp only [i64_w, i32_w]; rw [c8b0]) | skip)
                have H' := Aside0.mk H
                clear H
                have hcz9_0 : w6.cell? ⟨gb529, 0, none⟩ = some (.string (⟨#[]⟩ : ByteArray)) := (blk_cell BK529.out 0).trans rfl
                have hcz9_1 : w6.cell? ⟨gb529, 1, none⟩ = some (.string (⟨#[]⟩ : ByteArray)) := (blk_cell BK529.out 1).trans rfl
                have hcz9_2 : w6.cell? ⟨gb529, 2, none⟩ = some (.int .u64 0) := (blk_cell BK529.out 2).trans rfl
                have hfz9_0 := blk_frozen BK529.out 0
                have hfz9_1 := blk_frozen BK529.out 1
                have hfz9_2 := blk_frozen BK529.out 2
                go_wp2
                repeat (go_quiet (fail); try go_wp2)
                go_meet
                case rel => exact ⟨_, (true), (by first | rfl | (simp; done) | (simp [*]; done)), H', ⟨by have := HK1.out; first | omega | exact Nat.le_refl _⟩, ⟨by (with_reducible repeat (first | refine blk_drewN ?_ _ | refine blk_drew ?_ | refine blk_alloc ?_ _)); refine blk_put (cs := #[.string ((rd_T50 l0 x3_1).f0), .string ((rd_T50 l0 x3_1).f1), .int .u64 0]) ?_ 2 _ rfl; (with_reducible repeat (first | refine blk_drewN ?_ _ | refine blk_drew ?_ | refine blk_alloc ?_ _)); refine blk_put (cs := #[.string ((rd_T50 l0 x3_1).f0), .string (⟨#[]⟩ : ByteArray), .int .u64 0]) ?_ 1 _ rfl; (with_reducible repeat (first | refine blk_drewN ?_ _ | refine blk_drew ?_ | refine blk_alloc ?_ _)); refine blk_put (cs := #[.string (⟨#[]⟩ : ByteArray), .string (⟨#[]⟩ : ByteArray), .int .u64 0]) ?_ 0 _ rfl; (with_reducible repeat (first | refine blk_drewN ?_ _ | refine blk_drew ?_ | refine blk_alloc ?_ _)); exact BK529.out⟩, ⟨by repeat (first | (with_reducible first | exact HB.out | apply below_alloc | apply pw_below_drewN | apply below_drew1 | refine below_set ?_ GE529.out) | exact HB.out)⟩⟩
              · rw [if_neg c8] at H
                have c8b0 : decide ((((rd_T50 l0 x3_1).f0).size : Int) < 1) = false := decide_eq_false c8
                have c8b1 : decide (((rd_T50 l0 x3_1).f0).size < 1) = false := decide_eq_false (by omega)
                clear c8
                (first | rw [c8b0] | (simp only [i64_w, i32_w]; rw [c8b0]) | skip)
                by_cases c10 : (((rd_T50 l0 x3_1).f0).size : Int) > 16
                · rw [if_pos c10] at H
                  have c10b0 : decide (16 < (((rd_T50 l0 x3_1).f0).size : Int)) = true := decide_eq_true c10
                  have c10b1 : decide (16 < ((rd_T50 l0 x3_1).f0).size) = true := decide_eq_true (by omega)
                  clear c10
                  have H' := Aside0.mk H
                  clear H
                  have hcz11_0 : w6.cell? ⟨gb529, 0, none⟩ = some (.string (⟨#[]⟩ : ByteArray)) := (blk_cell BK529.out 0).trans rfl
                  have hcz11_1 : w6.cell? ⟨gb529, 1, none⟩ = some (.string (⟨#[]⟩ : ByteArray)) := (blk_cell BK529.out 1).trans rfl
                  have hcz11_2 : w6.cell? ⟨gb529, 2, none⟩ = some (.int .u64 0) := (blk_cell BK529.out 2).trans rfl
                  have hfz11_0 := blk_frozen BK529.out 0
                  have hfz11_1 := blk_frozen BK529.out 1
                  have hfz11_2 := blk_frozen BK529.out 2
                  go_wp2
                  repeat (go_quiet (fail); try go_wp2)
                  go_meet
                  case rel => exact ⟨_, (true), (by first | rfl | (simp; done) | (simp [*]; done)), H', ⟨by have := HK1.out; first | omega | exact Nat.le_refl _⟩, ⟨by (with_reducible repeat (first | refine blk_drewN ?_ _ | refine blk_drew ?_ | refine blk_alloc ?_ _)); refine blk_put (cs := #[.string ((rd_T50 l0 x3_1).f0), .string ((rd_T50 l0 x3_1).f1), .int .u64 0]) ?_ 2 _ rfl; (with_reducible repeat (first | refine blk_drewN ?_ _ | refine blk_drew ?_ | refine blk_alloc ?_ _)); refine blk_put (cs := #[.string ((rd_T50 l0 x3_1).f0), .string (⟨#[]⟩ : ByteArray), .int .u64 0]) ?_ 1 _ rfl; (with_reducible repeat (first | refine blk_drewN ?_ _ | refine blk_drew ?_ | refine blk_alloc ?_ _)); refine blk_put (cs := #[.string (⟨#[]⟩ : ByteArray), .string (⟨#[]⟩ : ByteArray), .int .u64 0]) ?_ 0 _ rfl; (with_reducible repeat (first | refine blk_drewN ?_ _ | refine blk_drew ?_ | refine blk_alloc ?_ _)); exact BK529.out⟩, ⟨by repeat (first | (with_reducible first | exact HB.out | apply below_alloc | apply pw_below_drewN | apply below_drew1 | refine below_set ?_ GE529.out) | exact HB.out)⟩⟩
                · rw [if_neg c10] at H
                  have c10b0 : decide (16 < (((rd_T50 l0 x3_1).f0).size : Int)) = false := decide_eq_false c10
                  have c10b1 : decide (16 < ((rd_T50 l0 x3_1).f0).size) = false := decide_eq_false (by omega)
                  clear c10
                  by_cases c12 : (((rd_T50 l0 x3_1).f1).size : Int) > 32
                  · rw [if_pos c12] at H
                    have c12b0 : decide (32 < (((rd_T50 l0 x3_1).f1).size : Int)) = true := decide_eq_true c12
                    have c12b1 : decide (32 < ((rd_T50 l0 x3_1).f1).size) = true := decide_eq_true (by omega)
                    clear c12
                    have H' := Aside0.mk H
                    clear H
                    have hcz13_0 : w6.cell? ⟨gb529, 0, none⟩ = some (.string (⟨#[]⟩ : ByteArray)) := (blk_cell BK529.out 0).trans rfl
                    have hcz13_1 : w6.cell? ⟨gb529, 1, none⟩ = some (.string (⟨#[]⟩ : ByteArray)) := (blk_cell BK529.out 1).trans rfl
                    have hcz13_2 : w6.cell? ⟨gb529, 2, none⟩ = some (.int .u64 0) := (blk_cell BK529.out 2).trans rfl
                    have hfz13_0 := blk_frozen BK529.out 0
                    have hfz13_1 := blk_frozen BK529.out 1
                    have hfz13_2 := blk_frozen BK529.out 2
                    go_wp2
                    repeat (go_quiet (fail); try go_wp2)
                    go_meet
                    case rel => exact ⟨_, (true), (by first | rfl | (simp; done) | (simp [*]; done)), H', ⟨by have := HK1.out; first | omega | exact Nat.le_refl _⟩, ⟨by (with_reducible repeat (first | refine blk_drewN ?_ _ | refine blk_drew ?_ | refine blk_alloc ?_ _)); refine blk_put (cs := #[.string ((rd_T50 l0 x3_1).f0), .string ((rd_T50 l0 x3_1).f1), .int .u64 0]) ?_ 2 _ rfl; (with_reducible repeat (first | refine blk_drewN ?_ _ | refine blk_drew ?_ | refine blk_alloc ?_ _)); refine blk_put (cs := #[.string ((rd_T50 l0 x3_1).f0), .string (⟨#[]⟩ : ByteArray), .int .u64 0]) ?_ 1 _ rfl; (with_reducible repeat (first | refine blk_drewN ?_ _ | refine blk_drew ?_ | refine blk_alloc ?_ _)); refine blk_put (cs := #[.string (⟨#[]⟩ : ByteArray), .string (⟨#[]⟩ : ByteArray), .int .u64 0]) ?_ 0 _ rfl; (with_reducible repeat (first | refine blk_drewN ?_ _ | refine blk_drew ?_ | refine blk_alloc ?_ _)); exact BK529.out⟩, ⟨by repeat (first | (with_reducible first | exact HB.out | apply below_alloc | apply pw_below_drewN | apply below_drew1 | refine below_set ?_ GE529.out) | exact HB.out)⟩⟩
                  · rw [if_neg c12] at H
                    have c12b0 : decide (32 < (((rd_T50 l0 x3_1).f1).size : Int)) = false := decide_eq_false c12
                    have c12b1 : decide (32 < ((rd_T50 l0 x3_1).f1).size) = false := decide_eq_false (by omega)
                    clear c12
                    have H' := Aside0.mk H
                    clear H
                    have hcz14_0 : w6.cell? ⟨gb529, 0, none⟩ = some (.string (⟨#[]⟩ : ByteArray)) := (blk_cell BK529.out 0).trans rfl
                    have hcz14_1 : w6.cell? ⟨gb529, 1, none⟩ = some (.string (⟨#[]⟩ : ByteArray)) := (blk_cell BK529.out 1).trans rfl
                    have hcz14_2 : w6.cell? ⟨gb529, 2, none⟩ = some (.int .u64 0) := (blk_cell BK529.out 2).trans rfl
                    have hfz14_0 := blk_frozen BK529.out 0
                    have hfz14_1 := blk_frozen BK529.out 1
                    have hfz14_2 := blk_frozen BK529.out 2
                    go_wp2
                    repeat (go_quiet (fail); try go_wp2)
                    go_meet
                    case rel => exact ⟨_, (decide (((rd_T50 l0 x3_1).f2) > 4611686018427387903)), (by first | rfl | (simp; done) | (simp [*]; done)), H', ⟨by have := HK1.out; first | omega | exact Nat.le_refl _⟩, ⟨by (with_reducible repeat (first | refine blk_drewN ?_ _ | refine blk_drew ?_ | refine blk_alloc ?_ _)); refine blk_put (cs := #[.string ((rd_T50 l0 x3_1).f0), .string ((rd_T50 l0 x3_1).f1), .int .u64 0]) ?_ 2 _ rfl; (with_reducible repeat (first | refine blk_drewN ?_ _ | refine blk_drew ?_ | refine blk_alloc ?_ _)); refine blk_put (cs := #[.string ((rd_T50 l0 x3_1).f0), .string (⟨#[]⟩ : ByteArray), .int .u64 0]) ?_ 1 _ rfl; (with_reducible repeat (first | refine blk_drewN ?_ _ | refine blk_drew ?_ | refine blk_alloc ?_ _)); refine blk_put (cs := #[.string (⟨#[]⟩ : ByteArray), .string (⟨#[]⟩ : ByteArray), .int .u64 0]) ?_ 0 _ rfl; (with_reducible repeat (first | refine blk_drewN ?_ _ | refine blk_drew ?_ | refine blk_alloc ?_ _)); exact BK529.out⟩, ⟨by repeat (first | (with_reducible first | exact HB.out | apply below_alloc | apply pw_below_drewN | apply below_drew1 | refine below_set ?_ GE529.out) | exact HB.out)⟩⟩
            case rest =>
              clear HC5
              try clear c1
              try clear c2
              try clear c2b0
              try clear c2b1
              try clear p2
              try clear c3
              try clear c3b0
              try clear c4
              try clear c4b0
              try clear p5
              try clear q5
              try clear hx5
              try clear c8
              try clear c8b0
              try clear c8b1
              try clear c10
              try clear c10b0
              try clear c10b1
              try clear c12
              try clear c12b0
              try clear c12b1
              try clear hcz11_0
              try clear hcz11_1
              try clear hcz11_2
              try clear hcz13_0
              try clear hcz13_1
              try clear hcz13_2
              try clear hcz14_0
              try clear hcz14_1
              try clear hcz14_2
              try clear hcz7_0
              try clear hcz7_1
              try clear hcz7_2
              try clear hcz9_0
              try clear hcz9_1
              try clear hcz9_2
              try clear hfz11_0
              try clear hfz11_1
              try clear hfz11_2
              try clear hfz13_0
              try clear hfz13_1
              try clear hfz13_2
              try clear hfz14_0
              try clear hfz14_1
              try clear hfz14_2
              try clear hfz7_0
              try clear hfz7_1
              try clear hfz7_2
              try clear hfz9_0
              try clear hfz9_1
              try clear hfz9_2
              try clear hx528_0
              try clear hx528_1
              try clear hx528_2
              try clear p2
              try clear p528
              try clear q528
              obtain ⟨kq, x38_4, rfl, HA, HJ4, BK529, HB⟩ := hcut
              cases kq with
              | zero => exact absurd HA.out (by simp [ferruleref11_Right.j1])
              | succ kj4 =>
                have H := HA.out
                clear HA
                simp only [ferruleref11_Right.j1] at H
                by_cases c15 : x38_4 = true
                · subst c15
                  have H1 : (some false) = some r := by rw [if_pos rfl] at H; exact H
                  clear H
                  have H := H1
                  clear H1
                  obtain rfl := Option.some.inj H
                  go_wp2
                  repeat (go_quiet (fail); try go_wp2)
                  go_ret
                  exact ⟨by first | rfl | (simp [errW_none, errW_some] <;> rfl) | (simp [*, errW_none, errW_some] <;> rfl), by repeat (first | (with_reducible first | exact HB.out | apply below_alloc | apply pw_below_drewN | apply below_drew1 | refine below_set ?_ GE529.out) | exact HB.out)⟩
                · replace c15 := Bool.eq_false_iff.mpr c15
                  subst c15
                  have H1 : (if x3_1 > 0 then (if 0 ≤ (wrap64 (x3_1 - 1)) then (if (wrap64 (x3_1 - 1)) < (l0.length : Int) then ((ferruleref11_Less.f kj4 ((rd_T50 l0 (wrap64 (x3_1 - 1))).f0) ((rd_T50 l0 x3_1).f0)).bind fun t531 => (if t531 = true then (ferruleref11_Right.l0 kj4 l0 (wrap64 (x3_1 + 1))) else (some false))) else (none)) else (none)) else (ferruleref11_Right.l0 kj4 l0 (wrap64 (x3_1 + 1)))) = some r := by rw [if_neg (show ¬ (false = true) by decide)] at H; exact H
                  clear H
                  have H := H1
                  clear H1
                  by_cases c16 : x3_1 > 0
                  · rw [if_pos c16] at H
                    have c16b0 : decide (0 < x3_1) = true := decide_eq_true c16
                    clear c16
                    obtain ⟨ji17, hji17⟩ : ∃ j_ : Int, (wrap64 (x3_1 - 1)) = j_ := ⟨_, rfl⟩
                    replace H : (if 0 ≤ (ji17) then (if (ji17) < (l0.length : Int) then ((ferruleref11_Less.f kj4 ((rd_T50 l0 (ji17)).f0) ((rd_T50 l0 x3_1).f0)).bind fun t531 => (if t531 = true then (ferruleref11_Right.l0 kj4 l0 (wrap64 (x3_1 + 1))) else (some false))) else (none)) else (none)) = some r := by first | (rw [hji17] at H; exact H) | (simp only [hji17] at H ⊢; exact H)
                    have hji17w : (IntKind.i64.wrap (x3_1 - 1)) = ji17 := (i64_w _).trans hji17
                    by_cases c18 : 0 ≤ (ji17)
                    · rw [if_pos c18] at H
                      have c18b0 : decide (0 ≤ (ji17)) = true := decide_eq_true c18
                      clear c18
                      by_cases c19 : (ji17) < (l0.length : Int)
                      · rw [if_pos c19] at H
                        have c19b0 : decide ((ji17) < (l0.length : Int)) = true := decide_eq_true c19
                        clear c19
                        replace H := Option.bind_eq_some_iff.mp H
                        obtain ⟨t531, A200, H⟩ := H
                        replace H : (if t531 = true then (ferruleref11_Right.l0 kj4 l0 (wrap64 (x3_1 + 1))) else (some false)) = some r := H
                        have A20 := Aside0.mk A200
                        clear A200
                        by_cases c21 : t531 = true
                        · subst c21
                          have H1 : (ferruleref11_Right.l0 kj4 l0 (wrap64 (x3_1 + 1))) = some r := by rw [if_pos rfl] at H; exact H
                          clear H
                          have H := H1
                          clear H1
                          have H' := Aside0.mk H
                          clear H
                          have p530 : 0 ≤ ((ji17) : Int) := of_decide_eq_true (by first | (with_reducible assumption) | assumption)
                          have q530 : (ji17) < (l0.length : Int) := of_decide_eq_true (by first | (with_reducible assumption) | assumption)
                          obtain ⟨ad530, e530, hx530_0, hx530_1, hx530_2⟩ := at_T50 HR0.out (ji17) p530 q530
                          obtain rfl : ad528 = ad530 := (by injection e530)
                          replace hx530_0 := (HB.out.cell (World.block_lt_of_cell? w _ hx530_0)).trans hx530_0
                          replace hx530_1 := (HB.out.cell (World.block_lt_of_cell? w _ hx530_1)).trans hx530_1
                          replace hx530_2 := (HB.out.cell (World.block_lt_of_cell? w _ hx530_2)).trans hx530_2
                          replace p530 := eq_true p530
                          replace q530 := eq_true q530
                          have hcz22_0 : wc.cell? ⟨gb529, 0, none⟩ = some (.string ((rd_T50 l0 x3_1).f0)) := (blk_cell BK529.out 0).trans rfl
                          have hcz22_1 : wc.cell? ⟨gb529, 1, none⟩ = some (.string ((rd_T50 l0 x3_1).f1)) := (blk_cell BK529.out 1).trans rfl
                          have hcz22_2 : wc.cell? ⟨gb529, 2, none⟩ = some (.int .u64 ((rd_T50 l0 x3_1).f2)) := (blk_cell BK529.out 2).trans rfl
                          have hfz22_0 := blk_frozen BK529.out 0
                          have hfz22_1 := blk_frozen BK529.out 1
                          have hfz22_2 := blk_frozen BK529.out 2
                          go_wp2_with (first | (go_at_call 70; (with_reducible refine (ferruleref11_Less.calls kj4 ((rd_T50 l0 (ji17)).f0) ((rd_T50 l0 x3_1).f0) true _ A20.out).mono ?_); rintro e w' ⟨rfl, ⟨nd, rfl⟩⟩; (try first | exact ⟨rfl, _, World.drewN_drewN _ _ _⟩ | exact ⟨rfl, _, Eq.trans (World.drewN_drewN _ _ _) (congrArg (World.drewN _) (Nat.add_assoc _ _ _))⟩)))
                          repeat (go_quiet (first | (go_at_call 70; (with_reducible refine (ferruleref11_Less.calls kj4 ((rd_T50 l0 (ji17)).f0) ((rd_T50 l0 x3_1).f0) true _ A20.out).mono ?_); rintro e w' ⟨rfl, ⟨nd, rfl⟩⟩; (try first | exact ⟨rfl, _, World.drewN_drewN _ _ _⟩ | exact ⟨rfl, _, Eq.trans (World.drewN_drewN _ _ _) (congrArg (World.drewN _) (Nat.add_assoc _ _ _))⟩))); try go_wp2_with (first | (go_at_call 70; (with_reducible refine (ferruleref11_Less.calls kj4 ((rd_T50 l0 (ji17)).f0) ((rd_T50 l0 x3_1).f0) true _ A20.out).mono ?_); rintro e w' ⟨rfl, ⟨nd, rfl⟩⟩; (try first | exact ⟨rfl, _, World.drewN_drewN _ _ _⟩ | exact ⟨rfl, _, Eq.trans (World.drewN_drewN _ _ _) (congrArg (World.drewN _) (Nat.add_assoc _ _ _))⟩))))
                          go_roundg kj4
                          case measure => have := HK1.out; have := HJ4.out; omega
                          case rel => exact ⟨(wrap64 (x3_1 + 1)), (by first | rfl | (simp; done) | (simp [*]; done)), H', ⟨by have := HK1.out; have := HJ4.out; omega⟩, ⟨by repeat (first | (with_reducible first | exact HB.out | apply below_alloc | apply pw_below_drewN | apply below_drew1 | refine below_set ?_ GE529.out) | exact HB.out)⟩⟩
                        · replace c21 := Bool.eq_false_iff.mpr c21
                          subst c21
                          have H1 : (some false) = some r := by rw [if_neg (show ¬ (false = true) by decide)] at H; exact H
                          clear H
                          have H := H1
                          clear H1
                          obtain rfl := Option.some.inj H
                          have p530 : 0 ≤ ((ji17) : Int) := of_decide_eq_true (by first | (with_reducible assumption) | assumption)
                          have q530 : (ji17) < (l0.length : Int) := of_decide_eq_true (by first | (with_reducible assumption) | assumption)
                          obtain ⟨ad530, e530, hx530_0, hx530_1, hx530_2⟩ := at_T50 HR0.out (ji17) p530 q530
                          obtain rfl : ad528 = ad530 := (by injection e530)
                          replace hx530_0 := (HB.out.cell (World.block_lt_of_cell? w _ hx530_0)).trans hx530_0
                          replace hx530_1 := (HB.out.cell (World.block_lt_of_cell? w _ hx530_1)).trans hx530_1
                          replace hx530_2 := (HB.out.cell (World.block_lt_of_cell? w _ hx530_2)).trans hx530_2
                          replace p530 := eq_true p530
                          replace q530 := eq_true q530
                          have hcz23_0 : wc.cell? ⟨gb529, 0, none⟩ = some (.string ((rd_T50 l0 x3_1).f0)) := (blk_cell BK529.out 0).trans rfl
                          have hcz23_1 : wc.cell? ⟨gb529, 1, none⟩ = some (.string ((rd_T50 l0 x3_1).f1)) := (blk_cell BK529.out 1).trans rfl
                          have hcz23_2 : wc.cell? ⟨gb529, 2, none⟩ = some (.int .u64 ((rd_T50 l0 x3_1).f2)) := (blk_cell BK529.out 2).trans rfl
                          have hfz23_0 := blk_frozen BK529.out 0
                          have hfz23_1 := blk_frozen BK529.out 1
                          have hfz23_2 := blk_frozen BK529.out 2
                          go_wp2_with (first | (go_at_call 70; (with_reducible refine (ferruleref11_Less.calls kj4 ((rd_T50 l0 (ji17)).f0) ((rd_T50 l0 x3_1).f0) false _ A20.out).mono ?_); rintro e w' ⟨rfl, ⟨nd, rfl⟩⟩; (try first | exact ⟨rfl, _, World.drewN_drewN _ _ _⟩ | exact ⟨rfl, _, Eq.trans (World.drewN_drewN _ _ _) (congrArg (World.drewN _) (Nat.add_assoc _ _ _))⟩)))
                          repeat (go_quiet (first | (go_at_call 70; (with_reducible refine (ferruleref11_Less.calls kj4 ((rd_T50 l0 (ji17)).f0) ((rd_T50 l0 x3_1).f0) false _ A20.out).mono ?_); rintro e w' ⟨rfl, ⟨nd, rfl⟩⟩; (try first | exact ⟨rfl, _, World.drewN_drewN _ _ _⟩ | exact ⟨rfl, _, Eq.trans (World.drewN_drewN _ _ _) (congrArg (World.drewN _) (Nat.add_assoc _ _ _))⟩))); try go_wp2_with (first | (go_at_call 70; (with_reducible refine (ferruleref11_Less.calls kj4 ((rd_T50 l0 (ji17)).f0) ((rd_T50 l0 x3_1).f0) false _ A20.out).mono ?_); rintro e w' ⟨rfl, ⟨nd, rfl⟩⟩; (try first | exact ⟨rfl, _, World.drewN_drewN _ _ _⟩ | exact ⟨rfl, _, Eq.trans (World.drewN_drewN _ _ _) (congrArg (World.drewN _) (Nat.add_assoc _ _ _))⟩))))
                          go_ret
                          exact ⟨by first | rfl | (simp [errW_none, errW_some] <;> rfl) | (simp only [← hji17]; first | rfl | (simp [errW_none, errW_some] <;> rfl)) | (simp [*, errW_none, errW_some] <;> rfl), by repeat (first | (with_reducible first | exact HB.out | apply below_alloc | apply pw_below_drewN | apply below_drew1 | refine below_set ?_ GE529.out) | exact HB.out)⟩
                      · rw [if_neg c19] at H
                        exact absurd H (by simp)
                    · rw [if_neg c18] at H
                      exact absurd H (by simp)
                  · rw [if_neg c16] at H
                    have c16b0 : decide (0 < x3_1) = false := decide_eq_false c16
                    clear c16
                    have H' := Aside0.mk H
                    clear H
                    go_wp2
                    repeat (go_quiet (fail); try go_wp2)
                    go_roundg kj4
                    case measure => have := HK1.out; have := HJ4.out; omega
                    case rel => exact ⟨(wrap64 (x3_1 + 1)), (by first | rfl | (simp; done) | (simp [*]; done)), H', ⟨by have := HK1.out; have := HJ4.out; omega⟩, ⟨by repeat (first | (with_reducible first | exact HB.out | apply below_alloc | apply pw_below_drewN | apply below_drew1 | refine below_set ?_ GE529.out) | exact HB.out)⟩⟩
          · rw [if_neg c4] at H
            exact absurd H (by simp)
        · rw [if_neg c3] at H
          have c3b0 : decide (x3_1 < (l0.length : Int)) = false := decide_eq_false c3
          clear c3
          obtain rfl := Option.some.inj H
          go_wp2
          repeat (go_quiet (fail); try go_wp2)
          go_ret
          exact ⟨by first | rfl | (simp [errW_none, errW_some] <;> rfl) | (simp [*, errW_none, errW_some] <;> rfl), by repeat (first | (with_reducible first | exact HB.out | apply below_alloc | apply pw_below_drewN | apply below_drew1) | exact HB.out)⟩

end Go.Proofs.Ytmcgcdpiceikeaa.PAll
end
