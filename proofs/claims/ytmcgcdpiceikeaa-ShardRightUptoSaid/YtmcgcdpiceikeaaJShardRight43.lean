/- Joined texts of the claim ShardRight (part 43): contracts of functions and plain laws. -/
import Derived.Test.YtmcgcdpiceikeaaJShardRight14
import Derived.Test.YtmcgcdpiceikeaaJShardRight19
import Derived.Test.YtmcgcdpiceikeaaJShardRight23
import Derived.Deep.CutRange
import Derived.Deep.DeepCutAuto
import Derived.Deep.RegionHeld3
import Derived.Test.YtmcgcdpiceikeaaJShardRight30
import Derived.Test.YtmcgcdpiceikeaaJShardRight40
import Derived.Test.YtmcgcdpiceikeaaJShardRight42
section
-- Printed by this session's pr.sh (the kit's print.py, several laws in one namespace). Not trusted: Lean checks it.
namespace Go.Proofs.Ytmcgcdpiceikeaa.PAll
open Go.RowKit Go.Proofs.YtmcgcdpiceikeaaW.PrintWords Go.Proofs.YtmcgcdpiceikeaaW.PrintLast Go.Proofs.YtmcgcdpiceikeaaW.PrintMore
attribute [local go_sem] max2_int min2_int max_two min_two max_three min_three max_four min_four   -- for this text's walks alone
set_option linter.unusedVariables false
set_option linter.unusedSimpArgs false

attribute [local go_sem high] eqA30
/-! ### ferruleref12_Has: function 18 -/
def ferruleref12_Has.l0 : Nat → List (S75) → ByteArray → Bool → Int → Int → Int → Option (Bool)
  | 0, _, _, _, _, _, _ => none
  | k + 1, x0, x2, x3, x9, x296000, x296001 => if x9 < (x0.length : Int) then (if 0 ≤ x9 then (if (((rd_T75 x0 x9).f1.f0) == x296000 && (((rd_T75 x0 x9).f1.f1) == x296001)) = true then (if ((rd_T75 x0 x9).f0).toList = x2.toList then (if (rd_T75 x0 x9).f2 = true then (some true) else (if x3 = true then (ferruleref12_Has.l0 k x0 x2 x3 (wrap64 (x9 + 1)) x296000 x296001) else (some true))) else (ferruleref12_Has.l0 k x0 x2 x3 (wrap64 (x9 + 1)) x296000 x296001)) else (ferruleref12_Has.l0 k x0 x2 x3 (wrap64 (x9 + 1)) x296000 x296001)) else (none)) else (some false)
def ferruleref12_Has.f (k : Nat) (l0 : List (S75)) (a1_0 : Int) (a1_1 : Int) (a2 : ByteArray) (a3 : Bool) : Option (Bool) := ferruleref12_Has.l0 k l0 a2 a3 0 a1_0 a1_1
set_option maxHeartbeats 8000000 in
set_option maxRecDepth 100000 in
theorem ferruleref12_Has.calls (k : Nat) (A0 : Option Addr) (c0 : Nat) (l0 : List (S75)) (a1_0 : Int) (a1_1 : Int) (a2 : ByteArray) (a3 : Bool) (r : Bool) (w : World) (hr0 : Kd.C k75 w A0 l0.length l0) (hc0 : l0.length ≤ c0) (h : ferruleref12_Has.f k l0 a1_0 a1_1 a2 a3 = some r) :
    Calls Try.prog 18 #[.slice A0 l0.length c0, .agg #[.int .u64 a1_0, .int .u64 a1_1], .string a2, .bool a3] w fun e w' => e = .returned (.bool r) ∧ Below w.heap.size w w' := by
  have hu30 := Try.underlying30
  have HR0 := Aside0.mk hr0
  have HC0 := Aside0.mk hc0
  clear hr0 hc0
  have HB := Aside0.mk (Below.refl w.heap.size w)
  have H : (ferruleref12_Has.l0 k l0 a2 a3 0 a1_0 a1_1) = some r := h
  clear h
  have H' := Aside0.mk H
  clear H
  go_enter Try.func18, Try.ntmps18
  go_wp2_with (first | ((with_reducible refine gate_dst (N := 5) rfl ?_); refine box_event ?hg (N := 5) ?hd (cs := #[.int .u64 a1_0, .int .u64 a1_1]) (t := 30) ?hr ?_; (case hd => rfl); (case hg => rfl); (case hr => first | (go_simp; done) | (go_simp; rfl)); intro gb295 hg w5 hbox hb; have n0_ := Aside0.mk (below_step (by repeat (first | (with_reducible first | exact HB.out | apply below_alloc | apply pw_below_drewN | apply below_drew1) | exact HB.out)) hb); have n1_ := Aside0.mk (hbox); have n2_ := Aside0.mk ((by rw [hg]; exact (below_size (by repeat (first | (with_reducible first | exact HB.out | apply below_alloc | apply pw_below_drewN | apply below_drew1) | exact HB.out))) : w.heap.size ≤ gb295)); have n3_ := Aside0.mk ((by rw [hg]; exact (below_size (by repeat (first | (with_reducible first | exact HB.out | apply below_alloc | apply pw_below_drewN | apply below_drew1) | exact HB.out))) : w.heap.size ≤ gb295)); clear HB; have HB := n0_; have BK295 := n1_; have GW295 := n2_; have GE295 := n3_; clear n0_ n1_ n2_ n3_; clear hb hbox hg))
  repeat (go_quiet (first | ((with_reducible refine gate_dst (N := 5) rfl ?_); refine box_event ?hg (N := 5) ?hd (cs := #[.int .u64 a1_0, .int .u64 a1_1]) (t := 30) ?hr ?_; (case hd => rfl); (case hg => rfl); (case hr => first | (go_simp; done) | (go_simp; rfl)); intro gb295 hg w5 hbox hb; have n0_ := Aside0.mk (below_step (by repeat (first | (with_reducible first | exact HB.out | apply below_alloc | apply pw_below_drewN | apply below_drew1) | exact HB.out)) hb); have n1_ := Aside0.mk (hbox); have n2_ := Aside0.mk ((by rw [hg]; exact (below_size (by repeat (first | (with_reducible first | exact HB.out | apply below_alloc | apply pw_below_drewN | apply below_drew1) | exact HB.out))) : w.heap.size ≤ gb295)); have n3_ := Aside0.mk ((by rw [hg]; exact (below_size (by repeat (first | (with_reducible first | exact HB.out | apply below_alloc | apply pw_below_drewN | apply below_drew1) | exact HB.out))) : w.heap.size ≤ gb295)); clear HB; have HB := n0_; have BK295 := n1_; have GW295 := n2_; have GE295 := n3_; clear n0_ n1_ n2_ n3_; clear hb hbox hg)); try go_wp2_with (first | ((with_reducible refine gate_dst (N := 5) rfl ?_); refine box_event ?hg (N := 5) ?hd (cs := #[.int .u64 a1_0, .int .u64 a1_1]) (t := 30) ?hr ?_; (case hd => rfl); (case hg => rfl); (case hr => first | (go_simp; done) | (go_simp; rfl)); intro gb295 hg w5 hbox hb; have n0_ := Aside0.mk (below_step (by repeat (first | (with_reducible first | exact HB.out | apply below_alloc | apply pw_below_drewN | apply below_drew1) | exact HB.out)) hb); have n1_ := Aside0.mk (hbox); have n2_ := Aside0.mk ((by rw [hg]; exact (below_size (by repeat (first | (with_reducible first | exact HB.out | apply below_alloc | apply pw_below_drewN | apply below_drew1) | exact HB.out))) : w.heap.size ≤ gb295)); have n3_ := Aside0.mk ((by rw [hg]; exact (below_size (by repeat (first | (with_reducible first | exact HB.out | apply below_alloc | apply pw_below_drewN | apply below_drew1) | exact HB.out))) : w.heap.size ≤ gb295)); clear HB; have HB := n0_; have BK295 := n1_; have GW295 := n2_; have GE295 := n3_; clear n0_ n1_ n2_ n3_; clear hb hbox hg)))
  go_loopg [9] k (fun kq v9 w' => ∃ (x9_1 : Int), v9 = .int .i64 x9_1 ∧ Aside0 (ferruleref12_Has.l0 kq l0 a2 a3 x9_1 a1_0 a1_1 = some r) ∧ Aside0 (kq ≤ k) ∧ Aside0 (w'.heap[gb295]? = some (.cells #[.int .u64 a1_0, .int .u64 a1_1] 30 (0, 0))) ∧ Aside0 (Below w.heap.size w w'))
  case atStart => exact ⟨(0), (by first | rfl | (simp; done) | (simp [*]; done)), H', ⟨Nat.le_refl _⟩, ⟨by (with_reducible repeat (first | refine blk_drewN ?_ _ | refine blk_drew ?_ | refine blk_alloc ?_ _)); exact BK295.out⟩, ⟨by repeat (first | (with_reducible first | exact HB.out | apply below_alloc | apply pw_below_drewN | apply below_drew1 | refine below_set ?_ GE295.out) | exact HB.out)⟩⟩
  case round =>
    clear H'
    try clear c1
    try clear p2
    obtain ⟨x9_1, rfl, HA, HK1, BK295, HB⟩ := hrel
    cases gk with
    | zero => exact absurd HA.out (by simp [ferruleref12_Has.l0])
    | succ k1 =>
      have H := HA.out
      clear HA
      simp only [ferruleref12_Has.l0] at H
      by_cases c6 : x9_1 < (l0.length : Int)
      · rw [if_pos c6] at H
        have c6b0 : decide (x9_1 < (l0.length : Int)) = true := decide_eq_true c6
        clear c6
        by_cases c7 : 0 ≤ x9_1
        · rw [if_pos c7] at H
          have c7b0 : decide (0 ≤ x9_1) = true := decide_eq_true c7
          clear c7
          by_cases c8 : (((rd_T75 l0 x9_1).f1.f0) == a1_0 && (((rd_T75 l0 x9_1).f1.f1) == a1_1)) = true
          · rw [if_pos c8] at H
            have c8b0 : (((rd_T75 l0 x9_1).f1.f0) == a1_0 && (((rd_T75 l0 x9_1).f1.f1) == a1_1)) = true := c8
            (try (have c8b1 : decide (((rd_T75 l0 x9_1).f1.f0) = a1_0 && (((rd_T75 l0 x9_1).f1.f1) == a1_1)) = true := by simpa using c8))
            (try (have c8b2 : (((rd_T75 l0 x9_1).f1.f0) == a1_0 && (((rd_T75 l0 x9_1).f1.f1) == a1_1)) = true := by simpa using c8))
            clear c8
            by_cases c9 : ((rd_T75 l0 x9_1).f0).toList = a2.toList
            · rw [if_pos c9] at H
              have c9b0 : (((rd_T75 l0 x9_1).f0).toList == a2.toList) = true := beq_iff_eq.mpr c9
              have c9b1 : (((rd_T75 l0 x9_1).f0).toList != a2.toList) = false := bne_eq_false_iff_eq.mpr c9
              clear c9
              obtain ⟨bq10, hbq10⟩ : ∃ b_ : Bool, b_ = ((rd_T75 l0 x9_1).f2) := ⟨_, rfl⟩
              replace H : (if bq10 = true then (some true) else (if a3 = true then (ferruleref12_Has.l0 k1 l0 a2 a3 (wrap64 (x9_1 + 1)) a1_0 a1_1) else (some true))) = some r := by rw [← hbq10] at H; exact H
              have Nbq10 := Aside0.mk hbq10
              clear hbq10
              by_cases c11 : bq10 = true
              · subst c11
                have H1 : (some true) = some r := by rw [if_pos rfl] at H; exact H
                clear H
                have H := H1
                clear H1
                obtain rfl := Option.some.inj H
                have p296 : 0 ≤ (x9_1 : Int) := of_decide_eq_true (by first | (with_reducible assumption) | assumption)
                have q296 : x9_1 < (l0.length : Int) := of_decide_eq_true (by first | (with_reducible assumption) | assumption)
                obtain ⟨ad296, e296, hx296_0, hx296_1, hx296_2, hx296_3⟩ := at_T75 HR0.out x9_1 p296 q296
                (try rw [← Nbq10.out] at hx296_3)
                cases e296
                replace hx296_0 := (HB.out.cell (World.block_lt_of_cell? w _ hx296_0)).trans hx296_0
                replace hx296_1 := (HB.out.cell (World.block_lt_of_cell? w _ hx296_1)).trans hx296_1
                replace hx296_2 := (HB.out.cell (World.block_lt_of_cell? w _ hx296_2)).trans hx296_2
                replace hx296_3 := (HB.out.cell (World.block_lt_of_cell? w _ hx296_3)).trans hx296_3
                replace p296 := eq_true p296
                replace q296 := eq_true q296
                have hcz12_0 : wr.cell? ⟨gb295, 0, none⟩ = some (.int .u64 a1_0) := (blk_cell BK295.out 0).trans rfl
                have hcz12_1 : wr.cell? ⟨gb295, 1, none⟩ = some (.int .u64 a1_1) := (blk_cell BK295.out 1).trans rfl
                have hfz12_0 := blk_frozen BK295.out 0
                have hfz12_1 := blk_frozen BK295.out 1
                have p297 : 0 ≤ (x9_1 : Int) := of_decide_eq_true (by first | (with_reducible assumption) | assumption)
                have q297 : x9_1 < (l0.length : Int) := of_decide_eq_true (by first | (with_reducible assumption) | assumption)
                obtain ⟨ad297, e297, hx297_0, hx297_1, hx297_2, hx297_3⟩ := at_T75 HR0.out x9_1 p297 q297
                (try rw [← Nbq10.out] at hx297_3)
                obtain rfl : ad296 = ad297 := (by injection e297)
                replace hx297_0 := (HB.out.cell (World.block_lt_of_cell? w _ hx297_0)).trans hx297_0
                replace hx297_1 := (HB.out.cell (World.block_lt_of_cell? w _ hx297_1)).trans hx297_1
                replace hx297_2 := (HB.out.cell (World.block_lt_of_cell? w _ hx297_2)).trans hx297_2
                replace hx297_3 := (HB.out.cell (World.block_lt_of_cell? w _ hx297_3)).trans hx297_3
                replace p297 := eq_true p297
                replace q297 := eq_true q297
                have p298 : 0 ≤ (x9_1 : Int) := of_decide_eq_true (by first | (with_reducible assumption) | assumption)
                have q298 : x9_1 < (l0.length : Int) := of_decide_eq_true (by first | (with_reducible assumption) | assumption)
                obtain ⟨ad298, e298, hx298_0, hx298_1, hx298_2, hx298_3⟩ := at_T75 HR0.out x9_1 p298 q298
                (try rw [← Nbq10.out] at hx298_3)
                obtain rfl : ad296 = ad298 := (by injection e298)
                replace hx298_0 := (HB.out.cell (World.block_lt_of_cell? w _ hx298_0)).trans hx298_0
                replace hx298_1 := (HB.out.cell (World.block_lt_of_cell? w _ hx298_1)).trans hx298_1
                replace hx298_2 := (HB.out.cell (World.block_lt_of_cell? w _ hx298_2)).trans hx298_2
                replace hx298_3 := (HB.out.cell (World.block_lt_of_cell? w _ hx298_3)).trans hx298_3
                replace p298 := eq_true p298
                replace q298 := eq_true q298
                go_wp2
                repeat (go_quiet (fail); try go_wp2)
                go_ret
                exact ⟨by first | rfl | (simp [errW_none, errW_some] <;> rfl) | (simp [*, errW_none, errW_some] <;> rfl), by repeat (first | (with_reducible first | exact HB.out | apply below_alloc | apply pw_below_drewN | apply below_drew1 | refine below_set ?_ GE295.out) | exact HB.out)⟩
              · replace c11 := Bool.eq_false_iff.mpr c11
                subst c11
                have H1 : (if a3 = true then (ferruleref12_Has.l0 k1 l0 a2 a3 (wrap64 (x9_1 + 1)) a1_0 a1_1) else (some true)) = some r := by rw [if_neg (show ¬ (false = true) by decide)] at H; exact H
                clear H
                have H := H1
                clear H1
                by_cases c13 : a3 = true
                · subst c13
                  have H1 : (ferruleref12_Has.l0 k1 l0 a2 true (wrap64 (x9_1 + 1)) a1_0 a1_1) = some r := by rw [if_pos rfl] at H; exact H
                  clear H
                  have H := H1
                  clear H1
                  have H' := Aside0.mk H
                  clear H
                  have p296 : 0 ≤ (x9_1 : Int) := of_decide_eq_true (by first | (with_reducible assumption) | assumption)
                  have q296 : x9_1 < (l0.length : Int) := of_decide_eq_true (by first | (with_reducible assumption) | assumption)
                  obtain ⟨ad296, e296, hx296_0, hx296_1, hx296_2, hx296_3⟩ := at_T75 HR0.out x9_1 p296 q296
                  (try rw [← Nbq10.out] at hx296_3)
                  cases e296
                  replace hx296_0 := (HB.out.cell (World.block_lt_of_cell? w _ hx296_0)).trans hx296_0
                  replace hx296_1 := (HB.out.cell (World.block_lt_of_cell? w _ hx296_1)).trans hx296_1
                  replace hx296_2 := (HB.out.cell (World.block_lt_of_cell? w _ hx296_2)).trans hx296_2
                  replace hx296_3 := (HB.out.cell (World.block_lt_of_cell? w _ hx296_3)).trans hx296_3
                  replace p296 := eq_true p296
                  replace q296 := eq_true q296
                  have hcz14_0 : wr.cell? ⟨gb295, 0, none⟩ = some (.int .u64 a1_0) := (blk_cell BK295.out 0).trans rfl
                  have hcz14_1 : wr.cell? ⟨gb295, 1, none⟩ = some (.int .u64 a1_1) := (blk_cell BK295.out 1).trans rfl
                  have hfz14_0 := blk_frozen BK295.out 0
                  have hfz14_1 := blk_frozen BK295.out 1
                  have p297 : 0 ≤ (x9_1 : Int) := of_decide_eq_true (by first | (with_reducible assumption) | assumption)
                  have q297 : x9_1 < (l0.length : Int) := of_decide_eq_true (by first | (with_reducible assumption) | assumption)
                  obtain ⟨ad297, e297, hx297_0, hx297_1, hx297_2, hx297_3⟩ := at_T75 HR0.out x9_1 p297 q297
                  (try rw [← Nbq10.out] at hx297_3)
                  obtain rfl : ad296 = ad297 := (by injection e297)
                  replace hx297_0 := (HB.out.cell (World.block_lt_of_cell? w _ hx297_0)).trans hx297_0
                  replace hx297_1 := (HB.out.cell (World.block_lt_of_cell? w _ hx297_1)).trans hx297_1
                  replace hx297_2 := (HB.out.cell (World.block_lt_of_cell? w _ hx297_2)).trans hx297_2
                  replace hx297_3 := (HB.out.cell (World.block_lt_of_cell? w _ hx297_3)).trans hx297_3
                  replace p297 := eq_true p297
                  replace q297 := eq_true q297
                  have p298 : 0 ≤ (x9_1 : Int) := of_decide_eq_true (by first | (with_reducible assumption) | assumption)
                  have q298 : x9_1 < (l0.length : Int) := of_decide_eq_true (by first | (with_reducible assumption) | assumption)
                  obtain ⟨ad298, e298, hx298_0, hx298_1, hx298_2, hx298_3⟩ := at_T75 HR0.out x9_1 p298 q298
                  (try rw [← Nbq10.out] at hx298_3)
                  obtain rfl : ad296 = ad298 := (by injection e298)
                  replace hx298_0 := (HB.out.cell (World.block_lt_of_cell? w _ hx298_0)).trans hx298_0
                  replace hx298_1 := (HB.out.cell (World.block_lt_of_cell? w _ hx298_1)).trans hx298_1
                  replace hx298_2 := (HB.out.cell (World.block_lt_of_cell? w _ hx298_2)).trans hx298_2
                  replace hx298_3 := (HB.out.cell (World.block_lt_of_cell? w _ hx298_3)).trans hx298_3
                  replace p298 := eq_true p298
                  replace q298 := eq_true q298
                  go_wp2
                  repeat (go_quiet (fail); try go_wp2)
                  go_roundg k1
                  case measure => have := HK1.out; omega
                  case rel => exact ⟨(wrap64 (x9_1 + 1)), (by first | rfl | (simp; done) | (simp [*]; done)), H', ⟨by have := HK1.out; omega⟩, ⟨by (with_reducible repeat (first | refine blk_drewN ?_ _ | refine blk_drew ?_ | refine blk_alloc ?_ _)); exact BK295.out⟩, ⟨by repeat (first | (with_reducible first | exact HB.out | apply below_alloc | apply pw_below_drewN | apply below_drew1 | refine below_set ?_ GE295.out) | exact HB.out)⟩⟩
                · replace c13 := Bool.eq_false_iff.mpr c13
                  subst c13
                  have H1 : (some true) = some r := by rw [if_neg (show ¬ (false = true) by decide)] at H; exact H
                  clear H
                  have H := H1
                  clear H1
                  obtain rfl := Option.some.inj H
                  have p296 : 0 ≤ (x9_1 : Int) := of_decide_eq_true (by first | (with_reducible assumption) | assumption)
                  have q296 : x9_1 < (l0.length : Int) := of_decide_eq_true (by first | (with_reducible assumption) | assumption)
                  obtain ⟨ad296, e296, hx296_0, hx296_1, hx296_2, hx296_3⟩ := at_T75 HR0.out x9_1 p296 q296
                  (try rw [← Nbq10.out] at hx296_3)
                  cases e296
                  replace hx296_0 := (HB.out.cell (World.block_lt_of_cell? w _ hx296_0)).trans hx296_0
                  replace hx296_1 := (HB.out.cell (World.block_lt_of_cell? w _ hx296_1)).trans hx296_1
                  replace hx296_2 := (HB.out.cell (World.block_lt_of_cell? w _ hx296_2)).trans hx296_2
                  replace hx296_3 := (HB.out.cell (World.block_lt_of_cell? w _ hx296_3)).trans hx296_3
                  replace p296 := eq_true p296
                  replace q296 := eq_true q296
                  have hcz15_0 : wr.cell? ⟨gb295, 0, none⟩ = some (.int .u64 a1_0) := (blk_cell BK295.out 0).trans rfl
                  have hcz15_1 : wr.cell? ⟨gb295, 1, none⟩ = some (.int .u64 a1_1) := (blk_cell BK295.out 1).trans rfl
                  have hfz15_0 := blk_frozen BK295.out 0
                  have hfz15_1 := blk_frozen BK295.out 1
                  have p297 : 0 ≤ (x9_1 : Int) := of_decide_eq_true (by first | (with_reducible assumption) | assumption)
                  have q297 : x9_1 < (l0.length : Int) := of_decide_eq_true (by first | (with_reducible assumption) | assumption)
                  obtain ⟨ad297, e297, hx297_0, hx297_1, hx297_2, hx297_3⟩ := at_T75 HR0.out x9_1 p297 q297
                  (try rw [← Nbq10.out] at hx297_3)
                  obtain rfl : ad296 = ad297 := (by injection e297)
                  replace hx297_0 := (HB.out.cell (World.block_lt_of_cell? w _ hx297_0)).trans hx297_0
                  replace hx297_1 := (HB.out.cell (World.block_lt_of_cell? w _ hx297_1)).trans hx297_1
                  replace hx297_2 := (HB.out.cell (World.block_lt_of_cell? w _ hx297_2)).trans hx297_2
                  replace hx297_3 := (HB.out.cell (World.block_lt_of_cell? w _ hx297_3)).trans hx297_3
                  replace p297 := eq_true p297
                  replace q297 := eq_true q297
                  have p298 : 0 ≤ (x9_1 : Int) := of_decide_eq_true (by first | (with_reducible assumption) | assumption)
                  have q298 : x9_1 < (l0.length : Int) := of_decide_eq_true (by first | (with_reducible assumption) | assumption)
                  obtain ⟨ad298, e298, hx298_0, hx298_1, hx298_2, hx298_3⟩ := at_T75 HR0.out x9_1 p298 q298
                  (try rw [← Nbq10.out] at hx298_3)
                  obtain rfl : ad296 = ad298 := (by injection e298)
                  replace hx298_0 := (HB.out.cell (World.block_lt_of_cell? w _ hx298_0)).trans hx298_0
                  replace hx298_1 := (HB.out.cell (World.block_lt_of_cell? w _ hx298_1)).trans hx298_1
                  replace hx298_2 := (HB.out.cell (World.block_lt_of_cell? w _ hx298_2)).trans hx298_2
                  replace hx298_3 := (HB.out.cell (World.block_lt_of_cell? w _ hx298_3)).trans hx298_3
                  replace p298 := eq_true p298
                  replace q298 := eq_true q298
                  go_wp2
                  repeat (go_quiet (fail); try go_wp2)
                  go_ret
                  exact ⟨by first | rfl | (simp [errW_none, errW_some] <;> rfl) | (simp [*, errW_none, errW_some] <;> rfl), by repeat (first | (with_reducible first | exact HB.out | apply below_alloc | apply pw_below_drewN | apply below_drew1 | refine below_set ?_ GE295.out) | exact HB.out)⟩
            · rw [if_neg c9] at H
              have c9b0 : (((rd_T75 l0 x9_1).f0).toList == a2.toList) = false := beq_eq_false_iff_ne.mpr c9
              have c9b1 : (((rd_T75 l0 x9_1).f0).toList != a2.toList) = true := bne_iff_ne.mpr c9
              have H' := Aside0.mk H
              clear H
              have p296 : 0 ≤ (x9_1 : Int) := of_decide_eq_true (by first | (with_reducible assumption) | assumption)
              have q296 : x9_1 < (l0.length : Int) := of_decide_eq_true (by first | (with_reducible assumption) | assumption)
              obtain ⟨ad296, e296, hx296_0, hx296_1, hx296_2, hx296_3⟩ := at_T75 HR0.out x9_1 p296 q296
              cases e296
              replace hx296_0 := (HB.out.cell (World.block_lt_of_cell? w _ hx296_0)).trans hx296_0
              replace hx296_1 := (HB.out.cell (World.block_lt_of_cell? w _ hx296_1)).trans hx296_1
              replace hx296_2 := (HB.out.cell (World.block_lt_of_cell? w _ hx296_2)).trans hx296_2
              replace hx296_3 := (HB.out.cell (World.block_lt_of_cell? w _ hx296_3)).trans hx296_3
              replace p296 := eq_true p296
              replace q296 := eq_true q296
              have hcz16_0 : wr.cell? ⟨gb295, 0, none⟩ = some (.int .u64 a1_0) := (blk_cell BK295.out 0).trans rfl
              have hcz16_1 : wr.cell? ⟨gb295, 1, none⟩ = some (.int .u64 a1_1) := (blk_cell BK295.out 1).trans rfl
              have hfz16_0 := blk_frozen BK295.out 0
              have hfz16_1 := blk_frozen BK295.out 1
              have p297 : 0 ≤ (x9_1 : Int) := of_decide_eq_true (by first | (with_reducible assumption) | assumption)
              have q297 : x9_1 < (l0.length : Int) := of_decide_eq_true (by first | (with_reducible assumption) | assumption)
              obtain ⟨ad297, e297, hx297_0, hx297_1, hx297_2, hx297_3⟩ := at_T75 HR0.out x9_1 p297 q297
              obtain rfl : ad296 = ad297 := (by injection e297)
              replace hx297_0 := (HB.out.cell (World.block_lt_of_cell? w _ hx297_0)).trans hx297_0
              replace hx297_1 := (HB.out.cell (World.block_lt_of_cell? w _ hx297_1)).trans hx297_1
              replace hx297_2 := (HB.out.cell (World.block_lt_of_cell? w _ hx297_2)).trans hx297_2
              replace hx297_3 := (HB.out.cell (World.block_lt_of_cell? w _ hx297_3)).trans hx297_3
              replace p297 := eq_true p297
              replace q297 := eq_true q297
              go_wp2
              repeat (go_quiet (fail); try go_wp2)
              go_roundg k1
              case measure => have := HK1.out; omega
              case rel => exact ⟨(wrap64 (x9_1 + 1)), (by first | rfl | (simp; done) | (simp [*]; done)), H', ⟨by have := HK1.out; omega⟩, ⟨by (with_reducible repeat (first | refine blk_drewN ?_ _ | refine blk_drew ?_ | refine blk_alloc ?_ _)); exact BK295.out⟩, ⟨by repeat (first | (with_reducible first | exact HB.out | apply below_alloc | apply pw_below_drewN | apply below_drew1 | refine below_set ?_ GE295.out) | exact HB.out)⟩⟩
          · rw [if_neg c8] at H
            have c8b0 : (((rd_T75 l0 x9_1).f1.f0) == a1_0 && (((rd_T75 l0 x9_1).f1.f1) == a1_1)) = false := by simpa using c8
            (try (have c8b1 : decide (((rd_T75 l0 x9_1).f1.f0) = a1_0 && (((rd_T75 l0 x9_1).f1.f1) == a1_1)) = false := by simpa using c8))
            (try (have c8b2 : (((rd_T75 l0 x9_1).f1.f0) == a1_0 && (((rd_T75 l0 x9_1).f1.f1) == a1_1)) = false := by simpa using c8))
            (try (have c8b3 : ¬ (((rd_T75 l0 x9_1).f1.f0) = a1_0 && (((rd_T75 l0 x9_1).f1.f1) == a1_1)) := by simpa using c8))
            clear c8
            have H' := Aside0.mk H
            clear H
            have p296 : 0 ≤ (x9_1 : Int) := of_decide_eq_true (by first | (with_reducible assumption) | assumption)
            have q296 : x9_1 < (l0.length : Int) := of_decide_eq_true (by first | (with_reducible assumption) | assumption)
            obtain ⟨ad296, e296, hx296_0, hx296_1, hx296_2, hx296_3⟩ := at_T75 HR0.out x9_1 p296 q296
            cases e296
            replace hx296_0 := (HB.out.cell (World.block_lt_of_cell? w _ hx296_0)).trans hx296_0
            replace hx296_1 := (HB.out.cell (World.block_lt_of_cell? w _ hx296_1)).trans hx296_1
            replace hx296_2 := (HB.out.cell (World.block_lt_of_cell? w _ hx296_2)).trans hx296_2
            replace hx296_3 := (HB.out.cell (World.block_lt_of_cell? w _ hx296_3)).trans hx296_3
            replace p296 := eq_true p296
            replace q296 := eq_true q296
            have hcz17_0 : wr.cell? ⟨gb295, 0, none⟩ = some (.int .u64 a1_0) := (blk_cell BK295.out 0).trans rfl
            have hcz17_1 : wr.cell? ⟨gb295, 1, none⟩ = some (.int .u64 a1_1) := (blk_cell BK295.out 1).trans rfl
            have hfz17_0 := blk_frozen BK295.out 0
            have hfz17_1 := blk_frozen BK295.out 1
            go_wp2
            repeat (go_quiet (fail); try go_wp2)
            go_roundg k1
            case measure => have := HK1.out; omega
            case rel => exact ⟨(wrap64 (x9_1 + 1)), (by first | rfl | (simp; done) | (simp [*]; done)), H', ⟨by have := HK1.out; omega⟩, ⟨by (with_reducible repeat (first | refine blk_drewN ?_ _ | refine blk_drew ?_ | refine blk_alloc ?_ _)); exact BK295.out⟩, ⟨by repeat (first | (with_reducible first | exact HB.out | apply below_alloc | apply pw_below_drewN | apply below_drew1 | refine below_set ?_ GE295.out) | exact HB.out)⟩⟩
        · rw [if_neg c7] at H
          exact absurd H (by simp)
      · rw [if_neg c6] at H
        have c6b0 : decide (x9_1 < (l0.length : Int)) = false := decide_eq_false c6
        clear c6
        obtain rfl := Option.some.inj H
        go_wp2
        repeat (go_quiet (fail); try go_wp2)
        go_ret
        exact ⟨by first | rfl | (simp [errW_none, errW_some] <;> rfl) | (simp [*, errW_none, errW_some] <;> rfl), by repeat (first | (with_reducible first | exact HB.out | apply below_alloc | apply pw_below_drewN | apply below_drew1 | refine below_set ?_ GE295.out) | exact HB.out)⟩

end Go.Proofs.Ytmcgcdpiceikeaa.PAll
end
section
/- ferruleref12: Has, Drop. -/
namespace Go.Proofs.Ytmcgcdpiceikeaa.PAll
open Go.RowKit Go.Proofs.YtmcgcdpiceikeaaW.PrintWords Go.Proofs.YtmcgcdpiceikeaaW.PrintMore Go.Proofs.Ytmcgcdpiceikeaa
set_option linter.unusedVariables false
theorem rdHold (l : List S75) (j : Nat) (hj : j < l.length) : rd_T75 l (j : Int) = l[j]! := by
  simp [rd_T75, List.getD_eq_getElem?_getD, List.getElem?_eq_getElem hj, getElem!_pos l j hj]
theorem rHas_l0 (l : List S75) (t : S30) (key : ByteArray) (wr : Bool) (hl : l.length ≤ 9223372036854775807) : ∀ (d j : Nat), d = l.length - j → j ≤ l.length → Ev (fun q => ferruleref12_Has.l0 q l key wr (j : Int) t.f0 t.f1) (hasV (l.drop j) t key wr) := by
  intro d
  induction d with
  | zero =>
    intro j hd hj
    obtain rfl : j = l.length := by omega
    rw [List.drop_length]
    exact Ev.step (fun q => by simp only [ferruleref12_Has.l0]; exact if_neg (by omega)) (Ev.now false)
  | succ d ih =>
    intro j hd hj
    have hlt : j < l.length := by omega
    rw [dropBang l j hlt]
    have hi := ih (j + 1) (by omega) (by omega)
    unfold hasV at hi ⊢
    rw [List.any_cons]
    unfold okHas isHK sameTx at hi ⊢
    refine Ev.step (fun q => by simp only [ferruleref12_Has.l0]; rw [if_pos (by omega), if_pos (by omega), rdHold l j hlt, wrapInc j (by omega)]) ?_
    cases c : ((l[j]!).f1.f0 == t.f0 && (l[j]!).f1.f1 == t.f1) with
    | false =>
      refine Ev.congr (fun _ => if_neg (by decide)) ?_
      simpa using hi
    | true =>
      refine Ev.congr (fun _ => if_pos rfl) ?_
      by_cases ck : (l[j]!).f0.toList = key.toList
      · refine Ev.congr (fun _ => if_pos ck) ?_
        rw [beq_iff_eq.2 ck]
        cases cw : (l[j]!).f2 with
        | true => exact Ev.congr (fun _ => if_pos rfl) (Ev.now true)
        | false =>
          refine Ev.congr (fun _ => if_neg (by decide)) ?_
          cases wr with
          | true => exact Ev.congr (fun _ => if_pos rfl) (by simpa using hi)
          | false => exact Ev.congr (fun _ => if_neg (by decide)) (Ev.now true)
      · refine Ev.congr (fun _ => if_neg ck) ?_
        rw [beq_eq_false_iff_ne.2 ck]
        simpa using hi
theorem rHas_ev (l : List S75) (t : S30) (key : ByteArray) (wr : Bool) (hl : l.length ≤ 9223372036854775807) : Ev (fun q => ferruleref12_Has.f q l t.f0 t.f1 key wr) (hasV l t key wr) := by
  have h := rHas_l0 l t key wr hl l.length 0 (by omega) (by omega)
  rw [List.drop_zero] at h
  exact h
end Go.Proofs.Ytmcgcdpiceikeaa.PAll
end
section
/- ferruleref13.Right of a shard that is right (UNFINISHED: the loops). -/
namespace Go.Proofs.Ytmcgcdpiceikeaa.PAll
open Go.RowKit Go.Proofs.YtmcgcdpiceikeaaW.PrintWords Go.Proofs.YtmcgcdpiceikeaaW.PrintMore Go.Proofs.Ytmcgcdpiceikeaa
set_option linter.unusedVariables false
set_option linter.unusedSimpArgs false
/-- The shard's box and cells of a row. -/
def B5 (w W : World) (b : Nat) (a0 a1 a2 a3 a4 : Value) : Prop := W.cell? ⟨b, 0, none⟩ = some a0 ∧ W.cell? ⟨b, 1, none⟩ = some a1 ∧ W.cell? ⟨b, 2, none⟩ = some a2 ∧ W.cell? ⟨b, 3, none⟩ = some a3 ∧ W.cell? ⟨b, 4, none⟩ = some a4 ∧ Below w.heap.size w W
theorem B5.keep {w W w' : World} {b : Nat} {a0 a1 a2 a3 a4 : Value} (h : B5 w W b a0 a1 a2 a3 a4) (hb : Below W.heap.size W w') : B5 w w' b a0 a1 a2 a3 a4 := by
  obtain ⟨h1, h2, h3, h4, h5, h6⟩ := h
  exact ⟨(hb.cell (World.block_lt_of_cell? _ _ h1)).trans h1, (hb.cell (World.block_lt_of_cell? _ _ h2)).trans h2, (hb.cell (World.block_lt_of_cell? _ _ h3)).trans h3, (hb.cell (World.block_lt_of_cell? _ _ h4)).trans h4, (hb.cell (World.block_lt_of_cell? _ _ h5)).trans h5, h6.trans (hb.mono h6.size)⟩
def B52 (w W : World) (b : Nat) (a0 a1 a2 a3 a4 : Value) (c : Nat) (o : Nat) (d0 d1 : Value) : Prop := W.cell? ⟨b, 0, none⟩ = some a0 ∧ W.cell? ⟨b, 1, none⟩ = some a1 ∧ W.cell? ⟨b, 2, none⟩ = some a2 ∧ W.cell? ⟨b, 3, none⟩ = some a3 ∧ W.cell? ⟨b, 4, none⟩ = some a4 ∧ W.cell? ⟨c, o, none⟩ = some d0 ∧ W.cell? ⟨c, o + 1, none⟩ = some d1 ∧ Below w.heap.size w W
theorem B52.keep {w W w' : World} {b : Nat} {a0 a1 a2 a3 a4 : Value} {c o : Nat} {d0 d1 : Value} (h : B52 w W b a0 a1 a2 a3 a4 c o d0 d1) (hb : Below W.heap.size W w') : B52 w w' b a0 a1 a2 a3 a4 c o d0 d1 := by
  obtain ⟨h1, h2, h3, h4, h5, h6, h7, h8⟩ := h
  obtain ⟨g1, g2, g3, g4, g5, g8⟩ := B5.keep ⟨h1, h2, h3, h4, h5, h8⟩ hb
  exact ⟨g1, g2, g3, g4, g5, (hb.cell (World.block_lt_of_cell? _ _ h6)).trans h6, (hb.cell (World.block_lt_of_cell? _ _ h7)).trans h7, g8⟩
/-- Five cells, seven cells, that stay. -/
def K5 (w W : World) (p0 p1 p2 p3 p4 : Addr) (v0 v1 v2 v3 v4 : Value) : Prop := W.cell? p0 = some v0 ∧ W.cell? p1 = some v1 ∧ W.cell? p2 = some v2 ∧ W.cell? p3 = some v3 ∧ W.cell? p4 = some v4 ∧ Below w.heap.size w W
theorem K5.keep {w W w' : World} {p0 p1 p2 p3 p4 : Addr} {v0 v1 v2 v3 v4 : Value} (h : K5 w W p0 p1 p2 p3 p4 v0 v1 v2 v3 v4) (hb : Below W.heap.size W w') : K5 w w' p0 p1 p2 p3 p4 v0 v1 v2 v3 v4 := by
  obtain ⟨h1, h2, h3, h4, h5, h6⟩ := h
  exact ⟨(hb.cell (World.block_lt_of_cell? _ _ h1)).trans h1, (hb.cell (World.block_lt_of_cell? _ _ h2)).trans h2, (hb.cell (World.block_lt_of_cell? _ _ h3)).trans h3, (hb.cell (World.block_lt_of_cell? _ _ h4)).trans h4, (hb.cell (World.block_lt_of_cell? _ _ h5)).trans h5, h6.trans (hb.mono h6.size)⟩
def K7 (w W : World) (p0 p1 p2 p3 p4 p5 p6 : Addr) (v0 v1 v2 v3 v4 v5 v6 : Value) : Prop := W.cell? p0 = some v0 ∧ W.cell? p1 = some v1 ∧ W.cell? p2 = some v2 ∧ W.cell? p3 = some v3 ∧ W.cell? p4 = some v4 ∧ W.cell? p5 = some v5 ∧ W.cell? p6 = some v6 ∧ Below w.heap.size w W
theorem K7.keep {w W w' : World} {p0 p1 p2 p3 p4 p5 p6 : Addr} {v0 v1 v2 v3 v4 v5 v6 : Value} (h : K7 w W p0 p1 p2 p3 p4 p5 p6 v0 v1 v2 v3 v4 v5 v6) (hb : Below W.heap.size W w') : K7 w w' p0 p1 p2 p3 p4 p5 p6 v0 v1 v2 v3 v4 v5 v6 := by
  obtain ⟨h1, h2, h3, h4, h5, h6, h7, h8⟩ := h
  exact ⟨(hb.cell (World.block_lt_of_cell? _ _ h1)).trans h1, (hb.cell (World.block_lt_of_cell? _ _ h2)).trans h2, (hb.cell (World.block_lt_of_cell? _ _ h3)).trans h3, (hb.cell (World.block_lt_of_cell? _ _ h4)).trans h4, (hb.cell (World.block_lt_of_cell? _ _ h5)).trans h5, (hb.cell (World.block_lt_of_cell? _ _ h6)).trans h6, (hb.cell (World.block_lt_of_cell? _ _ h7)).trans h7, h8.trans (hb.mono h8.size)⟩
theorem has12r_calls (A : Option Addr) (c : Nat) (l : List S75) (t : S30) (key : ByteArray) (wr : Bool) (w : World) (hr : Kd.C k75 w A l.length l) (hc : l.length ≤ c) : Calls Try.prog 18 #[.slice A l.length c, .agg #[.int .u64 t.f0, .int .u64 t.f1], .string key, .bool wr] w fun e w' => e = .returned (.bool (hasV l t key wr)) ∧ Below w.heap.size w w' := by
  obtain ⟨k, hk⟩ := (rHas_ev l t key wr hr.2.1).rounds
  refine (ferruleref12_Has.calls k A c l t.f0 t.f1 key wr _ w hr hc hk).mono ?_
  rintro e w' ⟨rfl, hd⟩
  exact ⟨rfl, by first | exact hd | exact hd.below⟩
end Go.Proofs.Ytmcgcdpiceikeaa.PAll
end
