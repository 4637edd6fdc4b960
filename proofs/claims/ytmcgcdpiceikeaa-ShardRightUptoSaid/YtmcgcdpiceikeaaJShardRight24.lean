/- Joined texts of the claim ShardRight (part 24): contracts of functions and plain laws. -/
import Derived.Test.YtmcgcdpiceikeaaJShardRight14
import Derived.Test.YtmcgcdpiceikeaaJShardRight18
import Derived.Test.YtmcgcdpiceikeaaJShardRight23
import Derived.BigRegion
section
-- Printed by this session's pr.sh (the kit's print.py, several laws in one namespace). Not trusted: Lean checks it.
namespace Go.Proofs.Ytmcgcdpiceikeaa.PAll
open Go.RowKit Go.Proofs.YtmcgcdpiceikeaaW.PrintWords Go.Proofs.YtmcgcdpiceikeaaW.PrintLast Go.Proofs.YtmcgcdpiceikeaaW.PrintMore
attribute [local go_sem] max2_int min2_int max_two min_two max_three min_three max_four min_four   -- for this text's walks alone
set_option linter.unusedVariables false
set_option linter.unusedSimpArgs false

/-! ### shard_firm: function 55 -/
def shard_firm.l0 : Nat → List (S30) → List (S48) → Int → Int → Option ((List (S30)))
  | 0, _, _, _, _ => none
  | k + 1, x3, x7, x8, x9 => if x9 < x8 then (if 0 ≤ x9 then (if x9 < (x7.length : Int) then (if (rd_T48 x7 x9).f1 = true then (if x3.length < 8796093022208 then (shard_firm.l0 k (x3 ++ [(⟨(rd_T48 x7 x9).f0.f0, (rd_T48 x7 x9).f0.f1⟩ : S30)]) x7 x8 (wrap64 (x9 + 1))) else (none)) else (shard_firm.l0 k x3 x7 x8 (wrap64 (x9 + 1)))) else (none)) else (none)) else (some x3)
def shard_firm.f (k : Nat) (l0_0 : List (S50)) (l0_1 : List (S75)) (l0_2 : List (S48)) (l0_3 : List (S68)) (a0_4 : Int) : Option ((List (S30))) := shard_firm.l0 k ([] : List (S30)) l0_2 (l0_2.length : Int) 0
set_option maxHeartbeats 8000000 in
set_option maxRecDepth 100000 in
theorem shard_firm.calls (k : Nat) (A0_0 : Option Addr) (c0_0 : Nat) (l0_0 : List (S50)) (A0_1 : Option Addr) (c0_1 : Nat) (l0_1 : List (S75)) (A0_2 : Option Addr) (c0_2 : Nat) (l0_2 : List (S48)) (A0_3 : Option Addr) (c0_3 : Nat) (l0_3 : List (S68)) (a0_4 : Int) (r : List (S30)) (w : World) (hr0_0 : Kd.C k50 w A0_0 l0_0.length l0_0) (hc0_0 : l0_0.length ≤ c0_0) (hr0_1 : Kd.C k75 w A0_1 l0_1.length l0_1) (hc0_1 : l0_1.length ≤ c0_1) (hr0_2 : Kd.C k48 w A0_2 l0_2.length l0_2) (hc0_2 : l0_2.length ≤ c0_2) (hr0_3 : Kd.C k68 w A0_3 l0_3.length l0_3) (hc0_3 : l0_3.length ≤ c0_3) (h : shard_firm.f k l0_0 l0_1 l0_2 l0_3 a0_4 = some r) :
    Calls Try.prog 55 #[.agg #[.slice A0_0 l0_0.length c0_0, .slice A0_1 l0_1.length c0_1, .slice A0_2 l0_2.length c0_2, .slice A0_3 l0_3.length c0_3, .int .u64 a0_4]] w fun e w' => ∃ v0_ : Value, e = .returned (v0_) ∧ Kd.R k30 30 w' w.heap.size (fun _ => True) v0_ r ∧ Below w.heap.size w w' := by
  have hu28 := Try.underlying28
  have hu48 := Try.underlying48
  have hu30 := Try.underlying30
  have HR0_0 := Aside0.mk hr0_0
  have HC0_0 := Aside0.mk hc0_0
  clear hr0_0 hc0_0
  have HR0_1 := Aside0.mk hr0_1
  have HC0_1 := Aside0.mk hc0_1
  clear hr0_1 hc0_1
  have HR0_2 := Aside0.mk hr0_2
  have HC0_2 := Aside0.mk hc0_2
  clear hr0_2 hc0_2
  have HR0_3 := Aside0.mk hr0_3
  have HC0_3 := Aside0.mk hc0_3
  clear hr0_3 hc0_3
  have HB := Aside0.mk (Below.refl w.heap.size w)
  have H : (shard_firm.l0 k ([] : List (S30)) l0_2 (l0_2.length : Int) 0) = some r := h
  clear h
  have H' := Aside0.mk H
  clear H
  go_enter Try.func55, Try.ntmps55
  go_wp2_with (first | ((with_reducible refine gate_dst (N := 1) rfl ?_); refine box_event ?hg (N := 1) ?hd (cs := #[.slice A0_0 l0_0.length c0_0, .slice A0_1 l0_1.length c0_1, .slice A0_2 l0_2.length c0_2, .slice A0_3 l0_3.length c0_3, .int .u64 a0_4]) (t := 28) ?hr ?_; (case hd => rfl); (case hg => rfl); (case hr => first | (go_simp; done) | (go_simp; rfl)); intro gb116 hg w2 hbox hb; have n0_ := Aside0.mk (below_step (by repeat (first | (with_reducible first | exact HB.out | apply below_alloc | apply pw_below_drewN | apply below_drew1) | exact HB.out)) hb); have n1_ := Aside0.mk (hbox); have n2_ := Aside0.mk ((by rw [hg]; exact (below_size (by repeat (first | (with_reducible first | exact HB.out | apply below_alloc | apply pw_below_drewN | apply below_drew1) | exact HB.out))) : w.heap.size ≤ gb116)); have n3_ := Aside0.mk ((by rw [hg]; exact (below_size (by repeat (first | (with_reducible first | exact HB.out | apply below_alloc | apply pw_below_drewN | apply below_drew1) | exact HB.out))) : w.heap.size ≤ gb116)); clear HB; have HB := n0_; have BK116 := n1_; have GW116 := n2_; have GE116 := n3_; clear n0_ n1_ n2_ n3_; clear hb hbox hg; have hcz3_0 : w2.cell? ⟨gb116, 0, none⟩ = some (.slice A0_0 l0_0.length c0_0) := (blk_cell BK116.out 0).trans rfl; have hcz3_1 : w2.cell? ⟨gb116, 1, none⟩ = some (.slice A0_1 l0_1.length c0_1) := (blk_cell BK116.out 1).trans rfl; have hcz3_2 : w2.cell? ⟨gb116, 2, none⟩ = some (.slice A0_2 l0_2.length c0_2) := (blk_cell BK116.out 2).trans rfl; have hcz3_3 : w2.cell? ⟨gb116, 3, none⟩ = some (.slice A0_3 l0_3.length c0_3) := (blk_cell BK116.out 3).trans rfl; have hcz3_4 : w2.cell? ⟨gb116, 4, none⟩ = some (.int .u64 a0_4) := (blk_cell BK116.out 4).trans rfl; have hfz3_0 := blk_frozen BK116.out 0; have hfz3_1 := blk_frozen BK116.out 1; have hfz3_2 := blk_frozen BK116.out 2; have hfz3_3 := blk_frozen BK116.out 3; have hfz3_4 := blk_frozen BK116.out 4))
  go_loopg [3, 9] k (fun kq v3 v9 w' => ∃ (x3_1 : List (S30)) (x9_1 : Int), v9 = .int .i64 x9_1 ∧ Aside0 (shard_firm.l0 kq x3_1 l0_2 (l0_2.length : Int) x9_1 = some r) ∧ Aside0 (kq ≤ k) ∧ Aside0 (Kd.R k30 30 w' w.heap.size (fun _ => True) v3 x3_1) ∧ Aside0 (w'.heap[gb116]? = some (.cells #[(.slice A0_0 l0_0.length c0_0), (.slice A0_1 l0_1.length c0_1), (.slice A0_2 l0_2.length c0_2), (.slice A0_3 l0_3.length c0_3), .int .u64 a0_4] 28 (0, 0))) ∧ Aside0 (Below w.heap.size w w'))
  case atStart => exact ⟨(([] : List (S30))), (0), (by first | rfl | (simp; done) | (simp [*]; done)), H', ⟨Nat.le_refl _⟩, ⟨by first | exact Kd.R_nil _ _ _ _ _ | exact Kd.N_nil _ _ _ _ _ | exact Kd.V_nil _ _ _ _ _ | exact Kd.Q_nil _ _ _ _ _ | exact Kd.S_nil _ _ _ _ _⟩, ⟨by (with_reducible repeat (first | refine blk_drewN ?_ _ | refine blk_drew ?_ | refine blk_alloc ?_ _)); exact BK116.out⟩, ⟨by repeat (first | (with_reducible first | exact HB.out | apply below_alloc | apply pw_below_drewN | apply below_drew1 | refine below_set ?_ GE116.out) | exact HB.out)⟩⟩
  case round =>
    clear H'
    try clear p2
    try clear hcz3_0
    try clear hcz3_1
    try clear hcz3_2
    try clear hcz3_3
    try clear hcz3_4
    try clear hfz3_0
    try clear hfz3_1
    try clear hfz3_2
    try clear hfz3_3
    try clear hfz3_4
    obtain ⟨x3_1, x9_1, rfl, HA, HK1, HO_3, BK116, HB⟩ := hrel
    cases gk with
    | zero => exact absurd HA.out (by simp [shard_firm.l0])
    | succ k1 =>
      have H := HA.out
      clear HA
      simp only [shard_firm.l0] at H
      by_cases c4 : x9_1 < (l0_2.length : Int)
      · rw [if_pos c4] at H
        have c4b0 : decide (x9_1 < (l0_2.length : Int)) = true := decide_eq_true c4
        clear c4
        by_cases c5 : 0 ≤ x9_1
        · rw [if_pos c5] at H
          have c5b0 : decide (0 ≤ x9_1) = true := decide_eq_true c5
          clear c5
          by_cases c6 : x9_1 < (l0_2.length : Int)
          · rw [if_pos c6] at H
            have c6b0 : decide (x9_1 < (l0_2.length : Int)) = true := decide_eq_true c6
            clear c6
            obtain ⟨bq7, hbq7⟩ : ∃ b_ : Bool, b_ = ((rd_T48 l0_2 x9_1).f1) := ⟨_, rfl⟩
            replace H : (if bq7 = true then (if x3_1.length < 8796093022208 then (shard_firm.l0 k1 (x3_1 ++ [(⟨(rd_T48 l0_2 x9_1).f0.f0, (rd_T48 l0_2 x9_1).f0.f1⟩ : S30)]) l0_2 (l0_2.length : Int) (wrap64 (x9_1 + 1))) else (none)) else (shard_firm.l0 k1 x3_1 l0_2 (l0_2.length : Int) (wrap64 (x9_1 + 1)))) = some r := by rw [← hbq7] at H; exact H
            have Nbq7 := Aside0.mk hbq7
            clear hbq7
            by_cases c8 : bq7 = true
            · subst c8
              have H1 : (if x3_1.length < 8796093022208 then (shard_firm.l0 k1 (x3_1 ++ [(⟨(rd_T48 l0_2 x9_1).f0.f0, (rd_T48 l0_2 x9_1).f0.f1⟩ : S30)]) l0_2 (l0_2.length : Int) (wrap64 (x9_1 + 1))) else (none)) = some r := by rw [if_pos rfl] at H; exact H
              clear H
              have H := H1
              clear H1
              by_cases c9 : x3_1.length < 8796093022208
              · rw [if_pos c9] at H
                have LMc9 := Aside0.mk c9
                clear c9
                obtain ⟨y119, hy119⟩ : ∃ y_ : List (S30), y_ = (x3_1 ++ [(⟨(rd_T48 l0_2 x9_1).f0.f0, (rd_T48 l0_2 x9_1).f0.f1⟩ : S30)]) := ⟨_, rfl⟩
                replace H : (shard_firm.l0 k1 y119 l0_2 (l0_2.length : Int) (wrap64 (x9_1 + 1))) = some r := by first | (rw [hy119]; with_reducible exact H) | (have H2_ := (Option.bind_some _ _).symm.trans H; rw [hy119]; with_reducible exact H2_) | (have H2_ := (Option.bind_some _ _).symm.trans H; with_reducible exact H2_) | with_reducible exact H | (rw [hy119]; exact H) | exact H
                have Ny119 := Aside0.mk hy119
                clear hy119
                have H' := Aside0.mk H
                clear H
                have p117 : 0 ≤ (x9_1 : Int) := of_decide_eq_true (by first | (with_reducible assumption) | assumption)
                have q117 : x9_1 < (l0_2.length : Int) := of_decide_eq_true (by first | (with_reducible assumption) | assumption)
                obtain ⟨ad117, A117_4, c117_4, e117, hx117_0, hx117_1, hx117_2, hx117_3, hx117_4, hl117_4, hi117_4⟩ := at_T48 HR0_2.out x9_1 p117 q117
                (try rw [← Nbq7.out] at hx117_2)
                (try rw [← Nbq7.out] at hx117_3)
                cases e117
                replace hx117_0 := (HB.out.cell (World.block_lt_of_cell? w _ hx117_0)).trans hx117_0
                replace hx117_1 := (HB.out.cell (World.block_lt_of_cell? w _ hx117_1)).trans hx117_1
                replace hx117_2 := (HB.out.cell (World.block_lt_of_cell? w _ hx117_2)).trans hx117_2
                replace hx117_3 := (HB.out.cell (World.block_lt_of_cell? w _ hx117_3)).trans hx117_3
                replace hx117_4 := (HB.out.cell (World.block_lt_of_cell? w _ hx117_4)).trans hx117_4
                have HR117_4 := Aside0.mk hi117_4
                have HC117_4 := Aside0.mk hl117_4
                clear hi117_4 hl117_4
                replace p117 := eq_true p117
                replace q117 := eq_true q117
                go_wp2_with (first | ((with_reducible refine gate_dst (N := 5) rfl ?_); refine box_event ?hg (N := 5) ?hd (cs := #[.int .u64 0, .int .u64 0, .bool false, .bool false, .slice none 0 0]) (t := 48) ?hr ?_; (case hd => rfl); (case hg => rfl); (case hr => first | (go_simp; done) | (go_simp; rfl)); intro gb118 hg w10 hbox hb; have n0_ := Aside0.mk (Kd.R_below (by (with_reducible repeat (first | apply Kd.R_alloc | apply Kd.R_drewN | apply Kd.R_drew)); exact HO_3.out) hb); have n1_ := Aside0.mk (blk_below (g := gb116) (o := .cells #[.slice A0_0 l0_0.length c0_0, .slice A0_1 l0_1.length c0_1, .slice (some ad117) l0_2.length c0_2, .slice A0_3 l0_3.length c0_3, .int .u64 a0_4] 28 (0, 0)) (by (with_reducible repeat (first | refine blk_drewN ?_ _ | refine blk_drew ?_ | refine blk_alloc ?_ _)); exact BK116.out) hb); have n2_ := Aside0.mk (below_step (by repeat (first | (with_reducible first | exact HB.out | apply below_alloc | apply pw_below_drewN | apply below_drew1 | refine below_set ?_ GE116.out) | exact HB.out)) hb); have n3_ := Aside0.mk (hbox); have n4_ := Aside0.mk ((by rw [hg]; exact (below_size (by repeat (first | (with_reducible first | exact HB.out | apply below_alloc | apply pw_below_drewN | apply below_drew1 | refine below_set ?_ GE116.out) | exact HB.out))) : w.heap.size ≤ gb118)); have n5_ := Aside0.mk ((by rw [hg]; exact (below_size (by repeat (first | (with_reducible first | exact HB.out | apply below_alloc | apply pw_below_drewN | apply below_drew1 | refine below_set ?_ GE116.out) | exact HB.out))) : w.heap.size ≤ gb118)); have n6_ := Aside0.mk ((by rw [hg]; exact Nat.ne_of_lt (blk_lt (g := gb116) (o := .cells #[.slice A0_0 l0_0.length c0_0, .slice A0_1 l0_1.length c0_1, .slice (some ad117) l0_2.length c0_2, .slice A0_3 l0_3.length c0_3, .int .u64 a0_4] 28 (0, 0)) (by (with_reducible repeat (first | refine blk_drewN ?_ _ | refine blk_drew ?_ | refine blk_alloc ?_ _)); exact BK116.out)) : gb116 ≠ gb118)); have n7_ := Aside0.mk ((by rw [hg]; exact Nat.ne_of_gt (blk_lt (g := gb116) (o := .cells #[.slice A0_0 l0_0.length c0_0, .slice A0_1 l0_1.length c0_1, .slice (some ad117) l0_2.length c0_2, .slice A0_3 l0_3.length c0_3, .int .u64 a0_4] 28 (0, 0)) (by (with_reducible repeat (first | refine blk_drewN ?_ _ | refine blk_drew ?_ | refine blk_alloc ?_ _)); exact BK116.out)) : gb118 ≠ gb116)); clear HO_3; clear BK116; clear HB; have HO_3 := n0_; have BK116 := n1_; have HB := n2_; have BK118 := n3_; have GW118 := n4_; have GE118 := n5_; have NB116_118 := n6_; have NB118_116 := n7_; clear n0_ n1_ n2_ n3_ n4_ n5_ n6_ n7_; clear hb hbox hg; have hnb11 := NB118_116.out; have hnc11 := NB116_118.out; have hcz12_0 : w10.cell? ⟨gb118, 0, none⟩ = some (.int .u64 0) := (blk_cell BK118.out 0).trans rfl; have hcz12_1 : w10.cell? ⟨gb118, 1, none⟩ = some (.int .u64 0) := (blk_cell BK118.out 1).trans rfl; have hcz12_2 : w10.cell? ⟨gb118, 2, none⟩ = some (.bool false) := (blk_cell BK118.out 2).trans rfl; have hcz12_3 : w10.cell? ⟨gb118, 3, none⟩ = some (.bool false) := (blk_cell BK118.out 3).trans rfl; have hcz12_4 : w10.cell? ⟨gb118, 4, none⟩ = some (.slice none 0 0) := (blk_cell BK118.out 4).trans rfl; have hfz12_0 := blk_frozen BK118.out 0; have hfz12_1 := blk_frozen BK118.out 1; have hfz12_2 := blk_frozen BK118.out 2; have hfz12_3 := blk_frozen BK118.out 3; have hfz12_4 := blk_frozen BK118.out 4) | ((with_reducible refine gate_builtin (b := .append) (xs := #[.tmp 15, .tmp 18]) rfl ?_); at_builtin; refine Kd.R_append k30 (w0 := w) w.heap.size rfl (.tmp 15) (.tmp 18) 86 30 (.agg #[(.int .u64 0), (.int .u64 0)]) 16 rfl Try.underlying86 info30 rfl (by decide) (by omega) u3 x3_1 (⟨(rd_T48 l0_2 x9_1).f0.f0, (rd_T48 l0_2 x9_1).f0.f1⟩ : S30) [.int .u64 ((rd_T48 l0_2 x9_1).f0.f0), .int .u64 ((rd_T48 l0_2 x9_1).f0.f1)] (fun _ => True) (fun _ => False) rfl (by first | (go_simp; done) | (go_simp; rfl)) ?aP (fun _ hk => hk.elim) ?aF ?aO ?aB ?aS ?aL ?_; (case aP => exact k30_mkM _ _ _ (⟨(rd_T48 l0_2 x9_1).f0.f0, (rd_T48 l0_2 x9_1).f0.f1⟩ : S30)); (case aB => exact (by repeat (first | (with_reducible first | exact HB.out | apply below_alloc | apply pw_below_drewN | apply below_drew1 | refine below_set ?_ GE116.out | refine below_set ?_ GE118.out) | exact HB.out))); (case aF => exact (fun _ _ => trivial)); (case aO => exact (by (with_reducible repeat (first | apply Kd.R_alloc | apply Kd.R_drewN | apply Kd.R_drew)); exact Kd.R_mono (Kd.R_far (p := ⟨gb118, 4, none⟩) (Kd.R_far (p := ⟨gb118, 3, none⟩) (Kd.R_far (p := ⟨gb118, 2, none⟩) (Kd.R_far (p := ⟨gb118, 1, none⟩) (Kd.R_far (p := ⟨gb118, 0, none⟩) (Kd.R_types HO_3.out BK118.out (by decide)) (fun _ hk => hk.2) (.int .u64 ((rd_T48 l0_2 x9_1).f0.f0))) (fun _ hk => hk.2) (.int .u64 ((rd_T48 l0_2 x9_1).f0.f1))) (fun _ hk => hk.2) (.bool true)) (fun _ hk => hk.2) (.bool ((rd_T48 l0_2 x9_1).f2))) (fun _ hk => hk.2) (.slice A117_4 ((rd_T48 l0_2 x9_1).f3).length c117_4)) (fun _ hk => trivial))); (case aS => exact (below_size (by repeat (first | (with_reducible first | exact HB.out | apply below_alloc | apply pw_below_drewN | apply below_drew1 | refine below_set ?_ GE116.out | refine below_set ?_ GE118.out) | exact HB.out)))); (case aL => have := LMc9.out; omega); intro v120 w13 ho hb hg hat; rw [← Ny119.out] at ho; have n0_ := Aside0.mk (blk_grown (g := gb116) (o := .cells #[.slice A0_0 l0_0.length c0_0, .slice A0_1 l0_1.length c0_1, .slice (some ad117) l0_2.length c0_2, .slice A0_3 l0_3.length c0_3, .int .u64 a0_4] 28 (0, 0)) (by (with_reducible repeat (first | refine blk_drewN ?_ _ | refine blk_drew ?_ | refine blk_alloc ?_ _)); refine blk_far ?_ NB116_118.out _; (with_reducible repeat (first | refine blk_drewN ?_ _ | refine blk_drew ?_ | refine blk_alloc ?_ _)); refine blk_far ?_ NB116_118.out _; (with_reducible repeat (first | refine blk_drewN ?_ _ | refine blk_drew ?_ | refine blk_alloc ?_ _)); refine blk_far ?_ NB116_118.out _; (with_reducible repeat (first | refine blk_drewN ?_ _ | refine blk_drew ?_ | refine blk_alloc ?_ _)); refine blk_far ?_ NB116_118.out _; (with_reducible repeat (first | refine blk_drewN ?_ _ | refine blk_drew ?_ | refine blk_alloc ?_ _)); refine blk_far ?_ NB116_118.out _; (with_reducible repeat (first | refine blk_drewN ?_ _ | refine blk_drew ?_ | refine blk_alloc ?_ _)); exact BK116.out) hg (Kd.R_ne HO_3.out BK116.out (by decide))); have n1_ := Aside0.mk (blk_grown (g := gb118) (o := .cells #[.int .u64 ((rd_T48 l0_2 x9_1).f0.f0), .int .u64 ((rd_T48 l0_2 x9_1).f0.f1), .bool true, .bool ((rd_T48 l0_2 x9_1).f2), .slice A117_4 ((rd_T48 l0_2 x9_1).f3).length c117_4] 48 (0, 0)) (by (with_reducible repeat (first | refine blk_drewN ?_ _ | refine blk_drew ?_ | refine blk_alloc ?_ _)); refine blk_put (cs := #[.int .u64 ((rd_T48 l0_2 x9_1).f0.f0), .int .u64 ((rd_T48 l0_2 x9_1).f0.f1), .bool true, .bool ((rd_T48 l0_2 x9_1).f2), .slice none 0 0]) ?_ 4 _ rfl; (with_reducible repeat (first | refine blk_drewN ?_ _ | refine blk_drew ?_ | refine blk_alloc ?_ _)); refine blk_put (cs := #[.int .u64 ((rd_T48 l0_2 x9_1).f0.f0), .int .u64 ((rd_T48 l0_2 x9_1).f0.f1), .bool true, .bool false, .slice none 0 0]) ?_ 3 _ rfl; (with_reducible repeat (first | refine blk_drewN ?_ _ | refine blk_drew ?_ | refine blk_alloc ?_ _)); refine blk_put (cs := #[.int .u64 ((rd_T48 l0_2 x9_1).f0.f0), .int .u64 ((rd_T48 l0_2 x9_1).f0.f1), .bool false, .bool false, .slice none 0 0]) ?_ 2 _ rfl; (with_reducible repeat (first | refine blk_drewN ?_ _ | refine blk_drew ?_ | refine blk_alloc ?_ _)); refine blk_put (cs := #[.int .u64 ((rd_T48 l0_2 x9_1).f0.f0), .int .u64 0, .bool false, .bool false, .slice none 0 0]) ?_ 1 _ rfl; (with_reducible repeat (first | refine blk_drewN ?_ _ | refine blk_drew ?_ | refine blk_alloc ?_ _)); refine blk_put (cs := #[.int .u64 0, .int .u64 0, .bool false, .bool false, .slice none 0 0]) ?_ 0 _ rfl; (with_reducible repeat (first | refine blk_drewN ?_ _ | refine blk_drew ?_ | refine blk_alloc ?_ _)); exact BK118.out) hg (Kd.R_ne HO_3.out BK118.out (by decide))); have n2_ := Aside0.mk (hb); have n3_ := Aside0.mk (ho); clear BK116; clear BK118; clear HB; clear HO_3; have BK116 := n0_; have BK118 := n1_; have HB := n2_; have HO121 := n3_; clear n0_ n1_ n2_ n3_; clear ho hb hg hat))
                go_roundg k1
                case measure => have := HK1.out; omega
                case rel => exact ⟨(y119), (wrap64 (x9_1 + 1)), (by first | rfl | (simp; done) | (simp [*]; done)), H', ⟨by have := HK1.out; omega⟩, ⟨by (with_reducible repeat (first | apply Kd.R_alloc | apply Kd.R_drewN | apply Kd.R_drew)); exact HO121.out⟩, ⟨by (with_reducible repeat (first | refine blk_drewN ?_ _ | refine blk_drew ?_ | refine blk_alloc ?_ _)); exact BK116.out⟩, ⟨by repeat (first | (with_reducible first | exact HB.out | apply below_alloc | apply pw_below_drewN | apply below_drew1 | refine below_set ?_ GE116.out | refine below_set ?_ GE118.out) | exact HB.out)⟩⟩
              · rw [if_neg c9] at H
                exact absurd H (by simp)
            · replace c8 := Bool.eq_false_iff.mpr c8
              subst c8
              have H1 : (shard_firm.l0 k1 x3_1 l0_2 (l0_2.length : Int) (wrap64 (x9_1 + 1))) = some r := by rw [if_neg (show ¬ (false = true) by decide)] at H; exact H
              clear H
              have H := H1
              clear H1
              have H' := Aside0.mk H
              clear H
              have p117 : 0 ≤ (x9_1 : Int) := of_decide_eq_true (by first | (with_reducible assumption) | assumption)
              have q117 : x9_1 < (l0_2.length : Int) := of_decide_eq_true (by first | (with_reducible assumption) | assumption)
              obtain ⟨ad117, A117_4, c117_4, e117, hx117_0, hx117_1, hx117_2, hx117_3, hx117_4, hl117_4, hi117_4⟩ := at_T48 HR0_2.out x9_1 p117 q117
              (try rw [← Nbq7.out] at hx117_2)
              (try rw [← Nbq7.out] at hx117_3)
              cases e117
              replace hx117_0 := (HB.out.cell (World.block_lt_of_cell? w _ hx117_0)).trans hx117_0
              replace hx117_1 := (HB.out.cell (World.block_lt_of_cell? w _ hx117_1)).trans hx117_1
              replace hx117_2 := (HB.out.cell (World.block_lt_of_cell? w _ hx117_2)).trans hx117_2
              replace hx117_3 := (HB.out.cell (World.block_lt_of_cell? w _ hx117_3)).trans hx117_3
              replace hx117_4 := (HB.out.cell (World.block_lt_of_cell? w _ hx117_4)).trans hx117_4
              have HR117_4 := Aside0.mk hi117_4
              have HC117_4 := Aside0.mk hl117_4
              clear hi117_4 hl117_4
              replace p117 := eq_true p117
              replace q117 := eq_true q117
              go_wp2_with (first | ((with_reducible refine gate_dst (N := 5) rfl ?_); refine box_event ?hg (N := 5) ?hd (cs := #[.int .u64 0, .int .u64 0, .bool false, .bool false, .slice none 0 0]) (t := 48) ?hr ?_; (case hd => rfl); (case hg => rfl); (case hr => first | (go_simp; done) | (go_simp; rfl)); intro gb118 hg w14 hbox hb; have n0_ := Aside0.mk (Kd.R_below (by (with_reducible repeat (first | apply Kd.R_alloc | apply Kd.R_drewN | apply Kd.R_drew)); exact HO_3.out) hb); have n1_ := Aside0.mk (blk_below (g := gb116) (o := .cells #[.slice A0_0 l0_0.length c0_0, .slice A0_1 l0_1.length c0_1, .slice (some ad117) l0_2.length c0_2, .slice A0_3 l0_3.length c0_3, .int .u64 a0_4] 28 (0, 0)) (by (with_reducible repeat (first | refine blk_drewN ?_ _ | refine blk_drew ?_ | refine blk_alloc ?_ _)); exact BK116.out) hb); have n2_ := Aside0.mk (below_step (by repeat (first | (with_reducible first | exact HB.out | apply below_alloc | apply pw_below_drewN | apply below_drew1 | refine below_set ?_ GE116.out) | exact HB.out)) hb); have n3_ := Aside0.mk (hbox); have n4_ := Aside0.mk ((by rw [hg]; exact (below_size (by repeat (first | (with_reducible first | exact HB.out | apply below_alloc | apply pw_below_drewN | apply below_drew1 | refine below_set ?_ GE116.out) | exact HB.out))) : w.heap.size ≤ gb118)); have n5_ := Aside0.mk ((by rw [hg]; exact (below_size (by repeat (first | (with_reducible first | exact HB.out | apply below_alloc | apply pw_below_drewN | apply below_drew1 | refine below_set ?_ GE116.out) | exact HB.out))) : w.heap.size ≤ gb118)); have n6_ := Aside0.mk ((by rw [hg]; exact Nat.ne_of_lt (blk_lt (g := gb116) (o := .cells #[.slice A0_0 l0_0.length c0_0, .slice A0_1 l0_1.length c0_1, .slice (some ad117) l0_2.length c0_2, .slice A0_3 l0_3.length c0_3, .int .u64 a0_4] 28 (0, 0)) (by (with_reducible repeat (first | refine blk_drewN ?_ _ | refine blk_drew ?_ | refine blk_alloc ?_ _)); exact BK116.out)) : gb116 ≠ gb118)); have n7_ := Aside0.mk ((by rw [hg]; exact Nat.ne_of_gt (blk_lt (g := gb116) (o := .cells #[.slice A0_0 l0_0.length c0_0, .slice A0_1 l0_1.length c0_1, .slice (some ad117) l0_2.length c0_2, .slice A0_3 l0_3.length c0_3, .int .u64 a0_4] 28 (0, 0)) (by (with_reducible repeat (first | refine blk_drewN ?_ _ | refine blk_drew ?_ | refine blk_alloc ?_ _)); exact BK116.out)) : gb118 ≠ gb116)); clear HO_3; clear BK116; clear HB; have HO_3 := n0_; have BK116 := n1_; have HB := n2_; have BK118 := n3_; have GW118 := n4_; have GE118 := n5_; have NB116_118 := n6_; have NB118_116 := n7_; clear n0_ n1_ n2_ n3_ n4_ n5_ n6_ n7_; clear hb hbox hg; have hnb15 := NB118_116.out; have hnc15 := NB116_118.out; have hcz16_0 : w14.cell? ⟨gb118, 0, none⟩ = some (.int .u64 0) := (blk_cell BK118.out 0).trans rfl; have hcz16_1 : w14.cell? ⟨gb118, 1, none⟩ = some (.int .u64 0) := (blk_cell BK118.out 1).trans rfl; have hcz16_2 : w14.cell? ⟨gb118, 2, none⟩ = some (.bool false) := (blk_cell BK118.out 2).trans rfl; have hcz16_3 : w14.cell? ⟨gb118, 3, none⟩ = some (.bool false) := (blk_cell BK118.out 3).trans rfl; have hcz16_4 : w14.cell? ⟨gb118, 4, none⟩ = some (.slice none 0 0) := (blk_cell BK118.out 4).trans rfl; have hfz16_0 := blk_frozen BK118.out 0; have hfz16_1 := blk_frozen BK118.out 1; have hfz16_2 := blk_frozen BK118.out 2; have hfz16_3 := blk_frozen BK118.out 3; have hfz16_4 := blk_frozen BK118.out 4))
              go_roundg k1
              case measure => have := HK1.out; omega
              case rel => exact ⟨(x3_1), (wrap64 (x9_1 + 1)), (by first | rfl | (simp; done) | (simp [*]; done)), H', ⟨by have := HK1.out; omega⟩, ⟨by (with_reducible repeat (first | apply Kd.R_alloc | apply Kd.R_drewN | apply Kd.R_drew)); exact Kd.R_mono (Kd.R_far (p := ⟨gb118, 4, none⟩) (Kd.R_far (p := ⟨gb118, 3, none⟩) (Kd.R_far (p := ⟨gb118, 2, none⟩) (Kd.R_far (p := ⟨gb118, 1, none⟩) (Kd.R_far (p := ⟨gb118, 0, none⟩) (Kd.R_types HO_3.out BK118.out (by decide)) (fun _ hk => hk.2) (.int .u64 ((rd_T48 l0_2 x9_1).f0.f0))) (fun _ hk => hk.2) (.int .u64 ((rd_T48 l0_2 x9_1).f0.f1))) (fun _ hk => hk.2) (.bool false)) (fun _ hk => hk.2) (.bool ((rd_T48 l0_2 x9_1).f2))) (fun _ hk => hk.2) (.slice A117_4 ((rd_T48 l0_2 x9_1).f3).length c117_4)) (fun _ hk => trivial)⟩, ⟨by (with_reducible repeat (first | refine blk_drewN ?_ _ | refine blk_drew ?_ | refine blk_alloc ?_ _)); refine blk_far ?_ NB116_118.out _; (with_reducible repeat (first | refine blk_drewN ?_ _ | refine blk_drew ?_ | refine blk_alloc ?_ _)); refine blk_far ?_ NB116_118.out _; (with_reducible repeat (first | refine blk_drewN ?_ _ | refine blk_drew ?_ | refine blk_alloc ?_ _)); refine blk_far ?_ NB116_118.out _; (with_reducible repeat (first | refine blk_drewN ?_ _ | refine blk_drew ?_ | refine blk_alloc ?_ _)); refine blk_far ?_ NB116_118.out _; (with_reducible repeat (first | refine blk_drewN ?_ _ | refine blk_drew ?_ | refine blk_alloc ?_ _)); refine blk_far ?_ NB116_118.out _; (with_reducible repeat (first | refine blk_drewN ?_ _ | refine blk_drew ?_ | refine blk_alloc ?_ _)); exact BK116.out⟩, ⟨by repeat (first | (with_reducible first | exact HB.out | apply below_alloc | apply pw_below_drewN | apply below_drew1 | refine below_set ?_ GE116.out | refine below_set ?_ GE118.out) | exact HB.out)⟩⟩
          · rw [if_neg c6] at H
            exact absurd H (by simp)
        · rw [if_neg c5] at H
          exact absurd H (by simp)
      · rw [if_neg c4] at H
        have c4b0 : decide (x9_1 < (l0_2.length : Int)) = false := decide_eq_false c4
        clear c4
        obtain rfl := Option.some.inj H
        go_wp2
        go_ret
        exact ⟨_, by first | rfl | (simp [errW_none, errW_some] <;> rfl) | (simp [*, errW_none, errW_some] <;> rfl), by (with_reducible repeat (first | apply Kd.R_alloc | apply Kd.R_drewN | apply Kd.R_drew)); exact HO_3.out, by repeat (first | (with_reducible first | exact HB.out | apply below_alloc | apply pw_below_drewN | apply below_drew1 | refine below_set ?_ GE116.out) | exact HB.out)⟩

end Go.Proofs.Ytmcgcdpiceikeaa.PAll
end
section
/- shard.firm and shard.full, as contracts. -/
namespace Go.Proofs.Ytmcgcdpiceikeaa.PAll
open Go.RowKit Go.Proofs.YtmcgcdpiceikeaaW.PrintWords Go.Proofs.YtmcgcdpiceikeaaW.PrintMore Go.Proofs.Ytmcgcdpiceikeaa
set_option linter.unusedVariables false
def firmV (l : List S48) : List S30 := (l.filter (fun x => x.f1)).map (fun x => x.f0)
theorem firmV_len (l : List S48) : (firmV l).length ≤ l.length := by
  unfold firmV
  rw [List.length_map]
  exact List.length_filter_le _ _
theorem rdOpen (l : List S48) (j : Nat) (hj : j < l.length) : rd_T48 l (j : Int) = l[j]! := by
  simp [rd_T48, List.getD_eq_getElem?_getD, List.getElem?_eq_getElem hj, getElem!_pos l j hj]
theorem firm_l0 (l : List S48) (hl : l.length ≤ 8796093022208) : ∀ (d j : Nat) (acc : List S30), d = l.length - j → j ≤ l.length → acc.length ≤ j → Ev (fun q => shard_firm.l0 q acc l (l.length : Int) (j : Int)) (acc ++ firmV (l.drop j)) := by
  intro d
  induction d with
  | zero =>
    intro j acc hd hj ha
    obtain rfl : j = l.length := by omega
    rw [List.drop_length]
    unfold firmV
    simp only [List.filter_nil, List.map_nil, List.append_nil]
    exact Ev.step (fun q => by simp only [shard_firm.l0]; exact if_neg (by omega)) (Ev.now acc)
  | succ d ih =>
    intro j acc hd hj ha
    have hlt : j < l.length := by omega
    rw [dropBang l j hlt]
    refine Ev.step (fun q => by simp only [shard_firm.l0]; rw [if_pos (by omega), if_pos (by omega), if_pos (by omega), rdOpen l j hlt, wrapInc j (by omega)]) ?_
    unfold firmV
    rw [List.filter_cons]
    cases c : (l[j]!).f1 with
    | true =>
      refine Ev.congr (fun _ => by rw [if_pos rfl, if_pos (by omega)]) ?_
      have := ih (j + 1) (acc ++ [⟨(l[j]!).f0.f0, (l[j]!).f0.f1⟩]) (by omega) (by omega) (by rw [List.length_append]; simp; omega)
      rw [List.append_assoc] at this
      exact this
    | false =>
      refine Ev.congr (fun _ => if_neg (by decide)) ?_
      exact ih (j + 1) acc (by omega) (by omega) (by omega)
theorem shardFirm_calls (A0 : Option Addr) (c0 : Nat) (A1 : Option Addr) (c1 : Nat) (A2 : Option Addr) (c2 : Nat) (A3 : Option Addr) (c3 : Nat) (rs : List S50) (hs : List S75) (os : List S48) (ds : List S68) (ver : Int) (w : World) (hr0 : Kd.C k50 w A0 rs.length rs) (hc0 : rs.length ≤ c0) (hr1 : Kd.C k75 w A1 hs.length hs) (hc1 : hs.length ≤ c1) (hr2 : Kd.C k48 w A2 os.length os) (hc2 : os.length ≤ c2) (hr3 : Kd.C k68 w A3 ds.length ds) (hc3 : ds.length ≤ c3) (hl : os.length ≤ 8796093022208) :
    Calls Try.prog 55 #[.agg #[.slice A0 rs.length c0, .slice A1 hs.length c1, .slice A2 os.length c2, .slice A3 ds.length c3, .int .u64 ver]] w fun e w' => (∃ FA fc, e = .returned (.slice FA (firmV os).length fc) ∧ (firmV os).length ≤ fc ∧ Kd.C k30 w' FA (firmV os).length (firmV os)) ∧ Below w.heap.size w w' := by
  have hE := firm_l0 os hl os.length 0 [] (by omega) (by omega) (Nat.le_refl _)
  rw [List.nil_append, List.drop_zero] at hE
  obtain ⟨k, hk⟩ := (show Ev (fun q => shard_firm.f q rs hs os ds ver) (firmV os) from hE).rounds
  refine (shard_firm.calls k A0 c0 rs A1 c1 hs A2 c2 os A3 c3 ds ver _ w hr0 hc0 hr1 hc1 hr2 hc2 hr3 hc3 hk).mono ?_
  rintro e w' ⟨v, rfl, hR, hb⟩
  obtain ⟨FA, fc, rfl, h1, h2⟩ := Sl.of_R hR
  exact ⟨⟨FA, fc, rfl, h1, h2⟩, hb⟩
theorem shardFull_calls (A0 : Option Addr) (c0 : Nat) (A1 : Option Addr) (c1 : Nat) (A2 : Option Addr) (c2 : Nat) (A3 : Option Addr) (c3 : Nat) (rs : List S50) (hs : List S75) (os : List S48) (ds : List S68) (ver : Int) (w : World) (hr0 : Kd.C k50 w A0 rs.length rs) (hc0 : rs.length ≤ c0) (hr1 : Kd.C k75 w A1 hs.length hs) (hc1 : hs.length ≤ c1) (hr2 : Kd.C k48 w A2 os.length os) (hc2 : os.length ≤ c2) (hr3 : Kd.C k68 w A3 ds.length ds) (hc3 : ds.length ≤ c3) (hl : os.length + ds.length ≤ 8796093022208) :
    Calls Try.prog 53 #[.agg #[.slice A0 rs.length c0, .slice A1 hs.length c1, .slice A2 os.length c2, .slice A3 ds.length c3, .int .u64 ver]] w fun e w' => e = .returned (.bool (decide (64 ≤ os.length + ds.length))) ∧ Below w.heap.size w w' := by
  have h : shard_full.f rs hs os ds ver = some (decide (64 ≤ os.length + ds.length)) := by
    unfold shard_full.f
    rw [show wrap64 ((os.length : Int) + (ds.length : Int)) = ((os.length + ds.length : Nat) : Int) by unfold wrap64; omega]
    exact congrArg some (decide_eq_decide.2 (by omega))
  exact shard_full.calls A0 c0 rs A1 c1 hs A2 c2 os A3 c3 ds ver _ w hr0 hc0 hr1 hc1 hr2 hc2 hr3 hc3 h
end Go.Proofs.Ytmcgcdpiceikeaa.PAll
end
section
/- shard.asks: its early ends by an error. -/
namespace Go.Proofs.Ytmcgcdpiceikeaa.PAll
open Go.RowKit Go.Proofs.YtmcgcdpiceikeaaW.PrintWords Go.Proofs.YtmcgcdpiceikeaaW.PrintMore Go.Proofs.Ytmcgcdpiceikeaa
set_option linter.unusedVariables false
theorem shardNo2 (A0 : Option Addr) (n0 c0 : Nat) (A1 : Option Addr) (n1 c1 : Nat) (A2 : Option Addr) (n2 c2 : Nat) (A3 : Option Addr) (n3 c3 : Nat) (ver e0 : Int) (w : World) :
    Calls Try.prog 24 #[.agg #[.slice A0 n0 c0, .slice A1 n1 c1, .slice A2 n2 c2, .slice A3 n3 c3, .int .u64 ver], .int .i64 e0] w fun e w' => e = .returned (.tuple #[.agg #[.slice A0 n0 c0, .slice A1 n1 c1, .slice A2 n2 c2, .slice A3 n3 c3, .int .u64 ver], .agg #[.int .i64 e0, .string ⟨#[]⟩, .int .u64 0, .bool false, .bool false]]) ∧ Below w.heap.size w w' := shardNo_calls A0 n0 c0 A1 n1 c1 A2 n2 c2 A3 n3 c3 ver e0 w
end Go.Proofs.Ytmcgcdpiceikeaa.PAll
end
section
/- shard.asks: where lock.Ask says no. -/
namespace Go.Proofs.Ytmcgcdpiceikeaa.PAll
open Go.RowKit Go.Proofs.YtmcgcdpiceikeaaW.PrintWords Go.Proofs.YtmcgcdpiceikeaaW.PrintMore Go.Proofs.Ytmcgcdpiceikeaa
set_option linter.unusedVariables false
theorem lockAsk_calls (A : Option Addr) (c : Nat) (l : List S75) (t : S30) (key : ByteArray) (wt : Bool) (FA : Option Addr) (fc : Nat) (firm : List S30) (w : World) (hr : Kd.C k75 w A l.length l) (hc : l.length ≤ c) (hl : l.length * 40 ≤ 140737488355288) (hrf : Kd.C k30 w FA firm.length firm) (hfc : firm.length ≤ fc) (hfl : firm.length ≤ 8796093022208)
    (hok : ∀ x ∈ l, okTx x.f1) (hokf : ∀ x ∈ firm, okTx x) :
    Calls Try.prog 54 #[.slice A l.length c, .agg #[.int .u64 t.f0, .int .u64 t.f1], .string key, .bool wt, .slice FA firm.length fc] w (AskPost w (askV l t key wt firm)) := by
  by_cases hh : 0 ≤ findI (isHK t key) l ∧ ((atI l (findI (isHK t key) l)).f2 || !wt) = true
  · have e : askV l t key wt firm = (l, [], 0) := by unfold askV; rw [if_pos hh]
    rw [e]
    exact ask_there A c l t key wt _ firm w hr hc (by omega) hh
  · exact ask_go A c l t key wt FA fc firm w hr hc hl hrf hfc hfl hok hokf hh
theorem askOut {w w' : World} {a : List S75} {b : List S30} {c : Int} {e : Ending} (h : AskPost w (a, b, c) e w') : ∃ v1 v2 : Value, e = .returned (.tuple #[v1, v2, .int .i64 c]) ∧ Own 4 75 w' w.heap.size v1 (a.map enc75) ∧ Own 2 30 w' w.heap.size v2 (b.map enc30) ∧ Below w.heap.size w w' := h
theorem keepS {w0 : World} {n : Nat} {v0 v1 v2 v3 v4 u0 u1 u2 u3 u4 u5 u6 : Value} {q w1 : World} (h : q.cell? ⟨n, 0, none⟩ = some v0 ∧ q.cell? ⟨n, 1, none⟩ = some v1 ∧ q.cell? ⟨n, 2, none⟩ = some v2 ∧ q.cell? ⟨n, 3, none⟩ = some v3 ∧ q.cell? ⟨n, 4, none⟩ = some v4 ∧ q.cell? ⟨n + 1, 0, none⟩ = some u0 ∧ q.cell? ⟨n + 1, 1, none⟩ = some u1 ∧ q.cell? ⟨n + 1, 2, none⟩ = some u2 ∧ q.cell? ⟨n + 1, 3, none⟩ = some u3 ∧ q.cell? ⟨n + 1, 4, none⟩ = some u4 ∧ q.cell? ⟨n + 1, 5, none⟩ = some u5 ∧ q.cell? ⟨n + 1, 6, none⟩ = some u6 ∧ Below w0.heap.size w0 q) (hb : Below q.heap.size q w1) :
    w1.cell? ⟨n, 0, none⟩ = some v0 ∧ w1.cell? ⟨n, 1, none⟩ = some v1 ∧ w1.cell? ⟨n, 2, none⟩ = some v2 ∧ w1.cell? ⟨n, 3, none⟩ = some v3 ∧ w1.cell? ⟨n, 4, none⟩ = some v4 ∧ w1.cell? ⟨n + 1, 0, none⟩ = some u0 ∧ w1.cell? ⟨n + 1, 1, none⟩ = some u1 ∧ w1.cell? ⟨n + 1, 2, none⟩ = some u2 ∧ w1.cell? ⟨n + 1, 3, none⟩ = some u3 ∧ w1.cell? ⟨n + 1, 4, none⟩ = some u4 ∧ w1.cell? ⟨n + 1, 5, none⟩ = some u5 ∧ w1.cell? ⟨n + 1, 6, none⟩ = some u6 ∧ Below w0.heap.size w0 w1 := by
  obtain ⟨a0, a1, a2, a3, a4, b0, b1, b2, b3, b4, b5, b6, h⟩ := h
  have c {a : Addr} {v : Value} (e : q.cell? a = some v) : w1.cell? a = some v := (hb.cell (World.block_lt_of_cell? _ _ e)).trans e
  exact ⟨c a0, c a1, c a2, c a3, c a4, c b0, c b1, c b2, c b3, c b4, c b5, c b6, h.trans (hb.mono h.size)⟩
end Go.Proofs.Ytmcgcdpiceikeaa.PAll
end
