/- Joined texts of the claim DriveSteps (part 41): contracts of functions and plain laws. -/
import Derived.Test.YtkennobdoldlkaaJDriveSteps15
set_option linter.unusedVariables false
set_option linter.unusedSimpArgs false
section
namespace Go.Proofs.Ytkennobdoldlkaa.PAll
open Go.RowKit Go.Proofs.YtkennobdoldlkaaW.PrintWords Go.Proofs.YtkennobdoldlkaaW.PrintLast Go.Proofs.YtkennobdoldlkaaW.PrintMore
attribute [local go_sem] qz51 qz52 max_two min_two qz45 qz46 qz53 qz54
mutual
def ferruleref20_Puts.l0 : Nat → Int → List (S74) → Int → Int → Int → List (S53) → Option ((List (S74)))
  | 0, _, _, _, _, _, _ => none
  | k + 1, x1, x5, x6, x548000, x548001, x548002 => if x6 < (x548002.length : Int) then (if 0 ≤ x6 then (if ((qz7 x548002 x6).f0) = x1 then (ferruleref20_Puts.j1 k x1 x5 x6 (!((qz7 x548002 x6).f3)) x548000 x548001 x548002 ((qz7 x548002 x6).f0) ((qz7 x548002 x6).f1) ((qz7 x548002 x6).f2) ((qz7 x548002 x6).f3) ((qz7 x548002 x6).f4)) else (ferruleref20_Puts.j1 k x1 x5 x6 true x548000 x548001 x548002 ((qz7 x548002 x6).f0) ((qz7 x548002 x6).f1) ((qz7 x548002 x6).f2) ((qz7 x548002 x6).f3) ((qz7 x548002 x6).f4))) else (none)) else (some x5)
def ferruleref20_Puts.j1 : Nat → Int → List (S74) → Int → Bool → Int → Int → List (S53) → Int → ByteArray → ByteArray → Bool → Bool → Option ((List (S74)))
  | 0, _, _, _, _, _, _, _, _, _, _, _, _ => none
  | k + 1, x1, x5, x6, x30, x548000, x548001, x548002, x550000, x550001, x550002, x550003, x550004 => if x30 = true then (ferruleref20_Puts.l0 k x1 x5 (wrap64 (x6 + 1)) x548000 x548001 x548002) else (ferruleref20_Puts.l1 k x1 x5 x6 false 0 x548000 x548001 x548002 x550000 x550001 x550002 x550003 x550004)
def ferruleref20_Puts.l1 : Nat → Int → List (S74) → Int → Bool → Int → Int → Int → List (S53) → Int → ByteArray → ByteArray → Bool → Bool → Option ((List (S74)))
  | 0, _, _, _, _, _, _, _, _, _, _, _, _, _ => none
  | k + 1, x1, x5, x6, x8, x9, x548000, x548001, x548002, x550000, x550001, x550002, x550003, x550004 => if x9 < (x5.length : Int) then (if 0 ≤ x9 then (if ((qz18 x5 x9).f0).toList = x550001.toList then ((some (x5.set (x9 : Int).toNat (⟨(qz18 x5 x9).f0, x550002, (qz18 x5 x9).f2⟩ : S74) : List (S74))).bind fun y551 => (ferruleref20_Puts.l1 k x1 (y551.set (x9 : Int).toNat (⟨(qz18 y551 x9).f0, (qz18 y551 x9).f1, x550004⟩ : S74)) x6 true (wrap64 (x9 + 1)) x548000 x548001 x548002 x550000 x550001 x550002 x550003 x550004)) else (ferruleref20_Puts.l1 k x1 x5 x6 x8 (wrap64 (x9 + 1)) x548000 x548001 x548002 x550000 x550001 x550002 x550003 x550004)) else (none)) else (if x8 = true then (ferruleref20_Puts.l0 k x1 x5 (wrap64 (x6 + 1)) x548000 x548001 x548002) else (if x5.length < 3518437208883 then (ferruleref20_Puts.l0 k x1 (x5 ++ [(⟨x550001, x550002, x550004⟩ : S74)]) (wrap64 (x6 + 1)) x548000 x548001 x548002) else (none)))
end
def ferruleref20_Puts.f (k : Nat) (a0_0 : Int) (a0_1 : Int) (l0_2 : List (S53)) (a1 : Int) : Option ((List (S74))) := ferruleref20_Puts.l0 k a1 ([] : List (S74)) 0 a0_0 a0_1 l0_2
set_option maxHeartbeats 8000000 in
set_option maxRecDepth 100000 in
theorem ferruleref20_Puts.calls (k : Nat) (a0_0 : Int) (a0_1 : Int) (A0_2 : Option Addr) (c0_2 : Nat) (l0_2 : List (S53)) (a1 : Int) (r : List (S74)) (w : World) (hr0_2 : Kd.C k53 w A0_2 l0_2.length l0_2) (hc0_2 : l0_2.length ≤ c0_2) (h : ferruleref20_Puts.f k a0_0 a0_1 l0_2 a1 = some r) :
    Calls Try.prog 22 #[.agg #[.int .u64 a0_0, .int .u64 a0_1, .slice A0_2 l0_2.length c0_2], .int .u64 a1] w fun e w' => ∃ v0_ : Value, e = .returned (v0_) ∧ Kd.R k74 74 w' w.heap.size (fun _ => True) v0_ r ∧ Below w.heap.size w w' := by
  have hu27 := Try.underlying27
  have hu53 := Try.underlying53
  have hu74 := Try.underlying74
  have HR0_2 := qza.mk hr0_2
  have HC0_2 := qza.mk hc0_2
  clear hr0_2 hc0_2
  have HB := qza.mk (Below.refl w.heap.size w)
  have H : (ferruleref20_Puts.l0 k a1 ([] : List (S74)) 0 a0_0 a0_1 l0_2) = some r := h
  clear h
  have H' := qza.mk H
  clear H
  go_enter Try.func22, Try.ntmps22
  go_wp2_with (first | ((with_reducible refine qz31 (N := 2) rfl ?_); refine qz32 ?hg (N := 2) ?hd (cs := #[.int .u64 a0_0, .int .u64 a0_1, .slice A0_2 l0_2.length c0_2]) (t := 27) ?hr ?_; (case hd => rfl); (case hg => rfl); (case hr => first | (go_simp; done) | (go_simp; rfl)); intro gb547 hg w3 hbox hb; have n0_ := qza.mk (qz25 (by repeat (first | (with_reducible first | exact HB.out | apply qz10 | apply qz5 | apply qz9) | exact HB.out)) hb); have n1_ := qza.mk (hbox); have n2_ := qza.mk ((by rw [hg]; exact (qz15 (by repeat (first | (with_reducible first | exact HB.out | apply qz10 | apply qz5 | apply qz9) | exact HB.out))) : w.heap.size ≤ gb547)); have n3_ := qza.mk ((by rw [hg]; exact (qz15 (by repeat (first | (with_reducible first | exact HB.out | apply qz10 | apply qz5 | apply qz9) | exact HB.out))) : w.heap.size ≤ gb547)); clear HB; have HB := n0_; have BK547 := n1_; have GW547 := n2_; have GE547 := n3_; clear n0_ n1_ n2_ n3_; clear hb hbox hg))
  repeat (go_quiet (first | ((with_reducible refine qz31 (N := 2) rfl ?_); refine qz32 ?hg (N := 2) ?hd (cs := #[.int .u64 a0_0, .int .u64 a0_1, .slice A0_2 l0_2.length c0_2]) (t := 27) ?hr ?_; (case hd => rfl); (case hg => rfl); (case hr => first | (go_simp; done) | (go_simp; rfl)); intro gb547 hg w3 hbox hb; have n0_ := qza.mk (qz25 (by repeat (first | (with_reducible first | exact HB.out | apply qz10 | apply qz5 | apply qz9) | exact HB.out)) hb); have n1_ := qza.mk (hbox); have n2_ := qza.mk ((by rw [hg]; exact (qz15 (by repeat (first | (with_reducible first | exact HB.out | apply qz10 | apply qz5 | apply qz9) | exact HB.out))) : w.heap.size ≤ gb547)); have n3_ := qza.mk ((by rw [hg]; exact (qz15 (by repeat (first | (with_reducible first | exact HB.out | apply qz10 | apply qz5 | apply qz9) | exact HB.out))) : w.heap.size ≤ gb547)); clear HB; have HB := n0_; have BK547 := n1_; have GW547 := n2_; have GE547 := n3_; clear n0_ n1_ n2_ n3_; clear hb hbox hg)); try go_wp2_with (first | ((with_reducible refine qz31 (N := 2) rfl ?_); refine qz32 ?hg (N := 2) ?hd (cs := #[.int .u64 a0_0, .int .u64 a0_1, .slice A0_2 l0_2.length c0_2]) (t := 27) ?hr ?_; (case hd => rfl); (case hg => rfl); (case hr => first | (go_simp; done) | (go_simp; rfl)); intro gb547 hg w3 hbox hb; have n0_ := qza.mk (qz25 (by repeat (first | (with_reducible first | exact HB.out | apply qz10 | apply qz5 | apply qz9) | exact HB.out)) hb); have n1_ := qza.mk (hbox); have n2_ := qza.mk ((by rw [hg]; exact (qz15 (by repeat (first | (with_reducible first | exact HB.out | apply qz10 | apply qz5 | apply qz9) | exact HB.out))) : w.heap.size ≤ gb547)); have n3_ := qza.mk ((by rw [hg]; exact (qz15 (by repeat (first | (with_reducible first | exact HB.out | apply qz10 | apply qz5 | apply qz9) | exact HB.out))) : w.heap.size ≤ gb547)); clear HB; have HB := n0_; have BK547 := n1_; have GW547 := n2_; have GE547 := n3_; clear n0_ n1_ n2_ n3_; clear hb hbox hg)))
  go_loopg [5, 6] k (fun kq v5 v6 w' => ∃ (x5_1 : List (S74)) (x6_1 : Int), v6 = .int .i64 x6_1 ∧ qza (ferruleref20_Puts.l0 kq a1 x5_1 x6_1 a0_0 a0_1 l0_2 = some r) ∧ qza (kq ≤ k) ∧ qza (Kd.R k74 74 w' w.heap.size (fun _ => True) v5 x5_1) ∧ qza (w'.heap[gb547]? = some (.cells #[.int .u64 a0_0, .int .u64 a0_1, (.slice A0_2 l0_2.length c0_2)] 27 (0, 0))) ∧ qza (Below w.heap.size w w'))
  case atStart => exact ⟨(([] : List (S74))), (0), (by first | rfl | (simp; done) | (simp [*]; done)), H', ⟨Nat.le_refl _⟩, ⟨by first | exact Kd.R_nil _ _ _ _ _ | exact Kd.N_nil _ _ _ _ _ | exact Kd.V_nil _ _ _ _ _ | exact Kd.Q_nil _ _ _ _ _ | exact Kd.S_nil _ _ _ _ _⟩, ⟨by (with_reducible repeat (first | refine qz3 ?_ _ | refine qz6 ?_ | refine qz4 ?_ _)); exact BK547.out⟩, ⟨by repeat (first | (with_reducible first | exact HB.out | apply qz10 | apply qz5 | apply qz9 | refine qz8 ?_ GE547.out) | exact HB.out)⟩⟩
  case round =>
    clear H'
    try clear c2
    try clear p2
    obtain ⟨x5_1, x6_1, rfl, HA, HK1, HO_5, BK547, HB⟩ := hrel
    cases gk with
    | zero => exact absurd HA.out (by simp [ferruleref20_Puts.l0])
    | succ k1 =>
      have H := HA.out
      clear HA
      simp only [ferruleref20_Puts.l0] at H
      by_cases c4 : x6_1 < (l0_2.length : Int)
      · rw [if_pos c4] at H
        have c4b0 : decide (x6_1 < (l0_2.length : Int)) = true := decide_eq_true c4
        clear c4
        by_cases c5 : 0 ≤ x6_1
        · rw [if_pos c5] at H
          have c5b0 : decide (0 ≤ x6_1) = true := decide_eq_true c5
          clear c5
          have HC6 := qza.mk H
          clear H
          have hcz7_0 : wr.cell? ⟨gb547, 0, none⟩ = some (.int .u64 a0_0) := (qz1 BK547.out 0).trans rfl
          have hcz7_1 : wr.cell? ⟨gb547, 1, none⟩ = some (.int .u64 a0_1) := (qz1 BK547.out 1).trans rfl
          have hcz7_2 : wr.cell? ⟨gb547, 2, none⟩ = some (.slice A0_2 l0_2.length c0_2) := (qz1 BK547.out 2).trans rfl
          have hfz7_0 := qz0 BK547.out 0
          have hfz7_1 := qz0 BK547.out 1
          have hfz7_2 := qz0 BK547.out 2
          have p548 : 0 ≤ (x6_1 : Int) := of_decide_eq_true (by first | (with_reducible assumption) | assumption)
          have q548 : x6_1 < (l0_2.length : Int) := of_decide_eq_true (by first | (with_reducible assumption) | assumption)
          obtain ⟨ad548, e548, hx548_0, hx548_1, hx548_2, hx548_3, hx548_4⟩ := at_T53 HR0_2.out x6_1 p548 q548
          cases e548
          replace hx548_0 := (HB.out.cell (World.block_lt_of_cell? w _ hx548_0)).trans hx548_0
          replace hx548_1 := (HB.out.cell (World.block_lt_of_cell? w _ hx548_1)).trans hx548_1
          replace hx548_2 := (HB.out.cell (World.block_lt_of_cell? w _ hx548_2)).trans hx548_2
          replace hx548_3 := (HB.out.cell (World.block_lt_of_cell? w _ hx548_3)).trans hx548_3
          replace hx548_4 := (HB.out.cell (World.block_lt_of_cell? w _ hx548_4)).trans hx548_4
          replace p548 := eq_true p548
          replace q548 := eq_true q548
          go_upto_region 6 with (first | ((with_reducible refine qz31 (N := 7) rfl ?_); refine qz32 ?hg (N := 7) ?hd (cs := #[.int .u64 0, .string (⟨#[]⟩ : ByteArray), .string (⟨#[]⟩ : ByteArray), .bool false, .bool false]) (t := 53) ?hr ?_; (case hd => rfl); (case hg => rfl); (case hr => first | (go_simp; done) | (go_simp; rfl)); intro gb549 hg w8 hbox hb; have n0_ := qza.mk (Kd.R_below (by (with_reducible repeat (first | apply Kd.R_alloc | apply Kd.R_drewN | apply Kd.R_drew)); exact HO_5.out) hb); have n1_ := qza.mk (qz35 (g := gb547) (o := .cells #[.int .u64 a0_0, .int .u64 a0_1, .slice (some ad548) l0_2.length c0_2] 27 (0, 0)) (by (with_reducible repeat (first | refine qz3 ?_ _ | refine qz6 ?_ | refine qz4 ?_ _)); exact BK547.out) hb); have n2_ := qza.mk (qz25 (by repeat (first | (with_reducible first | exact HB.out | apply qz10 | apply qz5 | apply qz9 | refine qz8 ?_ GE547.out) | exact HB.out)) hb); have n3_ := qza.mk (hbox); have n4_ := qza.mk ((by rw [hg]; exact (qz15 (by repeat (first | (with_reducible first | exact HB.out | apply qz10 | apply qz5 | apply qz9 | refine qz8 ?_ GE547.out) | exact HB.out))) : w.heap.size ≤ gb549)); have n5_ := qza.mk ((by rw [hg]; exact (qz15 (by repeat (first | (with_reducible first | exact HB.out | apply qz10 | apply qz5 | apply qz9 | refine qz8 ?_ GE547.out) | exact HB.out))) : w.heap.size ≤ gb549)); have n6_ := qza.mk ((by rw [hg]; exact Nat.ne_of_lt (qz36 (g := gb547) (o := .cells #[.int .u64 a0_0, .int .u64 a0_1, .slice (some ad548) l0_2.length c0_2] 27 (0, 0)) (by (with_reducible repeat (first | refine qz3 ?_ _ | refine qz6 ?_ | refine qz4 ?_ _)); exact BK547.out)) : gb547 ≠ gb549)); have n7_ := qza.mk ((by rw [hg]; exact Nat.ne_of_gt (qz36 (g := gb547) (o := .cells #[.int .u64 a0_0, .int .u64 a0_1, .slice (some ad548) l0_2.length c0_2] 27 (0, 0)) (by (with_reducible repeat (first | refine qz3 ?_ _ | refine qz6 ?_ | refine qz4 ?_ _)); exact BK547.out)) : gb549 ≠ gb547)); clear HO_5; clear BK547; clear HB; have HO_5 := n0_; have BK547 := n1_; have HB := n2_; have BK549 := n3_; have GW549 := n4_; have GE549 := n5_; have NB547_549 := n6_; have NB549_547 := n7_; clear n0_ n1_ n2_ n3_ n4_ n5_ n6_ n7_; clear hb hbox hg; have hnb9 := NB549_547.out; have hnc9 := NB547_549.out; have hcz10_0 : w8.cell? ⟨gb549, 0, none⟩ = some (.int .u64 0) := (qz1 BK549.out 0).trans rfl; have hcz10_1 : w8.cell? ⟨gb549, 1, none⟩ = some (.string (⟨#[]⟩ : ByteArray)) := (qz1 BK549.out 1).trans rfl; have hcz10_2 : w8.cell? ⟨gb549, 2, none⟩ = some (.string (⟨#[]⟩ : ByteArray)) := (qz1 BK549.out 2).trans rfl; have hcz10_3 : w8.cell? ⟨gb549, 3, none⟩ = some (.bool false) := (qz1 BK549.out 3).trans rfl; have hcz10_4 : w8.cell? ⟨gb549, 4, none⟩ = some (.bool false) := (qz1 BK549.out 4).trans rfl; have hfz10_0 := qz0 BK549.out 0; have hfz10_1 := qz0 BK549.out 1; have hfz10_2 := qz0 BK549.out 2; have hfz10_3 := qz0 BK549.out 3; have hfz10_4 := qz0 BK549.out 4))
          repeat (go_quiet (first | ((with_reducible refine qz31 (N := 7) rfl ?_); refine qz32 ?hg (N := 7) ?hd (cs := #[.int .u64 0, .string (⟨#[]⟩ : ByteArray), .string (⟨#[]⟩ : ByteArray), .bool false, .bool false]) (t := 53) ?hr ?_; (case hd => rfl); (case hg => rfl); (case hr => first | (go_simp; done) | (go_simp; rfl)); intro gb549 hg w8 hbox hb; have n0_ := qza.mk (Kd.R_below (by (with_reducible repeat (first | apply Kd.R_alloc | apply Kd.R_drewN | apply Kd.R_drew)); exact HO_5.out) hb); have n1_ := qza.mk (qz35 (g := gb547) (o := .cells #[.int .u64 a0_0, .int .u64 a0_1, .slice (some ad548) l0_2.length c0_2] 27 (0, 0)) (by (with_reducible repeat (first | refine qz3 ?_ _ | refine qz6 ?_ | refine qz4 ?_ _)); exact BK547.out) hb); have n2_ := qza.mk (qz25 (by repeat (first | (with_reducible first | exact HB.out | apply qz10 | apply qz5 | apply qz9 | refine qz8 ?_ GE547.out) | exact HB.out)) hb); have n3_ := qza.mk (hbox); have n4_ := qza.mk ((by rw [hg]; exact (qz15 (by repeat (first | (with_reducible first | exact HB.out | apply qz10 | apply qz5 | apply qz9 | refine qz8 ?_ GE547.out) | exact HB.out))) : w.heap.size ≤ gb549)); have n5_ := qza.mk ((by rw [hg]; exact (qz15 (by repeat (first | (with_reducible first | exact HB.out | apply qz10 | apply qz5 | apply qz9 | refine qz8 ?_ GE547.out) | exact HB.out))) : w.heap.size ≤ gb549)); have n6_ := qza.mk ((by rw [hg]; exact Nat.ne_of_lt (qz36 (g := gb547) (o := .cells #[.int .u64 a0_0, .int .u64 a0_1, .slice (some ad548) l0_2.length c0_2] 27 (0, 0)) (by (with_reducible repeat (first | refine qz3 ?_ _ | refine qz6 ?_ | refine qz4 ?_ _)); exact BK547.out)) : gb547 ≠ gb549)); have n7_ := qza.mk ((by rw [hg]; exact Nat.ne_of_gt (qz36 (g := gb547) (o := .cells #[.int .u64 a0_0, .int .u64 a0_1, .slice (some ad548) l0_2.length c0_2] 27 (0, 0)) (by (with_reducible repeat (first | refine qz3 ?_ _ | refine qz6 ?_ | refine qz4 ?_ _)); exact BK547.out)) : gb549 ≠ gb547)); clear HO_5; clear BK547; clear HB; have HO_5 := n0_; have BK547 := n1_; have HB := n2_; have BK549 := n3_; have GW549 := n4_; have GE549 := n5_; have NB547_549 := n6_; have NB549_547 := n7_; clear n0_ n1_ n2_ n3_ n4_ n5_ n6_ n7_; clear hb hbox hg; have hnb9 := NB549_547.out; have hnc9 := NB547_549.out; have hcz10_0 : w8.cell? ⟨gb549, 0, none⟩ = some (.int .u64 0) := (qz1 BK549.out 0).trans rfl; have hcz10_1 : w8.cell? ⟨gb549, 1, none⟩ = some (.string (⟨#[]⟩ : ByteArray)) := (qz1 BK549.out 1).trans rfl; have hcz10_2 : w8.cell? ⟨gb549, 2, none⟩ = some (.string (⟨#[]⟩ : ByteArray)) := (qz1 BK549.out 2).trans rfl; have hcz10_3 : w8.cell? ⟨gb549, 3, none⟩ = some (.bool false) := (qz1 BK549.out 3).trans rfl; have hcz10_4 : w8.cell? ⟨gb549, 4, none⟩ = some (.bool false) := (qz1 BK549.out 4).trans rfl; have hfz10_0 := qz0 BK549.out 0; have hfz10_1 := qz0 BK549.out 1; have hfz10_2 := qz0 BK549.out 2; have hfz10_3 := qz0 BK549.out 3; have hfz10_4 := qz0 BK549.out 4)); go_upto_region 6 with (first | ((with_reducible refine qz31 (N := 7) rfl ?_); refine qz32 ?hg (N := 7) ?hd (cs := #[.int .u64 0, .string (⟨#[]⟩ : ByteArray), .string (⟨#[]⟩ : ByteArray), .bool false, .bool false]) (t := 53) ?hr ?_; (case hd => rfl); (case hg => rfl); (case hr => first | (go_simp; done) | (go_simp; rfl)); intro gb549 hg w8 hbox hb; have n0_ := qza.mk (Kd.R_below (by (with_reducible repeat (first | apply Kd.R_alloc | apply Kd.R_drewN | apply Kd.R_drew)); exact HO_5.out) hb); have n1_ := qza.mk (qz35 (g := gb547) (o := .cells #[.int .u64 a0_0, .int .u64 a0_1, .slice (some ad548) l0_2.length c0_2] 27 (0, 0)) (by (with_reducible repeat (first | refine qz3 ?_ _ | refine qz6 ?_ | refine qz4 ?_ _)); exact BK547.out) hb); have n2_ := qza.mk (qz25 (by repeat (first | (with_reducible first | exact HB.out | apply qz10 | apply qz5 | apply qz9 | refine qz8 ?_ GE547.out) | exact HB.out)) hb); have n3_ := qza.mk (hbox); have n4_ := qza.mk ((by rw [hg]; exact (qz15 (by repeat (first | (with_reducible first | exact HB.out | apply qz10 | apply qz5 | apply qz9 | refine qz8 ?_ GE547.out) | exact HB.out))) : w.heap.size ≤ gb549)); have n5_ := qza.mk ((by rw [hg]; exact (qz15 (by repeat (first | (with_reducible first | exact HB.out | apply qz10 | apply qz5 | apply qz9 | refine qz8 ?_ GE547.out) | exact HB.out))) : w.heap.size ≤ gb549)); have n6_ := qza.mk ((by rw [hg]; exact Nat.ne_of_lt (qz36 (g := gb547) (o := .cells #[.int .u64 a0_0, .int .u64 a0_1, .slice (some ad548) l0_2.length c0_2] 27 (0, 0)) (by (with_reducible repeat (first | refine qz3 ?_ _ | refine qz6 ?_ | refine qz4 ?_ _)); exact BK547.out)) : gb547 ≠ gb549)); have n7_ := qza.mk ((by rw [hg]; exact Nat.ne_of_gt (qz36 (g := gb547) (o := .cells #[.int .u64 a0_0, .int .u64 a0_1, .slice (some ad548) l0_2.length c0_2] 27 (0, 0)) (by (with_reducible repeat (first | refine qz3 ?_ _ | refine qz6 ?_ | refine qz4 ?_ _)); exact BK547.out)) : gb549 ≠ gb547)); clear HO_5; clear BK547; clear HB; have HO_5 := n0_; have BK547 := n1_; have HB := n2_; have BK549 := n3_; have GW549 := n4_; have GE549 := n5_; have NB547_549 := n6_; have NB549_547 := n7_; clear n0_ n1_ n2_ n3_ n4_ n5_ n6_ n7_; clear hb hbox hg; have hnb9 := NB549_547.out; have hnc9 := NB547_549.out; have hcz10_0 : w8.cell? ⟨gb549, 0, none⟩ = some (.int .u64 0) := (qz1 BK549.out 0).trans rfl; have hcz10_1 : w8.cell? ⟨gb549, 1, none⟩ = some (.string (⟨#[]⟩ : ByteArray)) := (qz1 BK549.out 1).trans rfl; have hcz10_2 : w8.cell? ⟨gb549, 2, none⟩ = some (.string (⟨#[]⟩ : ByteArray)) := (qz1 BK549.out 2).trans rfl; have hcz10_3 : w8.cell? ⟨gb549, 3, none⟩ = some (.bool false) := (qz1 BK549.out 3).trans rfl; have hcz10_4 : w8.cell? ⟨gb549, 4, none⟩ = some (.bool false) := (qz1 BK549.out 4).trans rfl; have hfz10_0 := qz0 BK549.out 0; have hfz10_1 := qz0 BK549.out 1; have hfz10_2 := qz0 BK549.out 2; have hfz10_3 := qz0 BK549.out 3; have hfz10_4 := qz0 BK549.out 4)))
          (try simp only [Act.put, List.setIfInBounds_toArray, List.set_cons_zero, List.set_cons_succ])
          go_cut [30] (fun v30 wc => ∃ (kq : Nat) (x30_5 : Bool), v30 = .bool x30_5 ∧ qza (ferruleref20_Puts.j1 kq a1 x5_1 x6_1 x30_5 a0_0 a0_1 l0_2 ((qz7 l0_2 x6_1).f0) ((qz7 l0_2 x6_1).f1) ((qz7 l0_2 x6_1).f2) ((qz7 l0_2 x6_1).f3) ((qz7 l0_2 x6_1).f4) = some r) ∧ qza (kq ≤ k1) ∧ qza (Kd.R k74 74 wc w.heap.size (fun _ => True) u5 x5_1) ∧ qza (wc.heap[gb547]? = some (.cells #[.int .u64 a0_0, .int .u64 a0_1, (.slice (some ad548) l0_2.length c0_2)] 27 (0, 0))) ∧ qza (wc.heap[gb549]? = some (.cells #[.int .u64 ((qz7 l0_2 x6_1).f0), .string ((qz7 l0_2 x6_1).f1), .string ((qz7 l0_2 x6_1).f2), .bool ((qz7 l0_2 x6_1).f3), .bool ((qz7 l0_2 x6_1).f4)] 53 (0, 0))) ∧ qza (Below w.heap.size w wc))
          case first =>
            have H := HC6.out
            clear HC6
            by_cases c11 : ((qz7 l0_2 x6_1).f0) = a1
            · rw [if_pos c11] at H
              have c11b0 : (((qz7 l0_2 x6_1).f0) == a1) = true := beq_iff_eq.mpr c11
              have c11b1 : (((qz7 l0_2 x6_1).f0) != a1) = false := bne_eq_false_iff_eq.mpr c11
              clear c11
              (first | rw [c11b0] | (simp only [i64_w, i32_w]; rw [c11b0]) | skip)
              have H' := qza.mk H
              clear H
              have hnb12 := NB549_547.out
              have hnc12 := NB547_549.out
              have hcz13_0 : w8.cell? ⟨gb549, 0, none⟩ = some (.int .u64 0) := (qz1 BK549.out 0).trans rfl
              have hcz13_1 : w8.cell? ⟨gb549, 1, none⟩ = some (.string (⟨#[]⟩ : ByteArray)) := (qz1 BK549.out 1).trans rfl
              have hcz13_2 : w8.cell? ⟨gb549, 2, none⟩ = some (.string (⟨#[]⟩ : ByteArray)) := (qz1 BK549.out 2).trans rfl
              have hcz13_3 : w8.cell? ⟨gb549, 3, none⟩ = some (.bool false) := (qz1 BK549.out 3).trans rfl
              have hcz13_4 : w8.cell? ⟨gb549, 4, none⟩ = some (.bool false) := (qz1 BK549.out 4).trans rfl
              have hfz13_0 := qz0 BK549.out 0
              have hfz13_1 := qz0 BK549.out 1
              have hfz13_2 := qz0 BK549.out 2
              have hfz13_3 := qz0 BK549.out 3
              have hfz13_4 := qz0 BK549.out 4
              go_wp2
              repeat (go_quiet (fail); try go_wp2)
              go_meet
              case rel => exact ⟨_, (!((qz7 l0_2 x6_1).f3)), (by first | rfl | (simp; done) | (simp [*]; done)), H', ⟨by have := HK1.out; first | omega | exact Nat.le_refl _⟩, ⟨by (with_reducible repeat (first | apply Kd.R_alloc | apply Kd.R_drewN | apply Kd.R_drew)); exact Kd.R_mono (Kd.R_far (p := ⟨gb549, 4, none⟩) (Kd.R_far (p := ⟨gb549, 3, none⟩) (Kd.R_far (p := ⟨gb549, 2, none⟩) (Kd.R_far (p := ⟨gb549, 1, none⟩) (Kd.R_far (p := ⟨gb549, 0, none⟩) (Kd.R_types HO_5.out BK549.out (by decide)) (fun _ hk => hk.2) (.int .u64 ((qz7 l0_2 x6_1).f0))) (fun _ hk => hk.2) (.string ((qz7 l0_2 x6_1).f1))) (fun _ hk => hk.2) (.string ((qz7 l0_2 x6_1).f2))) (fun _ hk => hk.2) (.bool ((qz7 l0_2 x6_1).f3))) (fun _ hk => hk.2) (.bool ((qz7 l0_2 x6_1).f4))) (fun _ hk => trivial)⟩, ⟨by (with_reducible repeat (first | refine qz3 ?_ _ | refine qz6 ?_ | refine qz4 ?_ _)); refine qz29 ?_ NB547_549.out _; (with_reducible repeat (first | refine qz3 ?_ _ | refine qz6 ?_ | refine qz4 ?_ _)); refine qz29 ?_ NB547_549.out _; (with_reducible repeat (first | refine qz3 ?_ _ | refine qz6 ?_ | refine qz4 ?_ _)); refine qz29 ?_ NB547_549.out _; (with_reducible repeat (first | refine qz3 ?_ _ | refine qz6 ?_ | refine qz4 ?_ _)); refine qz29 ?_ NB547_549.out _; (with_reducible repeat (first | refine qz3 ?_ _ | refine qz6 ?_ | refine qz4 ?_ _)); refine qz29 ?_ NB547_549.out _; (with_reducible repeat (first | refine qz3 ?_ _ | refine qz6 ?_ | refine qz4 ?_ _)); exact BK547.out⟩, ⟨by (with_reducible repeat (first | refine qz3 ?_ _ | refine qz6 ?_ | refine qz4 ?_ _)); refine qz12 (cs := #[.int .u64 ((qz7 l0_2 x6_1).f0), .string ((qz7 l0_2 x6_1).f1), .string ((qz7 l0_2 x6_1).f2), .bool ((qz7 l0_2 x6_1).f3), .bool false]) ?_ 4 _ rfl; (with_reducible repeat (first | refine qz3 ?_ _ | refine qz6 ?_ | refine qz4 ?_ _)); refine qz12 (cs := #[.int .u64 ((qz7 l0_2 x6_1).f0), .string ((qz7 l0_2 x6_1).f1), .string ((qz7 l0_2 x6_1).f2), .bool false, .bool false]) ?_ 3 _ rfl; (with_reducible repeat (first | refine qz3 ?_ _ | refine qz6 ?_ | refine qz4 ?_ _)); refine qz12 (cs := #[.int .u64 ((qz7 l0_2 x6_1).f0), .string ((qz7 l0_2 x6_1).f1), .string (⟨#[]⟩ : ByteArray), .bool false, .bool false]) ?_ 2 _ rfl; (with_reducible repeat (first | refine qz3 ?_ _ | refine qz6 ?_ | refine qz4 ?_ _)); refine qz12 (cs := #[.int .u64 ((qz7 l0_2 x6_1).f0), .string (⟨#[]⟩ : ByteArray), .string (⟨#[]⟩ : ByteArray), .bool false, .bool false]) ?_ 1 _ rfl; (with_reducible repeat (first | refine qz3 ?_ _ | refine qz6 ?_ | refine qz4 ?_ _)); refine qz12 (cs := #[.int .u64 0, .string (⟨#[]⟩ : ByteArray), .string (⟨#[]⟩ : ByteArray), .bool false, .bool false]) ?_ 0 _ rfl; (with_reducible repeat (first | refine qz3 ?_ _ | refine qz6 ?_ | refine qz4 ?_ _)); exact BK549.out⟩, ⟨by repeat (first | (with_reducible first | exact HB.out | apply qz10 | apply qz5 | apply qz9 | refine qz8 ?_ GE547.out | refine qz8 ?_ GE549.out) | exact HB.out)⟩⟩
            · rw [if_neg c11] at H
              have c11b0 : (((qz7 l0_2 x6_1).f0) == a1) = false := beq_eq_false_iff_ne.mpr c11
              have c11b1 : (((qz7 l0_2 x6_1).f0) != a1) = true := bne_iff_ne.mpr c11
              (first | rw [c11b0] | (simp only [i64_w, i32_w]; rw [c11b0]) | skip)
              have H' := qza.mk H
              clear H
              have hnb14 := NB549_547.out
              have hnc14 := NB547_549.out
              have hcz15_0 : w8.cell? ⟨gb549, 0, none⟩ = some (.int .u64 0) := (qz1 BK549.out 0).trans rfl
              have hcz15_1 : w8.cell? ⟨gb549, 1, none⟩ = some (.string (⟨#[]⟩ : ByteArray)) := (qz1 BK549.out 1).trans rfl
              have hcz15_2 : w8.cell? ⟨gb549, 2, none⟩ = some (.string (⟨#[]⟩ : ByteArray)) := (qz1 BK549.out 2).trans rfl
              have hcz15_3 : w8.cell? ⟨gb549, 3, none⟩ = some (.bool false) := (qz1 BK549.out 3).trans rfl
              have hcz15_4 : w8.cell? ⟨gb549, 4, none⟩ = some (.bool false) := (qz1 BK549.out 4).trans rfl
              have hfz15_0 := qz0 BK549.out 0
              have hfz15_1 := qz0 BK549.out 1
              have hfz15_2 := qz0 BK549.out 2
              have hfz15_3 := qz0 BK549.out 3
              have hfz15_4 := qz0 BK549.out 4
              go_wp2
              repeat (go_quiet (fail); try go_wp2)
              go_meet
              case rel => exact ⟨_, (true), (by first | rfl | (simp; done) | (simp [*]; done)), H', ⟨by have := HK1.out; first | omega | exact Nat.le_refl _⟩, ⟨by (with_reducible repeat (first | apply Kd.R_alloc | apply Kd.R_drewN | apply Kd.R_drew)); exact Kd.R_mono (Kd.R_far (p := ⟨gb549, 4, none⟩) (Kd.R_far (p := ⟨gb549, 3, none⟩) (Kd.R_far (p := ⟨gb549, 2, none⟩) (Kd.R_far (p := ⟨gb549, 1, none⟩) (Kd.R_far (p := ⟨gb549, 0, none⟩) (Kd.R_types HO_5.out BK549.out (by decide)) (fun _ hk => hk.2) (.int .u64 ((qz7 l0_2 x6_1).f0))) (fun _ hk => hk.2) (.string ((qz7 l0_2 x6_1).f1))) (fun _ hk => hk.2) (.string ((qz7 l0_2 x6_1).f2))) (fun _ hk => hk.2) (.bool ((qz7 l0_2 x6_1).f3))) (fun _ hk => hk.2) (.bool ((qz7 l0_2 x6_1).f4))) (fun _ hk => trivial)⟩, ⟨by (with_reducible repeat (first | refine qz3 ?_ _ | refine qz6 ?_ | refine qz4 ?_ _)); refine qz29 ?_ NB547_549.out _; (with_reducible repeat (first | refine qz3 ?_ _ | refine qz6 ?_ | refine qz4 ?_ _)); refine qz29 ?_ NB547_549.out _; (with_reducible repeat (first | refine qz3 ?_ _ | refine qz6 ?_ | refine qz4 ?_ _)); refine qz29 ?_ NB547_549.out _; (with_reducible repeat (first | refine qz3 ?_ _ | refine qz6 ?_ | refine qz4 ?_ _)); refine qz29 ?_ NB547_549.out _; (with_reducible repeat (first | refine qz3 ?_ _ | refine qz6 ?_ | refine qz4 ?_ _)); refine qz29 ?_ NB547_549.out _; (with_reducible repeat (first | refine qz3 ?_ _ | refine qz6 ?_ | refine qz4 ?_ _)); exact BK547.out⟩, ⟨by (with_reducible repeat (first | refine qz3 ?_ _ | refine qz6 ?_ | refine qz4 ?_ _)); refine qz12 (cs := #[.int .u64 ((qz7 l0_2 x6_1).f0), .string ((qz7 l0_2 x6_1).f1), .string ((qz7 l0_2 x6_1).f2), .bool ((qz7 l0_2 x6_1).f3), .bool false]) ?_ 4 _ rfl; (with_reducible repeat (first | refine qz3 ?_ _ | refine qz6 ?_ | refine qz4 ?_ _)); refine qz12 (cs := #[.int .u64 ((qz7 l0_2 x6_1).f0), .string ((qz7 l0_2 x6_1).f1), .string ((qz7 l0_2 x6_1).f2), .bool false, .bool false]) ?_ 3 _ rfl; (with_reducible repeat (first | refine qz3 ?_ _ | refine qz6 ?_ | refine qz4 ?_ _)); refine qz12 (cs := #[.int .u64 ((qz7 l0_2 x6_1).f0), .string ((qz7 l0_2 x6_1).f1), .string (⟨#[]⟩ : ByteArray), .bool false, .bool false]) ?_ 2 _ rfl; (with_reducible repeat (first | refine qz3 ?_ _ | refine qz6 ?_ | refine qz4 ?_ _)); refine qz12 (cs := #[.int .u64 ((qz7 l0_2 x6_1).f0), .string (⟨#[]⟩ : ByteArray), .string (⟨#[]⟩ : ByteArray), .bool false, .bool false]) ?_ 1 _ rfl; (with_reducible repeat (first | refine qz3 ?_ _ | refine qz6 ?_ | refine qz4 ?_ _)); refine qz12 (cs := #[.int .u64 0, .string (⟨#[]⟩ : ByteArray), .string (⟨#[]⟩ : ByteArray), .bool false, .bool false]) ?_ 0 _ rfl; (with_reducible repeat (first | refine qz3 ?_ _ | refine qz6 ?_ | refine qz4 ?_ _)); exact BK549.out⟩, ⟨by repeat (first | (with_reducible first | exact HB.out | apply qz10 | apply qz5 | apply qz9 | refine qz8 ?_ GE547.out | refine qz8 ?_ GE549.out) | exact HB.out)⟩⟩
          case rest =>
            clear HC6
            try clear c1
            try clear c2
            try clear p2
            try clear c4
            try clear c4b0
            try clear c5
            try clear c5b0
            try clear p5
            try clear q5
            try clear hx5
            try clear c9
            try clear c11
            try clear c11b0
            try clear c11b1
            try clear c12
            try clear c14
            try clear hcz10_0
            try clear hcz10_1
            try clear hcz10_2
            try clear hcz10_3
            try clear hcz10_4
            try clear hcz13_0
            try clear hcz13_1
            try clear hcz13_2
            try clear hcz13_3
            try clear hcz13_4
            try clear hcz15_0
            try clear hcz15_1
            try clear hcz15_2
            try clear hcz15_3
            try clear hcz15_4
            try clear hcz7_0
            try clear hcz7_1
            try clear hcz7_2
            try clear hfz10_0
            try clear hfz10_1
            try clear hfz10_2
            try clear hfz10_3
            try clear hfz10_4
            try clear hfz13_0
            try clear hfz13_1
            try clear hfz13_2
            try clear hfz13_3
            try clear hfz13_4
            try clear hfz15_0
            try clear hfz15_1
            try clear hfz15_2
            try clear hfz15_3
            try clear hfz15_4
            try clear hfz7_0
            try clear hfz7_1
            try clear hfz7_2
            try clear hx548_0
            try clear hx548_1
            try clear hx548_2
            try clear hx548_3
            try clear hx548_4
            try clear p2
            try clear p548
            try clear q548
            obtain ⟨kq, x30_5, rfl, HA, HJ5, HO_5, BK547, BK549, HB⟩ := hcut
            cases kq with
            | zero => exact absurd HA.out (by simp [ferruleref20_Puts.j1])
            | succ kj5 =>
              have H := HA.out
              clear HA
              simp only [ferruleref20_Puts.j1] at H
              by_cases c16 : x30_5 = true
              · subst c16
                have H1 : (ferruleref20_Puts.l0 kj5 a1 x5_1 (wrap64 (x6_1 + 1)) a0_0 a0_1 l0_2) = some r := by rw [if_pos rfl] at H; exact H
                clear H
                have H := H1
                clear H1
                have H' := qza.mk H
                clear H
                go_wp2
                repeat (go_quiet (fail); try go_wp2)
                go_roundg kj5
                case measure => have := HK1.out; have := HJ5.out; omega
                case rel => exact ⟨(x5_1), (wrap64 (x6_1 + 1)), (by first | rfl | (simp; done) | (simp [*]; done)), H', ⟨by have := HK1.out; have := HJ5.out; omega⟩, ⟨by (with_reducible repeat (first | apply Kd.R_alloc | apply Kd.R_drewN | apply Kd.R_drew)); exact HO_5.out⟩, ⟨by (with_reducible repeat (first | refine qz3 ?_ _ | refine qz6 ?_ | refine qz4 ?_ _)); exact BK547.out⟩, ⟨by repeat (first | (with_reducible first | exact HB.out | apply qz10 | apply qz5 | apply qz9 | refine qz8 ?_ GE547.out | refine qz8 ?_ GE549.out) | exact HB.out)⟩⟩
              · replace c16 := Bool.eq_false_iff.mpr c16
                subst c16
                have H1 : (ferruleref20_Puts.l1 kj5 a1 x5_1 x6_1 false 0 a0_0 a0_1 l0_2 ((qz7 l0_2 x6_1).f0) ((qz7 l0_2 x6_1).f1) ((qz7 l0_2 x6_1).f2) ((qz7 l0_2 x6_1).f3) ((qz7 l0_2 x6_1).f4)) = some r := by rw [if_neg (show ¬ (false = true) by decide)] at H; exact H
                clear H
                have H := H1
                clear H1
                have H' := qza.mk H
                clear H
                go_wp2
                repeat (go_quiet (fail); try go_wp2)
                go_loopg [8, 9] kj5 (fun kq v8 v9 w' => ∃ (x5_3 : List (S74)) (x8_3 : Bool) (x9_3 : Int), v8 = .bool x8_3 ∧ v9 = .int .i64 x9_3 ∧ qza (ferruleref20_Puts.l1 kq a1 x5_3 x6_1 x8_3 x9_3 a0_0 a0_1 l0_2 ((qz7 l0_2 x6_1).f0) ((qz7 l0_2 x6_1).f1) ((qz7 l0_2 x6_1).f2) ((qz7 l0_2 x6_1).f3) ((qz7 l0_2 x6_1).f4) = some r) ∧ qza (kq ≤ kj5) ∧ qza (Kd.R k74 74 w' w.heap.size (fun _ => True) u5 x5_3) ∧ qza (w'.heap[gb547]? = some (.cells #[.int .u64 a0_0, .int .u64 a0_1, (.slice (some ad548) l0_2.length c0_2)] 27 (0, 0))) ∧ qza (w'.heap[gb549]? = some (.cells #[.int .u64 ((qz7 l0_2 x6_1).f0), .string ((qz7 l0_2 x6_1).f1), .string ((qz7 l0_2 x6_1).f2), .bool ((qz7 l0_2 x6_1).f3), .bool ((qz7 l0_2 x6_1).f4)] 53 (0, 0))) ∧ qza (Below w.heap.size w w'))
                case atStart => exact ⟨(x5_1), (false), (0), (by first | rfl | (simp; done) | (simp [*]; done)), (by first | rfl | (simp; done) | (simp [*]; done)), H', ⟨Nat.le_refl _⟩, ⟨by (with_reducible repeat (first | apply Kd.R_alloc | apply Kd.R_drewN | apply Kd.R_drew)); exact HO_5.out⟩, ⟨by (with_reducible repeat (first | refine qz3 ?_ _ | refine qz6 ?_ | refine qz4 ?_ _)); exact BK547.out⟩, ⟨by (with_reducible repeat (first | refine qz3 ?_ _ | refine qz6 ?_ | refine qz4 ?_ _)); exact BK549.out⟩, ⟨by repeat (first | (with_reducible first | exact HB.out | apply qz10 | apply qz5 | apply qz9 | refine qz8 ?_ GE547.out | refine qz8 ?_ GE549.out) | exact HB.out)⟩⟩
                case round =>
                  clear H'
                  try clear c1
                  try clear c2
                  try clear p2
                  try clear c4
                  try clear c4b0
                  try clear c5
                  try clear c5b0
                  try clear p5
                  try clear q5
                  try clear hx5
                  try clear p6
                  try clear c9
                  try clear c11
                  try clear c11b0
                  try clear c11b1
                  try clear c12
                  try clear c14
                  try clear c16
                  try clear hcz10_0
                  try clear hcz10_1
                  try clear hcz10_2
                  try clear hcz10_3
                  try clear hcz10_4
                  try clear hcz13_0
                  try clear hcz13_1
                  try clear hcz13_2
                  try clear hcz13_3
                  try clear hcz13_4
                  try clear hcz15_0
                  try clear hcz15_1
                  try clear hcz15_2
                  try clear hcz15_3
                  try clear hcz15_4
                  try clear hcz7_0
                  try clear hcz7_1
                  try clear hcz7_2
                  try clear hfz10_0
                  try clear hfz10_1
                  try clear hfz10_2
                  try clear hfz10_3
                  try clear hfz10_4
                  try clear hfz13_0
                  try clear hfz13_1
                  try clear hfz13_2
                  try clear hfz13_3
                  try clear hfz13_4
                  try clear hfz15_0
                  try clear hfz15_1
                  try clear hfz15_2
                  try clear hfz15_3
                  try clear hfz15_4
                  try clear hfz7_0
                  try clear hfz7_1
                  try clear hfz7_2
                  try clear hx548_0
                  try clear hx548_1
                  try clear hx548_2
                  try clear hx548_3
                  try clear hx548_4
                  try clear p2
                  try clear p5
                  try clear p548
                  try clear q5
                  try clear q548
                  obtain ⟨x5_3, x8_3, x9_3, rfl, rfl, HA, HK3, HO_5, BK547, BK549, HB⟩ := hrel
                  cases gk with
                  | zero => exact absurd HA.out (by simp [ferruleref20_Puts.l1])
                  | succ k3 =>
                    have H := HA.out
                    clear HA
                    simp only [ferruleref20_Puts.l1] at H
                    by_cases c17 : x9_3 < (x5_3.length : Int)
                    · rw [if_pos c17] at H
                      have c17b0 : decide (x9_3 < (x5_3.length : Int)) = true := decide_eq_true c17
                      clear c17
                      by_cases c18 : 0 ≤ x9_3
                      · rw [if_pos c18] at H
                        have c18b0 : decide (0 ≤ x9_3) = true := decide_eq_true c18
                        clear c18
                        by_cases c19 : ((qz18 x5_3 x9_3).f0).toList = ((qz7 l0_2 x6_1).f1).toList
                        · rw [if_pos c19] at H
                          have c19b0 : (((qz18 x5_3 x9_3).f0).toList == ((qz7 l0_2 x6_1).f1).toList) = true := beq_iff_eq.mpr c19
                          have c19b1 : (((qz18 x5_3 x9_3).f0).toList != ((qz7 l0_2 x6_1).f1).toList) = false := bne_eq_false_iff_eq.mpr c19
                          clear c19
                          obtain ⟨y551, hy551⟩ : ∃ y_ : List (S74), y_ = (x5_3.set (x9_3 : Int).toNat (⟨(qz18 x5_3 x9_3).f0, ((qz7 l0_2 x6_1).f2), (qz18 x5_3 x9_3).f2⟩ : S74)) := ⟨_, rfl⟩
                          replace H : (ferruleref20_Puts.l1 k3 a1 (y551.set (x9_3 : Int).toNat (⟨(qz18 y551 x9_3).f0, (qz18 y551 x9_3).f1, ((qz7 l0_2 x6_1).f4)⟩ : S74)) x6_1 true (wrap64 (x9_3 + 1)) a0_0 a0_1 l0_2 ((qz7 l0_2 x6_1).f0) ((qz7 l0_2 x6_1).f1) ((qz7 l0_2 x6_1).f2) ((qz7 l0_2 x6_1).f3) ((qz7 l0_2 x6_1).f4)) = some r := by first | (rw [hy551]; with_reducible exact H) | (have H2_ := (Option.bind_some _ _).symm.trans H; rw [hy551]; with_reducible exact H2_) | (have H2_ := (Option.bind_some _ _).symm.trans H; with_reducible exact H2_) | with_reducible exact H | (rw [hy551]; exact H) | exact H
                          have Ny551 := qza.mk hy551
                          clear hy551
                          obtain ⟨y552, hy552⟩ : ∃ y_ : List (S74), y_ = (y551.set (x9_3 : Int).toNat (⟨(qz18 y551 x9_3).f0, (qz18 y551 x9_3).f1, ((qz7 l0_2 x6_1).f4)⟩ : S74)) := ⟨_, rfl⟩
                          replace H : (ferruleref20_Puts.l1 k3 a1 y552 x6_1 true (wrap64 (x9_3 + 1)) a0_0 a0_1 l0_2 ((qz7 l0_2 x6_1).f0) ((qz7 l0_2 x6_1).f1) ((qz7 l0_2 x6_1).f2) ((qz7 l0_2 x6_1).f3) ((qz7 l0_2 x6_1).f4)) = some r := by first | (rw [hy552]; with_reducible exact H) | (have H2_ := (Option.bind_some _ _).symm.trans H; rw [hy552]; with_reducible exact H2_) | (have H2_ := (Option.bind_some _ _).symm.trans H; with_reducible exact H2_) | with_reducible exact H | (rw [hy552]; exact H) | exact H
                          have Ny552 := qza.mk hy552
                          clear hy552
                          have H' := qza.mk H
                          clear H
                          obtain ⟨Ao22, co22, eo22⟩ := Kd.R_slice HO_5.out
                          subst eo22
                          have p550 : 0 ≤ (x9_3 : Int) := of_decide_eq_true (by first | (with_reducible assumption) | assumption)
                          have q550 : x9_3 < (x5_3.length : Int) := of_decide_eq_true (by first | (with_reducible assumption) | assumption)
                          obtain ⟨ad550, e550, hx550_0, hx550_1, hx550_2⟩ := at_T74 (Kd.R_reads' HO_5.out).2.2 x9_3 p550 q550
                          cases e550
                          replace p550 := eq_true p550
                          replace q550 := eq_true q550
                          have hnb23 := NB549_547.out
                          have hnc23 := NB547_549.out
                          have hcz24_0 : wr.cell? ⟨gb549, 0, none⟩ = some (.int .u64 ((qz7 l0_2 x6_1).f0)) := (qz1 BK549.out 0).trans rfl
                          have hcz24_1 : wr.cell? ⟨gb549, 1, none⟩ = some (.string ((qz7 l0_2 x6_1).f1)) := (qz1 BK549.out 1).trans rfl
                          have hcz24_2 : wr.cell? ⟨gb549, 2, none⟩ = some (.string ((qz7 l0_2 x6_1).f2)) := (qz1 BK549.out 2).trans rfl
                          have hcz24_3 : wr.cell? ⟨gb549, 3, none⟩ = some (.bool ((qz7 l0_2 x6_1).f3)) := (qz1 BK549.out 3).trans rfl
                          have hcz24_4 : wr.cell? ⟨gb549, 4, none⟩ = some (.bool ((qz7 l0_2 x6_1).f4)) := (qz1 BK549.out 4).trans rfl
                          have hfz24_0 := qz0 BK549.out 0
                          have hfz24_1 := qz0 BK549.out 1
                          have hfz24_2 := qz0 BK549.out 2
                          have hfz24_3 := qz0 BK549.out 3
                          have hfz24_4 := qz0 BK549.out 4
                          have p20 : 0 ≤ (x9_3 : Int) := of_decide_eq_true (by first | (with_reducible assumption) | assumption)
                          have q20 : (x9_3 : Int) < ((x5_3.length : Int) : Int) := of_decide_eq_true (by first | (with_reducible assumption) | assumption)
                          obtain ⟨go20, co20, eo20, gb20, gl20, cl20, HG20⟩ := Kd.R_form HO_5.out (by omega)
                          (first | cases eo20 | (injection eo20 with ea_ en_ ec_; (first | subst ea_ | (injection ea_ with ea_; subst ea_)); subst ec_; clear en_))
                          have GB20 := qza.mk gb20
                          have GG20 := qza.mk HG20
                          clear gb20 gl20 HG20
                          (first | simp only [add_plain] at hx550_0 | skip)
                          (first | simp only [add_plain] at hx550_1 | skip)
                          (first | simp only [add_plain] at hx550_2 | skip)
                          obtain ⟨ce20, hcl20, hM20, hcc20, hfr20⟩ := Kd.R_elem HO_5.out z74 (x9_3 : Int) p20 q20
                          obtain rfl := k74_openM hM20
                          have hx20_0 : wr.cell? ⟨go20, (x9_3 : Int).toNat * 3, none⟩ = some (.string ((qz18 x5_3 x9_3).f0)) := hcc20 0 _ rfl
                          have hx20_1 : wr.cell? ⟨go20, (x9_3 : Int).toNat * 3 + 1, none⟩ = some (.string ((qz18 x5_3 x9_3).f1)) := hcc20 1 _ rfl
                          have hx20_2 : wr.cell? ⟨go20, (x9_3 : Int).toNat * 3 + 2, none⟩ = some (.bool ((qz18 x5_3 x9_3).f2)) := hcc20 2 _ rfl
                          have hf20_0 : wr.frozen? ⟨go20, (x9_3 : Int).toNat * 3, none⟩ = false := hfr20 0
                          have hf20_1 : wr.frozen? ⟨go20, (x9_3 : Int).toNat * 3 + 1, none⟩ = false := hfr20 1
                          have hf20_2 : wr.frozen? ⟨go20, (x9_3 : Int).toNat * 3 + 2, none⟩ = false := hfr20 2
                          clear hcl20 hcc20 hfr20 hM20
                          replace p20 := eq_true p20
                          replace q20 := eq_true q20
                          have HX25 := qza.mk (show Kd.R k74 74 wr w.heap.size (fun _ => True) (.slice (some ⟨go20, 0, none⟩) x5_3.length co22) x5_3 from (by (with_reducible repeat (first | apply Kd.R_alloc | apply Kd.R_drewN | apply Kd.R_drew)); exact HO_5.out))
                          obtain ⟨ce25, hcl25, hM25, hcc25, hfr25⟩ := Kd.R_elem HX25.out z74 (x9_3 : Int) (of_decide_eq_true (by first | (with_reducible assumption) | assumption)) (by have h_ : (x9_3 : Int) < ((x5_3.length : Int) : Int) := of_decide_eq_true (by first | (with_reducible assumption) | assumption); first | exact h_ | (have e_ := (Kd.R_reads' HO_5.out).1; omega) | simpa using h_)
                          obtain rfl := k74_openM hM25
                          have HP25 := Kd.R_seg HX25.out (x9_3 : Int) (of_decide_eq_true (by first | (with_reducible assumption) | assumption)) (by have h_ : (x9_3 : Int) < ((x5_3.length : Int) : Int) := of_decide_eq_true (by first | (with_reducible assumption) | assumption); first | exact h_ | (have e_ := (Kd.R_reads' HO_5.out).1; omega) | simpa using h_) (seg := [.string ((qz7 l0_2 x6_1).f2)]) (j := 1) hcl25 hcc25 (show 2 ≤ 3 from by decide) (x' := (⟨(qz18 x5_3 x9_3).f0, ((qz7 l0_2 x6_1).f2), (qz18 x5_3 x9_3).f2⟩ : S74)) (k74_mkM _ _ _ (⟨(qz18 x5_3 x9_3).f0, ((qz7 l0_2 x6_1).f2), (qz18 x5_3 x9_3).f2⟩ : S74) ) (fun _ hk => hk)
                          have hx25_1 := hcc25 1 _ rfl
                          (try simp only [show (k74).sz = 3 from rfl, Nat.mul_one, Nat.add_zero] at hx25_1)
                          have hf25_1 := hfr25 1
                          (try simp only [show (k74).sz = 3 from rfl, Nat.mul_one, Nat.add_zero] at hf25_1)
                          clear hcl25 hcc25 hfr25 hM25
                          go_wp2_with (first | ((with_reducible refine gate_store (t := 9) (p := 50) rfl ?_); (try (rw [drewN_self wr]; generalize hq_ : World.drewN wr _ = wr; have n0_ := qza.mk (Kd.R_at hq_ HO_5.out); have n1_ := qza.mk (blk_at hq_ BK547.out); have n2_ := qza.mk (blk_at hq_ BK549.out); have n3_ := qza.mk (below_at hq_ HB.out); clear hq_ HO_5 BK547 BK549 HB; have HO_5 := n0_; have BK547 := n1_; have BK549 := n2_; have HB := n3_; clear n0_ n1_ n2_ n3_; (try (have HX25 := qza.mk (show Kd.R k74 74 wr w.heap.size (fun _ => True) (.slice (some ⟨go20, 0, none⟩) x5_3.length co22) x5_3 from (by (with_reducible repeat (first | apply Kd.R_alloc | apply Kd.R_drewN | apply Kd.R_drew)); exact HO_5.out)))); (try (obtain ⟨ce25, hcl25, hM25, hcc25, hfr25⟩ := Kd.R_elem HX25.out z74 (x9_3 : Int) (of_decide_eq_true (by first | (with_reducible assumption) | assumption)) (by have h_ : (x9_3 : Int) < ((x5_3.length : Int) : Int) := of_decide_eq_true (by first | (with_reducible assumption) | assumption); first | exact h_ | (have e_ := (Kd.R_reads' HO_5.out).1; omega) | simpa using h_))); (try (obtain rfl := k74_openM hM25)); (try (have HP25 := Kd.R_seg HX25.out (x9_3 : Int) (of_decide_eq_true (by first | (with_reducible assumption) | assumption)) (by have h_ : (x9_3 : Int) < ((x5_3.length : Int) : Int) := of_decide_eq_true (by first | (with_reducible assumption) | assumption); first | exact h_ | (have e_ := (Kd.R_reads' HO_5.out).1; omega) | simpa using h_) (seg := [.string ((qz7 l0_2 x6_1).f2)]) (j := 1) hcl25 hcc25 (show 2 ≤ 3 from by decide) (x' := (⟨(qz18 x5_3 x9_3).f0, ((qz7 l0_2 x6_1).f2), (qz18 x5_3 x9_3).f2⟩ : S74)) (k74_mkM _ _ _ (⟨(qz18 x5_3 x9_3).f0, ((qz7 l0_2 x6_1).f2), (qz18 x5_3 x9_3).f2⟩ : S74) ) (fun _ hk => hk))); (try (have hx25_1 := hcc25 1 _ rfl)); (try (try simp only [show (k74).sz = 3 from rfl, Nat.mul_one, Nat.add_zero] at hx25_1)); (try (have hf25_1 := hfr25 1)); (try (try simp only [show (k74).sz = 3 from rfl, Nat.mul_one, Nat.add_zero] at hf25_1)); (try (clear hcl25 hcc25 hfr25 hM25)))); refine store_event (t := 9) (p := 50) (v := ?vo_w26) (w1 := (wr.setCell ⟨go20, (x9_3 : Int).toNat * 3 + 1, none⟩ (.string ((qz7 l0_2 x6_1).f2)))) ?hg ?ho ?hn ?hr ?_; (case ho => rfl); (case hg => rfl); (case hn => rfl); (case hr => first | (go_simp; done) | (go_simp; rfl)); intro w26 hw; have hg : wr.grownBy w26 (some go20) := (by rw [hw]; exact HP25.2); have hp_ : Kd.R k74 74 w26 w.heap.size (fun _ => True) (.slice (some ⟨go20, 0, none⟩) x5_3.length co22) y551 := (by rw [hw, Ny551.out]; exact HP25.1); clear HP25; have n0_ := qza.mk (hp_); have n1_ := qza.mk (qz38 (g := gb547) (o := .cells #[.int .u64 a0_0, .int .u64 a0_1, .slice (some ad548) l0_2.length c0_2] 27 (0, 0)) (by (with_reducible repeat (first | refine qz3 ?_ _ | refine qz6 ?_ | refine qz4 ?_ _)); exact BK547.out) hg (Kd.R_ne HO_5.out BK547.out (by decide))); have n2_ := qza.mk (qz38 (g := gb549) (o := .cells #[.int .u64 ((qz7 l0_2 x6_1).f0), .string ((qz7 l0_2 x6_1).f1), .string ((qz7 l0_2 x6_1).f2), .bool ((qz7 l0_2 x6_1).f3), .bool ((qz7 l0_2 x6_1).f4)] 53 (0, 0)) (by (with_reducible repeat (first | refine qz3 ?_ _ | refine qz6 ?_ | refine qz4 ?_ _)); exact BK549.out) hg (Kd.R_ne HO_5.out BK549.out (by decide))); have n3_ := qza.mk ((by rw [hw]; exact qz8 (HB.out) GB20.out : Below w.heap.size w w26)); clear HO_5; clear BK547; clear BK549; clear HB; have HO_5 := n0_; have BK547 := n1_; have BK549 := n2_; have HB := n3_; clear n0_ n1_ n2_ n3_; clear hg hw hp_; have hcz27_0 : w26.cell? ⟨gb549, 0, none⟩ = some (.int .u64 ((qz7 l0_2 x6_1).f0)) := (qz1 BK549.out 0).trans rfl; have hcz27_1 : w26.cell? ⟨gb549, 1, none⟩ = some (.string ((qz7 l0_2 x6_1).f1)) := (qz1 BK549.out 1).trans rfl; have hcz27_2 : w26.cell? ⟨gb549, 2, none⟩ = some (.string ((qz7 l0_2 x6_1).f2)) := (qz1 BK549.out 2).trans rfl; have hcz27_3 : w26.cell? ⟨gb549, 3, none⟩ = some (.bool ((qz7 l0_2 x6_1).f3)) := (qz1 BK549.out 3).trans rfl; have hcz27_4 : w26.cell? ⟨gb549, 4, none⟩ = some (.bool ((qz7 l0_2 x6_1).f4)) := (qz1 BK549.out 4).trans rfl; have hfz27_0 := qz0 BK549.out 0; have hfz27_1 := qz0 BK549.out 1; have hfz27_2 := qz0 BK549.out 2; have hfz27_3 := qz0 BK549.out 3; have hfz27_4 := qz0 BK549.out 4; have p21 : 0 ≤ (x9_3 : Int) := of_decide_eq_true (by first | (with_reducible assumption) | assumption); have q21 : (x9_3 : Int) < ((x5_3.length : Int) : Int) := of_decide_eq_true (by first | (with_reducible assumption) | assumption); obtain ⟨ce21, hcl21, hM21, hcc21, hfr21⟩ := Kd.R_elem HO_5.out z74 (x9_3 : Int) p21 q21; obtain rfl := k74_openM hM21; have hx21_0 : w26.cell? ⟨go20, (x9_3 : Int).toNat * 3, none⟩ = some (.string ((qz18 y551 x9_3).f0)) := hcc21 0 _ rfl; have hx21_1 : w26.cell? ⟨go20, (x9_3 : Int).toNat * 3 + 1, none⟩ = some (.string ((qz18 y551 x9_3).f1)) := hcc21 1 _ rfl; have hx21_2 : w26.cell? ⟨go20, (x9_3 : Int).toNat * 3 + 2, none⟩ = some (.bool ((qz18 y551 x9_3).f2)) := hcc21 2 _ rfl; have hf21_0 : w26.frozen? ⟨go20, (x9_3 : Int).toNat * 3, none⟩ = false := hfr21 0; have hf21_1 : w26.frozen? ⟨go20, (x9_3 : Int).toNat * 3 + 1, none⟩ = false := hfr21 1; have hf21_2 : w26.frozen? ⟨go20, (x9_3 : Int).toNat * 3 + 2, none⟩ = false := hfr21 2; clear hcl21 hcc21 hfr21 hM21; replace p21 := eq_true p21; replace q21 := eq_true q21; have HX28 := qza.mk (show Kd.R k74 74 w26 w.heap.size (fun _ => True) (.slice (some ⟨go20, 0, none⟩) x5_3.length co22) y551 from (by (with_reducible repeat (first | apply Kd.R_alloc | apply Kd.R_drewN | apply Kd.R_drew)); exact HO_5.out)); obtain ⟨ce28, hcl28, hM28, hcc28, hfr28⟩ := Kd.R_elem HX28.out z74 (x9_3 : Int) (of_decide_eq_true (by first | (with_reducible assumption) | assumption)) (by have h_ : (x9_3 : Int) < ((x5_3.length : Int) : Int) := of_decide_eq_true (by first | (with_reducible assumption) | assumption); first | exact h_ | (have e_ := (Kd.R_reads' HO_5.out).1; omega) | simpa using h_); obtain rfl := k74_openM hM28; have HP28 := Kd.R_seg HX28.out (x9_3 : Int) (of_decide_eq_true (by first | (with_reducible assumption) | assumption)) (by have h_ : (x9_3 : Int) < ((x5_3.length : Int) : Int) := of_decide_eq_true (by first | (with_reducible assumption) | assumption); first | exact h_ | (have e_ := (Kd.R_reads' HO_5.out).1; omega) | simpa using h_) (seg := [.bool ((qz7 l0_2 x6_1).f4)]) (j := 2) hcl28 hcc28 (show 3 ≤ 3 from by decide) (x' := (⟨(qz18 y551 x9_3).f0, (qz18 y551 x9_3).f1, ((qz7 l0_2 x6_1).f4)⟩ : S74)) (k74_mkM _ _ _ (⟨(qz18 y551 x9_3).f0, (qz18 y551 x9_3).f1, ((qz7 l0_2 x6_1).f4)⟩ : S74) ) (fun _ hk => hk); have hx28_2 := hcc28 2 _ rfl; (try simp only [show (k74).sz = 3 from rfl, Nat.mul_one, Nat.add_zero] at hx28_2); have hf28_2 := hfr28 2; (try simp only [show (k74).sz = 3 from rfl, Nat.mul_one, Nat.add_zero] at hf28_2); clear hcl28 hcc28 hfr28 hM28) | ((with_reducible refine gate_store (t := 4) (p := 56) rfl ?_); (try (rw [drewN_self w26]; generalize hq_ : World.drewN w26 _ = w26; have n0_ := qza.mk (Kd.R_at hq_ HO_5.out); have n1_ := qza.mk (blk_at hq_ BK547.out); have n2_ := qza.mk (blk_at hq_ BK549.out); have n3_ := qza.mk (below_at hq_ HB.out); clear hq_ HO_5 BK547 BK549 HB; have HO_5 := n0_; have BK547 := n1_; have BK549 := n2_; have HB := n3_; clear n0_ n1_ n2_ n3_; (try (have HX28 := qza.mk (show Kd.R k74 74 w26 w.heap.size (fun _ => True) (.slice (some ⟨go20, 0, none⟩) x5_3.length co22) y551 from (by (with_reducible repeat (first | apply Kd.R_alloc | apply Kd.R_drewN | apply Kd.R_drew)); exact HO_5.out)))); (try (obtain ⟨ce28, hcl28, hM28, hcc28, hfr28⟩ := Kd.R_elem HX28.out z74 (x9_3 : Int) (of_decide_eq_true (by first | (with_reducible assumption) | assumption)) (by have h_ : (x9_3 : Int) < ((x5_3.length : Int) : Int) := of_decide_eq_true (by first | (with_reducible assumption) | assumption); first | exact h_ | (have e_ := (Kd.R_reads' HO_5.out).1; omega) | simpa using h_))); (try (obtain rfl := k74_openM hM28)); (try (have HP28 := Kd.R_seg HX28.out (x9_3 : Int) (of_decide_eq_true (by first | (with_reducible assumption) | assumption)) (by have h_ : (x9_3 : Int) < ((x5_3.length : Int) : Int) := of_decide_eq_true (by first | (with_reducible assumption) | assumption); first | exact h_ | (have e_ := (Kd.R_reads' HO_5.out).1; omega) | simpa using h_) (seg := [.bool ((qz7 l0_2 x6_1).f4)]) (j := 2) hcl28 hcc28 (show 3 ≤ 3 from by decide) (x' := (⟨(qz18 y551 x9_3).f0, (qz18 y551 x9_3).f1, ((qz7 l0_2 x6_1).f4)⟩ : S74)) (k74_mkM _ _ _ (⟨(qz18 y551 x9_3).f0, (qz18 y551 x9_3).f1, ((qz7 l0_2 x6_1).f4)⟩ : S74) ) (fun _ hk => hk))); (try (have hx28_2 := hcc28 2 _ rfl)); (try (try simp only [show (k74).sz = 3 from rfl, Nat.mul_one, Nat.add_zero] at hx28_2)); (try (have hf28_2 := hfr28 2)); (try (try simp only [show (k74).sz = 3 from rfl, Nat.mul_one, Nat.add_zero] at hf28_2)); (try (clear hcl28 hcc28 hfr28 hM28)))); refine store_event (t := 4) (p := 56) (v := ?vo_w29) (w1 := (w26.setCell ⟨go20, (x9_3 : Int).toNat * 3 + 2, none⟩ (.bool ((qz7 l0_2 x6_1).f4)))) ?hg ?ho ?hn ?hr ?_; (case ho => rfl); (case hg => rfl); (case hn => rfl); (case hr => first | (go_simp; done) | (go_simp; rfl)); intro w29 hw; have hg : w26.grownBy w29 (some go20) := (by rw [hw]; exact HP28.2); have hp_ : Kd.R k74 74 w29 w.heap.size (fun _ => True) (.slice (some ⟨go20, 0, none⟩) x5_3.length co22) y552 := (by rw [hw, Ny552.out]; exact HP28.1); clear HP28; have n0_ := qza.mk (hp_); have n1_ := qza.mk (qz38 (g := gb547) (o := .cells #[.int .u64 a0_0, .int .u64 a0_1, .slice (some ad548) l0_2.length c0_2] 27 (0, 0)) (by (with_reducible repeat (first | refine qz3 ?_ _ | refine qz6 ?_ | refine qz4 ?_ _)); exact BK547.out) hg (Kd.R_ne HO_5.out BK547.out (by decide))); have n2_ := qza.mk (qz38 (g := gb549) (o := .cells #[.int .u64 ((qz7 l0_2 x6_1).f0), .string ((qz7 l0_2 x6_1).f1), .string ((qz7 l0_2 x6_1).f2), .bool ((qz7 l0_2 x6_1).f3), .bool ((qz7 l0_2 x6_1).f4)] 53 (0, 0)) (by (with_reducible repeat (first | refine qz3 ?_ _ | refine qz6 ?_ | refine qz4 ?_ _)); exact BK549.out) hg (Kd.R_ne HO_5.out BK549.out (by decide))); have n3_ := qza.mk ((by rw [hw]; exact qz8 (HB.out) GB20.out : Below w.heap.size w w29)); clear HO_5; clear BK547; clear BK549; clear HB; have HO_5 := n0_; have BK547 := n1_; have BK549 := n2_; have HB := n3_; clear n0_ n1_ n2_ n3_; clear hg hw hp_))
                          repeat (go_quiet (first | ((with_reducible refine gate_store (t := 9) (p := 50) rfl ?_); (try (rw [drewN_self wr]; generalize hq_ : World.drewN wr _ = wr; have n0_ := qza.mk (Kd.R_at hq_ HO_5.out); have n1_ := qza.mk (blk_at hq_ BK547.out); have n2_ := qza.mk (blk_at hq_ BK549.out); have n3_ := qza.mk (below_at hq_ HB.out); clear hq_ HO_5 BK547 BK549 HB; have HO_5 := n0_; have BK547 := n1_; have BK549 := n2_; have HB := n3_; clear n0_ n1_ n2_ n3_; (try (have HX25 := qza.mk (show Kd.R k74 74 wr w.heap.size (fun _ => True) (.slice (some ⟨go20, 0, none⟩) x5_3.length co22) x5_3 from (by (with_reducible repeat (first | apply Kd.R_alloc | apply Kd.R_drewN | apply Kd.R_drew)); exact HO_5.out)))); (try (obtain ⟨ce25, hcl25, hM25, hcc25, hfr25⟩ := Kd.R_elem HX25.out z74 (x9_3 : Int) (of_decide_eq_true (by first | (with_reducible assumption) | assumption)) (by have h_ : (x9_3 : Int) < ((x5_3.length : Int) : Int) := of_decide_eq_true (by first | (with_reducible assumption) | assumption); first | exact h_ | (have e_ := (Kd.R_reads' HO_5.out).1; omega) | simpa using h_))); (try (obtain rfl := k74_openM hM25)); (try (have HP25 := Kd.R_seg HX25.out (x9_3 : Int) (of_decide_eq_true (by first | (with_reducible assumption) | assumption)) (by have h_ : (x9_3 : Int) < ((x5_3.length : Int) : Int) := of_decide_eq_true (by first | (with_reducible assumption) | assumption); first | exact h_ | (have e_ := (Kd.R_reads' HO_5.out).1; omega) | simpa using h_) (seg := [.string ((qz7 l0_2 x6_1).f2)]) (j := 1) hcl25 hcc25 (show 2 ≤ 3 from by decide) (x' := (⟨(qz18 x5_3 x9_3).f0, ((qz7 l0_2 x6_1).f2), (qz18 x5_3 x9_3).f2⟩ : S74)) (k74_mkM _ _ _ (⟨(qz18 x5_3 x9_3).f0, ((qz7 l0_2 x6_1).f2), (qz18 x5_3 x9_3).f2⟩ : S74) ) (fun _ hk => hk))); (try (have hx25_1 := hcc25 1 _ rfl)); (try (try simp only [show (k74).sz = 3 from rfl, Nat.mul_one, Nat.add_zero] at hx25_1)); (try (have hf25_1 := hfr25 1)); (try (try simp only [show (k74).sz = 3 from rfl, Nat.mul_one, Nat.add_zero] at hf25_1)); (try (clear hcl25 hcc25 hfr25 hM25)))); refine store_event (t := 9) (p := 50) (v := ?vo_w26) (w1 := (wr.setCell ⟨go20, (x9_3 : Int).toNat * 3 + 1, none⟩ (.string ((qz7 l0_2 x6_1).f2)))) ?hg ?ho ?hn ?hr ?_; (case ho => rfl); (case hg => rfl); (case hn => rfl); (case hr => first | (go_simp; done) | (go_simp; rfl)); intro w26 hw; have hg : wr.grownBy w26 (some go20) := (by rw [hw]; exact HP25.2); have hp_ : Kd.R k74 74 w26 w.heap.size (fun _ => True) (.slice (some ⟨go20, 0, none⟩) x5_3.length co22) y551 := (by rw [hw, Ny551.out]; exact HP25.1); clear HP25; have n0_ := qza.mk (hp_); have n1_ := qza.mk (qz38 (g := gb547) (o := .cells #[.int .u64 a0_0, .int .u64 a0_1, .slice (some ad548) l0_2.length c0_2] 27 (0, 0)) (by (with_reducible repeat (first | refine qz3 ?_ _ | refine qz6 ?_ | refine qz4 ?_ _)); exact BK547.out) hg (Kd.R_ne HO_5.out BK547.out (by decide))); have n2_ := qza.mk (qz38 (g := gb549) (o := .cells #[.int .u64 ((qz7 l0_2 x6_1).f0), .string ((qz7 l0_2 x6_1).f1), .string ((qz7 l0_2 x6_1).f2), .bool ((qz7 l0_2 x6_1).f3), .bool ((qz7 l0_2 x6_1).f4)] 53 (0, 0)) (by (with_reducible repeat (first | refine qz3 ?_ _ | refine qz6 ?_ | refine qz4 ?_ _)); exact BK549.out) hg (Kd.R_ne HO_5.out BK549.out (by decide))); have n3_ := qza.mk ((by rw [hw]; exact qz8 (HB.out) GB20.out : Below w.heap.size w w26)); clear HO_5; clear BK547; clear BK549; clear HB; have HO_5 := n0_; have BK547 := n1_; have BK549 := n2_; have HB := n3_; clear n0_ n1_ n2_ n3_; clear hg hw hp_; have hcz27_0 : w26.cell? ⟨gb549, 0, none⟩ = some (.int .u64 ((qz7 l0_2 x6_1).f0)) := (qz1 BK549.out 0).trans rfl; have hcz27_1 : w26.cell? ⟨gb549, 1, none⟩ = some (.string ((qz7 l0_2 x6_1).f1)) := (qz1 BK549.out 1).trans rfl; have hcz27_2 : w26.cell? ⟨gb549, 2, none⟩ = some (.string ((qz7 l0_2 x6_1).f2)) := (qz1 BK549.out 2).trans rfl; have hcz27_3 : w26.cell? ⟨gb549, 3, none⟩ = some (.bool ((qz7 l0_2 x6_1).f3)) := (qz1 BK549.out 3).trans rfl; have hcz27_4 : w26.cell? ⟨gb549, 4, none⟩ = some (.bool ((qz7 l0_2 x6_1).f4)) := (qz1 BK549.out 4).trans rfl; have hfz27_0 := qz0 BK549.out 0; have hfz27_1 := qz0 BK549.out 1; have hfz27_2 := qz0 BK549.out 2; have hfz27_3 := qz0 BK549.out 3; have hfz27_4 := qz0 BK549.out 4; have p21 : 0 ≤ (x9_3 : Int) := of_decide_eq_true (by first | (with_reducible assumption) | assumption); have q21 : (x9_3 : Int) < ((x5_3.length : Int) : Int) := of_decide_eq_true (by first | (with_reducible assumption) | assumption); obtain ⟨ce21, hcl21, hM21, hcc21, hfr21⟩ := Kd.R_elem HO_5.out z74 (x9_3 : Int) p21 q21; obtain rfl := k74_openM hM21; have hx21_0 : w26.cell? ⟨go20, (x9_3 : Int).toNat * 3, none⟩ = some (.string ((qz18 y551 x9_3).f0)) := hcc21 0 _ rfl; have hx21_1 : w26.cell? ⟨go20, (x9_3 : Int).toNat * 3 + 1, none⟩ = some (.string ((qz18 y551 x9_3).f1)) := hcc21 1 _ rfl; have hx21_2 : w26.cell? ⟨go20, (x9_3 : Int).toNat * 3 + 2, none⟩ = some (.bool ((qz18 y551 x9_3).f2)) := hcc21 2 _ rfl; have hf21_0 : w26.frozen? ⟨go20, (x9_3 : Int).toNat * 3, none⟩ = false := hfr21 0; have hf21_1 : w26.frozen? ⟨go20, (x9_3 : Int).toNat * 3 + 1, none⟩ = false := hfr21 1; have hf21_2 : w26.frozen? ⟨go20, (x9_3 : Int).toNat * 3 + 2, none⟩ = false := hfr21 2; clear hcl21 hcc21 hfr21 hM21; replace p21 := eq_true p21; replace q21 := eq_true q21; have HX28 := qza.mk (show Kd.R k74 74 w26 w.heap.size (fun _ => True) (.slice (some ⟨go20, 0, none⟩) x5_3.length co22) y551 from (by (with_reducible repeat (first | apply Kd.R_alloc | apply Kd.R_drewN | apply Kd.R_drew)); exact HO_5.out)); obtain ⟨ce28, hcl28, hM28, hcc28, hfr28⟩ := Kd.R_elem HX28.out z74 (x9_3 : Int) (of_decide_eq_true (by first | (with_reducible assumption) | assumption)) (by have h_ : (x9_3 : Int) < ((x5_3.length : Int) : Int) := of_decide_eq_true (by first | (with_reducible assumption) | assumption); first | exact h_ | (have e_ := (Kd.R_reads' HO_5.out).1; omega) | simpa using h_); obtain rfl := k74_openM hM28; have HP28 := Kd.R_seg HX28.out (x9_3 : Int) (of_decide_eq_true (by first | (with_reducible assumption) | assumption)) (by have h_ : (x9_3 : Int) < ((x5_3.length : Int) : Int) := of_decide_eq_true (by first | (with_reducible assumption) | assumption); first | exact h_ | (have e_ := (Kd.R_reads' HO_5.out).1; omega) | simpa using h_) (seg := [.bool ((qz7 l0_2 x6_1).f4)]) (j := 2) hcl28 hcc28 (show 3 ≤ 3 from by decide) (x' := (⟨(qz18 y551 x9_3).f0, (qz18 y551 x9_3).f1, ((qz7 l0_2 x6_1).f4)⟩ : S74)) (k74_mkM _ _ _ (⟨(qz18 y551 x9_3).f0, (qz18 y551 x9_3).f1, ((qz7 l0_2 x6_1).f4)⟩ : S74) ) (fun _ hk => hk); have hx28_2 := hcc28 2 _ rfl; (try simp only [show (k74).sz = 3 from rfl, Nat.mul_one, Nat.add_zero] at hx28_2); have hf28_2 := hfr28 2; (try simp only [show (k74).sz = 3 from rfl, Nat.mul_one, Nat.add_zero] at hf28_2); clear hcl28 hcc28 hfr28 hM28) | ((with_reducible refine gate_store (t := 4) (p := 56) rfl ?_); (try (rw [drewN_self w26]; generalize hq_ : World.drewN w26 _ = w26; have n0_ := qza.mk (Kd.R_at hq_ HO_5.out); have n1_ := qza.mk (blk_at hq_ BK547.out); have n2_ := qza.mk (blk_at hq_ BK549.out); have n3_ := qza.mk (below_at hq_ HB.out); clear hq_ HO_5 BK547 BK549 HB; have HO_5 := n0_; have BK547 := n1_; have BK549 := n2_; have HB := n3_; clear n0_ n1_ n2_ n3_; (try (have HX28 := qza.mk (show Kd.R k74 74 w26 w.heap.size (fun _ => True) (.slice (some ⟨go20, 0, none⟩) x5_3.length co22) y551 from (by (with_reducible repeat (first | apply Kd.R_alloc | apply Kd.R_drewN | apply Kd.R_drew)); exact HO_5.out)))); (try (obtain ⟨ce28, hcl28, hM28, hcc28, hfr28⟩ := Kd.R_elem HX28.out z74 (x9_3 : Int) (of_decide_eq_true (by first | (with_reducible assumption) | assumption)) (by have h_ : (x9_3 : Int) < ((x5_3.length : Int) : Int) := of_decide_eq_true (by first | (with_reducible assumption) | assumption); first | exact h_ | (have e_ := (Kd.R_reads' HO_5.out).1; omega) | simpa using h_))); (try (obtain rfl := k74_openM hM28)); (try (have HP28 := Kd.R_seg HX28.out (x9_3 : Int) (of_decide_eq_true (by first | (with_reducible assumption) | assumption)) (by have h_ : (x9_3 : Int) < ((x5_3.length : Int) : Int) := of_decide_eq_true (by first | (with_reducible assumption) | assumption); first | exact h_ | (have e_ := (Kd.R_reads' HO_5.out).1; omega) | simpa using h_) (seg := [.bool ((qz7 l0_2 x6_1).f4)]) (j := 2) hcl28 hcc28 (show 3 ≤ 3 from by decide) (x' := (⟨(qz18 y551 x9_3).f0, (qz18 y551 x9_3).f1, ((qz7 l0_2 x6_1).f4)⟩ : S74)) (k74_mkM _ _ _ (⟨(qz18 y551 x9_3).f0, (qz18 y551 x9_3).f1, ((qz7 l0_2 x6_1).f4)⟩ : S74) ) (fun _ hk => hk))); (try (have hx28_2 := hcc28 2 _ rfl)); (try (try simp only [show (k74).sz = 3 from rfl, Nat.mul_one, Nat.add_zero] at hx28_2)); (try (have hf28_2 := hfr28 2)); (try (try simp only [show (k74).sz = 3 from rfl, Nat.mul_one, Nat.add_zero] at hf28_2)); (try (clear hcl28 hcc28 hfr28 hM28)))); refine store_event (t := 4) (p := 56) (v := ?vo_w29) (w1 := (w26.setCell ⟨go20, (x9_3 : Int).toNat * 3 + 2, none⟩ (.bool ((qz7 l0_2 x6_1).f4)))) ?hg ?ho ?hn ?hr ?_; (case ho => rfl); (case hg => rfl); (case hn => rfl); (case hr => first | (go_simp; done) | (go_simp; rfl)); intro w29 hw; have hg : w26.grownBy w29 (some go20) := (by rw [hw]; exact HP28.2); have hp_ : Kd.R k74 74 w29 w.heap.size (fun _ => True) (.slice (some ⟨go20, 0, none⟩) x5_3.length co22) y552 := (by rw [hw, Ny552.out]; exact HP28.1); clear HP28; have n0_ := qza.mk (hp_); have n1_ := qza.mk (qz38 (g := gb547) (o := .cells #[.int .u64 a0_0, .int .u64 a0_1, .slice (some ad548) l0_2.length c0_2] 27 (0, 0)) (by (with_reducible repeat (first | refine qz3 ?_ _ | refine qz6 ?_ | refine qz4 ?_ _)); exact BK547.out) hg (Kd.R_ne HO_5.out BK547.out (by decide))); have n2_ := qza.mk (qz38 (g := gb549) (o := .cells #[.int .u64 ((qz7 l0_2 x6_1).f0), .string ((qz7 l0_2 x6_1).f1), .string ((qz7 l0_2 x6_1).f2), .bool ((qz7 l0_2 x6_1).f3), .bool ((qz7 l0_2 x6_1).f4)] 53 (0, 0)) (by (with_reducible repeat (first | refine qz3 ?_ _ | refine qz6 ?_ | refine qz4 ?_ _)); exact BK549.out) hg (Kd.R_ne HO_5.out BK549.out (by decide))); have n3_ := qza.mk ((by rw [hw]; exact qz8 (HB.out) GB20.out : Below w.heap.size w w29)); clear HO_5; clear BK547; clear BK549; clear HB; have HO_5 := n0_; have BK547 := n1_; have BK549 := n2_; have HB := n3_; clear n0_ n1_ n2_ n3_; clear hg hw hp_)); try go_wp2_with (first | ((with_reducible refine gate_store (t := 9) (p := 50) rfl ?_); (try (rw [drewN_self wr]; generalize hq_ : World.drewN wr _ = wr; have n0_ := qza.mk (Kd.R_at hq_ HO_5.out); have n1_ := qza.mk (blk_at hq_ BK547.out); have n2_ := qza.mk (blk_at hq_ BK549.out); have n3_ := qza.mk (below_at hq_ HB.out); clear hq_ HO_5 BK547 BK549 HB; have HO_5 := n0_; have BK547 := n1_; have BK549 := n2_; have HB := n3_; clear n0_ n1_ n2_ n3_; (try (have HX25 := qza.mk (show Kd.R k74 74 wr w.heap.size (fun _ => True) (.slice (some ⟨go20, 0, none⟩) x5_3.length co22) x5_3 from (by (with_reducible repeat (first | apply Kd.R_alloc | apply Kd.R_drewN | apply Kd.R_drew)); exact HO_5.out)))); (try (obtain ⟨ce25, hcl25, hM25, hcc25, hfr25⟩ := Kd.R_elem HX25.out z74 (x9_3 : Int) (of_decide_eq_true (by first | (with_reducible assumption) | assumption)) (by have h_ : (x9_3 : Int) < ((x5_3.length : Int) : Int) := of_decide_eq_true (by first | (with_reducible assumption) | assumption); first | exact h_ | (have e_ := (Kd.R_reads' HO_5.out).1; omega) | simpa using h_))); (try (obtain rfl := k74_openM hM25)); (try (have HP25 := Kd.R_seg HX25.out (x9_3 : Int) (of_decide_eq_true (by first | (with_reducible assumption) | assumption)) (by have h_ : (x9_3 : Int) < ((x5_3.length : Int) : Int) := of_decide_eq_true (by first | (with_reducible assumption) | assumption); first | exact h_ | (have e_ := (Kd.R_reads' HO_5.out).1; omega) | simpa using h_) (seg := [.string ((qz7 l0_2 x6_1).f2)]) (j := 1) hcl25 hcc25 (show 2 ≤ 3 from by decide) (x' := (⟨(qz18 x5_3 x9_3).f0, ((qz7 l0_2 x6_1).f2), (qz18 x5_3 x9_3).f2⟩ : S74)) (k74_mkM _ _ _ (⟨(qz18 x5_3 x9_3).f0, ((qz7 l0_2 x6_1).f2), (qz18 x5_3 x9_3).f2⟩ : S74) ) (fun _ hk => hk))); (try (have hx25_1 := hcc25 1 _ rfl)); (try (try simp only [show (k74).sz = 3 from rfl, Nat.mul_one, Nat.add_zero] at hx25_1)); (try (have hf25_1 := hfr25 1)); (try (try simp only [show (k74).sz = 3 from rfl, Nat.mul_one, Nat.add_zero] at hf25_1)); (try (clear hcl25 hcc25 hfr25 hM25)))); refine store_event (t := 9) (p := 50) (v := ?vo_w26) (w1 := (wr.setCell ⟨go20, (x9_3 : Int).toNat * 3 + 1, none⟩ (.string ((qz7 l0_2 x6_1).f2)))) ?hg ?ho ?hn ?hr ?_; (case ho => rfl); (case hg => rfl); (case hn => rfl); (case hr => first | (go_simp; done) | (go_simp; rfl)); intro w26 hw; have hg : wr.grownBy w26 (some go20) := (by rw [hw]; exact HP25.2); have hp_ : Kd.R k74 74 w26 w.heap.size (fun _ => True) (.slice (some ⟨go20, 0, none⟩) x5_3.length co22) y551 := (by rw [hw, Ny551.out]; exact HP25.1); clear HP25; have n0_ := qza.mk (hp_); have n1_ := qza.mk (qz38 (g := gb547) (o := .cells #[.int .u64 a0_0, .int .u64 a0_1, .slice (some ad548) l0_2.length c0_2] 27 (0, 0)) (by (with_reducible repeat (first | refine qz3 ?_ _ | refine qz6 ?_ | refine qz4 ?_ _)); exact BK547.out) hg (Kd.R_ne HO_5.out BK547.out (by decide))); have n2_ := qza.mk (qz38 (g := gb549) (o := .cells #[.int .u64 ((qz7 l0_2 x6_1).f0), .string ((qz7 l0_2 x6_1).f1), .string ((qz7 l0_2 x6_1).f2), .bool ((qz7 l0_2 x6_1).f3), .bool ((qz7 l0_2 x6_1).f4)] 53 (0, 0)) (by (with_reducible repeat (first | refine qz3 ?_ _ | refine qz6 ?_ | refine qz4 ?_ _)); exact BK549.out) hg (Kd.R_ne HO_5.out BK549.out (by decide))); have n3_ := qza.mk ((by rw [hw]; exact qz8 (HB.out) GB20.out : Below w.heap.size w w26)); clear HO_5; clear BK547; clear BK549; clear HB; have HO_5 := n0_; have BK547 := n1_; have BK549 := n2_; have HB := n3_; clear n0_ n1_ n2_ n3_; clear hg hw hp_; have hcz27_0 : w26.cell? ⟨gb549, 0, none⟩ = some (.int .u64 ((qz7 l0_2 x6_1).f0)) := (qz1 BK549.out 0).trans rfl; have hcz27_1 : w26.cell? ⟨gb549, 1, none⟩ = some (.string ((qz7 l0_2 x6_1).f1)) := (qz1 BK549.out 1).trans rfl; have hcz27_2 : w26.cell? ⟨gb549, 2, none⟩ = some (.string ((qz7 l0_2 x6_1).f2)) := (qz1 BK549.out 2).trans rfl; have hcz27_3 : w26.cell? ⟨gb549, 3, none⟩ = some (.bool ((qz7 l0_2 x6_1).f3)) := (qz1 BK549.out 3).trans rfl; have hcz27_4 : w26.cell? ⟨gb549, 4, none⟩ = some (.bool ((qz7 l0_2 x6_1).f4)) := (qz1 BK549.out 4).trans rfl; have hfz27_0 := qz0 BK549.out 0; have hfz27_1 := qz0 BK549.out 1; have hfz27_2 := qz0 BK549.out 2; have hfz27_3 := qz0 BK549.out 3; have hfz27_4 := qz0 BK549.out 4; have p21 : 0 ≤ (x9_3 : Int) := of_decide_eq_true (by first | (with_reducible assumption) | assumption); have q21 : (x9_3 : Int) < ((x5_3.length : Int) : Int) := of_decide_eq_true (by first | (with_reducible assumption) | assumption); obtain ⟨ce21, hcl21, hM21, hcc21, hfr21⟩ := Kd.R_elem HO_5.out z74 (x9_3 : Int) p21 q21; obtain rfl := k74_openM hM21; have hx21_0 : w26.cell? ⟨go20, (x9_3 : Int).toNat * 3, none⟩ = some (.string ((qz18 y551 x9_3).f0)) := hcc21 0 _ rfl; have hx21_1 : w26.cell? ⟨go20, (x9_3 : Int).toNat * 3 + 1, none⟩ = some (.string ((qz18 y551 x9_3).f1)) := hcc21 1 _ rfl; have hx21_2 : w26.cell? ⟨go20, (x9_3 : Int).toNat * 3 + 2, none⟩ = some (.bool ((qz18 y551 x9_3).f2)) := hcc21 2 _ rfl; have hf21_0 : w26.frozen? ⟨go20, (x9_3 : Int).toNat * 3, none⟩ = false := hfr21 0; have hf21_1 : w26.frozen? ⟨go20, (x9_3 : Int).toNat * 3 + 1, none⟩ = false := hfr21 1; have hf21_2 : w26.frozen? ⟨go20, (x9_3 : Int).toNat * 3 + 2, none⟩ = false := hfr21 2; clear hcl21 hcc21 hfr21 hM21; replace p21 := eq_true p21; replace q21 := eq_true q21; have HX28 := qza.mk (show Kd.R k74 74 w26 w.heap.size (fun _ => True) (.slice (some ⟨go20, 0, none⟩) x5_3.length co22) y551 from (by (with_reducible repeat (first | apply Kd.R_alloc | apply Kd.R_drewN | apply Kd.R_drew)); exact HO_5.out)); obtain ⟨ce28, hcl28, hM28, hcc28, hfr28⟩ := Kd.R_elem HX28.out z74 (x9_3 : Int) (of_decide_eq_true (by first | (with_reducible assumption) | assumption)) (by have h_ : (x9_3 : Int) < ((x5_3.length : Int) : Int) := of_decide_eq_true (by first | (with_reducible assumption) | assumption); first | exact h_ | (have e_ := (Kd.R_reads' HO_5.out).1; omega) | simpa using h_); obtain rfl := k74_openM hM28; have HP28 := Kd.R_seg HX28.out (x9_3 : Int) (of_decide_eq_true (by first | (with_reducible assumption) | assumption)) (by have h_ : (x9_3 : Int) < ((x5_3.length : Int) : Int) := of_decide_eq_true (by first | (with_reducible assumption) | assumption); first | exact h_ | (have e_ := (Kd.R_reads' HO_5.out).1; omega) | simpa using h_) (seg := [.bool ((qz7 l0_2 x6_1).f4)]) (j := 2) hcl28 hcc28 (show 3 ≤ 3 from by decide) (x' := (⟨(qz18 y551 x9_3).f0, (qz18 y551 x9_3).f1, ((qz7 l0_2 x6_1).f4)⟩ : S74)) (k74_mkM _ _ _ (⟨(qz18 y551 x9_3).f0, (qz18 y551 x9_3).f1, ((qz7 l0_2 x6_1).f4)⟩ : S74) ) (fun _ hk => hk); have hx28_2 := hcc28 2 _ rfl; (try simp only [show (k74).sz = 3 from rfl, Nat.mul_one, Nat.add_zero] at hx28_2); have hf28_2 := hfr28 2; (try simp only [show (k74).sz = 3 from rfl, Nat.mul_one, Nat.add_zero] at hf28_2); clear hcl28 hcc28 hfr28 hM28) | ((with_reducible refine gate_store (t := 4) (p := 56) rfl ?_); (try (rw [drewN_self w26]; generalize hq_ : World.drewN w26 _ = w26; have n0_ := qza.mk (Kd.R_at hq_ HO_5.out); have n1_ := qza.mk (blk_at hq_ BK547.out); have n2_ := qza.mk (blk_at hq_ BK549.out); have n3_ := qza.mk (below_at hq_ HB.out); clear hq_ HO_5 BK547 BK549 HB; have HO_5 := n0_; have BK547 := n1_; have BK549 := n2_; have HB := n3_; clear n0_ n1_ n2_ n3_; (try (have HX28 := qza.mk (show Kd.R k74 74 w26 w.heap.size (fun _ => True) (.slice (some ⟨go20, 0, none⟩) x5_3.length co22) y551 from (by (with_reducible repeat (first | apply Kd.R_alloc | apply Kd.R_drewN | apply Kd.R_drew)); exact HO_5.out)))); (try (obtain ⟨ce28, hcl28, hM28, hcc28, hfr28⟩ := Kd.R_elem HX28.out z74 (x9_3 : Int) (of_decide_eq_true (by first | (with_reducible assumption) | assumption)) (by have h_ : (x9_3 : Int) < ((x5_3.length : Int) : Int) := of_decide_eq_true (by first | (with_reducible assumption) | assumption); first | exact h_ | (have e_ := (Kd.R_reads' HO_5.out).1; omega) | simpa using h_))); (try (obtain rfl := k74_openM hM28)); (try (have HP28 := Kd.R_seg HX28.out (x9_3 : Int) (of_decide_eq_true (by first | (with_reducible assumption) | assumption)) (by have h_ : (x9_3 : Int) < ((x5_3.length : Int) : Int) := of_decide_eq_true (by first | (with_reducible assumption) | assumption); first | exact h_ | (have e_ := (Kd.R_reads' HO_5.out).1; omega) | simpa using h_) (seg := [.bool ((qz7 l0_2 x6_1).f4)]) (j := 2) hcl28 hcc28 (show 3 ≤ 3 from by decide) (x' := (⟨(qz18 y551 x9_3).f0, (qz18 y551 x9_3).f1, ((qz7 l0_2 x6_1).f4)⟩ : S74)) (k74_mkM _ _ _ (⟨(qz18 y551 x9_3).f0, (qz18 y551 x9_3).f1, ((qz7 l0_2 x6_1).f4)⟩ : S74) ) (fun _ hk => hk))); (try (have hx28_2 := hcc28 2 _ rfl)); (try (try simp only [show (k74).sz = 3 from rfl, Nat.mul_one, Nat.add_zero] at hx28_2)); (try (have hf28_2 := hfr28 2)); (try (try simp only [show (k74).sz = 3 from rfl, Nat.mul_one, Nat.add_zero] at hf28_2)); (try (clear hcl28 hcc28 hfr28 hM28)))); refine store_event (t := 4) (p := 56) (v := ?vo_w29) (w1 := (w26.setCell ⟨go20, (x9_3 : Int).toNat * 3 + 2, none⟩ (.bool ((qz7 l0_2 x6_1).f4)))) ?hg ?ho ?hn ?hr ?_; (case ho => rfl); (case hg => rfl); (case hn => rfl); (case hr => first | (go_simp; done) | (go_simp; rfl)); intro w29 hw; have hg : w26.grownBy w29 (some go20) := (by rw [hw]; exact HP28.2); have hp_ : Kd.R k74 74 w29 w.heap.size (fun _ => True) (.slice (some ⟨go20, 0, none⟩) x5_3.length co22) y552 := (by rw [hw, Ny552.out]; exact HP28.1); clear HP28; have n0_ := qza.mk (hp_); have n1_ := qza.mk (qz38 (g := gb547) (o := .cells #[.int .u64 a0_0, .int .u64 a0_1, .slice (some ad548) l0_2.length c0_2] 27 (0, 0)) (by (with_reducible repeat (first | refine qz3 ?_ _ | refine qz6 ?_ | refine qz4 ?_ _)); exact BK547.out) hg (Kd.R_ne HO_5.out BK547.out (by decide))); have n2_ := qza.mk (qz38 (g := gb549) (o := .cells #[.int .u64 ((qz7 l0_2 x6_1).f0), .string ((qz7 l0_2 x6_1).f1), .string ((qz7 l0_2 x6_1).f2), .bool ((qz7 l0_2 x6_1).f3), .bool ((qz7 l0_2 x6_1).f4)] 53 (0, 0)) (by (with_reducible repeat (first | refine qz3 ?_ _ | refine qz6 ?_ | refine qz4 ?_ _)); exact BK549.out) hg (Kd.R_ne HO_5.out BK549.out (by decide))); have n3_ := qza.mk ((by rw [hw]; exact qz8 (HB.out) GB20.out : Below w.heap.size w w29)); clear HO_5; clear BK547; clear BK549; clear HB; have HO_5 := n0_; have BK547 := n1_; have BK549 := n2_; have HB := n3_; clear n0_ n1_ n2_ n3_; clear hg hw hp_)))
                          go_roundg k3
                          case measure => have := HK1.out; have := HJ5.out; have := HK3.out; omega
                          case rel => exact ⟨(y552), (true), (wrap64 (x9_3 + 1)), (by first | rfl | (simp; done) | (simp [*]; done)), (by first | rfl | (simp; done) | (simp [*]; done)), H', ⟨by have := HK1.out; have := HJ5.out; have := HK3.out; omega⟩, ⟨by (with_reducible repeat (first | apply Kd.R_alloc | apply Kd.R_drewN | apply Kd.R_drew)); exact HO_5.out⟩, ⟨by (with_reducible repeat (first | refine qz3 ?_ _ | refine qz6 ?_ | refine qz4 ?_ _)); exact BK547.out⟩, ⟨by (with_reducible repeat (first | refine qz3 ?_ _ | refine qz6 ?_ | refine qz4 ?_ _)); exact BK549.out⟩, ⟨by repeat (first | (with_reducible first | exact HB.out | apply qz10 | apply qz5 | apply qz9 | refine qz8 ?_ GE547.out | refine qz8 ?_ GE549.out) | exact HB.out)⟩⟩
                        · rw [if_neg c19] at H
                          have c19b0 : (((qz18 x5_3 x9_3).f0).toList == ((qz7 l0_2 x6_1).f1).toList) = false := beq_eq_false_iff_ne.mpr c19
                          have c19b1 : (((qz18 x5_3 x9_3).f0).toList != ((qz7 l0_2 x6_1).f1).toList) = true := bne_iff_ne.mpr c19
                          have H' := qza.mk H
                          clear H
                          obtain ⟨Ao30, co30, eo30⟩ := Kd.R_slice HO_5.out
                          subst eo30
                          have p550 : 0 ≤ (x9_3 : Int) := of_decide_eq_true (by first | (with_reducible assumption) | assumption)
                          have q550 : x9_3 < (x5_3.length : Int) := of_decide_eq_true (by first | (with_reducible assumption) | assumption)
                          obtain ⟨ad550, e550, hx550_0, hx550_1, hx550_2⟩ := at_T74 (Kd.R_reads' HO_5.out).2.2 x9_3 p550 q550
                          cases e550
                          replace p550 := eq_true p550
                          replace q550 := eq_true q550
                          have hnb31 := NB549_547.out
                          have hnc31 := NB547_549.out
                          have hcz32_0 : wr.cell? ⟨gb549, 0, none⟩ = some (.int .u64 ((qz7 l0_2 x6_1).f0)) := (qz1 BK549.out 0).trans rfl
                          have hcz32_1 : wr.cell? ⟨gb549, 1, none⟩ = some (.string ((qz7 l0_2 x6_1).f1)) := (qz1 BK549.out 1).trans rfl
                          have hcz32_2 : wr.cell? ⟨gb549, 2, none⟩ = some (.string ((qz7 l0_2 x6_1).f2)) := (qz1 BK549.out 2).trans rfl
                          have hcz32_3 : wr.cell? ⟨gb549, 3, none⟩ = some (.bool ((qz7 l0_2 x6_1).f3)) := (qz1 BK549.out 3).trans rfl
                          have hcz32_4 : wr.cell? ⟨gb549, 4, none⟩ = some (.bool ((qz7 l0_2 x6_1).f4)) := (qz1 BK549.out 4).trans rfl
                          have hfz32_0 := qz0 BK549.out 0
                          have hfz32_1 := qz0 BK549.out 1
                          have hfz32_2 := qz0 BK549.out 2
                          have hfz32_3 := qz0 BK549.out 3
                          have hfz32_4 := qz0 BK549.out 4
                          go_wp2
                          repeat (go_quiet (fail); try go_wp2)
                          go_roundg k3
                          case measure => have := HK1.out; have := HJ5.out; have := HK3.out; omega
                          case rel => exact ⟨(x5_3), (x8_3), (wrap64 (x9_3 + 1)), (by first | rfl | (simp; done) | (simp [*]; done)), (by first | rfl | (simp; done) | (simp [*]; done)), H', ⟨by have := HK1.out; have := HJ5.out; have := HK3.out; omega⟩, ⟨by (with_reducible repeat (first | apply Kd.R_alloc | apply Kd.R_drewN | apply Kd.R_drew)); exact HO_5.out⟩, ⟨by (with_reducible repeat (first | refine qz3 ?_ _ | refine qz6 ?_ | refine qz4 ?_ _)); exact BK547.out⟩, ⟨by (with_reducible repeat (first | refine qz3 ?_ _ | refine qz6 ?_ | refine qz4 ?_ _)); exact BK549.out⟩, ⟨by repeat (first | (with_reducible first | exact HB.out | apply qz10 | apply qz5 | apply qz9 | refine qz8 ?_ GE547.out | refine qz8 ?_ GE549.out) | exact HB.out)⟩⟩
                      · rw [if_neg c18] at H
                        exact absurd H (by simp)
                    · rw [if_neg c17] at H
                      have c17b0 : decide (x9_3 < (x5_3.length : Int)) = false := decide_eq_false c17
                      clear c17
                      by_cases c33 : x8_3 = true
                      · subst c33
                        have H1 : (ferruleref20_Puts.l0 k3 a1 x5_3 (wrap64 (x6_1 + 1)) a0_0 a0_1 l0_2) = some r := by rw [if_pos rfl] at H; exact H
                        clear H
                        have H := H1
                        clear H1
                        have H' := qza.mk H
                        clear H
                        obtain ⟨Ao34, co34, eo34⟩ := Kd.R_slice HO_5.out
                        subst eo34
                        go_wp2
                        repeat (go_quiet (fail); try go_wp2)
                        go_roundg k3
                        case measure => have := HK1.out; have := HJ5.out; have := HK3.out; omega
                        case rel => exact ⟨(x5_3), (wrap64 (x6_1 + 1)), (by first | rfl | (simp; done) | (simp [*]; done)), H', ⟨by have := HK1.out; have := HJ5.out; have := HK3.out; omega⟩, ⟨by (with_reducible repeat (first | apply Kd.R_alloc | apply Kd.R_drewN | apply Kd.R_drew)); exact HO_5.out⟩, ⟨by (with_reducible repeat (first | refine qz3 ?_ _ | refine qz6 ?_ | refine qz4 ?_ _)); exact BK547.out⟩, ⟨by repeat (first | (with_reducible first | exact HB.out | apply qz10 | apply qz5 | apply qz9 | refine qz8 ?_ GE547.out | refine qz8 ?_ GE549.out) | exact HB.out)⟩⟩
                      · replace c33 := Bool.eq_false_iff.mpr c33
                        subst c33
                        have H1 : (if x5_3.length < 3518437208883 then (ferruleref20_Puts.l0 k3 a1 (x5_3 ++ [(⟨((qz7 l0_2 x6_1).f1), ((qz7 l0_2 x6_1).f2), ((qz7 l0_2 x6_1).f4)⟩ : S74)]) (wrap64 (x6_1 + 1)) a0_0 a0_1 l0_2) else (none)) = some r := by rw [if_neg (show ¬ (false = true) by decide)] at H; exact H
                        clear H
                        have H := H1
                        clear H1
                        by_cases c35 : x5_3.length < 3518437208883
                        · rw [if_pos c35] at H
                          have LMc35 := qza.mk c35
                          clear c35
                          obtain ⟨y553, hy553⟩ : ∃ y_ : List (S74), y_ = (x5_3 ++ [(⟨((qz7 l0_2 x6_1).f1), ((qz7 l0_2 x6_1).f2), ((qz7 l0_2 x6_1).f4)⟩ : S74)]) := ⟨_, rfl⟩
                          replace H : (ferruleref20_Puts.l0 k3 a1 y553 (wrap64 (x6_1 + 1)) a0_0 a0_1 l0_2) = some r := by first | (rw [hy553]; with_reducible exact H) | (have H2_ := (Option.bind_some _ _).symm.trans H; rw [hy553]; with_reducible exact H2_) | (have H2_ := (Option.bind_some _ _).symm.trans H; with_reducible exact H2_) | with_reducible exact H | (rw [hy553]; exact H) | exact H
                          have Ny553 := qza.mk hy553
                          clear hy553
                          have H' := qza.mk H
                          clear H
                          obtain ⟨Ao36, co36, eo36⟩ := Kd.R_slice HO_5.out
                          subst eo36
                          have hnb37 := NB549_547.out
                          have hnc37 := NB547_549.out
                          have hcz38_0 : wr.cell? ⟨gb549, 0, none⟩ = some (.int .u64 ((qz7 l0_2 x6_1).f0)) := (qz1 BK549.out 0).trans rfl
                          have hcz38_1 : wr.cell? ⟨gb549, 1, none⟩ = some (.string ((qz7 l0_2 x6_1).f1)) := (qz1 BK549.out 1).trans rfl
                          have hcz38_2 : wr.cell? ⟨gb549, 2, none⟩ = some (.string ((qz7 l0_2 x6_1).f2)) := (qz1 BK549.out 2).trans rfl
                          have hcz38_3 : wr.cell? ⟨gb549, 3, none⟩ = some (.bool ((qz7 l0_2 x6_1).f3)) := (qz1 BK549.out 3).trans rfl
                          have hcz38_4 : wr.cell? ⟨gb549, 4, none⟩ = some (.bool ((qz7 l0_2 x6_1).f4)) := (qz1 BK549.out 4).trans rfl
                          have hfz38_0 := qz0 BK549.out 0
                          have hfz38_1 := qz0 BK549.out 1
                          have hfz38_2 := qz0 BK549.out 2
                          have hfz38_3 := qz0 BK549.out 3
                          have hfz38_4 := qz0 BK549.out 4
                          go_wp2_with (first | ((with_reducible refine qz49 (b := .append) (xs := #[.tmp 59, .tmp 67]) rfl ?_); at_builtin; refine Kd.R_append k74 (w0 := w) w.heap.size rfl (.tmp 59) (.tmp 67) 35 74 (.agg #[(.string ⟨#[]⟩), (.string ⟨#[]⟩), (.bool false)]) 40 rfl Try.underlying35 info74 rfl (by decide) (by omega) (.slice Ao36 x5_3.length co36) x5_3 (⟨((qz7 l0_2 x6_1).f1), ((qz7 l0_2 x6_1).f2), ((qz7 l0_2 x6_1).f4)⟩ : S74) [.string ((qz7 l0_2 x6_1).f1), .string ((qz7 l0_2 x6_1).f2), .bool ((qz7 l0_2 x6_1).f4)] (fun _ => True) (fun _ => False) rfl rfl ?aP (fun _ hk => hk.elim) ?aF ?aO ?aB ?aS ?aL ?_; (case aP => exact k74_mkM _ _ _ (⟨((qz7 l0_2 x6_1).f1), ((qz7 l0_2 x6_1).f2), ((qz7 l0_2 x6_1).f4)⟩ : S74)); (case aB => exact (by repeat (first | (with_reducible first | exact HB.out | apply qz10 | apply qz5 | apply qz9 | refine qz8 ?_ GE547.out | refine qz8 ?_ GE549.out) | exact HB.out))); (case aF => exact (fun _ _ => trivial)); (case aO => exact (by (with_reducible repeat (first | apply Kd.R_alloc | apply Kd.R_drewN | apply Kd.R_drew)); exact HO_5.out)); (case aS => exact (qz15 (by repeat (first | (with_reducible first | exact HB.out | apply qz10 | apply qz5 | apply qz9 | refine qz8 ?_ GE547.out | refine qz8 ?_ GE549.out) | exact HB.out)))); (case aL => have := LMc35.out; omega); intro v554 w39 ho hb hg hat; rw [← Ny553.out] at ho; have n0_ := qza.mk (qz38 (g := gb547) (o := .cells #[.int .u64 a0_0, .int .u64 a0_1, .slice (some ad548) l0_2.length c0_2] 27 (0, 0)) (by (with_reducible repeat (first | refine qz3 ?_ _ | refine qz6 ?_ | refine qz4 ?_ _)); exact BK547.out) hg (Kd.R_ne HO_5.out BK547.out (by decide))); have n1_ := qza.mk (qz38 (g := gb549) (o := .cells #[.int .u64 ((qz7 l0_2 x6_1).f0), .string ((qz7 l0_2 x6_1).f1), .string ((qz7 l0_2 x6_1).f2), .bool ((qz7 l0_2 x6_1).f3), .bool ((qz7 l0_2 x6_1).f4)] 53 (0, 0)) (by (with_reducible repeat (first | refine qz3 ?_ _ | refine qz6 ?_ | refine qz4 ?_ _)); exact BK549.out) hg (Kd.R_ne HO_5.out BK549.out (by decide))); have n2_ := qza.mk (hb); have n3_ := qza.mk (ho); clear BK547; clear BK549; clear HB; clear HO_5; have BK547 := n0_; have BK549 := n1_; have HB := n2_; have HO555 := n3_; clear n0_ n1_ n2_ n3_; clear ho hb hg hat))
                          repeat (go_quiet (first | ((with_reducible refine qz49 (b := .append) (xs := #[.tmp 59, .tmp 67]) rfl ?_); at_builtin; refine Kd.R_append k74 (w0 := w) w.heap.size rfl (.tmp 59) (.tmp 67) 35 74 (.agg #[(.string ⟨#[]⟩), (.string ⟨#[]⟩), (.bool false)]) 40 rfl Try.underlying35 info74 rfl (by decide) (by omega) (.slice Ao36 x5_3.length co36) x5_3 (⟨((qz7 l0_2 x6_1).f1), ((qz7 l0_2 x6_1).f2), ((qz7 l0_2 x6_1).f4)⟩ : S74) [.string ((qz7 l0_2 x6_1).f1), .string ((qz7 l0_2 x6_1).f2), .bool ((qz7 l0_2 x6_1).f4)] (fun _ => True) (fun _ => False) rfl rfl ?aP (fun _ hk => hk.elim) ?aF ?aO ?aB ?aS ?aL ?_; (case aP => exact k74_mkM _ _ _ (⟨((qz7 l0_2 x6_1).f1), ((qz7 l0_2 x6_1).f2), ((qz7 l0_2 x6_1).f4)⟩ : S74)); (case aB => exact (by repeat (first | (with_reducible first | exact HB.out | apply qz10 | apply qz5 | apply qz9 | refine qz8 ?_ GE547.out | refine qz8 ?_ GE549.out) | exact HB.out))); (case aF => exact (fun _ _ => trivial)); (case aO => exact (by (with_reducible repeat (first | apply Kd.R_alloc | apply Kd.R_drewN | apply Kd.R_drew)); exact HO_5.out)); (case aS => exact (qz15 (by repeat (first | (with_reducible first | exact HB.out | apply qz10 | apply qz5 | apply qz9 | refine qz8 ?_ GE547.out | refine qz8 ?_ GE549.out) | exact HB.out)))); (case aL => have := LMc35.out; omega); intro v554 w39 ho hb hg hat; rw [← Ny553.out] at ho; have n0_ := qza.mk (qz38 (g := gb547) (o := .cells #[.int .u64 a0_0, .int .u64 a0_1, .slice (some ad548) l0_2.length c0_2] 27 (0, 0)) (by (with_reducible repeat (first | refine qz3 ?_ _ | refine qz6 ?_ | refine qz4 ?_ _)); exact BK547.out) hg (Kd.R_ne HO_5.out BK547.out (by decide))); have n1_ := qza.mk (qz38 (g := gb549) (o := .cells #[.int .u64 ((qz7 l0_2 x6_1).f0), .string ((qz7 l0_2 x6_1).f1), .string ((qz7 l0_2 x6_1).f2), .bool ((qz7 l0_2 x6_1).f3), .bool ((qz7 l0_2 x6_1).f4)] 53 (0, 0)) (by (with_reducible repeat (first | refine qz3 ?_ _ | refine qz6 ?_ | refine qz4 ?_ _)); exact BK549.out) hg (Kd.R_ne HO_5.out BK549.out (by decide))); have n2_ := qza.mk (hb); have n3_ := qza.mk (ho); clear BK547; clear BK549; clear HB; clear HO_5; have BK547 := n0_; have BK549 := n1_; have HB := n2_; have HO555 := n3_; clear n0_ n1_ n2_ n3_; clear ho hb hg hat)); try go_wp2_with (first | ((with_reducible refine qz49 (b := .append) (xs := #[.tmp 59, .tmp 67]) rfl ?_); at_builtin; refine Kd.R_append k74 (w0 := w) w.heap.size rfl (.tmp 59) (.tmp 67) 35 74 (.agg #[(.string ⟨#[]⟩), (.string ⟨#[]⟩), (.bool false)]) 40 rfl Try.underlying35 info74 rfl (by decide) (by omega) (.slice Ao36 x5_3.length co36) x5_3 (⟨((qz7 l0_2 x6_1).f1), ((qz7 l0_2 x6_1).f2), ((qz7 l0_2 x6_1).f4)⟩ : S74) [.string ((qz7 l0_2 x6_1).f1), .string ((qz7 l0_2 x6_1).f2), .bool ((qz7 l0_2 x6_1).f4)] (fun _ => True) (fun _ => False) rfl rfl ?aP (fun _ hk => hk.elim) ?aF ?aO ?aB ?aS ?aL ?_; (case aP => exact k74_mkM _ _ _ (⟨((qz7 l0_2 x6_1).f1), ((qz7 l0_2 x6_1).f2), ((qz7 l0_2 x6_1).f4)⟩ : S74)); (case aB => exact (by repeat (first | (with_reducible first | exact HB.out | apply qz10 | apply qz5 | apply qz9 | refine qz8 ?_ GE547.out | refine qz8 ?_ GE549.out) | exact HB.out))); (case aF => exact (fun _ _ => trivial)); (case aO => exact (by (with_reducible repeat (first | apply Kd.R_alloc | apply Kd.R_drewN | apply Kd.R_drew)); exact HO_5.out)); (case aS => exact (qz15 (by repeat (first | (with_reducible first | exact HB.out | apply qz10 | apply qz5 | apply qz9 | refine qz8 ?_ GE547.out | refine qz8 ?_ GE549.out) | exact HB.out)))); (case aL => have := LMc35.out; omega); intro v554 w39 ho hb hg hat; rw [← Ny553.out] at ho; have n0_ := qza.mk (qz38 (g := gb547) (o := .cells #[.int .u64 a0_0, .int .u64 a0_1, .slice (some ad548) l0_2.length c0_2] 27 (0, 0)) (by (with_reducible repeat (first | refine qz3 ?_ _ | refine qz6 ?_ | refine qz4 ?_ _)); exact BK547.out) hg (Kd.R_ne HO_5.out BK547.out (by decide))); have n1_ := qza.mk (qz38 (g := gb549) (o := .cells #[.int .u64 ((qz7 l0_2 x6_1).f0), .string ((qz7 l0_2 x6_1).f1), .string ((qz7 l0_2 x6_1).f2), .bool ((qz7 l0_2 x6_1).f3), .bool ((qz7 l0_2 x6_1).f4)] 53 (0, 0)) (by (with_reducible repeat (first | refine qz3 ?_ _ | refine qz6 ?_ | refine qz4 ?_ _)); exact BK549.out) hg (Kd.R_ne HO_5.out BK549.out (by decide))); have n2_ := qza.mk (hb); have n3_ := qza.mk (ho); clear BK547; clear BK549; clear HB; clear HO_5; have BK547 := n0_; have BK549 := n1_; have HB := n2_; have HO555 := n3_; clear n0_ n1_ n2_ n3_; clear ho hb hg hat)))
                          go_roundg k3
                          case measure => have := HK1.out; have := HJ5.out; have := HK3.out; omega
                          case rel => exact ⟨(y553), (wrap64 (x6_1 + 1)), (by first | rfl | (simp; done) | (simp [*]; done)), H', ⟨by have := HK1.out; have := HJ5.out; have := HK3.out; omega⟩, ⟨by (with_reducible repeat (first | apply Kd.R_alloc | apply Kd.R_drewN | apply Kd.R_drew)); exact HO555.out⟩, ⟨by (with_reducible repeat (first | refine qz3 ?_ _ | refine qz6 ?_ | refine qz4 ?_ _)); exact BK547.out⟩, ⟨by repeat (first | (with_reducible first | exact HB.out | apply qz10 | apply qz5 | apply qz9 | refine qz8 ?_ GE547.out | refine qz8 ?_ GE549.out) | exact HB.out)⟩⟩
                        · rw [if_neg c35] at H
                          exact absurd H (by simp)
        · rw [if_neg c5] at H
          exact absurd H (by simp)
      · rw [if_neg c4] at H
        have c4b0 : decide (x6_1 < (l0_2.length : Int)) = false := decide_eq_false c4
        clear c4
        obtain rfl := Option.some.inj H
        have hcz40_0 : wr.cell? ⟨gb547, 0, none⟩ = some (.int .u64 a0_0) := (qz1 BK547.out 0).trans rfl
        have hcz40_1 : wr.cell? ⟨gb547, 1, none⟩ = some (.int .u64 a0_1) := (qz1 BK547.out 1).trans rfl
        have hcz40_2 : wr.cell? ⟨gb547, 2, none⟩ = some (.slice A0_2 l0_2.length c0_2) := (qz1 BK547.out 2).trans rfl
        have hfz40_0 := qz0 BK547.out 0
        have hfz40_1 := qz0 BK547.out 1
        have hfz40_2 := qz0 BK547.out 2
        go_wp2
        repeat (go_quiet (fail); try go_wp2)
        go_ret
        exact ⟨_, by first | rfl | (simp [qz21, qz22] <;> rfl) | (simp [*, qz21, qz22] <;> rfl), by (with_reducible repeat (first | apply Kd.R_alloc | apply Kd.R_drewN | apply Kd.R_drew)); exact HO_5.out, by repeat (first | (with_reducible first | exact HB.out | apply qz10 | apply qz5 | apply qz9 | refine qz8 ?_ GE547.out) | exact HB.out)⟩
end Go.Proofs.Ytkennobdoldlkaa.PAll
end
