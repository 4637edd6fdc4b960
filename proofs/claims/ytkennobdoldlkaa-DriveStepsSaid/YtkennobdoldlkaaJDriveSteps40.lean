/- Joined texts of the claim DriveSteps (part 40): contracts of functions and plain laws. -/
import Derived.Test.YtkennobdoldlkaaJDriveSteps15
set_option linter.unusedVariables false
set_option linter.unusedSimpArgs false
section
namespace Go.Proofs.Ytkennobdoldlkaa.PAll
open Go.RowKit Go.Proofs.YtkennobdoldlkaaW.PrintWords Go.Proofs.YtkennobdoldlkaaW.PrintLast Go.Proofs.YtkennobdoldlkaaW.PrintMore
attribute [local go_sem] qz51 qz52 max_two min_two qz45 qz46 qz53 qz54
mutual
def ferruleref20_Parts.l0 : Nat → List Int → Int → Int → Int → List (S53) → Option (List Int)
  | 0, _, _, _, _, _ => none
  | k + 1, x3, x4, x504000, x504001, x504002 => if x4 < (x504002.length : Int) then (if 0 ≤ x4 then (ferruleref20_Parts.l1 k x3 x4 ((qz7 x504002 x4).f0) 0 x504000 x504001 x504002) else (none)) else (some x3)
def ferruleref20_Parts.l1 : Nat → List Int → Int → Int → Int → Int → Int → List (S53) → Option (List Int)
  | 0, _, _, _, _, _, _, _ => none
  | k + 1, x3, x4, x5, x6, x504000, x504001, x504002 => if x6 < (x3.length : Int) then (if 0 ≤ x6 then (if (rd x3 x6) < x5 then (ferruleref20_Parts.l1 k x3 x4 x5 (wrap64 (x6 + 1)) x504000 x504001 x504002) else (if (rd x3 x6) = x5 then (ferruleref20_Parts.l0 k x3 (wrap64 (x4 + 1)) x504000 x504001 x504002) else ((some (([] : List Int) : List Int)).bind fun y507 => (if x6 ≤ (x3.length : Int) then ((some (x3.take (x6 : Int).toNat : List Int)).bind fun y510 => (if y507.length + y510.length < 17592186044416 then ((some (y507 ++ y510 : List Int)).bind fun y514 => (if y514.length < 17592186044416 then ((some (y514 ++ [x5] : List Int)).bind fun y517 => ((some (x3.drop (x6 : Int).toNat : List Int)).bind fun y520 => (if y517.length + y520.length < 17592186044416 then (ferruleref20_Parts.l0 k (y517 ++ y520) (wrap64 (x4 + 1)) x504000 x504001 x504002) else (none)))) else (none))) else (none))) else (none))))) else (none)) else ((some (([] : List Int) : List Int)).bind fun y527 => (if 0 ≤ x6 then (if x6 ≤ (x3.length : Int) then ((some (x3.take (x6 : Int).toNat : List Int)).bind fun y530 => (if y527.length + y530.length < 17592186044416 then ((some (y527 ++ y530 : List Int)).bind fun y534 => (if y534.length < 17592186044416 then ((some (y534 ++ [x5] : List Int)).bind fun y537 => ((some (x3.drop (x6 : Int).toNat : List Int)).bind fun y540 => (if y537.length + y540.length < 17592186044416 then (ferruleref20_Parts.l0 k (y537 ++ y540) (wrap64 (x4 + 1)) x504000 x504001 x504002) else (none)))) else (none))) else (none))) else (none)) else (none)))
end
def ferruleref20_Parts.f (k : Nat) (a0_0 : Int) (a0_1 : Int) (l0_2 : List (S53)) : Option (List Int) := ferruleref20_Parts.l0 k ([] : List Int) 0 a0_0 a0_1 l0_2
set_option maxHeartbeats 8000000 in
set_option maxRecDepth 100000 in
theorem ferruleref20_Parts.calls (k : Nat) (a0_0 : Int) (a0_1 : Int) (A0_2 : Option Addr) (c0_2 : Nat) (l0_2 : List (S53)) (r : List Int) (w : World) (hr0_2 : Kd.C k53 w A0_2 l0_2.length l0_2) (hc0_2 : l0_2.length ≤ c0_2) (h : ferruleref20_Parts.f k a0_0 a0_1 l0_2 = some r) :
    Calls Try.prog 19 #[.agg #[.int .u64 a0_0, .int .u64 a0_1, .slice A0_2 l0_2.length c0_2]] w fun e w' => ∃ v0_ : Value, e = .returned (v0_) ∧ Kd.R (Kd.int .u64) 22 w' w.heap.size (fun _ => True) v0_ r ∧ Below w.heap.size w w' := by
  have hu27 := Try.underlying27
  have HR0_2 := qza.mk hr0_2
  have HC0_2 := qza.mk hc0_2
  clear hr0_2 hc0_2
  have HB := qza.mk (Below.refl w.heap.size w)
  have H : (ferruleref20_Parts.l0 k ([] : List Int) 0 a0_0 a0_1 l0_2) = some r := h
  clear h
  have H' := qza.mk H
  clear H
  go_enter Try.func19, Try.ntmps19
  go_wp2_with (first | ((with_reducible refine qz31 (N := 1) rfl ?_); refine qz32 ?hg (N := 1) ?hd (cs := #[.int .u64 a0_0, .int .u64 a0_1, .slice A0_2 l0_2.length c0_2]) (t := 27) ?hr ?_; (case hd => rfl); (case hg => rfl); (case hr => first | (go_simp; done) | (go_simp; rfl)); intro gb503 hg w2 hbox hb; have n0_ := qza.mk (qz25 (by repeat (first | (with_reducible first | exact HB.out | apply qz10 | apply qz5 | apply qz9) | exact HB.out)) hb); have n1_ := qza.mk (hbox); have n2_ := qza.mk ((by rw [hg]; exact (qz15 (by repeat (first | (with_reducible first | exact HB.out | apply qz10 | apply qz5 | apply qz9) | exact HB.out))) : w.heap.size ≤ gb503)); have n3_ := qza.mk ((by rw [hg]; exact (qz15 (by repeat (first | (with_reducible first | exact HB.out | apply qz10 | apply qz5 | apply qz9) | exact HB.out))) : w.heap.size ≤ gb503)); clear HB; have HB := n0_; have BK503 := n1_; have GW503 := n2_; have GE503 := n3_; clear n0_ n1_ n2_ n3_; clear hb hbox hg))
  go_loopg [3, 4] k (fun kq v3 v4 w' => ∃ (x3_1 : List Int) (x4_1 : Int), v4 = .int .i64 x4_1 ∧ qza (ferruleref20_Parts.l0 kq x3_1 x4_1 a0_0 a0_1 l0_2 = some r) ∧ qza (kq ≤ k) ∧ qza (Kd.R (Kd.int .u64) 22 w' w.heap.size (fun _ => True) v3 x3_1) ∧ qza (w'.heap[gb503]? = some (.cells #[.int .u64 a0_0, .int .u64 a0_1, (.slice A0_2 l0_2.length c0_2)] 27 (0, 0))) ∧ qza (Below w.heap.size w w'))
  case atStart => exact ⟨(([] : List Int)), (0), (by first | rfl | (simp; done) | (simp [*]; done)), H', ⟨Nat.le_refl _⟩, ⟨by first | exact Kd.R_nil _ _ _ _ _ | exact Kd.N_nil _ _ _ _ _ | exact Kd.V_nil _ _ _ _ _ | exact Kd.Q_nil _ _ _ _ _ | exact Kd.S_nil _ _ _ _ _⟩, ⟨by (with_reducible repeat (first | refine qz3 ?_ _ | refine qz6 ?_ | refine qz4 ?_ _)); exact BK503.out⟩, ⟨by repeat (first | (with_reducible first | exact HB.out | apply qz10 | apply qz5 | apply qz9 | refine qz8 ?_ GE503.out) | exact HB.out)⟩⟩
  case round =>
    clear H'
    try clear c1
    try clear p2
    obtain ⟨x3_1, x4_1, rfl, HA, HK1, HO_3, BK503, HB⟩ := hrel
    cases gk with
    | zero => exact absurd HA.out (by simp [ferruleref20_Parts.l0])
    | succ k1 =>
      have H := HA.out
      clear HA
      simp only [ferruleref20_Parts.l0] at H
      by_cases c3 : x4_1 < (l0_2.length : Int)
      · rw [if_pos c3] at H
        have c3b0 : decide (x4_1 < (l0_2.length : Int)) = true := decide_eq_true c3
        clear c3
        by_cases c4 : 0 ≤ x4_1
        · rw [if_pos c4] at H
          have c4b0 : decide (0 ≤ x4_1) = true := decide_eq_true c4
          clear c4
          have H' := qza.mk H
          clear H
          have hcz5_0 : wr.cell? ⟨gb503, 0, none⟩ = some (.int .u64 a0_0) := (qz1 BK503.out 0).trans rfl
          have hcz5_1 : wr.cell? ⟨gb503, 1, none⟩ = some (.int .u64 a0_1) := (qz1 BK503.out 1).trans rfl
          have hcz5_2 : wr.cell? ⟨gb503, 2, none⟩ = some (.slice A0_2 l0_2.length c0_2) := (qz1 BK503.out 2).trans rfl
          have hfz5_0 := qz0 BK503.out 0
          have hfz5_1 := qz0 BK503.out 1
          have hfz5_2 := qz0 BK503.out 2
          have p504 : 0 ≤ (x4_1 : Int) := of_decide_eq_true (by first | (with_reducible assumption) | assumption)
          have q504 : x4_1 < (l0_2.length : Int) := of_decide_eq_true (by first | (with_reducible assumption) | assumption)
          obtain ⟨ad504, e504, hx504_0, hx504_1, hx504_2, hx504_3, hx504_4⟩ := at_T53 HR0_2.out x4_1 p504 q504
          cases e504
          replace hx504_0 := (HB.out.cell (World.block_lt_of_cell? w _ hx504_0)).trans hx504_0
          replace hx504_1 := (HB.out.cell (World.block_lt_of_cell? w _ hx504_1)).trans hx504_1
          replace hx504_2 := (HB.out.cell (World.block_lt_of_cell? w _ hx504_2)).trans hx504_2
          replace hx504_3 := (HB.out.cell (World.block_lt_of_cell? w _ hx504_3)).trans hx504_3
          replace hx504_4 := (HB.out.cell (World.block_lt_of_cell? w _ hx504_4)).trans hx504_4
          replace p504 := eq_true p504
          replace q504 := eq_true q504
          go_wp2
          go_loopg [6] k1 (fun kq v6 w' => ∃ (x6_2 : Int), v6 = .int .i64 x6_2 ∧ qza (ferruleref20_Parts.l1 kq x3_1 x4_1 ((qz7 l0_2 x4_1).f0) x6_2 a0_0 a0_1 l0_2 = some r) ∧ qza (kq ≤ k1) ∧ qza (Kd.R (Kd.int .u64) 22 w' w.heap.size (fun _ => True) u3 x3_1) ∧ qza (w'.heap[gb503]? = some (.cells #[.int .u64 a0_0, .int .u64 a0_1, (.slice (some ad504) l0_2.length c0_2)] 27 (0, 0))) ∧ qza (Below w.heap.size w w'))
          case atStart => exact ⟨(0), (by first | rfl | (simp; done) | (simp [*]; done)), H', ⟨Nat.le_refl _⟩, ⟨by (with_reducible repeat (first | apply Kd.R_alloc | apply Kd.R_drewN | apply Kd.R_drew)); exact HO_3.out⟩, ⟨by (with_reducible repeat (first | refine qz3 ?_ _ | refine qz6 ?_ | refine qz4 ?_ _)); exact BK503.out⟩, ⟨by repeat (first | (with_reducible first | exact HB.out | apply qz10 | apply qz5 | apply qz9 | refine qz8 ?_ GE503.out) | exact HB.out)⟩⟩
          case round =>
            clear H'
            try clear c1
            try clear p2
            try clear c3
            try clear c3b0
            try clear c4
            try clear c4b0
            try clear p5
            try clear q5
            try clear hx5
            try clear hcz5_0
            try clear hcz5_1
            try clear hcz5_2
            try clear hfz5_0
            try clear hfz5_1
            try clear hfz5_2
            try clear hx504_0
            try clear hx504_1
            try clear hx504_2
            try clear hx504_3
            try clear hx504_4
            try clear p2
            try clear p504
            try clear q504
            obtain ⟨x6_2, rfl, HA, HK2, HO_3, BK503, HB⟩ := hrel
            cases gk with
            | zero => exact absurd HA.out (by simp [ferruleref20_Parts.l1])
            | succ k2 =>
              have H := HA.out
              clear HA
              simp only [ferruleref20_Parts.l1] at H
              by_cases c6 : x6_2 < (x3_1.length : Int)
              · rw [if_pos c6] at H
                have c6b0 : decide (x6_2 < (x3_1.length : Int)) = true := decide_eq_true c6
                clear c6
                by_cases c7 : 0 ≤ x6_2
                · rw [if_pos c7] at H
                  have c7b0 : decide (0 ≤ x6_2) = true := decide_eq_true c7
                  clear c7
                  by_cases c8 : (rd x3_1 x6_2) < ((qz7 l0_2 x4_1).f0)
                  · rw [if_pos c8] at H
                    have c8b0 : decide ((rd x3_1 x6_2) < ((qz7 l0_2 x4_1).f0)) = true := decide_eq_true c8
                    clear c8
                    have H' := qza.mk H
                    clear H
                    obtain ⟨Ao9, co9, eo9⟩ := Kd.R_slice HO_3.out
                    subst eo9
                    have p505 : 0 ≤ (x6_2 : Int) := of_decide_eq_true (by first | (with_reducible assumption) | assumption)
                    have q505 : x6_2 < (x3_1.length : Int) := of_decide_eq_true (by first | (with_reducible assumption) | assumption)
                    obtain ⟨ad505, e505, hx505_0⟩ := Kd.at_int (Kd.R_reads' HO_3.out).2.2 x6_2 p505 q505
                    cases e505
                    replace p505 := eq_true p505
                    replace q505 := eq_true q505
                    go_wp2
                    go_roundg k2
                    case measure => have := HK1.out; have := HK2.out; omega
                    case rel => exact ⟨(wrap64 (x6_2 + 1)), (by first | rfl | (simp; done) | (simp [*]; done)), H', ⟨by have := HK1.out; have := HK2.out; omega⟩, ⟨by (with_reducible repeat (first | apply Kd.R_alloc | apply Kd.R_drewN | apply Kd.R_drew)); exact HO_3.out⟩, ⟨by (with_reducible repeat (first | refine qz3 ?_ _ | refine qz6 ?_ | refine qz4 ?_ _)); exact BK503.out⟩, ⟨by repeat (first | (with_reducible first | exact HB.out | apply qz10 | apply qz5 | apply qz9 | refine qz8 ?_ GE503.out) | exact HB.out)⟩⟩
                  · rw [if_neg c8] at H
                    have c8b0 : decide ((rd x3_1 x6_2) < ((qz7 l0_2 x4_1).f0)) = false := decide_eq_false c8
                    clear c8
                    by_cases c10 : (rd x3_1 x6_2) = ((qz7 l0_2 x4_1).f0)
                    · rw [if_pos c10] at H
                      have c10b0 : ((rd x3_1 x6_2) == ((qz7 l0_2 x4_1).f0)) = true := beq_iff_eq.mpr c10
                      have c10b1 : ((rd x3_1 x6_2) != ((qz7 l0_2 x4_1).f0)) = false := bne_eq_false_iff_eq.mpr c10
                      clear c10
                      have H' := qza.mk H
                      clear H
                      obtain ⟨Ao11, co11, eo11⟩ := Kd.R_slice HO_3.out
                      subst eo11
                      have p505 : 0 ≤ (x6_2 : Int) := of_decide_eq_true (by first | (with_reducible assumption) | assumption)
                      have q505 : x6_2 < (x3_1.length : Int) := of_decide_eq_true (by first | (with_reducible assumption) | assumption)
                      obtain ⟨ad505, e505, hx505_0⟩ := Kd.at_int (Kd.R_reads' HO_3.out).2.2 x6_2 p505 q505
                      cases e505
                      replace p505 := eq_true p505
                      replace q505 := eq_true q505
                      have p506 : 0 ≤ (x6_2 : Int) := of_decide_eq_true (by first | (with_reducible assumption) | assumption)
                      have q506 : x6_2 < (x3_1.length : Int) := of_decide_eq_true (by first | (with_reducible assumption) | assumption)
                      obtain ⟨ad506, e506, hx506_0⟩ := Kd.at_int (Kd.R_reads' HO_3.out).2.2 x6_2 p506 q506
                      obtain rfl : ad505 = ad506 := (by injection e506)
                      replace p506 := eq_true p506
                      replace q506 := eq_true q506
                      go_wp2
                      go_roundg k2
                      case measure => have := HK1.out; have := HK2.out; omega
                      case rel => exact ⟨(x3_1), (wrap64 (x4_1 + 1)), (by first | rfl | (simp; done) | (simp [*]; done)), H', ⟨by have := HK1.out; have := HK2.out; omega⟩, ⟨by (with_reducible repeat (first | apply Kd.R_alloc | apply Kd.R_drewN | apply Kd.R_drew)); exact HO_3.out⟩, ⟨by (with_reducible repeat (first | refine qz3 ?_ _ | refine qz6 ?_ | refine qz4 ?_ _)); exact BK503.out⟩, ⟨by repeat (first | (with_reducible first | exact HB.out | apply qz10 | apply qz5 | apply qz9 | refine qz8 ?_ GE503.out) | exact HB.out)⟩⟩
                    · rw [if_neg c10] at H
                      have c10b0 : ((rd x3_1 x6_2) == ((qz7 l0_2 x4_1).f0)) = false := beq_eq_false_iff_ne.mpr c10
                      have c10b1 : ((rd x3_1 x6_2) != ((qz7 l0_2 x4_1).f0)) = true := bne_iff_ne.mpr c10
                      obtain ⟨y507, hy507⟩ : ∃ y_ : List Int, y_ = (([] : List Int)) := ⟨_, rfl⟩
                      replace H : (if x6_2 ≤ (x3_1.length : Int) then ((some (x3_1.take (x6_2 : Int).toNat : List Int)).bind fun y510 => (if y507.length + y510.length < 17592186044416 then ((some (y507 ++ y510 : List Int)).bind fun y514 => (if y514.length < 17592186044416 then ((some (y514 ++ [((qz7 l0_2 x4_1).f0)] : List Int)).bind fun y517 => ((some (x3_1.drop (x6_2 : Int).toNat : List Int)).bind fun y520 => (if y517.length + y520.length < 17592186044416 then (ferruleref20_Parts.l0 k2 (y517 ++ y520) (wrap64 (x4_1 + 1)) a0_0 a0_1 l0_2) else (none)))) else (none))) else (none))) else (none)) = some r := by first | (rw [hy507]; with_reducible exact H) | (have H2_ := (Option.bind_some _ _).symm.trans H; rw [hy507]; with_reducible exact H2_) | (have H2_ := (Option.bind_some _ _).symm.trans H; with_reducible exact H2_) | with_reducible exact H | (rw [hy507]; exact H) | exact H
                      have Ny507 := qza.mk hy507
                      clear hy507
                      have c12b0 := eq_true (of_decide_eq_true (by first | (with_reducible assumption) | assumption) : 0 ≤ x6_2)
                      by_cases c13 : x6_2 ≤ (x3_1.length : Int)
                      · rw [if_pos c13] at H
                        have c13b0 := eq_true c13
                        have c13b1 : decide (x6_2 ≤ (x3_1.length : Int)) = true := decide_eq_true c13
                        clear c13
                        obtain ⟨y510, hy510⟩ : ∃ y_ : List Int, y_ = (x3_1.take (x6_2 : Int).toNat) := ⟨_, rfl⟩
                        replace H : (if y507.length + y510.length < 17592186044416 then ((some (y507 ++ y510 : List Int)).bind fun y514 => (if y514.length < 17592186044416 then ((some (y514 ++ [((qz7 l0_2 x4_1).f0)] : List Int)).bind fun y517 => ((some (x3_1.drop (x6_2 : Int).toNat : List Int)).bind fun y520 => (if y517.length + y520.length < 17592186044416 then (ferruleref20_Parts.l0 k2 (y517 ++ y520) (wrap64 (x4_1 + 1)) a0_0 a0_1 l0_2) else (none)))) else (none))) else (none)) = some r := by first | (rw [hy510]; with_reducible exact H) | (have H2_ := (Option.bind_some _ _).symm.trans H; rw [hy510]; with_reducible exact H2_) | (have H2_ := (Option.bind_some _ _).symm.trans H; with_reducible exact H2_) | with_reducible exact H | (rw [hy510]; exact H) | exact H
                        have Ny510 := qza.mk hy510
                        clear hy510
                        by_cases c14 : y507.length + y510.length < 17592186044416
                        · rw [if_pos c14] at H
                          have LMc14 := qza.mk c14
                          clear c14
                          obtain ⟨y514, hy514⟩ : ∃ y_ : List Int, y_ = (y507 ++ y510) := ⟨_, rfl⟩
                          replace H : (if y514.length < 17592186044416 then ((some (y514 ++ [((qz7 l0_2 x4_1).f0)] : List Int)).bind fun y517 => ((some (x3_1.drop (x6_2 : Int).toNat : List Int)).bind fun y520 => (if y517.length + y520.length < 17592186044416 then (ferruleref20_Parts.l0 k2 (y517 ++ y520) (wrap64 (x4_1 + 1)) a0_0 a0_1 l0_2) else (none)))) else (none)) = some r := by first | (rw [hy514]; with_reducible exact H) | (have H2_ := (Option.bind_some _ _).symm.trans H; rw [hy514]; with_reducible exact H2_) | (have H2_ := (Option.bind_some _ _).symm.trans H; with_reducible exact H2_) | with_reducible exact H | (rw [hy514]; exact H) | exact H
                          have Ny514 := qza.mk hy514
                          clear hy514
                          by_cases c15 : y514.length < 17592186044416
                          · rw [if_pos c15] at H
                            have LMc15 := qza.mk c15
                            clear c15
                            obtain ⟨y517, hy517⟩ : ∃ y_ : List Int, y_ = (y514 ++ [((qz7 l0_2 x4_1).f0)]) := ⟨_, rfl⟩
                            replace H : ((some (x3_1.drop (x6_2 : Int).toNat : List Int)).bind fun y520 => (if y517.length + y520.length < 17592186044416 then (ferruleref20_Parts.l0 k2 (y517 ++ y520) (wrap64 (x4_1 + 1)) a0_0 a0_1 l0_2) else (none))) = some r := by first | (rw [hy517]; with_reducible exact H) | (have H2_ := (Option.bind_some _ _).symm.trans H; rw [hy517]; with_reducible exact H2_) | (have H2_ := (Option.bind_some _ _).symm.trans H; with_reducible exact H2_) | with_reducible exact H | (rw [hy517]; exact H) | exact H
                            have Ny517 := qza.mk hy517
                            clear hy517
                            have c16b0 := eq_true (of_decide_eq_true (by first | (with_reducible assumption) | assumption) : 0 ≤ x6_2)
                            have c17b0 := eq_true (of_decide_eq_true (by first | (with_reducible assumption) | assumption) : x6_2 ≤ (x3_1.length : Int))
                            obtain ⟨y520, hy520⟩ : ∃ y_ : List Int, y_ = (x3_1.drop (x6_2 : Int).toNat) := ⟨_, rfl⟩
                            replace H : (if y517.length + y520.length < 17592186044416 then (ferruleref20_Parts.l0 k2 (y517 ++ y520) (wrap64 (x4_1 + 1)) a0_0 a0_1 l0_2) else (none)) = some r := by first | (rw [hy520]; with_reducible exact H) | (have H2_ := (Option.bind_some _ _).symm.trans H; rw [hy520]; with_reducible exact H2_) | (have H2_ := (Option.bind_some _ _).symm.trans H; with_reducible exact H2_) | with_reducible exact H | (rw [hy520]; exact H) | exact H
                            have Ny520 := qza.mk hy520
                            clear hy520
                            by_cases c18 : y517.length + y520.length < 17592186044416
                            · rw [if_pos c18] at H
                              have LMc18 := qza.mk c18
                              clear c18
                              obtain ⟨y524, hy524⟩ : ∃ y_ : List Int, y_ = (y517 ++ y520) := ⟨_, rfl⟩
                              replace H : (ferruleref20_Parts.l0 k2 y524 (wrap64 (x4_1 + 1)) a0_0 a0_1 l0_2) = some r := by first | (rw [hy524]; with_reducible exact H) | (have H2_ := (Option.bind_some _ _).symm.trans H; rw [hy524]; with_reducible exact H2_) | (have H2_ := (Option.bind_some _ _).symm.trans H; with_reducible exact H2_) | with_reducible exact H | (rw [hy524]; exact H) | exact H
                              have Ny524 := qza.mk hy524
                              clear hy524
                              have H' := qza.mk H
                              clear H
                              obtain ⟨Ao19, co19, eo19⟩ := Kd.R_slice HO_3.out
                              subst eo19
                              have p505 : 0 ≤ (x6_2 : Int) := of_decide_eq_true (by first | (with_reducible assumption) | assumption)
                              have q505 : x6_2 < (x3_1.length : Int) := of_decide_eq_true (by first | (with_reducible assumption) | assumption)
                              obtain ⟨ad505, e505, hx505_0⟩ := Kd.at_int (Kd.R_reads' HO_3.out).2.2 x6_2 p505 q505
                              cases e505
                              replace p505 := eq_true p505
                              replace q505 := eq_true q505
                              have p506 : 0 ≤ (x6_2 : Int) := of_decide_eq_true (by first | (with_reducible assumption) | assumption)
                              have q506 : x6_2 < (x3_1.length : Int) := of_decide_eq_true (by first | (with_reducible assumption) | assumption)
                              obtain ⟨ad506, e506, hx506_0⟩ := Kd.at_int (Kd.R_reads' HO_3.out).2.2 x6_2 p506 q506
                              obtain rfl : ad505 = ad506 := (by injection e506)
                              replace p506 := eq_true p506
                              replace q506 := eq_true q506
                              go_wp2_with (first | ((with_reducible refine qz31 (N := 47) rfl ?_); refine Kd.R_lit (Kd.int .u64) _ 22 ?hg (N := 47) ?hd (xs := ([] : List Int)) (inner := []) (ok := fun _ => True) (okp := fun _ => True) ?hr ?hp (fun _ hk => hk) trivial (Below.refl _ _) (Nat.le_refl _) (by simp) ?_; (case hd => rfl); (case hg => rfl); (case hr => first | (go_simp; done) | (go_simp; rfl)); (case hp => exact (Reps.none _ _)); intro v508 w20 ho21 hb hg_ hnew_; clear hg_ hnew_; (first | rw [← Ny507.out] at ho21 | (simp only [Int.reduceToNat] at ho21; rw [← Ny507.out] at ho21)); have n0_ := qza.mk (Kd.R_elder' (by (with_reducible repeat (first | apply Kd.R_alloc | apply Kd.R_drewN | apply Kd.R_drew)); exact HO_3.out) (Kd.R_base ho21) hb); have n1_ := qza.mk (Kd.R_lower (Kd.R_new' ho21 (Kd.R_lt (by (with_reducible repeat (first | apply Kd.R_alloc | apply Kd.R_drewN | apply Kd.R_drew)); exact HO_3.out))) (qz15 (by repeat (first | (with_reducible first | exact HB.out | apply qz10 | apply qz5 | apply qz9 | refine qz8 ?_ GE503.out) | exact HB.out)))); have n2_ := qza.mk (qz35 (g := gb503) (o := .cells #[.int .u64 a0_0, .int .u64 a0_1, .slice (some ad504) l0_2.length c0_2] 27 (0, 0)) (by (with_reducible repeat (first | refine qz3 ?_ _ | refine qz6 ?_ | refine qz4 ?_ _)); exact BK503.out) hb); have n3_ := qza.mk (qz25 (by repeat (first | (with_reducible first | exact HB.out | apply qz10 | apply qz5 | apply qz9 | refine qz8 ?_ GE503.out) | exact HB.out)) hb); clear HO_3; clear BK503; clear HB; have HO_3 := n0_; have HO509 := n1_; have BK503 := n2_; have HB := n3_; clear n0_ n1_ n2_ n3_; clear hb ho21; have q22 : (x6_2 : Int) ≤ ((x3_1.length : Int) : Int) := of_decide_eq_true (by first | (with_reducible assumption) | assumption); obtain ⟨i022, hi022, _, hsz22, _⟩ := info_parts info22; have hroom22 : x3_1.length ≤ co19 := (Kd.R_reads' HO_3.out).2.1; have hC22 : Kd.C (Kd.int .u64) _ (some ad505) x3_1.length x3_1 := (Kd.R_reads' HO_3.out).2.2; have hcut22 := cut_to (P := Try.prog) 36 22 .i64 Try.underlying36 hi022 (some ad505) x3_1.length co19 x6_2 (of_decide_eq_true (by first | (with_reducible assumption) | assumption)) q22 hroom22; have hr22 := Kd.C_take (m := (x6_2 : Int).toNat) hC22 (by omega); have hy22 : y510.length = (x6_2 : Int).toNat := (by rw [Ny510.out, List.length_take]; omega); rw [← Ny510.out] at hr22; rw [← hy22] at hcut22; have HR513 := qza.mk hr22; have HC513 := qza.mk (show y510.length ≤ co19 from by omega); clear hr22 hC22 hroom22 hi022 hsz22; have KY22 := qza.mk hy22; clear hy22; have KL22 := qza.mk (show (x6_2 : Int).toNat ≤ x3_1.length from by omega); replace q22 := eq_true q22) | ((with_reducible refine qz49 (b := .append) (xs := #[.tmp 47, .tmp 50]) rfl ?_); at_builtin; refine Kd.R_append_rows (Kd.int .u64) (w0 := w) w.heap.size rfl (.tmp 47) (.tmp 50) 36 22 (.int .u64 0) 8 rfl Try.underlying36 info22 rfl (by decide) (by omega) v508 y507 y510 _ _ _ (fun k_ => some k_ ≠ (.slice (some ad505) x3_1.length co19 : Value).ownBlock) (fun _ => False) rfl rfl ?aO ?aR (fun _ _ h => h) (fun _ h => h.elim) ?aF ?aB ?aS ?aL ?_; (case aR => repeat (first | exact (by repeat (first | (with_reducible exact HR513.out) | (with_reducible refine Kd.C_alloc ?_ _) | (with_reducible refine Kd.C_drewN ?_ _) | (with_reducible refine Kd.C_drew ?_) | exact HR513.out)) | (with_reducible refine Kd.C_alloc ?_ _) | (with_reducible refine Kd.C_drewN ?_ _) | (with_reducible refine Kd.C_drew ?_))); (case aB => exact (by repeat (first | (with_reducible first | exact HB.out | apply qz10 | apply qz5 | apply qz9 | refine qz8 ?_ GE503.out) | exact HB.out))); (case aF => exact (fun k_ hk => Kd.fresh' (Kd.R_lt (by (with_reducible repeat (first | apply Kd.R_alloc | apply Kd.R_drewN | apply Kd.R_drew)); exact HO_3.out)) k_ hk)); (case aO => exact (by (with_reducible repeat (first | apply Kd.R_alloc | apply Kd.R_drewN | apply Kd.R_drew)); exact Kd.R_mono HO509.out (fun _ hk => hk.2))); (case aS => exact (qz15 (by repeat (first | (with_reducible first | exact HB.out | apply qz10 | apply qz5 | apply qz9 | refine qz8 ?_ GE503.out) | exact HB.out)))); (case aL => have := LMc14.out; omega); intro v515 w23 ho hb hg hat; rw [← Ny514.out] at ho; have n0_ := qza.mk (Kd.R_after (ok := (fun _ => True)) (by (with_reducible repeat (first | apply Kd.R_alloc | apply Kd.R_drewN | apply Kd.R_drew)); exact HO_3.out) hg hat); have n1_ := qza.mk (qz38 (g := gb503) (o := .cells #[.int .u64 a0_0, .int .u64 a0_1, .slice (some ad504) l0_2.length c0_2] 27 (0, 0)) (by (with_reducible repeat (first | refine qz3 ?_ _ | refine qz6 ?_ | refine qz4 ?_ _)); exact BK503.out) hg (Kd.R_ne HO509.out BK503.out (by decide))); have n2_ := qza.mk (hb); have n3_ := qza.mk ((show Kd.C (Kd.int .u64) w23 (some ad505) y510.length y510 from by rw [Ny510.out]; exact Kd.C_take (m := (x6_2 : Int).toNat) ((Kd.R_reads' (Kd.R_after (ok := (fun _ => True)) (by (with_reducible repeat (first | apply Kd.R_alloc | apply Kd.R_drewN | apply Kd.R_drew)); exact HO_3.out) hg hat)).2.2) KL22.out)); have n4_ := qza.mk (ho); clear HO_3; clear BK503; clear HB; clear HR513; clear HO509; have HO_3 := n0_; have BK503 := n1_; have HB := n2_; have HR513 := n3_; have HO516 := n4_; clear n0_ n1_ n2_ n3_ n4_; clear ho hb hg hat) | ((with_reducible refine qz49 (b := .append) (xs := #[.tmp 52, .tmp 54]) rfl ?_); at_builtin; refine Kd.R_append (Kd.int .u64) (w0 := w) w.heap.size rfl (.tmp 52) (.tmp 54) 36 22 (.int .u64 0) 8 rfl Try.underlying36 info22 rfl (by decide) (by omega) v515 y514 ((qz7 l0_2 x4_1).f0) [.int .u64 ((qz7 l0_2 x4_1).f0)] (fun k_ => some k_ ≠ (.slice (some ad505) x3_1.length co19 : Value).ownBlock) (fun _ => False) rfl rfl ?aP (fun _ hk => hk.elim) ?aF ?aO ?aB ?aS ?aL ?_; (case aP => exact rfl); (case aB => exact (by repeat (first | (with_reducible first | exact HB.out | apply qz10 | apply qz5 | apply qz9 | refine qz8 ?_ GE503.out) | exact HB.out))); (case aF => exact (fun k_ hk => Kd.fresh' (Kd.R_lt (by (with_reducible repeat (first | apply Kd.R_alloc | apply Kd.R_drewN | apply Kd.R_drew)); exact HO_3.out)) k_ hk)); (case aO => exact (by (with_reducible repeat (first | apply Kd.R_alloc | apply Kd.R_drewN | apply Kd.R_drew)); exact HO516.out)); (case aS => exact (qz15 (by repeat (first | (with_reducible first | exact HB.out | apply qz10 | apply qz5 | apply qz9 | refine qz8 ?_ GE503.out) | exact HB.out)))); (case aL => have := LMc15.out; omega); intro v518 w24 ho hb hg hat; rw [← Ny517.out] at ho; have n0_ := qza.mk (Kd.R_after (ok := (fun _ => True)) (by (with_reducible repeat (first | apply Kd.R_alloc | apply Kd.R_drewN | apply Kd.R_drew)); exact HO_3.out) hg hat); have n1_ := qza.mk (qz38 (g := gb503) (o := .cells #[.int .u64 a0_0, .int .u64 a0_1, .slice (some ad504) l0_2.length c0_2] 27 (0, 0)) (by (with_reducible repeat (first | refine qz3 ?_ _ | refine qz6 ?_ | refine qz4 ?_ _)); exact BK503.out) hg (Kd.R_ne HO516.out BK503.out (by decide))); have n2_ := qza.mk (hb); have n3_ := qza.mk ((show Kd.C (Kd.int .u64) w24 (some ad505) y510.length y510 from by rw [Ny510.out]; exact Kd.C_take (m := (x6_2 : Int).toNat) ((Kd.R_reads' (Kd.R_after (ok := (fun _ => True)) (by (with_reducible repeat (first | apply Kd.R_alloc | apply Kd.R_drewN | apply Kd.R_drew)); exact HO_3.out) hg hat)).2.2) KL22.out)); have n4_ := qza.mk (ho); clear HO_3; clear BK503; clear HB; clear HR513; clear HO516; have HO_3 := n0_; have BK503 := n1_; have HB := n2_; have HR513 := n3_; have HO519 := n4_; clear n0_ n1_ n2_ n3_ n4_; clear ho hb hg hat; have q25 : (x6_2 : Int) ≤ ((x3_1.length : Int) : Int) := of_decide_eq_true (by first | (with_reducible assumption) | assumption); obtain ⟨i025, hi025, _, hsz25, _⟩ := info_parts info22; have hroom25 : x3_1.length ≤ co19 := (Kd.R_reads' HO_3.out).2.1; have hC25 : Kd.C (Kd.int .u64) _ (some ad505) x3_1.length x3_1 := (Kd.R_reads' HO_3.out).2.2; have q025 : (0 : Int) ≤ (x6_2 : Int) := of_decide_eq_true (by first | (with_reducible assumption) | assumption); have hcut25 := cut_from (P := Try.prog) 36 22 .i64 Try.underlying36 hi025 1 hsz25 (some ad505) x3_1.length co19 x6_2 q025 q25; have hr25 := Kd.C_drop (m := (x6_2 : Int).toNat) (c := co19) hC25 (by omega) hroom25; obtain ⟨A25, hA25⟩ : ∃ A1, A1 = (if co19 = (x6_2 : Int).toNat then (some ad505) else ((some ad505) : Option Addr).map (·.add ((x6_2 : Int).toNat * 1))) := ⟨_, rfl⟩; obtain ⟨c25, hc25⟩ : ∃ c1, c1 = co19 - (x6_2 : Int).toNat := ⟨_, rfl⟩; have hy25 : y520.length = x3_1.length - (x6_2 : Int).toNat := (by rw [Ny520.out, List.length_drop] <;> omega); rw [show (x3_1).drop (x6_2 : Int).toNat = y520 from Ny520.out.symm] at hr25; replace hr25 : Kd.C (Kd.int .u64) _ A25 y520.length y520 := (by rw [hA25]; exact hr25); rw [← hy25, ← hA25, ← hc25] at hcut25; have HR523 := qza.mk hr25; have HC523 := qza.mk (show y520.length ≤ c25 from by rw [hy25, hc25]; exact Nat.sub_le_sub_right hroom25 _); clear hr25 hC25 hroom25 hi025 hsz25 hc25; have KY25 := qza.mk hy25; have KA25 := qza.mk hA25; clear hy25 hA25; have KL25 := qza.mk (show (x6_2 : Int).toNat ≤ x3_1.length from by omega); replace q25 := eq_true q25) | ((with_reducible refine qz49 (b := .append) (xs := #[.tmp 56, .tmp 59]) rfl ?_); at_builtin; refine Kd.R_append_rows (Kd.int .u64) (w0 := w) w.heap.size rfl (.tmp 56) (.tmp 59) 36 22 (.int .u64 0) 8 rfl Try.underlying36 info22 rfl (by decide) (by omega) v518 y517 y520 _ _ _ (fun k_ => some k_ ≠ (.slice (some ad505) x3_1.length co19 : Value).ownBlock) (fun _ => False) rfl rfl ?aO ?aR (fun _ _ h => h) (fun _ h => h.elim) ?aF ?aB ?aS ?aL ?_; (case aR => repeat (first | exact (by repeat (first | (with_reducible exact HR523.out) | (with_reducible refine Kd.C_alloc ?_ _) | (with_reducible refine Kd.C_drewN ?_ _) | (with_reducible refine Kd.C_drew ?_) | exact HR523.out)) | (with_reducible refine Kd.C_alloc ?_ _) | (with_reducible refine Kd.C_drewN ?_ _) | (with_reducible refine Kd.C_drew ?_))); (case aB => exact (by repeat (first | (with_reducible first | exact HB.out | apply qz10 | apply qz5 | apply qz9 | refine qz8 ?_ GE503.out) | exact HB.out))); (case aF => exact (fun k_ hk => Kd.fresh' (Kd.R_lt (by (with_reducible repeat (first | apply Kd.R_alloc | apply Kd.R_drewN | apply Kd.R_drew)); exact HO_3.out)) k_ hk)); (case aO => exact (by (with_reducible repeat (first | apply Kd.R_alloc | apply Kd.R_drewN | apply Kd.R_drew)); exact HO519.out)); (case aS => exact (qz15 (by repeat (first | (with_reducible first | exact HB.out | apply qz10 | apply qz5 | apply qz9 | refine qz8 ?_ GE503.out) | exact HB.out)))); (case aL => have := LMc18.out; omega); intro v525 w26 ho hb hg hat; rw [← Ny524.out] at ho; have n0_ := qza.mk (Kd.R_after (ok := (fun _ => True)) (by (with_reducible repeat (first | apply Kd.R_alloc | apply Kd.R_drewN | apply Kd.R_drew)); exact HO_3.out) hg hat); have n1_ := qza.mk (qz38 (g := gb503) (o := .cells #[.int .u64 a0_0, .int .u64 a0_1, .slice (some ad504) l0_2.length c0_2] 27 (0, 0)) (by (with_reducible repeat (first | refine qz3 ?_ _ | refine qz6 ?_ | refine qz4 ?_ _)); exact BK503.out) hg (Kd.R_ne HO519.out BK503.out (by decide))); have n2_ := qza.mk (hb); have n3_ := qza.mk ((show Kd.C (Kd.int .u64) w26 (some ad505) y510.length y510 from by rw [Ny510.out]; exact Kd.C_take (m := (x6_2 : Int).toNat) ((Kd.R_reads' (Kd.R_after (ok := (fun _ => True)) (by (with_reducible repeat (first | apply Kd.R_alloc | apply Kd.R_drewN | apply Kd.R_drew)); exact HO_3.out) hg hat)).2.2) KL22.out)); have n4_ := qza.mk ((show Kd.C (Kd.int .u64) w26 A25 y520.length y520 from by rw [Ny520.out, KA25.out]; exact Kd.C_drop (m := (x6_2 : Int).toNat) (c := co19) ((Kd.R_reads' (Kd.R_after (ok := (fun _ => True)) (by (with_reducible repeat (first | apply Kd.R_alloc | apply Kd.R_drewN | apply Kd.R_drew)); exact HO_3.out) hg hat)).2.2) KL25.out ((Kd.R_reads' (Kd.R_after (ok := (fun _ => True)) (by (with_reducible repeat (first | apply Kd.R_alloc | apply Kd.R_drewN | apply Kd.R_drew)); exact HO_3.out) hg hat)).2.1))); have n5_ := qza.mk (ho); clear HO_3; clear BK503; clear HB; clear HR513; clear HR523; clear HO519; have HO_3 := n0_; have BK503 := n1_; have HB := n2_; have HR513 := n3_; have HR523 := n4_; have HO526 := n5_; clear n0_ n1_ n2_ n3_ n4_ n5_; clear ho hb hg hat))
                              go_roundg k2
                              case measure => have := HK1.out; have := HK2.out; omega
                              case rel => exact ⟨(y524), (wrap64 (x4_1 + 1)), (by first | rfl | (simp; done) | (simp [*]; done)), H', ⟨by have := HK1.out; have := HK2.out; omega⟩, ⟨by (with_reducible repeat (first | apply Kd.R_alloc | apply Kd.R_drewN | apply Kd.R_drew)); exact Kd.R_mono HO526.out (fun _ hk => trivial)⟩, ⟨by (with_reducible repeat (first | refine qz3 ?_ _ | refine qz6 ?_ | refine qz4 ?_ _)); exact BK503.out⟩, ⟨by repeat (first | (with_reducible first | exact HB.out | apply qz10 | apply qz5 | apply qz9 | refine qz8 ?_ GE503.out) | exact HB.out)⟩⟩
                            · rw [if_neg c18] at H
                              exact absurd H (by simp)
                          · rw [if_neg c15] at H
                            exact absurd H (by simp)
                        · rw [if_neg c14] at H
                          exact absurd H (by simp)
                      · rw [if_neg c13] at H
                        exact absurd H (by simp)
                · rw [if_neg c7] at H
                  exact absurd H (by simp)
              · rw [if_neg c6] at H
                have c6b0 : decide (x6_2 < (x3_1.length : Int)) = false := decide_eq_false c6
                clear c6
                obtain ⟨y527, hy527⟩ : ∃ y_ : List Int, y_ = (([] : List Int)) := ⟨_, rfl⟩
                replace H : (if 0 ≤ x6_2 then (if x6_2 ≤ (x3_1.length : Int) then ((some (x3_1.take (x6_2 : Int).toNat : List Int)).bind fun y530 => (if y527.length + y530.length < 17592186044416 then ((some (y527 ++ y530 : List Int)).bind fun y534 => (if y534.length < 17592186044416 then ((some (y534 ++ [((qz7 l0_2 x4_1).f0)] : List Int)).bind fun y537 => ((some (x3_1.drop (x6_2 : Int).toNat : List Int)).bind fun y540 => (if y537.length + y540.length < 17592186044416 then (ferruleref20_Parts.l0 k2 (y537 ++ y540) (wrap64 (x4_1 + 1)) a0_0 a0_1 l0_2) else (none)))) else (none))) else (none))) else (none)) else (none)) = some r := by first | (rw [hy527]; with_reducible exact H) | (have H2_ := (Option.bind_some _ _).symm.trans H; rw [hy527]; with_reducible exact H2_) | (have H2_ := (Option.bind_some _ _).symm.trans H; with_reducible exact H2_) | with_reducible exact H | (rw [hy527]; exact H) | exact H
                have Ny527 := qza.mk hy527
                clear hy527
                by_cases c27 : 0 ≤ x6_2
                · rw [if_pos c27] at H
                  have c27b0 := eq_true c27
                  have c27b1 : decide (0 ≤ x6_2) = true := decide_eq_true c27
                  clear c27
                  by_cases c28 : x6_2 ≤ (x3_1.length : Int)
                  · rw [if_pos c28] at H
                    have c28b0 := eq_true c28
                    have c28b1 : decide (x6_2 ≤ (x3_1.length : Int)) = true := decide_eq_true c28
                    clear c28
                    obtain ⟨y530, hy530⟩ : ∃ y_ : List Int, y_ = (x3_1.take (x6_2 : Int).toNat) := ⟨_, rfl⟩
                    replace H : (if y527.length + y530.length < 17592186044416 then ((some (y527 ++ y530 : List Int)).bind fun y534 => (if y534.length < 17592186044416 then ((some (y534 ++ [((qz7 l0_2 x4_1).f0)] : List Int)).bind fun y537 => ((some (x3_1.drop (x6_2 : Int).toNat : List Int)).bind fun y540 => (if y537.length + y540.length < 17592186044416 then (ferruleref20_Parts.l0 k2 (y537 ++ y540) (wrap64 (x4_1 + 1)) a0_0 a0_1 l0_2) else (none)))) else (none))) else (none)) = some r := by first | (rw [hy530]; with_reducible exact H) | (have H2_ := (Option.bind_some _ _).symm.trans H; rw [hy530]; with_reducible exact H2_) | (have H2_ := (Option.bind_some _ _).symm.trans H; with_reducible exact H2_) | with_reducible exact H | (rw [hy530]; exact H) | exact H
                    have Ny530 := qza.mk hy530
                    clear hy530
                    by_cases c29 : y527.length + y530.length < 17592186044416
                    · rw [if_pos c29] at H
                      have LMc29 := qza.mk c29
                      clear c29
                      obtain ⟨y534, hy534⟩ : ∃ y_ : List Int, y_ = (y527 ++ y530) := ⟨_, rfl⟩
                      replace H : (if y534.length < 17592186044416 then ((some (y534 ++ [((qz7 l0_2 x4_1).f0)] : List Int)).bind fun y537 => ((some (x3_1.drop (x6_2 : Int).toNat : List Int)).bind fun y540 => (if y537.length + y540.length < 17592186044416 then (ferruleref20_Parts.l0 k2 (y537 ++ y540) (wrap64 (x4_1 + 1)) a0_0 a0_1 l0_2) else (none)))) else (none)) = some r := by first | (rw [hy534]; with_reducible exact H) | (have H2_ := (Option.bind_some _ _).symm.trans H; rw [hy534]; with_reducible exact H2_) | (have H2_ := (Option.bind_some _ _).symm.trans H; with_reducible exact H2_) | with_reducible exact H | (rw [hy534]; exact H) | exact H
                      have Ny534 := qza.mk hy534
                      clear hy534
                      by_cases c30 : y534.length < 17592186044416
                      · rw [if_pos c30] at H
                        have LMc30 := qza.mk c30
                        clear c30
                        obtain ⟨y537, hy537⟩ : ∃ y_ : List Int, y_ = (y534 ++ [((qz7 l0_2 x4_1).f0)]) := ⟨_, rfl⟩
                        replace H : ((some (x3_1.drop (x6_2 : Int).toNat : List Int)).bind fun y540 => (if y537.length + y540.length < 17592186044416 then (ferruleref20_Parts.l0 k2 (y537 ++ y540) (wrap64 (x4_1 + 1)) a0_0 a0_1 l0_2) else (none))) = some r := by first | (rw [hy537]; with_reducible exact H) | (have H2_ := (Option.bind_some _ _).symm.trans H; rw [hy537]; with_reducible exact H2_) | (have H2_ := (Option.bind_some _ _).symm.trans H; with_reducible exact H2_) | with_reducible exact H | (rw [hy537]; exact H) | exact H
                        have Ny537 := qza.mk hy537
                        clear hy537
                        have c31b0 := eq_true (of_decide_eq_true (by first | (with_reducible assumption) | assumption) : 0 ≤ x6_2)
                        have c32b0 := eq_true (of_decide_eq_true (by first | (with_reducible assumption) | assumption) : x6_2 ≤ (x3_1.length : Int))
                        obtain ⟨y540, hy540⟩ : ∃ y_ : List Int, y_ = (x3_1.drop (x6_2 : Int).toNat) := ⟨_, rfl⟩
                        replace H : (if y537.length + y540.length < 17592186044416 then (ferruleref20_Parts.l0 k2 (y537 ++ y540) (wrap64 (x4_1 + 1)) a0_0 a0_1 l0_2) else (none)) = some r := by first | (rw [hy540]; with_reducible exact H) | (have H2_ := (Option.bind_some _ _).symm.trans H; rw [hy540]; with_reducible exact H2_) | (have H2_ := (Option.bind_some _ _).symm.trans H; with_reducible exact H2_) | with_reducible exact H | (rw [hy540]; exact H) | exact H
                        have Ny540 := qza.mk hy540
                        clear hy540
                        by_cases c33 : y537.length + y540.length < 17592186044416
                        · rw [if_pos c33] at H
                          have LMc33 := qza.mk c33
                          clear c33
                          obtain ⟨y544, hy544⟩ : ∃ y_ : List Int, y_ = (y537 ++ y540) := ⟨_, rfl⟩
                          replace H : (ferruleref20_Parts.l0 k2 y544 (wrap64 (x4_1 + 1)) a0_0 a0_1 l0_2) = some r := by first | (rw [hy544]; with_reducible exact H) | (have H2_ := (Option.bind_some _ _).symm.trans H; rw [hy544]; with_reducible exact H2_) | (have H2_ := (Option.bind_some _ _).symm.trans H; with_reducible exact H2_) | with_reducible exact H | (rw [hy544]; exact H) | exact H
                          have Ny544 := qza.mk hy544
                          clear hy544
                          have H' := qza.mk H
                          clear H
                          obtain ⟨Ao34, co34, eo34⟩ := Kd.R_slice HO_3.out
                          subst eo34
                          go_wp2_with (first | ((with_reducible refine qz31 (N := 47) rfl ?_); refine Kd.R_lit (Kd.int .u64) _ 22 ?hg (N := 47) ?hd (xs := ([] : List Int)) (inner := []) (ok := fun _ => True) (okp := fun _ => True) ?hr ?hp (fun _ hk => hk) trivial (Below.refl _ _) (Nat.le_refl _) (by simp) ?_; (case hd => rfl); (case hg => rfl); (case hr => first | (go_simp; done) | (go_simp; rfl)); (case hp => exact (Reps.none _ _)); intro v528 w35 ho36 hb hg_ hnew_; clear hg_ hnew_; (first | rw [← Ny527.out] at ho36 | (simp only [Int.reduceToNat] at ho36; rw [← Ny527.out] at ho36)); have n0_ := qza.mk (Kd.R_elder' (by (with_reducible repeat (first | apply Kd.R_alloc | apply Kd.R_drewN | apply Kd.R_drew)); exact HO_3.out) (Kd.R_base ho36) hb); have n1_ := qza.mk (Kd.R_lower (Kd.R_new' ho36 (Kd.R_lt (by (with_reducible repeat (first | apply Kd.R_alloc | apply Kd.R_drewN | apply Kd.R_drew)); exact HO_3.out))) (qz15 (by repeat (first | (with_reducible first | exact HB.out | apply qz10 | apply qz5 | apply qz9 | refine qz8 ?_ GE503.out) | exact HB.out)))); have n2_ := qza.mk (qz35 (g := gb503) (o := .cells #[.int .u64 a0_0, .int .u64 a0_1, .slice (some ad504) l0_2.length c0_2] 27 (0, 0)) (by (with_reducible repeat (first | refine qz3 ?_ _ | refine qz6 ?_ | refine qz4 ?_ _)); exact BK503.out) hb); have n3_ := qza.mk (qz25 (by repeat (first | (with_reducible first | exact HB.out | apply qz10 | apply qz5 | apply qz9 | refine qz8 ?_ GE503.out) | exact HB.out)) hb); clear HO_3; clear BK503; clear HB; have HO_3 := n0_; have HO529 := n1_; have BK503 := n2_; have HB := n3_; clear n0_ n1_ n2_ n3_; clear hb ho36; have q37 : (x6_2 : Int) ≤ ((x3_1.length : Int) : Int) := of_decide_eq_true (by first | (with_reducible assumption) | assumption); obtain ⟨i037, hi037, _, hsz37, _⟩ := info_parts info22; have hroom37 : x3_1.length ≤ co34 := (Kd.R_reads' HO_3.out).2.1; have hC37 : Kd.C (Kd.int .u64) _ Ao34 x3_1.length x3_1 := (Kd.R_reads' HO_3.out).2.2; have hcut37 := cut_to (P := Try.prog) 36 22 .i64 Try.underlying36 hi037 Ao34 x3_1.length co34 x6_2 (of_decide_eq_true (by first | (with_reducible assumption) | assumption)) q37 hroom37; have hr37 := Kd.C_take (m := (x6_2 : Int).toNat) hC37 (by omega); have hy37 : y530.length = (x6_2 : Int).toNat := (by rw [Ny530.out, List.length_take]; omega); rw [← Ny530.out] at hr37; rw [← hy37] at hcut37; have HR533 := qza.mk hr37; have HC533 := qza.mk (show y530.length ≤ co34 from by omega); clear hr37 hC37 hroom37 hi037 hsz37; have KY37 := qza.mk hy37; clear hy37; have KL37 := qza.mk (show (x6_2 : Int).toNat ≤ x3_1.length from by omega); replace q37 := eq_true q37) | ((with_reducible refine qz49 (b := .append) (xs := #[.tmp 47, .tmp 50]) rfl ?_); at_builtin; refine Kd.R_append_rows (Kd.int .u64) (w0 := w) w.heap.size rfl (.tmp 47) (.tmp 50) 36 22 (.int .u64 0) 8 rfl Try.underlying36 info22 rfl (by decide) (by omega) v528 y527 y530 _ _ _ (fun k_ => some k_ ≠ (.slice Ao34 x3_1.length co34 : Value).ownBlock) (fun _ => False) rfl rfl ?aO ?aR (fun _ _ h => h) (fun _ h => h.elim) ?aF ?aB ?aS ?aL ?_; (case aR => repeat (first | exact (by repeat (first | (with_reducible exact HR533.out) | (with_reducible refine Kd.C_alloc ?_ _) | (with_reducible refine Kd.C_drewN ?_ _) | (with_reducible refine Kd.C_drew ?_) | exact HR533.out)) | (with_reducible refine Kd.C_alloc ?_ _) | (with_reducible refine Kd.C_drewN ?_ _) | (with_reducible refine Kd.C_drew ?_))); (case aB => exact (by repeat (first | (with_reducible first | exact HB.out | apply qz10 | apply qz5 | apply qz9 | refine qz8 ?_ GE503.out) | exact HB.out))); (case aF => exact (fun k_ hk => Kd.fresh' (Kd.R_lt (by (with_reducible repeat (first | apply Kd.R_alloc | apply Kd.R_drewN | apply Kd.R_drew)); exact HO_3.out)) k_ hk)); (case aO => exact (by (with_reducible repeat (first | apply Kd.R_alloc | apply Kd.R_drewN | apply Kd.R_drew)); exact Kd.R_mono HO529.out (fun _ hk => hk.2))); (case aS => exact (qz15 (by repeat (first | (with_reducible first | exact HB.out | apply qz10 | apply qz5 | apply qz9 | refine qz8 ?_ GE503.out) | exact HB.out)))); (case aL => have := LMc29.out; omega); intro v535 w38 ho hb hg hat; rw [← Ny534.out] at ho; have n0_ := qza.mk (Kd.R_after (ok := (fun _ => True)) (by (with_reducible repeat (first | apply Kd.R_alloc | apply Kd.R_drewN | apply Kd.R_drew)); exact HO_3.out) hg hat); have n1_ := qza.mk (qz38 (g := gb503) (o := .cells #[.int .u64 a0_0, .int .u64 a0_1, .slice (some ad504) l0_2.length c0_2] 27 (0, 0)) (by (with_reducible repeat (first | refine qz3 ?_ _ | refine qz6 ?_ | refine qz4 ?_ _)); exact BK503.out) hg (Kd.R_ne HO529.out BK503.out (by decide))); have n2_ := qza.mk (hb); have n3_ := qza.mk ((show Kd.C (Kd.int .u64) w38 Ao34 y530.length y530 from by rw [Ny530.out]; exact Kd.C_take (m := (x6_2 : Int).toNat) ((Kd.R_reads' (Kd.R_after (ok := (fun _ => True)) (by (with_reducible repeat (first | apply Kd.R_alloc | apply Kd.R_drewN | apply Kd.R_drew)); exact HO_3.out) hg hat)).2.2) KL37.out)); have n4_ := qza.mk (ho); clear HO_3; clear BK503; clear HB; clear HR533; clear HO529; have HO_3 := n0_; have BK503 := n1_; have HB := n2_; have HR533 := n3_; have HO536 := n4_; clear n0_ n1_ n2_ n3_ n4_; clear ho hb hg hat) | ((with_reducible refine qz49 (b := .append) (xs := #[.tmp 52, .tmp 54]) rfl ?_); at_builtin; refine Kd.R_append (Kd.int .u64) (w0 := w) w.heap.size rfl (.tmp 52) (.tmp 54) 36 22 (.int .u64 0) 8 rfl Try.underlying36 info22 rfl (by decide) (by omega) v535 y534 ((qz7 l0_2 x4_1).f0) [.int .u64 ((qz7 l0_2 x4_1).f0)] (fun k_ => some k_ ≠ (.slice Ao34 x3_1.length co34 : Value).ownBlock) (fun _ => False) rfl rfl ?aP (fun _ hk => hk.elim) ?aF ?aO ?aB ?aS ?aL ?_; (case aP => exact rfl); (case aB => exact (by repeat (first | (with_reducible first | exact HB.out | apply qz10 | apply qz5 | apply qz9 | refine qz8 ?_ GE503.out) | exact HB.out))); (case aF => exact (fun k_ hk => Kd.fresh' (Kd.R_lt (by (with_reducible repeat (first | apply Kd.R_alloc | apply Kd.R_drewN | apply Kd.R_drew)); exact HO_3.out)) k_ hk)); (case aO => exact (by (with_reducible repeat (first | apply Kd.R_alloc | apply Kd.R_drewN | apply Kd.R_drew)); exact HO536.out)); (case aS => exact (qz15 (by repeat (first | (with_reducible first | exact HB.out | apply qz10 | apply qz5 | apply qz9 | refine qz8 ?_ GE503.out) | exact HB.out)))); (case aL => have := LMc30.out; omega); intro v538 w39 ho hb hg hat; rw [← Ny537.out] at ho; have n0_ := qza.mk (Kd.R_after (ok := (fun _ => True)) (by (with_reducible repeat (first | apply Kd.R_alloc | apply Kd.R_drewN | apply Kd.R_drew)); exact HO_3.out) hg hat); have n1_ := qza.mk (qz38 (g := gb503) (o := .cells #[.int .u64 a0_0, .int .u64 a0_1, .slice (some ad504) l0_2.length c0_2] 27 (0, 0)) (by (with_reducible repeat (first | refine qz3 ?_ _ | refine qz6 ?_ | refine qz4 ?_ _)); exact BK503.out) hg (Kd.R_ne HO536.out BK503.out (by decide))); have n2_ := qza.mk (hb); have n3_ := qza.mk ((show Kd.C (Kd.int .u64) w39 Ao34 y530.length y530 from by rw [Ny530.out]; exact Kd.C_take (m := (x6_2 : Int).toNat) ((Kd.R_reads' (Kd.R_after (ok := (fun _ => True)) (by (with_reducible repeat (first | apply Kd.R_alloc | apply Kd.R_drewN | apply Kd.R_drew)); exact HO_3.out) hg hat)).2.2) KL37.out)); have n4_ := qza.mk (ho); clear HO_3; clear BK503; clear HB; clear HR533; clear HO536; have HO_3 := n0_; have BK503 := n1_; have HB := n2_; have HR533 := n3_; have HO539 := n4_; clear n0_ n1_ n2_ n3_ n4_; clear ho hb hg hat; have q40 : (x6_2 : Int) ≤ ((x3_1.length : Int) : Int) := of_decide_eq_true (by first | (with_reducible assumption) | assumption); obtain ⟨i040, hi040, _, hsz40, _⟩ := info_parts info22; have hroom40 : x3_1.length ≤ co34 := (Kd.R_reads' HO_3.out).2.1; have hC40 : Kd.C (Kd.int .u64) _ Ao34 x3_1.length x3_1 := (Kd.R_reads' HO_3.out).2.2; have q040 : (0 : Int) ≤ (x6_2 : Int) := of_decide_eq_true (by first | (with_reducible assumption) | assumption); have hcut40 := cut_from (P := Try.prog) 36 22 .i64 Try.underlying36 hi040 1 hsz40 Ao34 x3_1.length co34 x6_2 q040 q40; have hr40 := Kd.C_drop (m := (x6_2 : Int).toNat) (c := co34) hC40 (by omega) hroom40; obtain ⟨A40, hA40⟩ : ∃ A1, A1 = (if co34 = (x6_2 : Int).toNat then Ao34 else (Ao34 : Option Addr).map (·.add ((x6_2 : Int).toNat * 1))) := ⟨_, rfl⟩; obtain ⟨c40, hc40⟩ : ∃ c1, c1 = co34 - (x6_2 : Int).toNat := ⟨_, rfl⟩; have hy40 : y540.length = x3_1.length - (x6_2 : Int).toNat := (by rw [Ny540.out, List.length_drop] <;> omega); rw [show (x3_1).drop (x6_2 : Int).toNat = y540 from Ny540.out.symm] at hr40; replace hr40 : Kd.C (Kd.int .u64) _ A40 y540.length y540 := (by rw [hA40]; exact hr40); rw [← hy40, ← hA40, ← hc40] at hcut40; have HR543 := qza.mk hr40; have HC543 := qza.mk (show y540.length ≤ c40 from by rw [hy40, hc40]; exact Nat.sub_le_sub_right hroom40 _); clear hr40 hC40 hroom40 hi040 hsz40 hc40; have KY40 := qza.mk hy40; have KA40 := qza.mk hA40; clear hy40 hA40; have KL40 := qza.mk (show (x6_2 : Int).toNat ≤ x3_1.length from by omega); replace q40 := eq_true q40) | ((with_reducible refine qz49 (b := .append) (xs := #[.tmp 56, .tmp 59]) rfl ?_); at_builtin; refine Kd.R_append_rows (Kd.int .u64) (w0 := w) w.heap.size rfl (.tmp 56) (.tmp 59) 36 22 (.int .u64 0) 8 rfl Try.underlying36 info22 rfl (by decide) (by omega) v538 y537 y540 _ _ _ (fun k_ => some k_ ≠ (.slice Ao34 x3_1.length co34 : Value).ownBlock) (fun _ => False) rfl rfl ?aO ?aR (fun _ _ h => h) (fun _ h => h.elim) ?aF ?aB ?aS ?aL ?_; (case aR => repeat (first | exact (by repeat (first | (with_reducible exact HR543.out) | (with_reducible refine Kd.C_alloc ?_ _) | (with_reducible refine Kd.C_drewN ?_ _) | (with_reducible refine Kd.C_drew ?_) | exact HR543.out)) | (with_reducible refine Kd.C_alloc ?_ _) | (with_reducible refine Kd.C_drewN ?_ _) | (with_reducible refine Kd.C_drew ?_))); (case aB => exact (by repeat (first | (with_reducible first | exact HB.out | apply qz10 | apply qz5 | apply qz9 | refine qz8 ?_ GE503.out) | exact HB.out))); (case aF => exact (fun k_ hk => Kd.fresh' (Kd.R_lt (by (with_reducible repeat (first | apply Kd.R_alloc | apply Kd.R_drewN | apply Kd.R_drew)); exact HO_3.out)) k_ hk)); (case aO => exact (by (with_reducible repeat (first | apply Kd.R_alloc | apply Kd.R_drewN | apply Kd.R_drew)); exact HO539.out)); (case aS => exact (qz15 (by repeat (first | (with_reducible first | exact HB.out | apply qz10 | apply qz5 | apply qz9 | refine qz8 ?_ GE503.out) | exact HB.out)))); (case aL => have := LMc33.out; omega); intro v545 w41 ho hb hg hat; rw [← Ny544.out] at ho; have n0_ := qza.mk (Kd.R_after (ok := (fun _ => True)) (by (with_reducible repeat (first | apply Kd.R_alloc | apply Kd.R_drewN | apply Kd.R_drew)); exact HO_3.out) hg hat); have n1_ := qza.mk (qz38 (g := gb503) (o := .cells #[.int .u64 a0_0, .int .u64 a0_1, .slice (some ad504) l0_2.length c0_2] 27 (0, 0)) (by (with_reducible repeat (first | refine qz3 ?_ _ | refine qz6 ?_ | refine qz4 ?_ _)); exact BK503.out) hg (Kd.R_ne HO539.out BK503.out (by decide))); have n2_ := qza.mk (hb); have n3_ := qza.mk ((show Kd.C (Kd.int .u64) w41 Ao34 y530.length y530 from by rw [Ny530.out]; exact Kd.C_take (m := (x6_2 : Int).toNat) ((Kd.R_reads' (Kd.R_after (ok := (fun _ => True)) (by (with_reducible repeat (first | apply Kd.R_alloc | apply Kd.R_drewN | apply Kd.R_drew)); exact HO_3.out) hg hat)).2.2) KL37.out)); have n4_ := qza.mk ((show Kd.C (Kd.int .u64) w41 A40 y540.length y540 from by rw [Ny540.out, KA40.out]; exact Kd.C_drop (m := (x6_2 : Int).toNat) (c := co34) ((Kd.R_reads' (Kd.R_after (ok := (fun _ => True)) (by (with_reducible repeat (first | apply Kd.R_alloc | apply Kd.R_drewN | apply Kd.R_drew)); exact HO_3.out) hg hat)).2.2) KL40.out ((Kd.R_reads' (Kd.R_after (ok := (fun _ => True)) (by (with_reducible repeat (first | apply Kd.R_alloc | apply Kd.R_drewN | apply Kd.R_drew)); exact HO_3.out) hg hat)).2.1))); have n5_ := qza.mk (ho); clear HO_3; clear BK503; clear HB; clear HR533; clear HR543; clear HO539; have HO_3 := n0_; have BK503 := n1_; have HB := n2_; have HR533 := n3_; have HR543 := n4_; have HO546 := n5_; clear n0_ n1_ n2_ n3_ n4_ n5_; clear ho hb hg hat))
                          go_roundg k2
                          case measure => have := HK1.out; have := HK2.out; omega
                          case rel => exact ⟨(y544), (wrap64 (x4_1 + 1)), (by first | rfl | (simp; done) | (simp [*]; done)), H', ⟨by have := HK1.out; have := HK2.out; omega⟩, ⟨by (with_reducible repeat (first | apply Kd.R_alloc | apply Kd.R_drewN | apply Kd.R_drew)); exact Kd.R_mono HO546.out (fun _ hk => trivial)⟩, ⟨by (with_reducible repeat (first | refine qz3 ?_ _ | refine qz6 ?_ | refine qz4 ?_ _)); exact BK503.out⟩, ⟨by repeat (first | (with_reducible first | exact HB.out | apply qz10 | apply qz5 | apply qz9 | refine qz8 ?_ GE503.out) | exact HB.out)⟩⟩
                        · rw [if_neg c33] at H
                          exact absurd H (by simp)
                      · rw [if_neg c30] at H
                        exact absurd H (by simp)
                    · rw [if_neg c29] at H
                      exact absurd H (by simp)
                  · rw [if_neg c28] at H
                    exact absurd H (by simp)
                · rw [if_neg c27] at H
                  exact absurd H (by simp)
        · rw [if_neg c4] at H
          exact absurd H (by simp)
      · rw [if_neg c3] at H
        have c3b0 : decide (x4_1 < (l0_2.length : Int)) = false := decide_eq_false c3
        clear c3
        obtain rfl := Option.some.inj H
        have hcz42_0 : wr.cell? ⟨gb503, 0, none⟩ = some (.int .u64 a0_0) := (qz1 BK503.out 0).trans rfl
        have hcz42_1 : wr.cell? ⟨gb503, 1, none⟩ = some (.int .u64 a0_1) := (qz1 BK503.out 1).trans rfl
        have hcz42_2 : wr.cell? ⟨gb503, 2, none⟩ = some (.slice A0_2 l0_2.length c0_2) := (qz1 BK503.out 2).trans rfl
        have hfz42_0 := qz0 BK503.out 0
        have hfz42_1 := qz0 BK503.out 1
        have hfz42_2 := qz0 BK503.out 2
        go_wp2
        go_ret
        exact ⟨_, by first | rfl | (simp [qz21, qz22] <;> rfl) | (simp [*, qz21, qz22] <;> rfl), by (with_reducible repeat (first | apply Kd.R_alloc | apply Kd.R_drewN | apply Kd.R_drew)); exact HO_3.out, by repeat (first | (with_reducible first | exact HB.out | apply qz10 | apply qz5 | apply qz9 | refine qz8 ?_ GE503.out) | exact HB.out)⟩
end Go.Proofs.Ytkennobdoldlkaa.PAll
end
