/- Joined texts of the claim ShardStays (part 28): contracts of functions and plain laws. -/
import Derived.Test.YtmcgcdpiceikeaaJShardStays13
import Derived.Test.YtmcgcdpiceikeaaJShardStays24
import Derived.Test.YtmcgcdpiceikeaaJShardStays26
import Derived.Test.YtmcgcdpiceikeaaJShardStays27
set_option linter.unusedVariables false
set_option linter.unusedSimpArgs false
section
namespace Go.Proofs.Ytmcgcdpiceikeaa.PAll
open Go.RowKit Go.Proofs.YtmcgcdpiceikeaaW.PrintWords Go.Proofs.YtmcgcdpiceikeaaW.PrintLast Go.Proofs.YtmcgcdpiceikeaaW.PrintMore
attribute [local go_sem] qz60 qz61 max_two min_two qz49 qz50 qz62 qz63
mutual
def ferruleref11_Right.l0 : Nat → List (S50) → Int → Option (Bool)
  | 0, _, _ => none
  | k + 1, x0, x3 => if x3 < (x0.length : Int) then (if 0 ≤ x3 then (if (((qz18 x0 x3).f0).size : Int) < 1 then (ferruleref11_Right.j1 k x0 x3 true ((qz18 x0 x3).f0) ((qz18 x0 x3).f1) ((qz18 x0 x3).f2)) else (if (((qz18 x0 x3).f0).size : Int) > 16 then (ferruleref11_Right.j1 k x0 x3 true ((qz18 x0 x3).f0) ((qz18 x0 x3).f1) ((qz18 x0 x3).f2)) else (if (((qz18 x0 x3).f1).size : Int) > 32 then (ferruleref11_Right.j1 k x0 x3 true ((qz18 x0 x3).f0) ((qz18 x0 x3).f1) ((qz18 x0 x3).f2)) else (ferruleref11_Right.j1 k x0 x3 (decide (((qz18 x0 x3).f2) > 4611686018427387903)) ((qz18 x0 x3).f0) ((qz18 x0 x3).f1) ((qz18 x0 x3).f2))))) else (none)) else (some true)
def ferruleref11_Right.j1 : Nat → List (S50) → Int → Bool → ByteArray → ByteArray → Int → Option (Bool)
  | 0, _, _, _, _, _, _ => none
  | k + 1, x0, x3, x38, x530000, x530001, x530002 => if x38 = true then (some false) else (if x3 > 0 then (if 0 ≤ (wrap64 (x3 - 1)) then (if (wrap64 (x3 - 1)) < (x0.length : Int) then ((ferruleref11_Less.f k ((qz18 x0 (wrap64 (x3 - 1))).f0) x530000).bind fun t531 => (if t531 = true then (ferruleref11_Right.l0 k x0 (wrap64 (x3 + 1))) else (some false))) else (none)) else (none)) else (ferruleref11_Right.l0 k x0 (wrap64 (x3 + 1))))
end
def ferruleref11_Right.f (k : Nat) (l0 : List (S50)) : Option (Bool) := if (l0.length : Int) > 32 then (some false) else (ferruleref11_Right.l0 k l0 0)
set_option maxHeartbeats 8000000 in
set_option maxRecDepth 100000 in
theorem ferruleref11_Right.calls (k : Nat) (A0 : Option Addr) (c0 : Nat) (l0 : List (S50)) (r : Bool) (w : World) (hr0 : Kd.C k50 w A0 l0.length l0) (hc0 : l0.length ≤ c0) (h : ferruleref11_Right.f k l0 = some r) :
    Calls Try.prog 31 #[.slice A0 l0.length c0] w fun e w' => e = .returned (.bool r) ∧ Below w.heap.size w w' := by
  have hu50 := Try.underlying50
  have HR0 := qza.mk hr0
  have HC0 := qza.mk hc0
  clear hr0 hc0
  have HB := qza.mk (Below.refl w.heap.size w)
  have H : (if (l0.length : Int) > 32 then (some false) else (ferruleref11_Right.l0 k l0 0)) = some r := h
  clear h
  by_cases c2 : (l0.length : Int) > 32
  · rw [if_pos c2] at H
    have c2b0 : decide (32 < (l0.length : Int)) = true := decide_eq_true c2
    have c2b1 : decide (32 < l0.length) = true := decide_eq_true (by omega)
    clear c2
    obtain rfl := Option.some.inj H
    go_enter Try.func31, Try.ntmps31
    go_wp2
    repeat (go_quiet (fail); try go_wp2)
    go_ret
    exact ⟨by first | rfl | (simp [qz19, qz20] <;> rfl) | (simp [*, qz19, qz20] <;> rfl), by repeat (first | (with_reducible first | exact HB.out | apply qz2 | apply qz0 | apply qz3) | exact HB.out)⟩
  · rw [if_neg c2] at H
    have c2b0 : decide (32 < (l0.length : Int)) = false := decide_eq_false c2
    have c2b1 : decide (32 < l0.length) = false := decide_eq_false (by omega)
    clear c2
    have H' := qza.mk H
    clear H
    go_enter Try.func31, Try.ntmps31
    go_wp2
    repeat (go_quiet (fail); try go_wp2)
    go_loopg [3] k (fun kq v3 w' => ∃ (x3_1 : Int), v3 = .int .i64 x3_1 ∧ qza (ferruleref11_Right.l0 kq l0 x3_1 = some r) ∧ qza (kq ≤ k) ∧ qza (Below w.heap.size w w'))
    case atStart => exact ⟨(0), (by first | rfl | (simp; done) | (simp [*]; done)), H', ⟨Nat.le_refl _⟩, ⟨by repeat (first | (with_reducible first | exact HB.out | apply qz2 | apply qz0 | apply qz3) | exact HB.out)⟩⟩
    case round =>
      clear H'
      try clear c2
      try clear c2b0
      try clear c2b1
      try clear p2
      obtain ⟨x3_1, rfl, HA, HK1, HB⟩ := hrel
      cases gk with
      | zero => exact absurd HA.out (by simp [ferruleref11_Right.l0])
      | succ k1 =>
        have H := HA.out
        clear HA
        simp only [ferruleref11_Right.l0] at H
        by_cases c3 : x3_1 < (l0.length : Int)
        · rw [if_pos c3] at H
          have c3b0 : decide (x3_1 < (l0.length : Int)) = true := decide_eq_true c3
          clear c3
          by_cases c4 : 0 ≤ x3_1
          · rw [if_pos c4] at H
            have c4b0 : decide (0 ≤ x3_1) = true := decide_eq_true c4
            clear c4
            have HC5 := qza.mk H
            clear H
            have p528 : 0 ≤ (x3_1 : Int) := of_decide_eq_true (by first | (with_reducible assumption) | assumption)
            have q528 : x3_1 < (l0.length : Int) := of_decide_eq_true (by first | (with_reducible assumption) | assumption)
            obtain ⟨ad528, e528, hx528_0, hx528_1, hx528_2⟩ := at_T50 HR0.out x3_1 p528 q528
            cases e528
            replace hx528_0 := (HB.out.cell (World.block_lt_of_cell? w _ hx528_0)).trans hx528_0
            replace hx528_1 := (HB.out.cell (World.block_lt_of_cell? w _ hx528_1)).trans hx528_1
            replace hx528_2 := (HB.out.cell (World.block_lt_of_cell? w _ hx528_2)).trans hx528_2
            replace p528 := eq_true p528
            replace q528 := eq_true q528
            go_upto_region 7 with (first | ((with_reducible refine qz22 (N := 4) rfl ?_); (try (refine gate_guard (by rfl) ?_; dsimp only)); refine qz28 ?hg (N := 4) ?hd (cs := #[.string (⟨#[]⟩ : ByteArray), .string (⟨#[]⟩ : ByteArray), .int .u64 0]) (t := 50) ?hr ?_; (case hd => rfl); (case hg => rfl); (case hr => first | (go_simp; done) | (go_simp; rfl)); intro gb529 hg w6 hbox hb; have n0_ := qza.mk (qz21 (by repeat (first | (with_reducible first | exact HB.out | apply qz2 | apply qz0 | apply qz3) | exact HB.out)) hb); have n1_ := qza.mk (hbox); have n2_ := qza.mk ((by rw [hg]; exact (qz9 (by repeat (first | (with_reducible first | exact HB.out | apply qz2 | apply qz0 | apply qz3) | exact HB.out))) : w.heap.size ≤ gb529)); have n3_ := qza.mk ((by rw [hg]; exact (qz9 (by repeat (first | (with_reducible first | exact HB.out | apply qz2 | apply qz0 | apply qz3) | exact HB.out))) : w.heap.size ≤ gb529)); clear HB; have HB := n0_; have BK529 := n1_; have GW529 := n2_; have GE529 := n3_; clear n0_ n1_ n2_ n3_; clear hb hbox hg; have hcz7_0 : w6.cell? ⟨gb529, 0, none⟩ = some (.string (⟨#[]⟩ : ByteArray)) := (qz6 BK529.out 0).trans rfl; have hcz7_1 : w6.cell? ⟨gb529, 1, none⟩ = some (.string (⟨#[]⟩ : ByteArray)) := (qz6 BK529.out 1).trans rfl; have hcz7_2 : w6.cell? ⟨gb529, 2, none⟩ = some (.int .u64 0) := (qz6 BK529.out 2).trans rfl; have hfz7_0 := qz5 BK529.out 0; have hfz7_1 := qz5 BK529.out 1; have hfz7_2 := qz5 BK529.out 2))
            repeat (go_quiet (first | ((with_reducible refine qz22 (N := 4) rfl ?_); (try (refine gate_guard (by rfl) ?_; dsimp only)); refine qz28 ?hg (N := 4) ?hd (cs := #[.string (⟨#[]⟩ : ByteArray), .string (⟨#[]⟩ : ByteArray), .int .u64 0]) (t := 50) ?hr ?_; (case hd => rfl); (case hg => rfl); (case hr => first | (go_simp; done) | (go_simp; rfl)); intro gb529 hg w6 hbox hb; have n0_ := qza.mk (qz21 (by repeat (first | (with_reducible first | exact HB.out | apply qz2 | apply qz0 | apply qz3) | exact HB.out)) hb); have n1_ := qza.mk (hbox); have n2_ := qza.mk ((by rw [hg]; exact (qz9 (by repeat (first | (with_reducible first | exact HB.out | apply qz2 | apply qz0 | apply qz3) | exact HB.out))) : w.heap.size ≤ gb529)); have n3_ := qza.mk ((by rw [hg]; exact (qz9 (by repeat (first | (with_reducible first | exact HB.out | apply qz2 | apply qz0 | apply qz3) | exact HB.out))) : w.heap.size ≤ gb529)); clear HB; have HB := n0_; have BK529 := n1_; have GW529 := n2_; have GE529 := n3_; clear n0_ n1_ n2_ n3_; clear hb hbox hg; have hcz7_0 : w6.cell? ⟨gb529, 0, none⟩ = some (.string (⟨#[]⟩ : ByteArray)) := (qz6 BK529.out 0).trans rfl; have hcz7_1 : w6.cell? ⟨gb529, 1, none⟩ = some (.string (⟨#[]⟩ : ByteArray)) := (qz6 BK529.out 1).trans rfl; have hcz7_2 : w6.cell? ⟨gb529, 2, none⟩ = some (.int .u64 0) := (qz6 BK529.out 2).trans rfl; have hfz7_0 := qz5 BK529.out 0; have hfz7_1 := qz5 BK529.out 1; have hfz7_2 := qz5 BK529.out 2)); go_upto_region 7 with (first | ((with_reducible refine qz22 (N := 4) rfl ?_); (try (refine gate_guard (by rfl) ?_; dsimp only)); refine qz28 ?hg (N := 4) ?hd (cs := #[.string (⟨#[]⟩ : ByteArray), .string (⟨#[]⟩ : ByteArray), .int .u64 0]) (t := 50) ?hr ?_; (case hd => rfl); (case hg => rfl); (case hr => first | (go_simp; done) | (go_simp; rfl)); intro gb529 hg w6 hbox hb; have n0_ := qza.mk (qz21 (by repeat (first | (with_reducible first | exact HB.out | apply qz2 | apply qz0 | apply qz3) | exact HB.out)) hb); have n1_ := qza.mk (hbox); have n2_ := qza.mk ((by rw [hg]; exact (qz9 (by repeat (first | (with_reducible first | exact HB.out | apply qz2 | apply qz0 | apply qz3) | exact HB.out))) : w.heap.size ≤ gb529)); have n3_ := qza.mk ((by rw [hg]; exact (qz9 (by repeat (first | (with_reducible first | exact HB.out | apply qz2 | apply qz0 | apply qz3) | exact HB.out))) : w.heap.size ≤ gb529)); clear HB; have HB := n0_; have BK529 := n1_; have GW529 := n2_; have GE529 := n3_; clear n0_ n1_ n2_ n3_; clear hb hbox hg; have hcz7_0 : w6.cell? ⟨gb529, 0, none⟩ = some (.string (⟨#[]⟩ : ByteArray)) := (qz6 BK529.out 0).trans rfl; have hcz7_1 : w6.cell? ⟨gb529, 1, none⟩ = some (.string (⟨#[]⟩ : ByteArray)) := (qz6 BK529.out 1).trans rfl; have hcz7_2 : w6.cell? ⟨gb529, 2, none⟩ = some (.int .u64 0) := (qz6 BK529.out 2).trans rfl; have hfz7_0 := qz5 BK529.out 0; have hfz7_1 := qz5 BK529.out 1; have hfz7_2 := qz5 BK529.out 2)))
            (try simp only [Act.put, List.setIfInBounds_toArray, List.set_cons_zero, List.set_cons_succ])
            go_cut [38] (fun v38 wc => ∃ (kq : Nat) (x38_4 : Bool), v38 = .bool x38_4 ∧ qza (ferruleref11_Right.j1 kq l0 x3_1 x38_4 ((qz18 l0 x3_1).f0) ((qz18 l0 x3_1).f1) ((qz18 l0 x3_1).f2) = some r) ∧ qza (kq ≤ k1) ∧ qza (wc.heap[gb529]? = some (.cells #[.string ((qz18 l0 x3_1).f0), .string ((qz18 l0 x3_1).f1), .int .u64 ((qz18 l0 x3_1).f2)] 50 (0, 0))) ∧ qza (Below w.heap.size w wc))
            case first =>
              have H := HC5.out
              clear HC5
              by_cases c8 : (((qz18 l0 x3_1).f0).size : Int) < 1
              · rw [if_pos c8] at H
                have c8b0 : decide ((((qz18 l0 x3_1).f0).size : Int) < 1) = true := decide_eq_true c8
                have c8b1 : decide (((qz18 l0 x3_1).f0).size < 1) = true := decide_eq_true (by omega)
                clear c8
                (first | rw [c8b0] | (simp only [i64_w, i32_w]; rw [c8b0]) | skip)
                have H' := qza.mk H
                clear H
                have hcz9_0 : w6.cell? ⟨gb529, 0, none⟩ = some (.string (⟨#[]⟩ : ByteArray)) := (qz6 BK529.out 0).trans rfl
                have hcz9_1 : w6.cell? ⟨gb529, 1, none⟩ = some (.string (⟨#[]⟩ : ByteArray)) := (qz6 BK529.out 1).trans rfl
                have hcz9_2 : w6.cell? ⟨gb529, 2, none⟩ = some (.int .u64 0) := (qz6 BK529.out 2).trans rfl
                have hfz9_0 := qz5 BK529.out 0
                have hfz9_1 := qz5 BK529.out 1
                have hfz9_2 := qz5 BK529.out 2
                go_wp2
                repeat (go_quiet (fail); try go_wp2)
                go_meet
                case rel => exact ⟨_, (true), (by first | rfl | (simp; done) | (simp [*]; done)), H', ⟨by have := HK1.out; first | omega | exact Nat.le_refl _⟩, ⟨by (with_reducible repeat (first | refine qz11 ?_ _ | refine qz13 ?_ | refine qz10 ?_ _)); refine qz23 (cs := #[.string ((qz18 l0 x3_1).f0), .string ((qz18 l0 x3_1).f1), .int .u64 0]) ?_ 2 _ rfl; (with_reducible repeat (first | refine qz11 ?_ _ | refine qz13 ?_ | refine qz10 ?_ _)); refine qz23 (cs := #[.string ((qz18 l0 x3_1).f0), .string (⟨#[]⟩ : ByteArray), .int .u64 0]) ?_ 1 _ rfl; (with_reducible repeat (first | refine qz11 ?_ _ | refine qz13 ?_ | refine qz10 ?_ _)); refine qz23 (cs := #[.string (⟨#[]⟩ : ByteArray), .string (⟨#[]⟩ : ByteArray), .int .u64 0]) ?_ 0 _ rfl; (with_reducible repeat (first | refine qz11 ?_ _ | refine qz13 ?_ | refine qz10 ?_ _)); exact BK529.out⟩, ⟨by repeat (first | (with_reducible first | exact HB.out | apply qz2 | apply qz0 | apply qz3 | refine qz8 ?_ GE529.out) | exact HB.out)⟩⟩
              · rw [if_neg c8] at H
                have c8b0 : decide ((((qz18 l0 x3_1).f0).size : Int) < 1) = false := decide_eq_false c8
                have c8b1 : decide (((qz18 l0 x3_1).f0).size < 1) = false := decide_eq_false (by omega)
                clear c8
                (first | rw [c8b0] | (simp only [i64_w, i32_w]; rw [c8b0]) | skip)
                by_cases c10 : (((qz18 l0 x3_1).f0).size : Int) > 16
                · rw [if_pos c10] at H
                  have c10b0 : decide (16 < (((qz18 l0 x3_1).f0).size : Int)) = true := decide_eq_true c10
                  have c10b1 : decide (16 < ((qz18 l0 x3_1).f0).size) = true := decide_eq_true (by omega)
                  clear c10
                  have H' := qza.mk H
                  clear H
                  have hcz11_0 : w6.cell? ⟨gb529, 0, none⟩ = some (.string (⟨#[]⟩ : ByteArray)) := (qz6 BK529.out 0).trans rfl
                  have hcz11_1 : w6.cell? ⟨gb529, 1, none⟩ = some (.string (⟨#[]⟩ : ByteArray)) := (qz6 BK529.out 1).trans rfl
                  have hcz11_2 : w6.cell? ⟨gb529, 2, none⟩ = some (.int .u64 0) := (qz6 BK529.out 2).trans rfl
                  have hfz11_0 := qz5 BK529.out 0
                  have hfz11_1 := qz5 BK529.out 1
                  have hfz11_2 := qz5 BK529.out 2
                  go_wp2
                  repeat (go_quiet (fail); try go_wp2)
                  go_meet
                  case rel => exact ⟨_, (true), (by first | rfl | (simp; done) | (simp [*]; done)), H', ⟨by have := HK1.out; first | omega | exact Nat.le_refl _⟩, ⟨by (with_reducible repeat (first | refine qz11 ?_ _ | refine qz13 ?_ | refine qz10 ?_ _)); refine qz23 (cs := #[.string ((qz18 l0 x3_1).f0), .string ((qz18 l0 x3_1).f1), .int .u64 0]) ?_ 2 _ rfl; (with_reducible repeat (first | refine qz11 ?_ _ | refine qz13 ?_ | refine qz10 ?_ _)); refine qz23 (cs := #[.string ((qz18 l0 x3_1).f0), .string (⟨#[]⟩ : ByteArray), .int .u64 0]) ?_ 1 _ rfl; (with_reducible repeat (first | refine qz11 ?_ _ | refine qz13 ?_ | refine qz10 ?_ _)); refine qz23 (cs := #[.string (⟨#[]⟩ : ByteArray), .string (⟨#[]⟩ : ByteArray), .int .u64 0]) ?_ 0 _ rfl; (with_reducible repeat (first | refine qz11 ?_ _ | refine qz13 ?_ | refine qz10 ?_ _)); exact BK529.out⟩, ⟨by repeat (first | (with_reducible first | exact HB.out | apply qz2 | apply qz0 | apply qz3 | refine qz8 ?_ GE529.out) | exact HB.out)⟩⟩
                · rw [if_neg c10] at H
                  have c10b0 : decide (16 < (((qz18 l0 x3_1).f0).size : Int)) = false := decide_eq_false c10
                  have c10b1 : decide (16 < ((qz18 l0 x3_1).f0).size) = false := decide_eq_false (by omega)
                  clear c10
                  by_cases c12 : (((qz18 l0 x3_1).f1).size : Int) > 32
                  · rw [if_pos c12] at H
                    have c12b0 : decide (32 < (((qz18 l0 x3_1).f1).size : Int)) = true := decide_eq_true c12
                    have c12b1 : decide (32 < ((qz18 l0 x3_1).f1).size) = true := decide_eq_true (by omega)
                    clear c12
                    have H' := qza.mk H
                    clear H
                    have hcz13_0 : w6.cell? ⟨gb529, 0, none⟩ = some (.string (⟨#[]⟩ : ByteArray)) := (qz6 BK529.out 0).trans rfl
                    have hcz13_1 : w6.cell? ⟨gb529, 1, none⟩ = some (.string (⟨#[]⟩ : ByteArray)) := (qz6 BK529.out 1).trans rfl
                    have hcz13_2 : w6.cell? ⟨gb529, 2, none⟩ = some (.int .u64 0) := (qz6 BK529.out 2).trans rfl
                    have hfz13_0 := qz5 BK529.out 0
                    have hfz13_1 := qz5 BK529.out 1
                    have hfz13_2 := qz5 BK529.out 2
                    go_wp2
                    repeat (go_quiet (fail); try go_wp2)
                    go_meet
                    case rel => exact ⟨_, (true), (by first | rfl | (simp; done) | (simp [*]; done)), H', ⟨by have := HK1.out; first | omega | exact Nat.le_refl _⟩, ⟨by (with_reducible repeat (first | refine qz11 ?_ _ | refine qz13 ?_ | refine qz10 ?_ _)); refine qz23 (cs := #[.string ((qz18 l0 x3_1).f0), .string ((qz18 l0 x3_1).f1), .int .u64 0]) ?_ 2 _ rfl; (with_reducible repeat (first | refine qz11 ?_ _ | refine qz13 ?_ | refine qz10 ?_ _)); refine qz23 (cs := #[.string ((qz18 l0 x3_1).f0), .string (⟨#[]⟩ : ByteArray), .int .u64 0]) ?_ 1 _ rfl; (with_reducible repeat (first | refine qz11 ?_ _ | refine qz13 ?_ | refine qz10 ?_ _)); refine qz23 (cs := #[.string (⟨#[]⟩ : ByteArray), .string (⟨#[]⟩ : ByteArray), .int .u64 0]) ?_ 0 _ rfl; (with_reducible repeat (first | refine qz11 ?_ _ | refine qz13 ?_ | refine qz10 ?_ _)); exact BK529.out⟩, ⟨by repeat (first | (with_reducible first | exact HB.out | apply qz2 | apply qz0 | apply qz3 | refine qz8 ?_ GE529.out) | exact HB.out)⟩⟩
                  · rw [if_neg c12] at H
                    have c12b0 : decide (32 < (((qz18 l0 x3_1).f1).size : Int)) = false := decide_eq_false c12
                    have c12b1 : decide (32 < ((qz18 l0 x3_1).f1).size) = false := decide_eq_false (by omega)
                    clear c12
                    have H' := qza.mk H
                    clear H
                    have hcz14_0 : w6.cell? ⟨gb529, 0, none⟩ = some (.string (⟨#[]⟩ : ByteArray)) := (qz6 BK529.out 0).trans rfl
                    have hcz14_1 : w6.cell? ⟨gb529, 1, none⟩ = some (.string (⟨#[]⟩ : ByteArray)) := (qz6 BK529.out 1).trans rfl
                    have hcz14_2 : w6.cell? ⟨gb529, 2, none⟩ = some (.int .u64 0) := (qz6 BK529.out 2).trans rfl
                    have hfz14_0 := qz5 BK529.out 0
                    have hfz14_1 := qz5 BK529.out 1
                    have hfz14_2 := qz5 BK529.out 2
                    go_wp2
                    repeat (go_quiet (fail); try go_wp2)
                    go_meet
                    case rel => exact ⟨_, (decide (((qz18 l0 x3_1).f2) > 4611686018427387903)), (by first | rfl | (simp; done) | (simp [*]; done)), H', ⟨by have := HK1.out; first | omega | exact Nat.le_refl _⟩, ⟨by (with_reducible repeat (first | refine qz11 ?_ _ | refine qz13 ?_ | refine qz10 ?_ _)); refine qz23 (cs := #[.string ((qz18 l0 x3_1).f0), .string ((qz18 l0 x3_1).f1), .int .u64 0]) ?_ 2 _ rfl; (with_reducible repeat (first | refine qz11 ?_ _ | refine qz13 ?_ | refine qz10 ?_ _)); refine qz23 (cs := #[.string ((qz18 l0 x3_1).f0), .string (⟨#[]⟩ : ByteArray), .int .u64 0]) ?_ 1 _ rfl; (with_reducible repeat (first | refine qz11 ?_ _ | refine qz13 ?_ | refine qz10 ?_ _)); refine qz23 (cs := #[.string (⟨#[]⟩ : ByteArray), .string (⟨#[]⟩ : ByteArray), .int .u64 0]) ?_ 0 _ rfl; (with_reducible repeat (first | refine qz11 ?_ _ | refine qz13 ?_ | refine qz10 ?_ _)); exact BK529.out⟩, ⟨by repeat (first | (with_reducible first | exact HB.out | apply qz2 | apply qz0 | apply qz3 | refine qz8 ?_ GE529.out) | exact HB.out)⟩⟩
            case rest =>
              clear HC5
              try clear c1
              try clear c2
              try clear c2b0
              try clear c2b1
              try clear p2
              try clear c3
              try clear c3b0
              try clear c4
              try clear c4b0
              try clear p5
              try clear q5
              try clear hx5
              try clear c8
              try clear c8b0
              try clear c8b1
              try clear c10
              try clear c10b0
              try clear c10b1
              try clear c12
              try clear c12b0
              try clear c12b1
              try clear hcz11_0
              try clear hcz11_1
              try clear hcz11_2
              try clear hcz13_0
              try clear hcz13_1
              try clear hcz13_2
              try clear hcz14_0
              try clear hcz14_1
              try clear hcz14_2
              try clear hcz7_0
              try clear hcz7_1
              try clear hcz7_2
              try clear hcz9_0
              try clear hcz9_1
              try clear hcz9_2
              try clear hfz11_0
              try clear hfz11_1
              try clear hfz11_2
              try clear hfz13_0
              try clear hfz13_1
              try clear hfz13_2
              try clear hfz14_0
              try clear hfz14_1
              try clear hfz14_2
              try clear hfz7_0
              try clear hfz7_1
              try clear hfz7_2
              try clear hfz9_0
              try clear hfz9_1
              try clear hfz9_2
              try clear hx528_0
              try clear hx528_1
              try clear hx528_2
              try clear p2
              try clear p528
              try clear q528
              obtain ⟨kq, x38_4, rfl, HA, HJ4, BK529, HB⟩ := hcut
              cases kq with
              | zero => exact absurd HA.out (by simp [ferruleref11_Right.j1])
              | succ kj4 =>
                have H := HA.out
                clear HA
                simp only [ferruleref11_Right.j1] at H
                by_cases c15 : x38_4 = true
                · subst c15
                  have H1 : (some false) = some r := by rw [if_pos rfl] at H; exact H
                  clear H
                  have H := H1
                  clear H1
                  obtain rfl := Option.some.inj H
                  go_wp2
                  repeat (go_quiet (fail); try go_wp2)
                  go_ret
                  exact ⟨by first | rfl | (simp [qz19, qz20] <;> rfl) | (simp [*, qz19, qz20] <;> rfl), by repeat (first | (with_reducible first | exact HB.out | apply qz2 | apply qz0 | apply qz3 | refine qz8 ?_ GE529.out) | exact HB.out)⟩
                · replace c15 := Bool.eq_false_iff.mpr c15
                  subst c15
                  have H1 : (if x3_1 > 0 then (if 0 ≤ (wrap64 (x3_1 - 1)) then (if (wrap64 (x3_1 - 1)) < (l0.length : Int) then ((ferruleref11_Less.f kj4 ((qz18 l0 (wrap64 (x3_1 - 1))).f0) ((qz18 l0 x3_1).f0)).bind fun t531 => (if t531 = true then (ferruleref11_Right.l0 kj4 l0 (wrap64 (x3_1 + 1))) else (some false))) else (none)) else (none)) else (ferruleref11_Right.l0 kj4 l0 (wrap64 (x3_1 + 1)))) = some r := by rw [if_neg (show ¬ (false = true) by decide)] at H; exact H
                  clear H
                  have H := H1
                  clear H1
                  by_cases c16 : x3_1 > 0
                  · rw [if_pos c16] at H
                    have c16b0 : decide (0 < x3_1) = true := decide_eq_true c16
                    clear c16
                    obtain ⟨ji17, hji17⟩ : ∃ j_ : Int, (wrap64 (x3_1 - 1)) = j_ := ⟨_, rfl⟩
                    replace H : (if 0 ≤ (ji17) then (if (ji17) < (l0.length : Int) then ((ferruleref11_Less.f kj4 ((qz18 l0 (ji17)).f0) ((qz18 l0 x3_1).f0)).bind fun t531 => (if t531 = true then (ferruleref11_Right.l0 kj4 l0 (wrap64 (x3_1 + 1))) else (some false))) else (none)) else (none)) = some r := by first | (rw [hji17] at H; exact H) | (simp only [hji17] at H ⊢; exact H)
                    have hji17w : (IntKind.i64.wrap (x3_1 - 1)) = ji17 := (i64_w _).trans hji17
                    by_cases c18 : 0 ≤ (ji17)
                    · rw [if_pos c18] at H
                      have c18b0 : decide (0 ≤ (ji17)) = true := decide_eq_true c18
                      clear c18
                      by_cases c19 : (ji17) < (l0.length : Int)
                      · rw [if_pos c19] at H
                        have c19b0 : decide ((ji17) < (l0.length : Int)) = true := decide_eq_true c19
                        clear c19
                        replace H := Option.bind_eq_some_iff.mp H
                        obtain ⟨t531, A200, H⟩ := H
                        replace H : (if t531 = true then (ferruleref11_Right.l0 kj4 l0 (wrap64 (x3_1 + 1))) else (some false)) = some r := H
                        have A20 := qza.mk A200
                        clear A200
                        by_cases c21 : t531 = true
                        · subst c21
                          have H1 : (ferruleref11_Right.l0 kj4 l0 (wrap64 (x3_1 + 1))) = some r := by rw [if_pos rfl] at H; exact H
                          clear H
                          have H := H1
                          clear H1
                          have H' := qza.mk H
                          clear H
                          have p530 : 0 ≤ ((ji17) : Int) := of_decide_eq_true (by first | (with_reducible assumption) | assumption)
                          have q530 : (ji17) < (l0.length : Int) := of_decide_eq_true (by first | (with_reducible assumption) | assumption)
                          obtain ⟨ad530, e530, hx530_0, hx530_1, hx530_2⟩ := at_T50 HR0.out (ji17) p530 q530
                          obtain rfl : ad528 = ad530 := (by injection e530)
                          replace hx530_0 := (HB.out.cell (World.block_lt_of_cell? w _ hx530_0)).trans hx530_0
                          replace hx530_1 := (HB.out.cell (World.block_lt_of_cell? w _ hx530_1)).trans hx530_1
                          replace hx530_2 := (HB.out.cell (World.block_lt_of_cell? w _ hx530_2)).trans hx530_2
                          replace p530 := eq_true p530
                          replace q530 := eq_true q530
                          have hcz22_0 : wc.cell? ⟨gb529, 0, none⟩ = some (.string ((qz18 l0 x3_1).f0)) := (qz6 BK529.out 0).trans rfl
                          have hcz22_1 : wc.cell? ⟨gb529, 1, none⟩ = some (.string ((qz18 l0 x3_1).f1)) := (qz6 BK529.out 1).trans rfl
                          have hcz22_2 : wc.cell? ⟨gb529, 2, none⟩ = some (.int .u64 ((qz18 l0 x3_1).f2)) := (qz6 BK529.out 2).trans rfl
                          have hfz22_0 := qz5 BK529.out 0
                          have hfz22_1 := qz5 BK529.out 1
                          have hfz22_2 := qz5 BK529.out 2
                          go_wp2_with (first | (go_at_call 70; (with_reducible refine (ferruleref11_Less.calls kj4 ((qz18 l0 (ji17)).f0) ((qz18 l0 x3_1).f0) true _ A20.out).mono ?_); rintro e w' ⟨rfl, ⟨nd, rfl⟩⟩; (try first | exact ⟨rfl, _, World.drewN_drewN _ _ _⟩ | exact ⟨rfl, _, Eq.trans (World.drewN_drewN _ _ _) (congrArg (World.drewN _) (Nat.add_assoc _ _ _))⟩)))
                          repeat (go_quiet (first | (go_at_call 70; (with_reducible refine (ferruleref11_Less.calls kj4 ((qz18 l0 (ji17)).f0) ((qz18 l0 x3_1).f0) true _ A20.out).mono ?_); rintro e w' ⟨rfl, ⟨nd, rfl⟩⟩; (try first | exact ⟨rfl, _, World.drewN_drewN _ _ _⟩ | exact ⟨rfl, _, Eq.trans (World.drewN_drewN _ _ _) (congrArg (World.drewN _) (Nat.add_assoc _ _ _))⟩))); try go_wp2_with (first | (go_at_call 70; (with_reducible refine (ferruleref11_Less.calls kj4 ((qz18 l0 (ji17)).f0) ((qz18 l0 x3_1).f0) true _ A20.out).mono ?_); rintro e w' ⟨rfl, ⟨nd, rfl⟩⟩; (try first | exact ⟨rfl, _, World.drewN_drewN _ _ _⟩ | exact ⟨rfl, _, Eq.trans (World.drewN_drewN _ _ _) (congrArg (World.drewN _) (Nat.add_assoc _ _ _))⟩))))
                          go_roundg kj4
                          case measure => have := HK1.out; have := HJ4.out; omega
                          case rel => exact ⟨(wrap64 (x3_1 + 1)), (by first | rfl | (simp; done) | (simp [*]; done)), H', ⟨by have := HK1.out; have := HJ4.out; omega⟩, ⟨by repeat (first | (with_reducible first | exact HB.out | apply qz2 | apply qz0 | apply qz3 | refine qz8 ?_ GE529.out) | exact HB.out)⟩⟩
                        · replace c21 := Bool.eq_false_iff.mpr c21
                          subst c21
                          have H1 : (some false) = some r := by rw [if_neg (show ¬ (false = true) by decide)] at H; exact H
                          clear H
                          have H := H1
                          clear H1
                          obtain rfl := Option.some.inj H
                          have p530 : 0 ≤ ((ji17) : Int) := of_decide_eq_true (by first | (with_reducible assumption) | assumption)
                          have q530 : (ji17) < (l0.length : Int) := of_decide_eq_true (by first | (with_reducible assumption) | assumption)
                          obtain ⟨ad530, e530, hx530_0, hx530_1, hx530_2⟩ := at_T50 HR0.out (ji17) p530 q530
                          obtain rfl : ad528 = ad530 := (by injection e530)
                          replace hx530_0 := (HB.out.cell (World.block_lt_of_cell? w _ hx530_0)).trans hx530_0
                          replace hx530_1 := (HB.out.cell (World.block_lt_of_cell? w _ hx530_1)).trans hx530_1
                          replace hx530_2 := (HB.out.cell (World.block_lt_of_cell? w _ hx530_2)).trans hx530_2
                          replace p530 := eq_true p530
                          replace q530 := eq_true q530
                          have hcz23_0 : wc.cell? ⟨gb529, 0, none⟩ = some (.string ((qz18 l0 x3_1).f0)) := (qz6 BK529.out 0).trans rfl
                          have hcz23_1 : wc.cell? ⟨gb529, 1, none⟩ = some (.string ((qz18 l0 x3_1).f1)) := (qz6 BK529.out 1).trans rfl
                          have hcz23_2 : wc.cell? ⟨gb529, 2, none⟩ = some (.int .u64 ((qz18 l0 x3_1).f2)) := (qz6 BK529.out 2).trans rfl
                          have hfz23_0 := qz5 BK529.out 0
                          have hfz23_1 := qz5 BK529.out 1
                          have hfz23_2 := qz5 BK529.out 2
                          go_wp2_with (first | (go_at_call 70; (with_reducible refine (ferruleref11_Less.calls kj4 ((qz18 l0 (ji17)).f0) ((qz18 l0 x3_1).f0) false _ A20.out).mono ?_); rintro e w' ⟨rfl, ⟨nd, rfl⟩⟩; (try first | exact ⟨rfl, _, World.drewN_drewN _ _ _⟩ | exact ⟨rfl, _, Eq.trans (World.drewN_drewN _ _ _) (congrArg (World.drewN _) (Nat.add_assoc _ _ _))⟩)))
                          repeat (go_quiet (first | (go_at_call 70; (with_reducible refine (ferruleref11_Less.calls kj4 ((qz18 l0 (ji17)).f0) ((qz18 l0 x3_1).f0) false _ A20.out).mono ?_); rintro e w' ⟨rfl, ⟨nd, rfl⟩⟩; (try first | exact ⟨rfl, _, World.drewN_drewN _ _ _⟩ | exact ⟨rfl, _, Eq.trans (World.drewN_drewN _ _ _) (congrArg (World.drewN _) (Nat.add_assoc _ _ _))⟩))); try go_wp2_with (first | (go_at_call 70; (with_reducible refine (ferruleref11_Less.calls kj4 ((qz18 l0 (ji17)).f0) ((qz18 l0 x3_1).f0) false _ A20.out).mono ?_); rintro e w' ⟨rfl, ⟨nd, rfl⟩⟩; (try first | exact ⟨rfl, _, World.drewN_drewN _ _ _⟩ | exact ⟨rfl, _, Eq.trans (World.drewN_drewN _ _ _) (congrArg (World.drewN _) (Nat.add_assoc _ _ _))⟩))))
                          go_ret
                          exact ⟨by first | rfl | (simp [qz19, qz20] <;> rfl) | (simp only [← hji17]; first | rfl | (simp [qz19, qz20] <;> rfl)) | (simp [*, qz19, qz20] <;> rfl), by repeat (first | (with_reducible first | exact HB.out | apply qz2 | apply qz0 | apply qz3 | refine qz8 ?_ GE529.out) | exact HB.out)⟩
                      · rw [if_neg c19] at H
                        exact absurd H (by simp)
                    · rw [if_neg c18] at H
                      exact absurd H (by simp)
                  · rw [if_neg c16] at H
                    have c16b0 : decide (0 < x3_1) = false := decide_eq_false c16
                    clear c16
                    have H' := qza.mk H
                    clear H
                    go_wp2
                    repeat (go_quiet (fail); try go_wp2)
                    go_roundg kj4
                    case measure => have := HK1.out; have := HJ4.out; omega
                    case rel => exact ⟨(wrap64 (x3_1 + 1)), (by first | rfl | (simp; done) | (simp [*]; done)), H', ⟨by have := HK1.out; have := HJ4.out; omega⟩, ⟨by repeat (first | (with_reducible first | exact HB.out | apply qz2 | apply qz0 | apply qz3 | refine qz8 ?_ GE529.out) | exact HB.out)⟩⟩
          · rw [if_neg c4] at H
            exact absurd H (by simp)
        · rw [if_neg c3] at H
          have c3b0 : decide (x3_1 < (l0.length : Int)) = false := decide_eq_false c3
          clear c3
          obtain rfl := Option.some.inj H
          go_wp2
          repeat (go_quiet (fail); try go_wp2)
          go_ret
          exact ⟨by first | rfl | (simp [qz19, qz20] <;> rfl) | (simp [*, qz19, qz20] <;> rfl), by repeat (first | (with_reducible first | exact HB.out | apply qz2 | apply qz0 | apply qz3) | exact HB.out)⟩
end Go.Proofs.Ytmcgcdpiceikeaa.PAll
end
section
namespace Go.Proofs.Ytmcgcdpiceikeaa.PAll
open Go.RowKit Go.Proofs.YtmcgcdpiceikeaaW.PrintWords Go.Proofs.YtmcgcdpiceikeaaW.PrintMore Go.Proofs.Ytmcgcdpiceikeaa
theorem rd_row (l : List S50) (j : Nat) (hj : j < l.length) : qz18 l (j : Int) = l[j]! := by
  simp [qz18, List.getD_eq_getElem?_getD, List.getElem?_eq_getElem hj, getElem!_pos l j hj]
theorem rd_put (l : List S54) (j : Nat) (hj : j < l.length) : qz17 l (j : Int) = l[j]! := by
  simp [qz17, List.getD_eq_getElem?_getD, List.getElem?_eq_getElem hj, getElem!_pos l j hj]
def allR (l : List S50) : Nat → Nat → Bool
  | 0, _ => true
  | d + 1, j => okR l j && allR l d (j + 1)
theorem allR_iff (l : List S50) : ∀ (d j : Nat), allR l d j = true ↔ ∀ i, j ≤ i → i < j + d → okR l i = true
  | 0, j => by simp [allR]; omega
  | d + 1, j => by
    rw [allR, Bool.and_eq_true, allR_iff l d (j + 1)]
    constructor
    · rintro ⟨h1, h2⟩ i hi1 hi2
      by_cases e : i = j
      · subst e; exact h1
      · exact h2 i (by omega) (by omega)
    · exact fun h => ⟨h j (Nat.le_refl _) (by omega), fun i h1 h2 => h i (by omega) (by omega)⟩
theorem rightR_from (l : List S50) : rightR l = (allR l l.length 0 && decide (l.length ≤ 32)) := by
  unfold rightR
  congr 1
  rw [Bool.eq_iff_iff, allR_iff, List.all_eq_true]
  exact ⟨fun h i _ hi => h i (List.mem_range.2 (by omega)), fun h i hi => h i (Nat.zero_le _) (by have := List.mem_range.1 hi; omega)⟩
def badRow (x : S50) : Bool := decide ((x.f0.size : Int) < 1) || decide ((x.f0.size : Int) > 16) || decide ((x.f1.size : Int) > 32) || decide (x.f2 > 4611686018427387903)
theorem okR_bad (l : List S50) (j : Nat) : okR l j = (!badRow (l[j]!) && (decide (j = 0) || Op.bytesLess (l[j - 1]!).f0.toList (l[j]!).f0.toList)) := by
  unfold okR badRow
  congr 1
  rw [Bool.eq_iff_iff]
  simp only [Bool.and_eq_true, decide_eq_true_eq, Bool.not_eq_true', Bool.or_eq_false_iff, decide_eq_false_iff_not]
  omega
theorem rRight_l0 (l : List S50) (hl : l.length ≤ 32) (hs : ∀ x ∈ l, x.f0.size ≤ 9223372036854775806) : ∀ (d j : Nat), d = l.length - j → j ≤ l.length → Ev (fun q => ferruleref11_Right.l0 q l (j : Int)) (allR l d j) := by
  intro d
  induction d with
  | zero =>
    intro j hd hj
    exact Ev.step (f := fun _ => some true) (fun k => by simp only [ferruleref11_Right.l0]; rw [if_neg (show ¬ (j : Int) < l.length by omega)]) (Ev.now true)
  | succ d ih =>
    intro j hd hj
    have hlt : j < l.length := by omega
    have hw := wrap_up j (by omega)
    refine Ev.step (f := fun k => ferruleref11_Right.j1 k l j (badRow (l[j]!)) (l[j]!).f0 (l[j]!).f1 (l[j]!).f2) (fun k => ?_) ?_
    · simp only [ferruleref11_Right.l0]
      rw [if_pos (show (j : Int) < l.length by omega), if_pos (show (0 : Int) ≤ j by omega), rd_row l j hlt]
      unfold badRow
      by_cases c1 : ((l[j]!).f0.size : Int) < 1
      · rw [if_pos c1, decide_eq_true c1]; rfl
      · rw [if_neg c1, decide_eq_false c1]
        by_cases c2 : ((l[j]!).f0.size : Int) > 16
        · rw [if_pos c2, decide_eq_true c2]; rfl
        · rw [if_neg c2, decide_eq_false c2]
          by_cases c3 : ((l[j]!).f1.size : Int) > 32
          · rw [if_pos c3, decide_eq_true c3]; rfl
          · rw [if_neg c3, decide_eq_false c3]; rfl
    · rw [allR, okR_bad]
      cases hb : badRow (l[j]!) with
      | true => exact Ev.step (f := fun _ => some false) (fun k => by simp only [ferruleref11_Right.j1]; rw [if_pos trivial]) (Ev.now false)
      | false =>
        rw [Bool.not_false, Bool.true_and]
        by_cases c3 : j = 0
        · rw [decide_eq_true c3, Bool.true_or, Bool.true_and]
          refine Ev.step (fun k => ?_) (ih (j + 1) (by omega) (by omega))
          simp only [ferruleref11_Right.j1]
          rw [if_neg (by decide), if_neg (show ¬ (j : Int) > 0 by omega), hw]
        · rw [decide_eq_false c3, Bool.false_or]
          have hj1 : j - 1 < l.length := by omega
          have hw2 := wrap_down j (by omega) (by omega)
          refine Ev.step (f := fun k => (ferruleref11_Less.f k (l[j - 1]!).f0 (l[j]!).f0).bind fun t => if t = true then ferruleref11_Right.l0 k l ((j + 1 : Nat) : Int) else some false) (fun k => ?_) (Ev.bind (Less_ev _ _ (hs _ (get_mem l _ hj1))) ?_)
          · simp only [ferruleref11_Right.j1]
            rw [if_neg (by decide), if_pos (show (j : Int) > 0 by omega), hw2, if_pos (show (0 : Int) ≤ ((j - 1 : Nat) : Int) by omega), if_pos (show ((j - 1 : Nat) : Int) < l.length by omega), rd_row l _ hj1, hw]
          · cases Op.bytesLess (l[j - 1]!).f0.toList (l[j]!).f0.toList with
            | true => exact Ev.congr (fun k => if_pos rfl) (by rw [Bool.true_and]; exact ih (j + 1) (by omega) (by omega))
            | false => exact Ev.congr (fun k => if_neg (by decide)) (Ev.now false)
theorem rRight_ev (l : List S50) (hs : ∀ x ∈ l, x.f0.size ≤ 9223372036854775806) : Ev (fun k => ferruleref11_Right.f k l) (rightR l) := by
  unfold ferruleref11_Right.f
  by_cases h : l.length ≤ 32
  · refine Ev.congr (fun k => if_neg (by omega)) ?_
    rw [rightR_from, decide_eq_true h, Bool.and_true]
    exact rRight_l0 l h hs l.length 0 (by omega) (by omega)
  · refine Ev.congr (fun k => if_pos (by omega)) ?_
    unfold rightR
    rw [decide_eq_false h, Bool.and_false]
    exact Ev.now false
def getV (l : List S50) (key : ByteArray) : ByteArray × ByteArray × Int × Bool := if findI (keyIs key) l < 0 then (⟨#[]⟩, ⟨#[]⟩, 0, false) else ((l[(findI (keyIs key) l).toNat]!).f0, (l[(findI (keyIs key) l).toNat]!).f1, (l[(findI (keyIs key) l).toNat]!).f2, true)
theorem Get_eq (l : List S50) (key : ByteArray) : rows_Get.f l key = some (getV l key) := by
  unfold rows_Get.f rows_at.f getV
  simp only [Option.bind_some]
  have e : (fun x : S50 => x.f0.toList == key.toList) = keyIs key := rfl
  rw [e]
  rcases findI_ways (keyIs key) l with h | ⟨i, hi, h⟩
  · rw [h]; rfl
  · rw [h, if_neg (by omega), if_pos (by omega), if_pos (by omega), if_neg (by omega), rd_row l i hi]; rfl
end Go.Proofs.Ytmcgcdpiceikeaa.PAll
end
