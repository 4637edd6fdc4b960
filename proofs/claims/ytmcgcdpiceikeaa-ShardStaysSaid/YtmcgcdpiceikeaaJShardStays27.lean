/- Joined texts of the claim ShardStays (part 27): contracts of functions and plain laws. -/
import Derived.Test.YtmcgcdpiceikeaaJShardStays13
import Derived.Test.YtmcgcdpiceikeaaJShardStays24
set_option linter.unusedVariables false
set_option linter.unusedSimpArgs false
section
namespace Go.Proofs.Ytmcgcdpiceikeaa.PAll
open Go.RowKit Go.Proofs.YtmcgcdpiceikeaaW.PrintWords Go.Proofs.YtmcgcdpiceikeaaW.PrintLast Go.Proofs.YtmcgcdpiceikeaaW.PrintMore
attribute [local go_sem] qz60 qz61 max_two min_two qz49 qz50 qz62 qz63
def rows_Get.f (l0 : List (S50)) (a1 : ByteArray) : Option (ByteArray × ByteArray × Int × Bool) := (rows_at.f l0 a1).bind fun t127 => (if t127 < 0 then (some ((⟨#[]⟩ : ByteArray), (⟨#[]⟩ : ByteArray), 0, false)) else (if 0 ≤ t127 then (if t127 < (l0.length : Int) then (some ((qz18 l0 t127).f0, (qz18 l0 t127).f1, (qz18 l0 t127).f2, true)) else (none)) else (none)))
set_option maxHeartbeats 8000000 in
set_option maxRecDepth 100000 in
theorem rows_Get.calls (A0 : Option Addr) (c0 : Nat) (l0 : List (S50)) (a1 : ByteArray) (r1 : ByteArray) (r2 : ByteArray) (r3 : Int) (r4 : Bool) (w : World) (hr0 : Kd.C k50 w A0 l0.length l0) (hc0 : l0.length ≤ c0) (h : rows_Get.f l0 a1 = some (r1, r2, r3, r4)) :
    Calls Try.prog 58 #[.slice A0 l0.length c0, .string a1] w fun e w' => e = .returned (.tuple #[.agg #[.string r1, .string r2, .int .u64 r3], .bool r4]) ∧ Below w.heap.size w w' := by
  have hu50 := Try.underlying50
  have HR0 := qza.mk hr0
  have HC0 := qza.mk hc0
  clear hr0 hc0
  have HB := qza.mk (Below.refl w.heap.size w)
  have H : ((rows_at.f l0 a1).bind fun t127 => (if t127 < 0 then (some ((⟨#[]⟩ : ByteArray), (⟨#[]⟩ : ByteArray), 0, false)) else (if 0 ≤ t127 then (if t127 < (l0.length : Int) then (some ((qz18 l0 t127).f0, (qz18 l0 t127).f1, (qz18 l0 t127).f2, true)) else (none)) else (none)))) = some (r1, r2, r3, r4) := h
  clear h
  replace H := Option.bind_eq_some_iff.mp H
  obtain ⟨t127, A30, H⟩ := H
  replace H : (if t127 < 0 then (some ((⟨#[]⟩ : ByteArray), (⟨#[]⟩ : ByteArray), 0, false)) else (if 0 ≤ t127 then (if t127 < (l0.length : Int) then (some ((qz18 l0 t127).f0, (qz18 l0 t127).f1, (qz18 l0 t127).f2, true)) else (none)) else (none))) = some (r1, r2, r3, r4) := H
  have A3 := qza.mk A30
  clear A30
  by_cases c4 : t127 < 0
  · rw [if_pos c4] at H
    have c4b0 : decide (t127 < 0) = true := decide_eq_true c4
    clear c4
    simp only [Option.some.injEq, Prod.mk.injEq] at H
    obtain ⟨rfl, rfl, rfl, rfl⟩ := H
    go_enter Try.func58, Try.ntmps58
    go_wp2_with (first | ((with_reducible refine qz22 (N := 4) rfl ?_); refine qz28 ?hg (N := 4) ?hd (cs := #[.string (⟨#[]⟩ : ByteArray), .string (⟨#[]⟩ : ByteArray), .int .u64 0]) (t := 50) ?hr ?_; (case hd => rfl); (case hg => rfl); (case hr => first | (go_simp; done) | (go_simp; rfl)); intro gb126 hg w5 hbox hb; have n0_ := qza.mk (qz21 (by repeat (first | (with_reducible first | exact HB.out | apply qz2 | apply qz0 | apply qz3) | exact HB.out)) hb); have n1_ := qza.mk (hbox); have n2_ := qza.mk ((by rw [hg]; exact (qz9 (by repeat (first | (with_reducible first | exact HB.out | apply qz2 | apply qz0 | apply qz3) | exact HB.out))) : w.heap.size ≤ gb126)); have n3_ := qza.mk ((by rw [hg]; exact (qz9 (by repeat (first | (with_reducible first | exact HB.out | apply qz2 | apply qz0 | apply qz3) | exact HB.out))) : w.heap.size ≤ gb126)); clear HB; have HB := n0_; have BK126 := n1_; have GW126 := n2_; have GE126 := n3_; clear n0_ n1_ n2_ n3_; clear hb hbox hg) | ((with_reducible refine qz79 (f := 90) rfl ?_); refine goesL_ (some 9) rfl rfl Try.func90 (by kernel_rfl) rfl #[.slice A0 l0.length c0, .string a1] rfl (by (try simp only [List.map_toArray, List.map_cons, List.map_nil]); first | done | rfl | (simp only [List.length_drop, List.length_take]; rfl)) ?_; (with_reducible refine (rows_at.calls _ _ l0 a1 t127 _ ?side1 ?side2 A3.out).mono ?_); (case side1 => repeat (first | exact (Kd.C_below HR0.out HB.out) | (with_reducible refine Kd.C_alloc ?_ _) | (with_reducible refine Kd.C_drewN ?_ _) | (with_reducible refine Kd.C_drew ?_))); (case side2 => exact HC0.out); rintro e w6 ⟨rfl, hb⟩; refine ⟨_, rfl, ?_⟩; have n0_ := qza.mk (qz48 (g := gb126) (o := .cells #[.string (⟨#[]⟩ : ByteArray), .string (⟨#[]⟩ : ByteArray), .int .u64 0] 50 (0, 0)) (by (with_reducible repeat (first | refine qz11 ?_ _ | refine qz13 ?_ | refine qz10 ?_ _)); exact BK126.out) hb); have n1_ := qza.mk (qz21 (by repeat (first | (with_reducible first | exact HB.out | apply qz2 | apply qz0 | apply qz3 | refine qz8 ?_ GE126.out) | exact HB.out)) hb); clear BK126; clear HB; have BK126 := n0_; have HB := n1_; clear n0_ n1_; (try clear hb); (try clear hb2); (try clear hk); (try clear hi); have hcz7_0 : w6.cell? ⟨gb126, 0, none⟩ = some (.string (⟨#[]⟩ : ByteArray)) := (qz6 BK126.out 0).trans rfl; have hcz7_1 : w6.cell? ⟨gb126, 1, none⟩ = some (.string (⟨#[]⟩ : ByteArray)) := (qz6 BK126.out 1).trans rfl; have hcz7_2 : w6.cell? ⟨gb126, 2, none⟩ = some (.int .u64 0) := (qz6 BK126.out 2).trans rfl; have hfz7_0 := qz5 BK126.out 0; have hfz7_1 := qz5 BK126.out 1; have hfz7_2 := qz5 BK126.out 2))
    refine bodyPost_ret (results_ct rfl _ _ gb126 50 #[.string (⟨#[]⟩ : ByteArray), .string (⟨#[]⟩ : ByteArray), .int .u64 0] (0, 0) _ rfl (by (with_reducible repeat (first | refine qz11 ?_ _ | refine qz13 ?_ | refine qz10 ?_ _)); refine qz23 (cs := #[.string (⟨#[]⟩ : ByteArray), .string (⟨#[]⟩ : ByteArray), .int .u64 0]) ?_ 2 _ rfl; (with_reducible repeat (first | refine qz11 ?_ _ | refine qz13 ?_ | refine qz10 ?_ _)); refine qz23 (cs := #[.string (⟨#[]⟩ : ByteArray), .string (⟨#[]⟩ : ByteArray), .int .u64 0]) ?_ 1 _ rfl; (with_reducible repeat (first | refine qz11 ?_ _ | refine qz13 ?_ | refine qz10 ?_ _)); refine qz23 (cs := #[.string (⟨#[]⟩ : ByteArray), .string (⟨#[]⟩ : ByteArray), .int .u64 0]) ?_ 0 _ rfl; (with_reducible repeat (first | refine qz11 ?_ _ | refine qz13 ?_ | refine qz10 ?_ _)); exact BK126.out) Try.underlying50 rfl (by kernel_rfl)) rfl ?_
    exact ⟨by first | rfl | (simp [qz19, qz20] <;> rfl) | (simp [*, qz19, qz20] <;> rfl), by repeat (first | (with_reducible first | exact HB.out | apply qz2 | apply qz0 | apply qz3 | refine qz8 ?_ GE126.out) | exact HB.out)⟩
  · rw [if_neg c4] at H
    have c4b0 : decide (t127 < 0) = false := decide_eq_false c4
    clear c4
    by_cases c8 : 0 ≤ t127
    · rw [if_pos c8] at H
      have c8b0 : decide (0 ≤ t127) = true := decide_eq_true c8
      clear c8
      by_cases c9 : t127 < (l0.length : Int)
      · rw [if_pos c9] at H
        have c9b0 : decide (t127 < (l0.length : Int)) = true := decide_eq_true c9
        clear c9
        simp only [Option.some.injEq, Prod.mk.injEq] at H
        obtain ⟨rfl, rfl, rfl, rfl⟩ := H
        go_enter Try.func58, Try.ntmps58
        go_wp2_with (first | ((with_reducible refine qz22 (N := 4) rfl ?_); refine qz28 ?hg (N := 4) ?hd (cs := #[.string (⟨#[]⟩ : ByteArray), .string (⟨#[]⟩ : ByteArray), .int .u64 0]) (t := 50) ?hr ?_; (case hd => rfl); (case hg => rfl); (case hr => first | (go_simp; done) | (go_simp; rfl)); intro gb126 hg w10 hbox hb; have n0_ := qza.mk (qz21 (by repeat (first | (with_reducible first | exact HB.out | apply qz2 | apply qz0 | apply qz3) | exact HB.out)) hb); have n1_ := qza.mk (hbox); have n2_ := qza.mk ((by rw [hg]; exact (qz9 (by repeat (first | (with_reducible first | exact HB.out | apply qz2 | apply qz0 | apply qz3) | exact HB.out))) : w.heap.size ≤ gb126)); have n3_ := qza.mk ((by rw [hg]; exact (qz9 (by repeat (first | (with_reducible first | exact HB.out | apply qz2 | apply qz0 | apply qz3) | exact HB.out))) : w.heap.size ≤ gb126)); clear HB; have HB := n0_; have BK126 := n1_; have GW126 := n2_; have GE126 := n3_; clear n0_ n1_ n2_ n3_; clear hb hbox hg) | ((with_reducible refine qz79 (f := 90) rfl ?_); refine goesL_ (some 9) rfl rfl Try.func90 (by kernel_rfl) rfl #[.slice A0 l0.length c0, .string a1] rfl (by (try simp only [List.map_toArray, List.map_cons, List.map_nil]); first | done | rfl | (simp only [List.length_drop, List.length_take]; rfl)) ?_; (with_reducible refine (rows_at.calls _ _ l0 a1 t127 _ ?side1 ?side2 A3.out).mono ?_); (case side1 => repeat (first | exact (Kd.C_below HR0.out HB.out) | (with_reducible refine Kd.C_alloc ?_ _) | (with_reducible refine Kd.C_drewN ?_ _) | (with_reducible refine Kd.C_drew ?_))); (case side2 => exact HC0.out); rintro e w11 ⟨rfl, hb⟩; refine ⟨_, rfl, ?_⟩; have n0_ := qza.mk (qz48 (g := gb126) (o := .cells #[.string (⟨#[]⟩ : ByteArray), .string (⟨#[]⟩ : ByteArray), .int .u64 0] 50 (0, 0)) (by (with_reducible repeat (first | refine qz11 ?_ _ | refine qz13 ?_ | refine qz10 ?_ _)); exact BK126.out) hb); have n1_ := qza.mk (qz21 (by repeat (first | (with_reducible first | exact HB.out | apply qz2 | apply qz0 | apply qz3 | refine qz8 ?_ GE126.out) | exact HB.out)) hb); clear BK126; clear HB; have BK126 := n0_; have HB := n1_; clear n0_ n1_; (try clear hb); (try clear hb2); (try clear hk); (try clear hi); have p128 : 0 ≤ (t127 : Int) := of_decide_eq_true (by first | (with_reducible assumption) | assumption); have q128 : t127 < (l0.length : Int) := of_decide_eq_true (by first | (with_reducible assumption) | assumption); obtain ⟨ad128, e128, hx128_0, hx128_1, hx128_2⟩ := at_T50 HR0.out t127 p128 q128; cases e128; replace hx128_0 := (HB.out.cell (World.block_lt_of_cell? w _ hx128_0)).trans hx128_0; replace hx128_1 := (HB.out.cell (World.block_lt_of_cell? w _ hx128_1)).trans hx128_1; replace hx128_2 := (HB.out.cell (World.block_lt_of_cell? w _ hx128_2)).trans hx128_2; replace p128 := eq_true p128; replace q128 := eq_true q128; have hcz12_0 : w11.cell? ⟨gb126, 0, none⟩ = some (.string (⟨#[]⟩ : ByteArray)) := (qz6 BK126.out 0).trans rfl; have hcz12_1 : w11.cell? ⟨gb126, 1, none⟩ = some (.string (⟨#[]⟩ : ByteArray)) := (qz6 BK126.out 1).trans rfl; have hcz12_2 : w11.cell? ⟨gb126, 2, none⟩ = some (.int .u64 0) := (qz6 BK126.out 2).trans rfl; have hfz12_0 := qz5 BK126.out 0; have hfz12_1 := qz5 BK126.out 1; have hfz12_2 := qz5 BK126.out 2))
        refine bodyPost_ret (results_ct rfl _ _ gb126 50 #[.string ((qz18 l0 t127).f0), .string ((qz18 l0 t127).f1), .int .u64 ((qz18 l0 t127).f2)] (0, 0) _ rfl (by (with_reducible repeat (first | refine qz11 ?_ _ | refine qz13 ?_ | refine qz10 ?_ _)); refine qz23 (cs := #[.string ((qz18 l0 t127).f0), .string ((qz18 l0 t127).f1), .int .u64 0]) ?_ 2 _ rfl; (with_reducible repeat (first | refine qz11 ?_ _ | refine qz13 ?_ | refine qz10 ?_ _)); refine qz23 (cs := #[.string ((qz18 l0 t127).f0), .string (⟨#[]⟩ : ByteArray), .int .u64 0]) ?_ 1 _ rfl; (with_reducible repeat (first | refine qz11 ?_ _ | refine qz13 ?_ | refine qz10 ?_ _)); refine qz23 (cs := #[.string (⟨#[]⟩ : ByteArray), .string (⟨#[]⟩ : ByteArray), .int .u64 0]) ?_ 0 _ rfl; (with_reducible repeat (first | refine qz11 ?_ _ | refine qz13 ?_ | refine qz10 ?_ _)); exact BK126.out) Try.underlying50 rfl (by kernel_rfl)) rfl ?_
        exact ⟨by first | rfl | (simp [qz19, qz20] <;> rfl) | (simp [*, qz19, qz20] <;> rfl), by repeat (first | (with_reducible first | exact HB.out | apply qz2 | apply qz0 | apply qz3 | refine qz8 ?_ GE126.out) | exact HB.out)⟩
      · rw [if_neg c9] at H
        exact absurd H (by simp)
    · rw [if_neg c8] at H
      exact absurd H (by simp)
end Go.Proofs.Ytmcgcdpiceikeaa.PAll
end
