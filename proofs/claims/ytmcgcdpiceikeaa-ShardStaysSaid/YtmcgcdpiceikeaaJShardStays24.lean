/- Joined texts of the claim ShardStays (part 24): contracts of functions and plain laws. -/
import Derived.Test.YtmcgcdpiceikeaaJShardStays13
import Derived.Test.YtmcgcdpiceikeaaJShardStays17
import Derived.Test.YtmcgcdpiceikeaaJShardStays21
import Derived.Test.YtmcgcdpiceikeaaJShardStays1
import Derived.BigQuiet
import Derived.Deep.QuietTactic
import Derived.Test.YtmcgcdpiceikeaaJShardStays14
import Derived.WalkLawsBesides
set_option linter.unusedVariables false
set_option linter.unusedSimpArgs false
section
namespace Go.Proofs.Ytmcgcdpiceikeaa.PAll
open Go.RowKit Go.Proofs.YtmcgcdpiceikeaaW.PrintWords Go.Proofs.YtmcgcdpiceikeaaW.PrintLast Go.Proofs.YtmcgcdpiceikeaaW.PrintMore
attribute [local go_sem] qz60 qz61 max_two min_two qz49 qz50 qz62 qz63
attribute [local go_sem high] eqA30
def api_Tx_89.l0 : Nat → List (S30) → Int → Int → Int → Int → Option (Int)
  | 0, _, _, _, _, _ => none
  | k + 1, x0, x7, x8, x123000, x123001 => if x8 < x7 then (if 0 ≤ x8 then (if x8 < (x0.length : Int) then (if (x123000 == ((rd_T30 x0 x8).f0) && (x123001 == ((rd_T30 x0 x8).f1))) = true then (some x8) else (api_Tx_89.l0 k x0 x7 (wrap64 (x8 + 1)) x123000 x123001)) else (none)) else (none)) else (some (-1))
def api_Tx_89.f (k : Nat) (l0 : List (S30)) (a1_0 : Int) (a1_1 : Int) : Option (Int) := api_Tx_89.l0 k l0 (l0.length : Int) 0 a1_0 a1_1
set_option maxHeartbeats 8000000 in
set_option maxRecDepth 100000 in
theorem api_Tx_89.calls (k : Nat) (A0 : Option Addr) (c0 : Nat) (l0 : List (S30)) (a1_0 : Int) (a1_1 : Int) (r : Int) (w : World) (hr0 : Kd.C k30 w A0 l0.length l0) (hc0 : l0.length ≤ c0) (h : api_Tx_89.f k l0 a1_0 a1_1 = some r) :
    Calls Try.prog 89 #[.slice A0 l0.length c0, .agg #[.int .u64 a1_0, .int .u64 a1_1]] w fun e w' => e = .returned (.int .i64 r) ∧ Below w.heap.size w w' := by
  have hu30 := Try.underlying30
  have HR0 := qza.mk hr0
  have HC0 := qza.mk hc0
  clear hr0 hc0
  have HB := qza.mk (Below.refl w.heap.size w)
  have H : (api_Tx_89.l0 k l0 (l0.length : Int) 0 a1_0 a1_1) = some r := h
  clear h
  have H' := qza.mk H
  clear H
  go_enter Try.func89, Try.ntmps89
  go_wp2_with (first | ((with_reducible refine qz22 (N := 3) rfl ?_); refine qz28 ?hg (N := 3) ?hd (cs := #[.int .u64 a1_0, .int .u64 a1_1]) (t := 30) ?hr ?_; (case hd => rfl); (case hg => rfl); (case hr => first | (go_simp; done) | (go_simp; rfl)); intro gb122 hg w3 hbox hb; have n0_ := qza.mk (qz21 (by repeat (first | (with_reducible first | exact HB.out | apply qz2 | apply qz0 | apply qz3) | exact HB.out)) hb); have n1_ := qza.mk (hbox); have n2_ := qza.mk ((by rw [hg]; exact (qz9 (by repeat (first | (with_reducible first | exact HB.out | apply qz2 | apply qz0 | apply qz3) | exact HB.out))) : w.heap.size ≤ gb122)); have n3_ := qza.mk ((by rw [hg]; exact (qz9 (by repeat (first | (with_reducible first | exact HB.out | apply qz2 | apply qz0 | apply qz3) | exact HB.out))) : w.heap.size ≤ gb122)); clear HB; have HB := n0_; have BK122 := n1_; have GW122 := n2_; have GE122 := n3_; clear n0_ n1_ n2_ n3_; clear hb hbox hg))
  repeat (go_quiet (first | ((with_reducible refine qz22 (N := 3) rfl ?_); refine qz28 ?hg (N := 3) ?hd (cs := #[.int .u64 a1_0, .int .u64 a1_1]) (t := 30) ?hr ?_; (case hd => rfl); (case hg => rfl); (case hr => first | (go_simp; done) | (go_simp; rfl)); intro gb122 hg w3 hbox hb; have n0_ := qza.mk (qz21 (by repeat (first | (with_reducible first | exact HB.out | apply qz2 | apply qz0 | apply qz3) | exact HB.out)) hb); have n1_ := qza.mk (hbox); have n2_ := qza.mk ((by rw [hg]; exact (qz9 (by repeat (first | (with_reducible first | exact HB.out | apply qz2 | apply qz0 | apply qz3) | exact HB.out))) : w.heap.size ≤ gb122)); have n3_ := qza.mk ((by rw [hg]; exact (qz9 (by repeat (first | (with_reducible first | exact HB.out | apply qz2 | apply qz0 | apply qz3) | exact HB.out))) : w.heap.size ≤ gb122)); clear HB; have HB := n0_; have BK122 := n1_; have GW122 := n2_; have GE122 := n3_; clear n0_ n1_ n2_ n3_; clear hb hbox hg)); try go_wp2_with (first | ((with_reducible refine qz22 (N := 3) rfl ?_); refine qz28 ?hg (N := 3) ?hd (cs := #[.int .u64 a1_0, .int .u64 a1_1]) (t := 30) ?hr ?_; (case hd => rfl); (case hg => rfl); (case hr => first | (go_simp; done) | (go_simp; rfl)); intro gb122 hg w3 hbox hb; have n0_ := qza.mk (qz21 (by repeat (first | (with_reducible first | exact HB.out | apply qz2 | apply qz0 | apply qz3) | exact HB.out)) hb); have n1_ := qza.mk (hbox); have n2_ := qza.mk ((by rw [hg]; exact (qz9 (by repeat (first | (with_reducible first | exact HB.out | apply qz2 | apply qz0 | apply qz3) | exact HB.out))) : w.heap.size ≤ gb122)); have n3_ := qza.mk ((by rw [hg]; exact (qz9 (by repeat (first | (with_reducible first | exact HB.out | apply qz2 | apply qz0 | apply qz3) | exact HB.out))) : w.heap.size ≤ gb122)); clear HB; have HB := n0_; have BK122 := n1_; have GW122 := n2_; have GE122 := n3_; clear n0_ n1_ n2_ n3_; clear hb hbox hg)))
  go_loopg [8] k (fun kq v8 w' => ∃ (x8_1 : Int), v8 = .int .i64 x8_1 ∧ qza (api_Tx_89.l0 kq l0 (l0.length : Int) x8_1 a1_0 a1_1 = some r) ∧ qza (kq ≤ k) ∧ qza (w'.heap[gb122]? = some (.cells #[.int .u64 a1_0, .int .u64 a1_1] 30 (0, 0))) ∧ qza (Below w.heap.size w w'))
  case atStart => exact ⟨(0), (by first | rfl | (simp; done) | (simp [*]; done)), H', ⟨Nat.le_refl _⟩, ⟨by (with_reducible repeat (first | refine qz11 ?_ _ | refine qz13 ?_ | refine qz10 ?_ _)); exact BK122.out⟩, ⟨by repeat (first | (with_reducible first | exact HB.out | apply qz2 | apply qz0 | apply qz3 | refine qz8 ?_ GE122.out) | exact HB.out)⟩⟩
  case round =>
    clear H'
    try clear p2
    obtain ⟨x8_1, rfl, HA, HK1, BK122, HB⟩ := hrel
    cases gk with
    | zero => exact absurd HA.out (by simp [api_Tx_89.l0])
    | succ k1 =>
      have H := HA.out
      clear HA
      simp only [api_Tx_89.l0] at H
      by_cases c4 : x8_1 < (l0.length : Int)
      · rw [if_pos c4] at H
        have c4b0 : decide (x8_1 < (l0.length : Int)) = true := decide_eq_true c4
        clear c4
        by_cases c5 : 0 ≤ x8_1
        · rw [if_pos c5] at H
          have c5b0 : decide (0 ≤ x8_1) = true := decide_eq_true c5
          clear c5
          by_cases c6 : x8_1 < (l0.length : Int)
          · rw [if_pos c6] at H
            have c6b0 : decide (x8_1 < (l0.length : Int)) = true := decide_eq_true c6
            clear c6
            by_cases c7 : (a1_0 == ((rd_T30 l0 x8_1).f0) && (a1_1 == ((rd_T30 l0 x8_1).f1))) = true
            · rw [if_pos c7] at H
              have c7b0 : (a1_0 == ((rd_T30 l0 x8_1).f0) && (a1_1 == ((rd_T30 l0 x8_1).f1))) = true := c7
              (try (have c7b1 : decide (a1_0 = ((rd_T30 l0 x8_1).f0) && (a1_1 == ((rd_T30 l0 x8_1).f1))) = true := by simpa using c7))
              (try (have c7b2 : (a1_0 == ((rd_T30 l0 x8_1).f0) && (a1_1 == ((rd_T30 l0 x8_1).f1))) = true := by simpa using c7))
              clear c7
              obtain rfl := Option.some.inj H
              have hcz8_0 : wr.cell? ⟨gb122, 0, none⟩ = some (.int .u64 a1_0) := (qz6 BK122.out 0).trans rfl
              have hcz8_1 : wr.cell? ⟨gb122, 1, none⟩ = some (.int .u64 a1_1) := (qz6 BK122.out 1).trans rfl
              have hfz8_0 := qz5 BK122.out 0
              have hfz8_1 := qz5 BK122.out 1
              have p123 : 0 ≤ (x8_1 : Int) := of_decide_eq_true (by first | (with_reducible assumption) | assumption)
              have q123 : x8_1 < (l0.length : Int) := of_decide_eq_true (by first | (with_reducible assumption) | assumption)
              obtain ⟨ad123, e123, hx123_0, hx123_1⟩ := at_T30 HR0.out x8_1 p123 q123
              cases e123
              replace hx123_0 := (HB.out.cell (World.block_lt_of_cell? w _ hx123_0)).trans hx123_0
              replace hx123_1 := (HB.out.cell (World.block_lt_of_cell? w _ hx123_1)).trans hx123_1
              replace p123 := eq_true p123
              replace q123 := eq_true q123
              go_wp2
              repeat (go_quiet (fail); try go_wp2)
              go_ret
              exact ⟨by first | rfl | (simp [qz19, qz20] <;> rfl) | (simp [*, qz19, qz20] <;> rfl), by repeat (first | (with_reducible first | exact HB.out | apply qz2 | apply qz0 | apply qz3 | refine qz8 ?_ GE122.out) | exact HB.out)⟩
            · rw [if_neg c7] at H
              have c7b0 : (a1_0 == ((rd_T30 l0 x8_1).f0) && (a1_1 == ((rd_T30 l0 x8_1).f1))) = false := by simpa using c7
              (try (have c7b1 : decide (a1_0 = ((rd_T30 l0 x8_1).f0) && (a1_1 == ((rd_T30 l0 x8_1).f1))) = false := by simpa using c7))
              (try (have c7b2 : (a1_0 == ((rd_T30 l0 x8_1).f0) && (a1_1 == ((rd_T30 l0 x8_1).f1))) = false := by simpa using c7))
              (try (have c7b3 : ¬ (a1_0 = ((rd_T30 l0 x8_1).f0) && (a1_1 == ((rd_T30 l0 x8_1).f1))) := by simpa using c7))
              clear c7
              have H' := qza.mk H
              clear H
              have hcz9_0 : wr.cell? ⟨gb122, 0, none⟩ = some (.int .u64 a1_0) := (qz6 BK122.out 0).trans rfl
              have hcz9_1 : wr.cell? ⟨gb122, 1, none⟩ = some (.int .u64 a1_1) := (qz6 BK122.out 1).trans rfl
              have hfz9_0 := qz5 BK122.out 0
              have hfz9_1 := qz5 BK122.out 1
              have p123 : 0 ≤ (x8_1 : Int) := of_decide_eq_true (by first | (with_reducible assumption) | assumption)
              have q123 : x8_1 < (l0.length : Int) := of_decide_eq_true (by first | (with_reducible assumption) | assumption)
              obtain ⟨ad123, e123, hx123_0, hx123_1⟩ := at_T30 HR0.out x8_1 p123 q123
              cases e123
              replace hx123_0 := (HB.out.cell (World.block_lt_of_cell? w _ hx123_0)).trans hx123_0
              replace hx123_1 := (HB.out.cell (World.block_lt_of_cell? w _ hx123_1)).trans hx123_1
              replace p123 := eq_true p123
              replace q123 := eq_true q123
              go_wp2
              repeat (go_quiet (fail); try go_wp2)
              go_roundg k1
              case measure => have := HK1.out; omega
              case rel => exact ⟨(wrap64 (x8_1 + 1)), (by first | rfl | (simp; done) | (simp [*]; done)), H', ⟨by have := HK1.out; omega⟩, ⟨by (with_reducible repeat (first | refine qz11 ?_ _ | refine qz13 ?_ | refine qz10 ?_ _)); exact BK122.out⟩, ⟨by repeat (first | (with_reducible first | exact HB.out | apply qz2 | apply qz0 | apply qz3 | refine qz8 ?_ GE122.out) | exact HB.out)⟩⟩
          · rw [if_neg c6] at H
            exact absurd H (by simp)
        · rw [if_neg c5] at H
          exact absurd H (by simp)
      · rw [if_neg c4] at H
        have c4b0 : decide (x8_1 < (l0.length : Int)) = false := decide_eq_false c4
        clear c4
        obtain rfl := Option.some.inj H
        go_wp2
        repeat (go_quiet (fail); try go_wp2)
        go_ret
        exact ⟨by first | rfl | (simp [qz19, qz20] <;> rfl) | (simp [*, qz19, qz20] <;> rfl), by repeat (first | (with_reducible first | exact HB.out | apply qz2 | apply qz0 | apply qz3 | refine qz8 ?_ GE122.out) | exact HB.out)⟩
attribute [local go_sem] qz60 qz61 max_two min_two qz49 qz50 qz62 qz63
def api_Tx_57.f (k : Nat) (l0 : List (S30)) (a1_0 : Int) (a1_1 : Int) : Option (Bool) := (api_Tx_89.f k l0 a1_0 a1_1).bind fun t125 => (some (decide (t125 ≥ 0)))
set_option maxHeartbeats 8000000 in
set_option maxRecDepth 100000 in
theorem api_Tx_57.calls (k : Nat) (A0 : Option Addr) (c0 : Nat) (l0 : List (S30)) (a1_0 : Int) (a1_1 : Int) (r : Bool) (w : World) (hr0 : Kd.C k30 w A0 l0.length l0) (hc0 : l0.length ≤ c0) (h : api_Tx_57.f k l0 a1_0 a1_1 = some r) :
    Calls Try.prog 57 #[.slice A0 l0.length c0, .agg #[.int .u64 a1_0, .int .u64 a1_1]] w fun e w' => e = .returned (.bool r) ∧ Below w.heap.size w w' := by
  have hu30 := Try.underlying30
  have HR0 := qza.mk hr0
  have HC0 := qza.mk hc0
  clear hr0 hc0
  have HB := qza.mk (Below.refl w.heap.size w)
  have H : ((api_Tx_89.f k l0 a1_0 a1_1).bind fun t125 => (some (decide (t125 ≥ 0)))) = some r := h
  clear h
  replace H := Option.bind_eq_some_iff.mp H
  obtain ⟨t125, A30, H⟩ := H
  replace H : (some (decide (t125 ≥ 0))) = some r := H
  have A3 := qza.mk A30
  clear A30
  obtain rfl := Option.some.inj H
  go_enter Try.func57, Try.ntmps57
  go_wp2_with (first | ((with_reducible refine qz22 (N := 3) rfl ?_); refine qz28 ?hg (N := 3) ?hd (cs := #[.int .u64 a1_0, .int .u64 a1_1]) (t := 30) ?hr ?_; (case hd => rfl); (case hg => rfl); (case hr => first | (go_simp; done) | (go_simp; rfl)); intro gb124 hg w4 hbox hb; have n0_ := qza.mk (qz21 (by repeat (first | (with_reducible first | exact HB.out | apply qz2 | apply qz0 | apply qz3) | exact HB.out)) hb); have n1_ := qza.mk (hbox); have n2_ := qza.mk ((by rw [hg]; exact (qz9 (by repeat (first | (with_reducible first | exact HB.out | apply qz2 | apply qz0 | apply qz3) | exact HB.out))) : w.heap.size ≤ gb124)); have n3_ := qza.mk ((by rw [hg]; exact (qz9 (by repeat (first | (with_reducible first | exact HB.out | apply qz2 | apply qz0 | apply qz3) | exact HB.out))) : w.heap.size ≤ gb124)); clear HB; have HB := n0_; have BK124 := n1_; have GW124 := n2_; have GE124 := n3_; clear n0_ n1_ n2_ n3_; clear hb hbox hg; have hcz5_0 : w4.cell? ⟨gb124, 0, none⟩ = some (.int .u64 a1_0) := (qz6 BK124.out 0).trans rfl; have hcz5_1 : w4.cell? ⟨gb124, 1, none⟩ = some (.int .u64 a1_1) := (qz6 BK124.out 1).trans rfl; have hfz5_0 := qz5 BK124.out 0; have hfz5_1 := qz5 BK124.out 1) | ((with_reducible refine qz79 (f := 89) rfl ?_); refine goesL_ (some 7) rfl rfl Try.func89 (by kernel_rfl) rfl #[.slice A0 l0.length c0, .agg #[.int .u64 a1_0, .int .u64 a1_1]] rfl (by (try simp only [List.map_toArray, List.map_cons, List.map_nil]); first | done | rfl | (simp only [List.length_drop, List.length_take]; rfl)) ?_; (with_reducible refine (api_Tx_89.calls k _ _ l0 a1_0 a1_1 t125 _ ?side1 ?side2 A3.out).mono ?_); (case side1 => repeat (first | exact (Kd.C_below HR0.out HB.out) | (with_reducible refine Kd.C_alloc ?_ _) | (with_reducible refine Kd.C_drewN ?_ _) | (with_reducible refine Kd.C_drew ?_))); (case side2 => exact HC0.out); rintro e w6 ⟨rfl, hb⟩; refine ⟨_, rfl, ?_⟩; have n0_ := qza.mk (qz48 (g := gb124) (o := .cells #[.int .u64 a1_0, .int .u64 a1_1] 30 (0, 0)) (by (with_reducible repeat (first | refine qz11 ?_ _ | refine qz13 ?_ | refine qz10 ?_ _)); exact BK124.out) hb); have n1_ := qza.mk (qz21 (by repeat (first | (with_reducible first | exact HB.out | apply qz2 | apply qz0 | apply qz3 | refine qz8 ?_ GE124.out) | exact HB.out)) hb); clear BK124; clear HB; have BK124 := n0_; have HB := n1_; clear n0_ n1_; (try clear hb); (try clear hb2); (try clear hk); (try clear hi)))
  go_ret
  exact ⟨by first | rfl | (simp [qz19, qz20] <;> rfl) | (simp [*, qz19, qz20] <;> rfl), by repeat (first | (with_reducible first | exact HB.out | apply qz2 | apply qz0 | apply qz3 | refine qz8 ?_ GE124.out) | exact HB.out)⟩
end Go.Proofs.Ytmcgcdpiceikeaa.PAll
end
section
namespace Go.Proofs.Ytmcgcdpiceikeaa.PAll
open Go.RowKit Go.Proofs.YtmcgcdpiceikeaaW.PrintWords Go.Proofs.YtmcgcdpiceikeaaW.PrintMore Go.Proofs.Ytmcgcdpiceikeaa
theorem txIndex_l0 (l : List S30) (a b : Int) (hl : l.length ≤ 9223372036854775807) : ∀ (d j : Nat), d = l.length - j → j ≤ l.length → Ev (fun q => api_Tx_89.l0 q l (l.length : Int) (j : Int) a b) (if hasTx (l.drop j) ⟨a, b⟩ then ((j + (l.drop j).findIdx (fun x => qz34 x ⟨a, b⟩) : Nat) : Int) else -1) := by
  intro d
  induction d with
  | zero =>
    intro j hd hj
    obtain rfl : j = l.length := by omega
    rw [List.drop_length]
    exact Ev.step (fun q => by simp only [api_Tx_89.l0]; exact if_neg (by omega)) (Ev.now (-1))
  | succ d ih =>
    intro j hd hj
    have hlt : j < l.length := by omega
    rw [dropBang l j hlt]
    refine Ev.step (fun q => by simp only [api_Tx_89.l0]; rw [if_pos (by omega), if_pos (by omega), if_pos (by omega), rdTx l j hlt, wrapInc j (by omega)]) ?_
    have hs : (a == (l[j]!).f0 && b == (l[j]!).f1) = qz34 (l[j]!) ⟨a, b⟩ := by
      unfold qz34
      dsimp only
      rw [BEq.comm (a := a), BEq.comm (a := b)]
    rw [hs]
    unfold hasTx
    rw [List.any_cons, List.findIdx_cons]
    cases c : qz34 (l[j]!) ⟨a, b⟩ with
    | true => exact Ev.congr (fun _ => if_pos rfl) (Ev.now (j : Int))
    | false =>
      refine Ev.congr (fun _ => if_neg (by decide)) ?_
      rw [Bool.false_or]
      have := ih (j + 1) (by omega) (by omega)
      unfold hasTx at this
      simp only [cond_false]
      rw [show j + ((l.drop (j + 1)).findIdx (fun x => qz34 x ⟨a, b⟩) + 1) = j + 1 + (l.drop (j + 1)).findIdx (fun x => qz34 x ⟨a, b⟩) by omega]
      exact this
theorem qz82 (A : Option Addr) (c : Nat) (l : List S30) (a b : Int) (w : World) (hr : Kd.C k30 w A l.length l) (hc : l.length ≤ c) (hl : l.length ≤ 9223372036854775807) : Calls Try.prog 57 #[.slice A l.length c, .agg #[.int .u64 a, .int .u64 b]] w fun e w' => e = .returned (.bool (hasTx l ⟨a, b⟩)) ∧ Below w.heap.size w w' := by
  have h0 := txIndex_l0 l a b hl l.length 0 (by omega) (by omega)
  rw [List.drop_zero, Nat.zero_add] at h0
  have h1 : Ev (fun q => api_Tx_57.f q l a b) (hasTx l ⟨a, b⟩) := by
    refine Ev.bind (show Ev (fun q => api_Tx_89.f q l a b) _ from h0) ?_
    cases c : hasTx l ⟨a, b⟩ with
    | true =>
      refine Ev.congr (fun _ => ?_) (Ev.now true)
      rw [if_pos rfl]
      exact congrArg some (decide_eq_true (by omega))
    | false =>
      refine Ev.congr (fun _ => ?_) (Ev.now false)
      rw [if_neg (by decide)]
      rfl
  obtain ⟨k, hk⟩ := h1.rounds
  exact api_Tx_57.calls k A c l a b _ w hr hc hk
end Go.Proofs.Ytmcgcdpiceikeaa.PAll
end
section
namespace Go.Proofs.Ytmcgcdpiceikeaa.PAll
open Go.RowKit Go.Proofs.YtmcgcdpiceikeaaW.PrintWords Go.Proofs.YtmcgcdpiceikeaaW.PrintLast Go.Proofs.YtmcgcdpiceikeaaW.PrintMore
attribute [local go_sem] qz60 qz61 max_two min_two qz49 qz50 qz62 qz63
mutual
def ferruleref11_Less.l0 : Nat → ByteArray → ByteArray → Int → Option (Bool)
  | 0, _, _, _ => none
  | k + 1, x0, x1, x5 => if x5 < (x0.size : Int) then (ferruleref11_Less.j1 k x0 x1 x5 (decide (x5 < (x1.size : Int)))) else (ferruleref11_Less.j1 k x0 x1 x5 false)
def ferruleref11_Less.j1 : Nat → ByteArray → ByteArray → Int → Bool → Option (Bool)
  | 0, _, _, _, _ => none
  | k + 1, x0, x1, x5, x15 => if x15 = true then (if 0 ≤ x5 then (if x5 < (x0.size : Int) then (if x5 < (x1.size : Int) then (if (bt x0 x5) = (bt x1 x5) then (ferruleref11_Less.l0 k x0 x1 (wrap64 (x5 + 1))) else (some (decide ((bt x0 x5) < (bt x1 x5))))) else (none)) else (none)) else (none)) else (some (decide ((x0.size : Int) < (x1.size : Int))))
end
def ferruleref11_Less.f (k : Nat) (a0 : ByteArray) (a1 : ByteArray) : Option (Bool) := ferruleref11_Less.l0 k a0 a1 0
set_option maxHeartbeats 8000000 in
set_option maxRecDepth 100000 in
theorem ferruleref11_Less.calls (k : Nat) (a0 : ByteArray) (a1 : ByteArray) (r : Bool) (w : World) (h : ferruleref11_Less.f k a0 a1 = some r) :
    Calls Try.prog 70 #[.string a0, .string a1] w fun e w' => e = .returned (.bool r) ∧ Drawn0 w w' := by
  have H : (ferruleref11_Less.l0 k a0 a1 0) = some r := h
  clear h
  have H' := qza.mk H
  clear H
  go_enter Try.func70, Try.ntmps70
  go_wp2
  repeat (go_quiet (fail); try go_wp2)
  go_loopg [5] k (fun kq v5 w' => ∃ (x5_1 : Int), v5 = .int .i64 x5_1 ∧ qza (ferruleref11_Less.l0 kq a0 a1 x5_1 = some r) ∧ qza (kq ≤ k) ∧ Drawn0 w w')
  case atStart => exact ⟨(0), (by first | rfl | (simp; done) | (simp [*]; done)), H', ⟨Nat.le_refl _⟩, by repeat (first | exact Drawn0.refl _ | apply Drawn0.step)⟩
  case round =>
    clear H'
    try clear p2
    obtain ⟨x5_1, rfl, HA, HK1, ⟨m1, rfl⟩⟩ := hrel
    cases gk with
    | zero => exact absurd HA.out (by simp [ferruleref11_Less.l0])
    | succ k1 =>
      have H := HA.out
      clear HA
      simp only [ferruleref11_Less.l0] at H
      have HC3 := qza.mk H
      clear H
      go_upto_region 2 with (fail)
      repeat (go_quiet (fail); go_upto_region 2 with (fail))
      go_cut [15] (fun v15 wc => ∃ (kq : Nat) (x15_2 : Bool), v15 = .bool x15_2 ∧ qza (ferruleref11_Less.j1 kq a0 a1 x5_1 x15_2 = some r) ∧ qza (kq ≤ k1) ∧ Drawn0 w wc)
      case first =>
        have H := HC3.out
        clear HC3
        by_cases c4 : x5_1 < (a0.size : Int)
        · rw [if_pos c4] at H
          have c4b0 : decide (x5_1 < (a0.size : Int)) = true := decide_eq_true c4
          clear c4
          (first | rw [c4b0] | (simp only [i64_w, i32_w]; rw [c4b0]) | skip)
          have H' := qza.mk H
          clear H
          go_wp2
          repeat (go_quiet (fail); try go_wp2)
          go_meet
          case rel => exact ⟨_, (decide (x5_1 < (a1.size : Int))), (by first | rfl | (simp; done) | (simp [*]; done)), H', ⟨by have := HK1.out; first | omega | exact Nat.le_refl _⟩, by repeat (first | exact Drawn0.refl _ | apply Drawn0.step)⟩
        · rw [if_neg c4] at H
          have c4b0 : decide (x5_1 < (a0.size : Int)) = false := decide_eq_false c4
          clear c4
          (first | rw [c4b0] | (simp only [i64_w, i32_w]; rw [c4b0]) | skip)
          have H' := qza.mk H
          clear H
          go_wp2
          repeat (go_quiet (fail); try go_wp2)
          go_meet
          case rel => exact ⟨_, (false), (by first | rfl | (simp; done) | (simp [*]; done)), H', ⟨by have := HK1.out; first | omega | exact Nat.le_refl _⟩, by repeat (first | exact Drawn0.refl _ | apply Drawn0.step)⟩
      case rest =>
        clear HC3
        try clear p2
        try clear c4
        try clear c4b0
        try clear p2
        obtain ⟨kq, x15_2, rfl, HA, HJ2, ⟨mc2, rfl⟩⟩ := hcut
        cases kq with
        | zero => exact absurd HA.out (by simp [ferruleref11_Less.j1])
        | succ kj2 =>
          have H := HA.out
          clear HA
          simp only [ferruleref11_Less.j1] at H
          by_cases c5 : x15_2 = true
          · subst c5
            have H1 : (if 0 ≤ x5_1 then (if x5_1 < (a0.size : Int) then (if x5_1 < (a1.size : Int) then (if (bt a0 x5_1) = (bt a1 x5_1) then (ferruleref11_Less.l0 kj2 a0 a1 (wrap64 (x5_1 + 1))) else (some (decide ((bt a0 x5_1) < (bt a1 x5_1))))) else (none)) else (none)) else (none)) = some r := by rw [if_pos rfl] at H; exact H
            clear H
            have H := H1
            clear H1
            by_cases c6 : 0 ≤ x5_1
            · rw [if_pos c6] at H
              have c6b0 : decide (0 ≤ x5_1) = true := decide_eq_true c6
              clear c6
              by_cases c7 : x5_1 < (a0.size : Int)
              · rw [if_pos c7] at H
                have c7b0 : decide (x5_1 < (a0.size : Int)) = true := decide_eq_true c7
                clear c7
                by_cases c9 : x5_1 < (a1.size : Int)
                · rw [if_pos c9] at H
                  have c9b0 : decide (x5_1 < (a1.size : Int)) = true := decide_eq_true c9
                  clear c9
                  by_cases c11 : (bt a0 x5_1) = (bt a1 x5_1)
                  · rw [if_pos c11] at H
                    have c11b0 : ((bt a0 x5_1) == (bt a1 x5_1)) = true := beq_iff_eq.mpr c11
                    have c11b1 : ((bt a0 x5_1) != (bt a1 x5_1)) = false := bne_eq_false_iff_eq.mpr c11
                    clear c11
                    have H' := qza.mk H
                    clear H
                    have p8 : 0 ≤ (x5_1 : Int) := of_decide_eq_true (by first | (with_reducible assumption) | assumption)
                    have q8 : x5_1 < (a0.size : Int) := of_decide_eq_true (by first | (with_reducible assumption) | assumption)
                    have hx8 := bt_at a0 x5_1
                    replace p8 := eq_true p8
                    replace q8 := eq_true q8
                    have p10 : 0 ≤ (x5_1 : Int) := of_decide_eq_true (by first | (with_reducible assumption) | assumption)
                    have q10 : x5_1 < (a1.size : Int) := of_decide_eq_true (by first | (with_reducible assumption) | assumption)
                    have hx10 := bt_at a1 x5_1
                    replace p10 := eq_true p10
                    replace q10 := eq_true q10
                    go_wp2
                    repeat (go_quiet (fail); try go_wp2)
                    go_roundg kj2
                    case measure => have := HK1.out; have := HJ2.out; omega
                    case rel => exact ⟨(wrap64 (x5_1 + 1)), (by first | rfl | (simp; done) | (simp [*]; done)), H', ⟨by have := HK1.out; have := HJ2.out; omega⟩, by repeat (first | exact Drawn0.refl _ | apply Drawn0.step)⟩
                  · rw [if_neg c11] at H
                    have c11b0 : ((bt a0 x5_1) == (bt a1 x5_1)) = false := beq_eq_false_iff_ne.mpr c11
                    have c11b1 : ((bt a0 x5_1) != (bt a1 x5_1)) = true := bne_iff_ne.mpr c11
                    obtain rfl := Option.some.inj H
                    have p8 : 0 ≤ (x5_1 : Int) := of_decide_eq_true (by first | (with_reducible assumption) | assumption)
                    have q8 : x5_1 < (a0.size : Int) := of_decide_eq_true (by first | (with_reducible assumption) | assumption)
                    have hx8 := bt_at a0 x5_1
                    replace p8 := eq_true p8
                    replace q8 := eq_true q8
                    have p10 : 0 ≤ (x5_1 : Int) := of_decide_eq_true (by first | (with_reducible assumption) | assumption)
                    have q10 : x5_1 < (a1.size : Int) := of_decide_eq_true (by first | (with_reducible assumption) | assumption)
                    have hx10 := bt_at a1 x5_1
                    replace p10 := eq_true p10
                    replace q10 := eq_true q10
                    have p12 : 0 ≤ (x5_1 : Int) := of_decide_eq_true (by first | (with_reducible assumption) | assumption)
                    have q12 : x5_1 < (a0.size : Int) := of_decide_eq_true (by first | (with_reducible assumption) | assumption)
                    have hx12 := bt_at a0 x5_1
                    replace p12 := eq_true p12
                    replace q12 := eq_true q12
                    have p13 : 0 ≤ (x5_1 : Int) := of_decide_eq_true (by first | (with_reducible assumption) | assumption)
                    have q13 : x5_1 < (a1.size : Int) := of_decide_eq_true (by first | (with_reducible assumption) | assumption)
                    have hx13 := bt_at a1 x5_1
                    replace p13 := eq_true p13
                    replace q13 := eq_true q13
                    go_wp2
                    repeat (go_quiet (fail); try go_wp2)
                    go_ret
                    exact ⟨by first | rfl | (simp; done) | (simp [*]; done), by repeat (first | exact Drawn0.refl _ | apply Drawn0.step)⟩
                · rw [if_neg c9] at H
                  exact absurd H (by simp)
              · rw [if_neg c7] at H
                exact absurd H (by simp)
            · rw [if_neg c6] at H
              exact absurd H (by simp)
          · replace c5 := Bool.eq_false_iff.mpr c5
            subst c5
            have H1 : (some (decide ((a0.size : Int) < (a1.size : Int)))) = some r := by rw [if_neg (show ¬ (false = true) by decide)] at H; exact H
            clear H
            have H := H1
            clear H1
            obtain rfl := Option.some.inj H
            go_wp2
            repeat (go_quiet (fail); try go_wp2)
            go_ret
            exact ⟨by first | rfl | (simp; done) | (simp [*]; done), by repeat (first | exact Drawn0.refl _ | apply Drawn0.step)⟩
end Go.Proofs.Ytmcgcdpiceikeaa.PAll
end
section
namespace Go.Proofs.Ytmcgcdpiceikeaa.PAll
open Go.RowKit Go.Proofs.YtmcgcdpiceikeaaW.PrintWords Go.Proofs.YtmcgcdpiceikeaaW.PrintMore Go.Proofs.Ytmcgcdpiceikeaa
theorem wrap_up (j : Nat) (h : j < 9223372036854775807) : wrap64 ((j : Int) + 1) = ((j + 1 : Nat) : Int) := by unfold wrap64; omega
theorem wrap_down (j : Nat) (h : 0 < j) (h2 : j < 9223372036854775807) : wrap64 ((j : Int) - 1) = ((j - 1 : Nat) : Int) := by unfold wrap64; omega
theorem get_mem {α : Type} [Inhabited α] (l : List α) (j : Nat) (hj : j < l.length) : l[j]! ∈ l := by rw [getElem!_pos l j hj]; exact List.getElem_mem hj
theorem drop_get {α : Type} [Inhabited α] (l : List α) (j : Nat) (hj : j < l.length) : l.drop j = l[j]! :: l.drop (j + 1) := by rw [List.drop_eq_getElem_cons hj, getElem!_pos l j hj]
theorem bt_get (s : ByteArray) (j : Nat) (hj : j < s.size) : ∃ b : UInt8, bt s (j : Int) = (b.toNat : Int) ∧ s.toList.drop j = b :: s.toList.drop (j + 1) := by
  have hl : s.toList.length = s.size := by rw [ByteArray.toList_eq, Array.length_toList]; rfl
  refine ⟨s[j], by simp [bt, hj], ?_⟩
  rw [List.drop_eq_getElem_cons (by omega)]
  congr 1
  simp only [ByteArray.toList_eq]
  rfl
theorem toList_len (s : ByteArray) : s.toList.length = s.size := by rw [ByteArray.toList_eq, Array.length_toList]; rfl
theorem Less_l0 (a b : ByteArray) (ha : a.size ≤ 9223372036854775806) : ∀ (d i : Nat), d = a.size - i → i ≤ a.size → i ≤ b.size → ∀ q, 2 * d + 2 < q → ferruleref11_Less.l0 q a b i = some (Op.bytesLess (a.toList.drop i) (b.toList.drop i)) := by
  intro d
  induction d with
  | zero =>
    intro i hd h1 h2 q hq
    obtain ⟨q, rfl⟩ : ∃ m, q = m + 2 := ⟨q - 2, by omega⟩
    have hi : i = a.size := by omega
    simp only [ferruleref11_Less.l0]
    rw [if_neg (show ¬ (i : Int) < a.size by omega)]
    simp only [ferruleref11_Less.j1]
    rw [List.drop_eq_nil_of_le (by rw [toList_len]; omega)]
    rcases Nat.lt_or_ge i b.size with hb | hb
    · obtain ⟨y, _, hy⟩ := bt_get b i hb
      rw [hy]
      simp [Op.bytesLess]; omega
    · rw [List.drop_eq_nil_of_le (by rw [toList_len]; omega)]
      simp [Op.bytesLess]; omega
  | succ d ih =>
    intro i hd h1 h2 q hq
    obtain ⟨q, rfl⟩ : ∃ m, q = m + 2 := ⟨q - 2, by omega⟩
    have hi : i < a.size := by omega
    obtain ⟨x, hx1, hx2⟩ := bt_get a i hi
    simp only [ferruleref11_Less.l0]
    rw [if_pos (show (i : Int) < a.size by omega)]
    simp only [ferruleref11_Less.j1]
    rcases Nat.lt_or_ge i b.size with hb | hb
    · obtain ⟨y, hy1, hy2⟩ := bt_get b i hb
      rw [if_pos (by simp; omega), if_pos (show (0 : Int) ≤ i by omega), if_pos (show (i : Int) < a.size by omega), if_pos (show (i : Int) < b.size by omega), hx1, hy1, hx2, hy2, show wrap64 ((i : Int) + 1) = ((i + 1 : Nat) : Int) by unfold wrap64; omega]
      by_cases he : (x.toNat : Int) = y.toNat
      · rw [if_pos he, ih (i + 1) (by omega) (by omega) (by omega) q (by omega)]
        have hxy : x = y := UInt8.toNat_inj.1 (by omega)
        subst hxy
        simp [Op.bytesLess]
      · rw [if_neg he]
        have hxy : ¬ x = y := fun e => he (by rw [e])
        simp only [Op.bytesLess, Option.some.injEq]
        rw [show (x == y) = false by simpa using hxy, Bool.false_and, Bool.or_false]
        by_cases hl : x.toNat < y.toNat
        · rw [decide_eq_true (by omega), eq_comm, decide_eq_true_eq]; exact UInt8.lt_iff_toNat_lt.2 hl
        · rw [decide_eq_false (by omega), eq_comm, decide_eq_false_iff_not]; exact fun h => hl (UInt8.lt_iff_toNat_lt.1 h)
    · rw [if_neg (by simp; omega), hx2, show b.toList.drop i = [] from List.drop_eq_nil_of_le (by rw [toList_len]; omega)]
      simp [Op.bytesLess]; omega
theorem Less_ev (a b : ByteArray) (ha : a.size ≤ 9223372036854775806) : Ev (fun k => ferruleref11_Less.f k a b) (Op.bytesLess a.toList b.toList) :=
  ⟨2 * a.size + 3, fun k hk => by
    have := Less_l0 a b ha a.size 0 (by omega) (by omega) (by omega) k (by omega)
    simpa [ferruleref11_Less.f] using this⟩
theorem less_flip : ∀ (a b : List UInt8), Op.bytesLess a b = (!Op.bytesLess b a && !b == a)
  | [], [] => rfl
  | [], b :: y => by simp [Op.bytesLess]
  | a :: x, [] => by simp [Op.bytesLess]
  | a :: x, b :: y => by
    simp only [Op.bytesLess]
    rw [less_flip x y]
    by_cases h : a = b
    · subst h
      simp
    · have h1 : (a == b) = false := by simpa using h
      have h2 : (b == a) = false := by simpa using fun e => h e.symm
      rw [h1, h2]
      simp only [Bool.false_and, Bool.or_false]
      have h3 : ((b :: y) == (a :: x)) = false := by simp [h2]
      rw [h3]
      simp only [Bool.not_false, Bool.and_true]
      rw [Bool.eq_iff_iff]
      simp only [decide_eq_true_eq, Bool.not_eq_true', decide_eq_false_iff_not]
      constructor
      · exact fun h4 h5 => h (UInt8.toNat_inj.1 (by have := UInt8.lt_iff_toNat_lt.1 h4; have := UInt8.lt_iff_toNat_lt.1 h5; omega))
      · intro h4
        have h5 : a.toNat ≠ b.toNat := fun e => h (UInt8.toNat_inj.1 e)
        rw [UInt8.lt_iff_toNat_lt] at h4 ⊢
        omega
end Go.Proofs.Ytmcgcdpiceikeaa.PAll
end
section
namespace Go.Proofs.Ytmcgcdpiceikeaa.PAll
open Go.RowKit Go.Proofs.YtmcgcdpiceikeaaW.PrintWords Go.Proofs.Ytmcgcdpiceikeaa
def okR (l : List S50) (j : Nat) : Bool := (decide (1 ≤ (l[j]!).f0.size) && decide ((l[j]!).f0.size ≤ 16)) && decide ((l[j]!).f1.size ≤ 32) && decide ((l[j]!).f2 ≤ 4611686018427387903) && (decide (j = 0) || Op.bytesLess (l[j - 1]!).f0.toList (l[j]!).f0.toList)
def rightR (l : List S50) : Bool := (List.range l.length).all (okR l) && decide (l.length ≤ 32)
def api_Row_91.f (l0 : List S50) : Option (List S50) := if l0.length < 3518437208883 then some l0 else none
theorem api_Row_91.calls (A0 : Option Addr) (c0 : Nat) (l0 : List S50) (r : List S50) (w : World) (hr0 : Kd.C k50 w A0 l0.length l0) (hc0 : l0.length ≤ c0) (h : api_Row_91.f l0 = some r) :
    Calls Try.prog 91 #[.slice A0 l0.length c0] w fun e w' => ∃ v0_ : Value, e = .returned (v0_) ∧ Kd.R k50 50 w' w.heap.size (fun _ => True) v0_ r ∧ Below w.heap.size w w' := by
  unfold api_Row_91.f at h
  split at h
  · obtain rfl := Option.some.inj h
    refine (CloneRow _ (l0.map enc50) w (flat50.sl ⟨A0, c0, rfl, hc0, hr0⟩) (by rw [List.length_map]; omega)).mono ?_
    rintro e w' ⟨v, he, ho, hb⟩
    exact ⟨v, he, flat50.R ho (fun _ _ => trivial), hb⟩
  · cases h
theorem rowsAt1 (B : Nat) (text : ByteArray) (x : S50) (W : World) (hB : W.cell? ⟨B, 0, none⟩ = some (.string text)) :
    Calls Try.prog 99 #[.agg (enc50 x).toArray, .pointer (some ⟨B, 0, none⟩)] W fun e W' => e = .returned (.bool (x.f0.toList == text.toList)) ∧ Below W.heap.size W W' := by
  unfold enc50
  have hlt := World.block_lt_of_cell? W _ hB
  have hc : (W.alloc (.cells #[.string x.f0, .string x.f1, .int .u64 x.f2] 50)).cell? ⟨B, 0, none⟩ = some (.string text) := (Below.cell ((Below.refl _ W).alloc (Nat.le_refl _) _) hlt).trans hB
  go_enter Try.func99, Try.ntmps99
  go_wp2
  go_ret
  exact ⟨rfl, (Below.refl _ W).alloc (Nat.le_refl _) _⟩
theorem rowsDo1 (B : Nat) (text : ByteArray) (x : S50) (W : World) (hB : W.cell? ⟨B, 0, none⟩ = some (.string text)) :
    Calls Try.prog 101 #[.agg (enc50 x).toArray, .pointer (some ⟨B, 0, none⟩)] W fun e W' => e = .returned (.bool (x.f0.toList == text.toList)) ∧ Below W.heap.size W W' := by
  unfold enc50
  have hlt := World.block_lt_of_cell? W _ hB
  have hc : (W.alloc (.cells #[.string x.f0, .string x.f1, .int .u64 x.f2] 50)).cell? ⟨B, 0, none⟩ = some (.string text) := (Below.cell ((Below.refl _ W).alloc (Nat.le_refl _) _) hlt).trans hB
  go_enter Try.func101, Try.ntmps101
  go_wp2
  go_ret
  exact ⟨rfl, (Below.refl _ W).alloc (Nat.le_refl _) _⟩
theorem rowsDo2 (B : Nat) (text : ByteArray) (x : S50) (W : World) (hB : W.cell? ⟨B, 0, none⟩ = some (.string text)) :
    Calls Try.prog 102 #[.agg (enc50 x).toArray, .pointer (some ⟨B, 0, none⟩)] W fun e W' => e = .returned (.bool (!Op.bytesLess x.f0.toList text.toList && !x.f0.toList == text.toList)) ∧ Below W.heap.size W W' := by
  unfold enc50
  have hlt := World.block_lt_of_cell? W _ hB
  have hc : (W.alloc (.cells #[.string x.f0, .string x.f1, .int .u64 x.f2] 50)).cell? ⟨B, 0, none⟩ = some (.string text) := (Below.cell ((Below.refl _ W).alloc (Nat.le_refl _) _) hlt).trans hB
  go_enter Try.func102, Try.ntmps102
  go_wp2
  go_ret
  exact ⟨rfl, (Below.refl _ W).alloc (Nat.le_refl _) _⟩
def rows_at.f (l0 : List S50) (a1 : ByteArray) : Option Int := some (findI (fun x : S50 => x.f0.toList == a1.toList) l0)
theorem rows_at_sl (v : Value) (l0 : List S50) (a1 : ByteArray) (w : World) (hv : Sl k50 w v l0) :
    Calls Try.prog 90 #[v, .string a1] w fun e w' => e = .returned (.int .i64 (findI (fun x : S50 => x.f0.toList == a1.toList) l0)) ∧ Below w.heap.size w w' := by
  have HV := qza.mk hv
  clear hv
  go_enter Try.func90, Try.ntmps90
  have hcell : (w.alloc (.cells #[.string a1] 9)).cell? ⟨w.heap.size, 0, none⟩ = some (.string a1) := qz15 (cs := [.string a1]) (heap_alloc_new w _) 0
  have HP := qza.mk (show Pred Try.prog 99 #[.pointer (some ⟨w.heap.size, 0, none⟩)] (fun cs => .agg cs.toArray) k50 (w.alloc (.cells #[.string a1] 9)) l0 (fun x => x.f0.toList == a1.toList) from fun W x cs hb _ hK => by
    obtain rfl := flat50.openK _ _ _ hK
    exact rowsAt1 w.heap.size a1 x W ((hb.cell (World.block_lt_of_cell? _ _ hcell)).trans hcell))
  clear hcell
  go_wp2_with (go_at_call 98; refine (IndexFuncRow k50 rfl (fun x => x.f0.toList == a1.toList) 99 #[.pointer (some ⟨w.heap.size, 0, none⟩)] (enters_of Try.func99 (by kernel_rfl) rfl) v l0 _ (HV.out.below ((Below.refl _ w).alloc (Nat.le_refl _) _)) HP.out).mono ?_; rintro e w2 ⟨rfl, hb2⟩)
  go_ret
  exact ⟨rfl, ((Below.refl _ w).alloc (Nat.le_refl _) _).trans (hb2.mono (by simp))⟩
theorem rows_at.calls (A0 : Option Addr) (c0 : Nat) (l0 : List S50) (a1 : ByteArray) (r : Int) (w : World) (hr0 : Kd.C k50 w A0 l0.length l0) (hc0 : l0.length ≤ c0) (h : rows_at.f l0 a1 = some r) :
    Calls Try.prog 90 #[.slice A0 l0.length c0, .string a1] w fun e w' => e = .returned (.int .i64 r) ∧ Below w.heap.size w w' := by
  obtain rfl := Option.some.inj h
  exact rows_at_sl _ l0 a1 w ⟨A0, c0, rfl, hc0, hr0⟩
end Go.Proofs.Ytmcgcdpiceikeaa.PAll
end
