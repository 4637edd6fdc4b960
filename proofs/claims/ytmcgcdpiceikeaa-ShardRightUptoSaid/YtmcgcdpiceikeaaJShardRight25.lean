/- Joined texts of the claim ShardRight (part 25): contracts of functions and plain laws. -/
import Derived.Test.YtmcgcdpiceikeaaJShardRight18
import Derived.Test.YtmcgcdpiceikeaaJShardRight21
import Derived.Test.YtmcgcdpiceikeaaJShardRight14
import Derived.Test.YtmcgcdpiceikeaaJShardRight19
import Derived.Test.YtmcgcdpiceikeaaJShardRight23
section
/- Rows of opens, raw; who is wounded. -/
namespace Go.Proofs.Ytmcgcdpiceikeaa.PAll
open Go.RowKit Go.Proofs.YtmcgcdpiceikeaaW.PrintWords Go.Proofs.YtmcgcdpiceikeaaW.PrintMore Go.Proofs.Ytmcgcdpiceikeaa
set_option linter.unusedVariables false
def openC (x : S48) (B : Option Addr) (c : Nat) : List Value := [.int .u64 x.f0.f0, .int .u64 x.f0.f1, .bool x.f1, .bool x.f2, .slice B x.f3.length c]
theorem openK_mk {W : World} {x : S48} {B : Option Addr} {c : Nat} (h1 : x.f3.length ≤ c) (h2 : Kd.C k54 W B x.f3.length x.f3) : k48.K W x (openC x B c) :=
  ⟨_, _, rfl, ⟨_, _, rfl, rfl, rfl⟩, ⟨_, _, rfl, rfl, ⟨_, _, rfl, rfl, ⟨B, c, rfl, h1, h2⟩⟩⟩⟩
def OpenRow (w : World) (l : List S48) (css : List (List Value)) : Prop := css.length = l.length ∧ ∀ j, j < l.length → k48.K w l[j]! css[j]!
theorem OpenRow.cells {w : World} {l : List S48} {css : List (List Value)} (h : OpenRow w l css) (j : Nat) (hj : j < l.length) : ∃ B c, css[j]! = openC (l[j]!) B c ∧ (l[j]!).f3.length ≤ c ∧ Kd.C k54 w B (l[j]!).f3.length (l[j]!).f3 := by
  obtain ⟨B, c, h1, h2, h3⟩ := openCells (h.2 j hj)
  exact ⟨B, c, h1, h2, h3⟩
theorem opens_raw {w : World} {v : Value} {l : List S48} (h : Sl k48 w v l) : ∃ css, OpenRow w l css ∧ Sl (raw 5) w v css := by
  obtain ⟨A, c, rfl, hc, h⟩ := h
  by_cases hl : l.length = 0
  · have : l = [] := List.length_eq_zero_iff.1 hl
    subst this
    exact ⟨[], ⟨rfl, fun j hj => by simp at hj⟩, ⟨A, c, rfl, hc, rfl, h.2.1, fun hn => by simp at hn⟩⟩
  · obtain ⟨b, o, rfl, hrow⟩ := C_row h (by decide) (by omega)
    have hf : ∀ j, ∃ cs : List Value, j < l.length → cs.length = 5 ∧ k48.K w l[j]! cs ∧ w.rangeAt b (o + j * 5) cs := fun j => by
      by_cases hj : j < l.length
      · obtain ⟨cs, h1, h2, h3⟩ := hrow j hj
        exact ⟨cs, fun _ => ⟨h1, h2, h3⟩⟩
      · exact ⟨[], fun h => absurd h hj⟩
    obtain ⟨f, hf⟩ := Classical.axiomOfChoice hf
    have hlen : ((List.range l.length).map f).length = l.length := by simp
    refine ⟨(List.range l.length).map f, ⟨hlen, fun j hj => ?_⟩, ⟨some ⟨b, o, none⟩, c, by rw [hlen], by rw [hlen]; exact hc, rfl, by rw [hlen]; exact h.2.1, fun hn => ⟨_, rfl, fun j p hj => ?_⟩⟩⟩
    · rw [getElem!_pos ((List.range l.length).map f) j (by rw [hlen]; exact hj)]
      simp only [List.getElem_map, List.getElem_range]
      exact (hf j hj).2.1
    · have hjl : j < l.length := by have := (List.getElem?_eq_some_iff.1 hj).1; rwa [hlen] at this
      have hp : p = f j := by
        have := (List.getElem?_eq_some_iff.1 hj).2
        rw [← this]
        simp
      subst hp
      obtain ⟨h1, h2, h3⟩ := hf j hjl
      exact ⟨f j, h1, ⟨rfl, h1, k48.K_one h2⟩, fun i u hu => by
        have h := h3 i u hu
        show w.cell? (Addr.add ⟨b, o, none⟩ (j * 5 + i)) = some u
        have e : Addr.add ⟨b, o, none⟩ (j * 5 + i) = ⟨b, o + j * 5 + i, none⟩ := by
          unfold Addr.add
          by_cases c : j * 5 + i = 0
          · rw [if_pos c, Nat.add_assoc, c]; rfl
          · rw [if_neg c, Nat.add_assoc]
        rw [e]
        exact h⟩
theorem opens_back {w W : World} {v : Value} {l : List S48} {css : List (List Value)} (h1 : OpenRow w l css) (hb : Below w.heap.size w W) (h2 : Sl (raw 5) W v css) : Sl k48 W v l := by
  obtain ⟨A, c, rfl, hc, h⟩ := h2
  have hlen := h1.1
  rw [hlen] at hc h
  refine ⟨A, c, by rw [hlen], hc, rfl, h.2.1, fun hn => ?_⟩
  obtain ⟨ad, e, hcell⟩ := h.2.2 hn
  refine ⟨ad, e, fun j p hj => ?_⟩
  have hjl := (List.getElem?_eq_some_iff.1 hj).1
  have hp : l[j]! = p := by rw [getElem!_pos l j hjl]; exact (List.getElem?_eq_some_iff.1 hj).2
  have hq : css[j]? = some (css[j]!) := by rw [getElem!_pos css j (by omega)]; exact List.getElem?_eq_getElem (by omega)
  obtain ⟨cs, hl, hK, hcc⟩ := hcell j _ hq
  obtain ⟨rfl, _, _⟩ := hK
  have hk := k48.K_below hb (h1.2 j hjl)
  rw [hp] at hk
  exact ⟨_, hl, hk, fun i u hu => by have := hcc i u hu; exact this⟩
theorem OpenRow.push {w : World} {l : List S48} {css : List (List Value)} (h : OpenRow w l css) {x : S48} {cs : List Value} (hx : k48.K w x cs) : OpenRow w (l ++ [x]) (css ++ [cs]) := by
  refine ⟨by simp [h.1], fun j hj => ?_⟩
  rw [List.length_append, List.length_singleton] at hj
  by_cases c : j < l.length
  · have := h.2 j c
    rw [getElem!_pos (l ++ [x]) j (by simp; omega), getElem!_pos (css ++ [cs]) j (by simp [h.1]; omega), List.getElem_append_left c, List.getElem_append_left (by rw [h.1]; exact c)]
    rwa [getElem!_pos l j c, getElem!_pos css j (by rw [h.1]; exact c)] at this
  · obtain rfl : j = l.length := by omega
    rw [getElem!_pos (l ++ [x]) _ (by simp), getElem!_pos (css ++ [cs]) _ (by simp [h.1]), List.getElem_append_right (Nat.le_refl _), List.getElem_append_right (by rw [h.1]; exact Nat.le_refl _)]
    simp [h.1]
    exact hx
theorem OpenRow.put {w : World} {l : List S48} {css : List (List Value)} (h : OpenRow w l css) (i : Nat) {x : S48} {cs : List Value} (hx : k48.K w x cs) : OpenRow w (l.set i x) (css.set i cs) := by
  refine ⟨by simp [h.1], fun j hj => ?_⟩
  rw [List.length_set] at hj
  rw [getElem!_pos (l.set i x) j (by simp; omega), getElem!_pos (css.set i cs) j (by simp [h.1]; omega), List.getElem_set, List.getElem_set]
  by_cases c : i = j
  · rw [if_pos c, if_pos c]
    exact hx
  · rw [if_neg c, if_neg c]
    have := h.2 j hj
    rwa [getElem!_pos l j hj, getElem!_pos css j (by rw [h.1]; exact hj)] at this
def woundV (wd : List S30) (x : S48) : S48 := if hasTx wd x.f0 then ⟨x.f0, x.f1, true, x.f3⟩ else x
def markTo (wd : List S30) (l : List S48) (j : Nat) : List S48 := (l.take j).map (woundV wd) ++ l.drop j
theorem markTo_zero (wd : List S30) (l : List S48) : markTo wd l 0 = l := by simp [markTo]
theorem markTo_all (wd : List S30) (l : List S48) : markTo wd l l.length = l.map (woundV wd) := by simp [markTo]
theorem markTo_len (wd : List S30) (l : List S48) (j : Nat) : (markTo wd l j).length = l.length := by
  unfold markTo
  rw [List.length_append, List.length_map, List.length_take, List.length_drop]
  omega
theorem markTo_at (wd : List S30) (l : List S48) (j : Nat) (hj : j < l.length) : (markTo wd l j)[j]! = l[j]! := by
  rw [getElem!_pos _ j (by rw [markTo_len]; exact hj), getElem!_pos l j hj]
  unfold markTo
  rw [List.getElem_append_right (by simp; omega)]
  simp [Nat.min_eq_left (Nat.le_of_lt hj)]
theorem markTo_step (wd : List S30) (l : List S48) (j : Nat) (hj : j < l.length) : markTo wd l (j + 1) = (markTo wd l j).set j (woundV wd (l[j]!)) := by
  unfold markTo
  rw [List.set_append_right _ _ (by simp; omega), List.length_map, List.length_take, Nat.min_eq_left (Nat.le_of_lt hj), Nat.sub_self, List.drop_eq_getElem_cons hj, List.set_cons_zero, List.take_succ_eq_append_getElem hj, List.map_append, getElem!_pos l j hj, List.append_assoc]
  rfl
theorem markTo_skip (wd : List S30) (l : List S48) (j : Nat) (hj : j < l.length) (h : hasTx wd (l[j]!).f0 = false) : markTo wd l (j + 1) = markTo wd l j := by
  rw [markTo_step wd l j hj]
  have : woundV wd (l[j]!) = (markTo wd l j)[j]! := by rw [markTo_at wd l j hj]; unfold woundV; rw [if_neg (by rw [h]; decide)]
  rw [this, getElem!_pos _ j (by rw [markTo_len]; exact hj)]
  exact List.set_getElem_self _
end Go.Proofs.Ytmcgcdpiceikeaa.PAll
end
section
-- Printed by this session's pr.sh (the kit's print.py, several laws in one namespace). Not trusted: Lean checks it.
namespace Go.Proofs.Ytmcgcdpiceikeaa.PAll
open Go.RowKit Go.Proofs.YtmcgcdpiceikeaaW.PrintWords Go.Proofs.YtmcgcdpiceikeaaW.PrintLast Go.Proofs.YtmcgcdpiceikeaaW.PrintMore
attribute [local go_sem] max2_int min2_int max_two min_two max_three min_three max_four min_four   -- for this text's walks alone
set_option linter.unusedVariables false
set_option linter.unusedSimpArgs false

attribute [local go_sem high] eqA30
/-! ### api_Tx_89: function 89 -/
def api_Tx_89.l0 : Nat → List (S30) → Int → Int → Int → Int → Option (Int)
  | 0, _, _, _, _, _ => none
  | k + 1, x0, x7, x8, x123000, x123001 => if x8 < x7 then (if 0 ≤ x8 then (if x8 < (x0.length : Int) then (if (x123000 == ((rd_T30 x0 x8).f0) && (x123001 == ((rd_T30 x0 x8).f1))) = true then (some x8) else (api_Tx_89.l0 k x0 x7 (wrap64 (x8 + 1)) x123000 x123001)) else (none)) else (none)) else (some (-1))
def api_Tx_89.f (k : Nat) (l0 : List (S30)) (a1_0 : Int) (a1_1 : Int) : Option (Int) := api_Tx_89.l0 k l0 (l0.length : Int) 0 a1_0 a1_1
set_option maxHeartbeats 8000000 in
set_option maxRecDepth 100000 in
theorem api_Tx_89.calls (k : Nat) (A0 : Option Addr) (c0 : Nat) (l0 : List (S30)) (a1_0 : Int) (a1_1 : Int) (r : Int) (w : World) (hr0 : Kd.C k30 w A0 l0.length l0) (hc0 : l0.length ≤ c0) (h : api_Tx_89.f k l0 a1_0 a1_1 = some r) :
    Calls Try.prog 89 #[.slice A0 l0.length c0, .agg #[.int .u64 a1_0, .int .u64 a1_1]] w fun e w' => e = .returned (.int .i64 r) ∧ Below w.heap.size w w' := by
  have hu30 := Try.underlying30
  have HR0 := Aside0.mk hr0
  have HC0 := Aside0.mk hc0
  clear hr0 hc0
  have HB := Aside0.mk (Below.refl w.heap.size w)
  have H : (api_Tx_89.l0 k l0 (l0.length : Int) 0 a1_0 a1_1) = some r := h
  clear h
  have H' := Aside0.mk H
  clear H
  go_enter Try.func89, Try.ntmps89
  go_wp2_with (first | ((with_reducible refine gate_dst (N := 3) rfl ?_); refine box_event ?hg (N := 3) ?hd (cs := #[.int .u64 a1_0, .int .u64 a1_1]) (t := 30) ?hr ?_; (case hd => rfl); (case hg => rfl); (case hr => first | (go_simp; done) | (go_simp; rfl)); intro gb122 hg w3 hbox hb; have n0_ := Aside0.mk (below_step (by repeat (first | (with_reducible first | exact HB.out | apply below_alloc | apply pw_below_drewN | apply below_drew1) | exact HB.out)) hb); have n1_ := Aside0.mk (hbox); have n2_ := Aside0.mk ((by rw [hg]; exact (below_size (by repeat (first | (with_reducible first | exact HB.out | apply below_alloc | apply pw_below_drewN | apply below_drew1) | exact HB.out))) : w.heap.size ≤ gb122)); have n3_ := Aside0.mk ((by rw [hg]; exact (below_size (by repeat (first | (with_reducible first | exact HB.out | apply below_alloc | apply pw_below_drewN | apply below_drew1) | exact HB.out))) : w.heap.size ≤ gb122)); clear HB; have HB := n0_; have BK122 := n1_; have GW122 := n2_; have GE122 := n3_; clear n0_ n1_ n2_ n3_; clear hb hbox hg))
  repeat (go_quiet (first | ((with_reducible refine gate_dst (N := 3) rfl ?_); refine box_event ?hg (N := 3) ?hd (cs := #[.int .u64 a1_0, .int .u64 a1_1]) (t := 30) ?hr ?_; (case hd => rfl); (case hg => rfl); (case hr => first | (go_simp; done) | (go_simp; rfl)); intro gb122 hg w3 hbox hb; have n0_ := Aside0.mk (below_step (by repeat (first | (with_reducible first | exact HB.out | apply below_alloc | apply pw_below_drewN | apply below_drew1) | exact HB.out)) hb); have n1_ := Aside0.mk (hbox); have n2_ := Aside0.mk ((by rw [hg]; exact (below_size (by repeat (first | (with_reducible first | exact HB.out | apply below_alloc | apply pw_below_drewN | apply below_drew1) | exact HB.out))) : w.heap.size ≤ gb122)); have n3_ := Aside0.mk ((by rw [hg]; exact (below_size (by repeat (first | (with_reducible first | exact HB.out | apply below_alloc | apply pw_below_drewN | apply below_drew1) | exact HB.out))) : w.heap.size ≤ gb122)); clear HB; have HB := n0_; have BK122 := n1_; have GW122 := n2_; have GE122 := n3_; clear n0_ n1_ n2_ n3_; clear hb hbox hg)); try go_wp2_with (first | ((with_reducible refine gate_dst (N := 3) rfl ?_); refine box_event ?hg (N := 3) ?hd (cs := #[.int .u64 a1_0, .int .u64 a1_1]) (t := 30) ?hr ?_; (case hd => rfl); (case hg => rfl); (case hr => first | (go_simp; done) | (go_simp; rfl)); intro gb122 hg w3 hbox hb; have n0_ := Aside0.mk (below_step (by repeat (first | (with_reducible first | exact HB.out | apply below_alloc | apply pw_below_drewN | apply below_drew1) | exact HB.out)) hb); have n1_ := Aside0.mk (hbox); have n2_ := Aside0.mk ((by rw [hg]; exact (below_size (by repeat (first | (with_reducible first | exact HB.out | apply below_alloc | apply pw_below_drewN | apply below_drew1) | exact HB.out))) : w.heap.size ≤ gb122)); have n3_ := Aside0.mk ((by rw [hg]; exact (below_size (by repeat (first | (with_reducible first | exact HB.out | apply below_alloc | apply pw_below_drewN | apply below_drew1) | exact HB.out))) : w.heap.size ≤ gb122)); clear HB; have HB := n0_; have BK122 := n1_; have GW122 := n2_; have GE122 := n3_; clear n0_ n1_ n2_ n3_; clear hb hbox hg)))
  go_loopg [8] k (fun kq v8 w' => ∃ (x8_1 : Int), v8 = .int .i64 x8_1 ∧ Aside0 (api_Tx_89.l0 kq l0 (l0.length : Int) x8_1 a1_0 a1_1 = some r) ∧ Aside0 (kq ≤ k) ∧ Aside0 (w'.heap[gb122]? = some (.cells #[.int .u64 a1_0, .int .u64 a1_1] 30 (0, 0))) ∧ Aside0 (Below w.heap.size w w'))
  case atStart => exact ⟨(0), (by first | rfl | (simp; done) | (simp [*]; done)), H', ⟨Nat.le_refl _⟩, ⟨by (with_reducible repeat (first | refine blk_drewN ?_ _ | refine blk_drew ?_ | refine blk_alloc ?_ _)); exact BK122.out⟩, ⟨by repeat (first | (with_reducible first | exact HB.out | apply below_alloc | apply pw_below_drewN | apply below_drew1 | refine below_set ?_ GE122.out) | exact HB.out)⟩⟩
  case round =>
    clear H'
    try clear p2
    obtain ⟨x8_1, rfl, HA, HK1, BK122, HB⟩ := hrel
    cases gk with
    | zero => exact absurd HA.out (by simp [api_Tx_89.l0])
    | succ k1 =>
      have H := HA.out
      clear HA
      simp only [api_Tx_89.l0] at H
      by_cases c4 : x8_1 < (l0.length : Int)
      · rw [if_pos c4] at H
        have c4b0 : decide (x8_1 < (l0.length : Int)) = true := decide_eq_true c4
        clear c4
        by_cases c5 : 0 ≤ x8_1
        · rw [if_pos c5] at H
          have c5b0 : decide (0 ≤ x8_1) = true := decide_eq_true c5
          clear c5
          by_cases c6 : x8_1 < (l0.length : Int)
          · rw [if_pos c6] at H
            have c6b0 : decide (x8_1 < (l0.length : Int)) = true := decide_eq_true c6
            clear c6
            by_cases c7 : (a1_0 == ((rd_T30 l0 x8_1).f0) && (a1_1 == ((rd_T30 l0 x8_1).f1))) = true
            · rw [if_pos c7] at H
              have c7b0 : (a1_0 == ((rd_T30 l0 x8_1).f0) && (a1_1 == ((rd_T30 l0 x8_1).f1))) = true := c7
              (try (have c7b1 : decide (a1_0 = ((rd_T30 l0 x8_1).f0) && (a1_1 == ((rd_T30 l0 x8_1).f1))) = true := by simpa using c7))
              (try (have c7b2 : (a1_0 == ((rd_T30 l0 x8_1).f0) && (a1_1 == ((rd_T30 l0 x8_1).f1))) = true := by simpa using c7))
              clear c7
              obtain rfl := Option.some.inj H
              have hcz8_0 : wr.cell? ⟨gb122, 0, none⟩ = some (.int .u64 a1_0) := (blk_cell BK122.out 0).trans rfl
              have hcz8_1 : wr.cell? ⟨gb122, 1, none⟩ = some (.int .u64 a1_1) := (blk_cell BK122.out 1).trans rfl
              have hfz8_0 := blk_frozen BK122.out 0
              have hfz8_1 := blk_frozen BK122.out 1
              have p123 : 0 ≤ (x8_1 : Int) := of_decide_eq_true (by first | (with_reducible assumption) | assumption)
              have q123 : x8_1 < (l0.length : Int) := of_decide_eq_true (by first | (with_reducible assumption) | assumption)
              obtain ⟨ad123, e123, hx123_0, hx123_1⟩ := at_T30 HR0.out x8_1 p123 q123
              cases e123
              replace hx123_0 := (HB.out.cell (World.block_lt_of_cell? w _ hx123_0)).trans hx123_0
              replace hx123_1 := (HB.out.cell (World.block_lt_of_cell? w _ hx123_1)).trans hx123_1
              replace p123 := eq_true p123
              replace q123 := eq_true q123
              go_wp2
              repeat (go_quiet (fail); try go_wp2)
              go_ret
              exact ⟨by first | rfl | (simp [errW_none, errW_some] <;> rfl) | (simp [*, errW_none, errW_some] <;> rfl), by repeat (first | (with_reducible first | exact HB.out | apply below_alloc | apply pw_below_drewN | apply below_drew1 | refine below_set ?_ GE122.out) | exact HB.out)⟩
            · rw [if_neg c7] at H
              have c7b0 : (a1_0 == ((rd_T30 l0 x8_1).f0) && (a1_1 == ((rd_T30 l0 x8_1).f1))) = false := by simpa using c7
              (try (have c7b1 : decide (a1_0 = ((rd_T30 l0 x8_1).f0) && (a1_1 == ((rd_T30 l0 x8_1).f1))) = false := by simpa using c7))
              (try (have c7b2 : (a1_0 == ((rd_T30 l0 x8_1).f0) && (a1_1 == ((rd_T30 l0 x8_1).f1))) = false := by simpa using c7))
              (try (have c7b3 : ¬ (a1_0 = ((rd_T30 l0 x8_1).f0) && (a1_1 == ((rd_T30 l0 x8_1).f1))) := by simpa using c7))
              clear c7
              have H' := Aside0.mk H
              clear H
              have hcz9_0 : wr.cell? ⟨gb122, 0, none⟩ = some (.int .u64 a1_0) := (blk_cell BK122.out 0).trans rfl
              have hcz9_1 : wr.cell? ⟨gb122, 1, none⟩ = some (.int .u64 a1_1) := (blk_cell BK122.out 1).trans rfl
              have hfz9_0 := blk_frozen BK122.out 0
              have hfz9_1 := blk_frozen BK122.out 1
              have p123 : 0 ≤ (x8_1 : Int) := of_decide_eq_true (by first | (with_reducible assumption) | assumption)
              have q123 : x8_1 < (l0.length : Int) := of_decide_eq_true (by first | (with_reducible assumption) | assumption)
              obtain ⟨ad123, e123, hx123_0, hx123_1⟩ := at_T30 HR0.out x8_1 p123 q123
              cases e123
              replace hx123_0 := (HB.out.cell (World.block_lt_of_cell? w _ hx123_0)).trans hx123_0
              replace hx123_1 := (HB.out.cell (World.block_lt_of_cell? w _ hx123_1)).trans hx123_1
              replace p123 := eq_true p123
              replace q123 := eq_true q123
              go_wp2
              repeat (go_quiet (fail); try go_wp2)
              go_roundg k1
              case measure => have := HK1.out; omega
              case rel => exact ⟨(wrap64 (x8_1 + 1)), (by first | rfl | (simp; done) | (simp [*]; done)), H', ⟨by have := HK1.out; omega⟩, ⟨by (with_reducible repeat (first | refine blk_drewN ?_ _ | refine blk_drew ?_ | refine blk_alloc ?_ _)); exact BK122.out⟩, ⟨by repeat (first | (with_reducible first | exact HB.out | apply below_alloc | apply pw_below_drewN | apply below_drew1 | refine below_set ?_ GE122.out) | exact HB.out)⟩⟩
          · rw [if_neg c6] at H
            exact absurd H (by simp)
        · rw [if_neg c5] at H
          exact absurd H (by simp)
      · rw [if_neg c4] at H
        have c4b0 : decide (x8_1 < (l0.length : Int)) = false := decide_eq_false c4
        clear c4
        obtain rfl := Option.some.inj H
        go_wp2
        repeat (go_quiet (fail); try go_wp2)
        go_ret
        exact ⟨by first | rfl | (simp [errW_none, errW_some] <;> rfl) | (simp [*, errW_none, errW_some] <;> rfl), by repeat (first | (with_reducible first | exact HB.out | apply below_alloc | apply pw_below_drewN | apply below_drew1 | refine below_set ?_ GE122.out) | exact HB.out)⟩

end Go.Proofs.Ytmcgcdpiceikeaa.PAll
end
section
-- Printed by this session's pr.sh (the kit's print.py, several laws in one namespace). Not trusted: Lean checks it.
namespace Go.Proofs.Ytmcgcdpiceikeaa.PAll
open Go.RowKit Go.Proofs.YtmcgcdpiceikeaaW.PrintWords Go.Proofs.YtmcgcdpiceikeaaW.PrintLast Go.Proofs.YtmcgcdpiceikeaaW.PrintMore
attribute [local go_sem] max2_int min2_int max_two min_two max_three min_three max_four min_four   -- for this text's walks alone
set_option linter.unusedVariables false
set_option linter.unusedSimpArgs false

/-! ### api_Tx_57: function 57 -/
def api_Tx_57.f (k : Nat) (l0 : List (S30)) (a1_0 : Int) (a1_1 : Int) : Option (Bool) := (api_Tx_89.f k l0 a1_0 a1_1).bind fun t125 => (some (decide (t125 ≥ 0)))
set_option maxHeartbeats 8000000 in
set_option maxRecDepth 100000 in
theorem api_Tx_57.calls (k : Nat) (A0 : Option Addr) (c0 : Nat) (l0 : List (S30)) (a1_0 : Int) (a1_1 : Int) (r : Bool) (w : World) (hr0 : Kd.C k30 w A0 l0.length l0) (hc0 : l0.length ≤ c0) (h : api_Tx_57.f k l0 a1_0 a1_1 = some r) :
    Calls Try.prog 57 #[.slice A0 l0.length c0, .agg #[.int .u64 a1_0, .int .u64 a1_1]] w fun e w' => e = .returned (.bool r) ∧ Below w.heap.size w w' := by
  have hu30 := Try.underlying30
  have HR0 := Aside0.mk hr0
  have HC0 := Aside0.mk hc0
  clear hr0 hc0
  have HB := Aside0.mk (Below.refl w.heap.size w)
  have H : ((api_Tx_89.f k l0 a1_0 a1_1).bind fun t125 => (some (decide (t125 ≥ 0)))) = some r := h
  clear h
  replace H := Option.bind_eq_some_iff.mp H
  obtain ⟨t125, A30, H⟩ := H
  replace H : (some (decide (t125 ≥ 0))) = some r := H
  have A3 := Aside0.mk A30
  clear A30
  obtain rfl := Option.some.inj H
  go_enter Try.func57, Try.ntmps57
  go_wp2_with (first | ((with_reducible refine gate_dst (N := 3) rfl ?_); refine box_event ?hg (N := 3) ?hd (cs := #[.int .u64 a1_0, .int .u64 a1_1]) (t := 30) ?hr ?_; (case hd => rfl); (case hg => rfl); (case hr => first | (go_simp; done) | (go_simp; rfl)); intro gb124 hg w4 hbox hb; have n0_ := Aside0.mk (below_step (by repeat (first | (with_reducible first | exact HB.out | apply below_alloc | apply pw_below_drewN | apply below_drew1) | exact HB.out)) hb); have n1_ := Aside0.mk (hbox); have n2_ := Aside0.mk ((by rw [hg]; exact (below_size (by repeat (first | (with_reducible first | exact HB.out | apply below_alloc | apply pw_below_drewN | apply below_drew1) | exact HB.out))) : w.heap.size ≤ gb124)); have n3_ := Aside0.mk ((by rw [hg]; exact (below_size (by repeat (first | (with_reducible first | exact HB.out | apply below_alloc | apply pw_below_drewN | apply below_drew1) | exact HB.out))) : w.heap.size ≤ gb124)); clear HB; have HB := n0_; have BK124 := n1_; have GW124 := n2_; have GE124 := n3_; clear n0_ n1_ n2_ n3_; clear hb hbox hg; have hcz5_0 : w4.cell? ⟨gb124, 0, none⟩ = some (.int .u64 a1_0) := (blk_cell BK124.out 0).trans rfl; have hcz5_1 : w4.cell? ⟨gb124, 1, none⟩ = some (.int .u64 a1_1) := (blk_cell BK124.out 1).trans rfl; have hfz5_0 := blk_frozen BK124.out 0; have hfz5_1 := blk_frozen BK124.out 1) | ((with_reducible refine gate_callee (f := 89) rfl ?_); refine goesL_ (some 7) rfl rfl Try.func89 (by kernel_rfl) rfl #[.slice A0 l0.length c0, .agg #[.int .u64 a1_0, .int .u64 a1_1]] rfl (by (try simp only [List.map_toArray, List.map_cons, List.map_nil]); first | done | rfl | (simp only [List.length_drop, List.length_take]; rfl)) ?_; (with_reducible refine (api_Tx_89.calls k _ _ l0 a1_0 a1_1 t125 _ ?side1 ?side2 A3.out).mono ?_); (case side1 => repeat (first | exact (Kd.C_below HR0.out HB.out) | (with_reducible refine Kd.C_alloc ?_ _) | (with_reducible refine Kd.C_drewN ?_ _) | (with_reducible refine Kd.C_drew ?_))); (case side2 => exact HC0.out); rintro e w6 ⟨rfl, hb⟩; refine ⟨_, rfl, ?_⟩; have n0_ := Aside0.mk (blk_below (g := gb124) (o := .cells #[.int .u64 a1_0, .int .u64 a1_1] 30 (0, 0)) (by (with_reducible repeat (first | refine blk_drewN ?_ _ | refine blk_drew ?_ | refine blk_alloc ?_ _)); exact BK124.out) hb); have n1_ := Aside0.mk (below_step (by repeat (first | (with_reducible first | exact HB.out | apply below_alloc | apply pw_below_drewN | apply below_drew1 | refine below_set ?_ GE124.out) | exact HB.out)) hb); clear BK124; clear HB; have BK124 := n0_; have HB := n1_; clear n0_ n1_; (try clear hb); (try clear hb2); (try clear hk); (try clear hi)))
  go_ret
  exact ⟨by first | rfl | (simp [errW_none, errW_some] <;> rfl) | (simp [*, errW_none, errW_some] <;> rfl), by repeat (first | (with_reducible first | exact HB.out | apply below_alloc | apply pw_below_drewN | apply below_drew1 | refine below_set ?_ GE124.out) | exact HB.out)⟩

end Go.Proofs.Ytmcgcdpiceikeaa.PAll
end
section
/- slices.Contains of transactions. -/
namespace Go.Proofs.Ytmcgcdpiceikeaa.PAll
open Go.RowKit Go.Proofs.YtmcgcdpiceikeaaW.PrintWords Go.Proofs.YtmcgcdpiceikeaaW.PrintMore Go.Proofs.Ytmcgcdpiceikeaa
set_option linter.unusedVariables false
theorem txIndex_l0 (l : List S30) (a b : Int) (hl : l.length ≤ 9223372036854775807) : ∀ (d j : Nat), d = l.length - j → j ≤ l.length → Ev (fun q => api_Tx_89.l0 q l (l.length : Int) (j : Int) a b) (if hasTx (l.drop j) ⟨a, b⟩ then ((j + (l.drop j).findIdx (fun x => sameTx x ⟨a, b⟩) : Nat) : Int) else -1) := by
  intro d
  induction d with
  | zero =>
    intro j hd hj
    obtain rfl : j = l.length := by omega
    rw [List.drop_length]
    exact Ev.step (fun q => by simp only [api_Tx_89.l0]; exact if_neg (by omega)) (Ev.now (-1))
  | succ d ih =>
    intro j hd hj
    have hlt : j < l.length := by omega
    rw [dropBang l j hlt]
    refine Ev.step (fun q => by simp only [api_Tx_89.l0]; rw [if_pos (by omega), if_pos (by omega), if_pos (by omega), rdTx l j hlt, wrapInc j (by omega)]) ?_
    have hs : (a == (l[j]!).f0 && b == (l[j]!).f1) = sameTx (l[j]!) ⟨a, b⟩ := by
      unfold sameTx
      dsimp only
      rw [BEq.comm (a := a), BEq.comm (a := b)]
    rw [hs]
    unfold hasTx
    rw [List.any_cons, List.findIdx_cons]
    cases c : sameTx (l[j]!) ⟨a, b⟩ with
    | true => exact Ev.congr (fun _ => if_pos rfl) (Ev.now (j : Int))
    | false =>
      refine Ev.congr (fun _ => if_neg (by decide)) ?_
      rw [Bool.false_or]
      have := ih (j + 1) (by omega) (by omega)
      unfold hasTx at this
      simp only [cond_false]
      rw [show j + ((l.drop (j + 1)).findIdx (fun x => sameTx x ⟨a, b⟩) + 1) = j + 1 + (l.drop (j + 1)).findIdx (fun x => sameTx x ⟨a, b⟩) by omega]
      exact this
theorem txContains_calls (A : Option Addr) (c : Nat) (l : List S30) (a b : Int) (w : World) (hr : Kd.C k30 w A l.length l) (hc : l.length ≤ c) (hl : l.length ≤ 9223372036854775807) : Calls Try.prog 57 #[.slice A l.length c, .agg #[.int .u64 a, .int .u64 b]] w fun e w' => e = .returned (.bool (hasTx l ⟨a, b⟩)) ∧ Below w.heap.size w w' := by
  have h0 := txIndex_l0 l a b hl l.length 0 (by omega) (by omega)
  rw [List.drop_zero, Nat.zero_add] at h0
  have h1 : Ev (fun q => api_Tx_57.f q l a b) (hasTx l ⟨a, b⟩) := by
    refine Ev.bind (show Ev (fun q => api_Tx_89.f q l a b) _ from h0) ?_
    cases c : hasTx l ⟨a, b⟩ with
    | true =>
      refine Ev.congr (fun _ => ?_) (Ev.now true)
      rw [if_pos rfl]
      exact congrArg some (decide_eq_true (by omega))
    | false =>
      refine Ev.congr (fun _ => ?_) (Ev.now false)
      rw [if_neg (by decide)]
      rfl
  obtain ⟨k, hk⟩ := h1.rounds
  exact api_Tx_57.calls k A c l a b _ w hr hc hk
end Go.Proofs.Ytmcgcdpiceikeaa.PAll
end
section
-- Printed by this session's pr.sh (the kit's print.py, several laws in one namespace). Not trusted: Lean checks it.
namespace Go.Proofs.Ytmcgcdpiceikeaa.PAll
open Go.RowKit Go.Proofs.YtmcgcdpiceikeaaW.PrintWords Go.Proofs.YtmcgcdpiceikeaaW.PrintLast Go.Proofs.YtmcgcdpiceikeaaW.PrintMore
attribute [local go_sem] max2_int min2_int max_two min_two max_three min_three max_four min_four   -- for this text's walks alone
set_option linter.unusedVariables false
set_option linter.unusedSimpArgs false

/-! ### ferruleref11_Less: function 70 -/
mutual
def ferruleref11_Less.l0 : Nat → ByteArray → ByteArray → Int → Option (Bool)
  | 0, _, _, _ => none
  | k + 1, x0, x1, x5 => if x5 < (x0.size : Int) then (ferruleref11_Less.j1 k x0 x1 x5 (decide (x5 < (x1.size : Int)))) else (ferruleref11_Less.j1 k x0 x1 x5 false)
def ferruleref11_Less.j1 : Nat → ByteArray → ByteArray → Int → Bool → Option (Bool)
  | 0, _, _, _, _ => none
  | k + 1, x0, x1, x5, x15 => if x15 = true then (if 0 ≤ x5 then (if x5 < (x0.size : Int) then (if x5 < (x1.size : Int) then (if (bt x0 x5) = (bt x1 x5) then (ferruleref11_Less.l0 k x0 x1 (wrap64 (x5 + 1))) else (some (decide ((bt x0 x5) < (bt x1 x5))))) else (none)) else (none)) else (none)) else (some (decide ((x0.size : Int) < (x1.size : Int))))
end
def ferruleref11_Less.f (k : Nat) (a0 : ByteArray) (a1 : ByteArray) : Option (Bool) := ferruleref11_Less.l0 k a0 a1 0
set_option maxHeartbeats 8000000 in
set_option maxRecDepth 100000 in
theorem ferruleref11_Less.calls (k : Nat) (a0 : ByteArray) (a1 : ByteArray) (r : Bool) (w : World) (h : ferruleref11_Less.f k a0 a1 = some r) :
    Calls Try.prog 70 #[.string a0, .string a1] w fun e w' => e = .returned (.bool r) ∧ Drawn0 w w' := by
  have H : (ferruleref11_Less.l0 k a0 a1 0) = some r := h
  clear h
  have H' := Aside0.mk H
  clear H
  go_enter Try.func70, Try.ntmps70
  go_wp2
  repeat (go_quiet (fail); try go_wp2)
  go_loopg [5] k (fun kq v5 w' => ∃ (x5_1 : Int), v5 = .int .i64 x5_1 ∧ Aside0 (ferruleref11_Less.l0 kq a0 a1 x5_1 = some r) ∧ Aside0 (kq ≤ k) ∧ Drawn0 w w')
  case atStart => exact ⟨(0), (by first | rfl | (simp; done) | (simp [*]; done)), H', ⟨Nat.le_refl _⟩, by repeat (first | exact Drawn0.refl _ | apply Drawn0.step)⟩
  case round =>
    clear H'
    try clear p2
    obtain ⟨x5_1, rfl, HA, HK1, ⟨m1, rfl⟩⟩ := hrel
    cases gk with
    | zero => exact absurd HA.out (by simp [ferruleref11_Less.l0])
    | succ k1 =>
      have H := HA.out
      clear HA
      simp only [ferruleref11_Less.l0] at H
      have HC3 := Aside0.mk H
      clear H
      go_upto_region 2 with (fail)
      repeat (go_quiet (fail); go_upto_region 2 with (fail))
      go_cut [15] (fun v15 wc => ∃ (kq : Nat) (x15_2 : Bool), v15 = .bool x15_2 ∧ Aside0 (ferruleref11_Less.j1 kq a0 a1 x5_1 x15_2 = some r) ∧ Aside0 (kq ≤ k1) ∧ Drawn0 w wc)
      case first =>
        have H := HC3.out
        clear HC3
        by_cases c4 : x5_1 < (a0.size : Int)
        · rw [if_pos c4] at H
          have c4b0 : decide (x5_1 < (a0.size : Int)) = true := decide_eq_true c4
          clear c4
          (first | rw [c4b0] | (simp only [i64_w, i32_w]; rw [c4b0]) | skip)
          have H' := Aside0.mk H
          clear H
          go_wp2
          repeat (go_quiet (fail); try go_wp2)
          go_meet
          case rel => exact ⟨_, (decide (x5_1 < (a1.size : Int))), (by first | rfl | (simp; done) | (simp [*]; done)), H', ⟨by have := HK1.out; first | omega | exact Nat.le_refl _⟩, by repeat (first | exact Drawn0.refl _ | apply Drawn0.step)⟩
        · rw [if_neg c4] at H
          have c4b0 : decide (x5_1 < (a0.size : Int)) = false := decide_eq_false c4
          clear c4
          (first | rw [c4b0] | (simp only [i64_w, i32_w]; rw [c4b0]) | skip)
          have H' := Aside0.mk H
          clear H
          go_wp2
          repeat (go_quiet (fail); try go_wp2)
          go_meet
          case rel => exact ⟨_, (false), (by first | rfl | (simp; done) | (simp [*]; done)), H', ⟨by have := HK1.out; first | omega | exact Nat.le_refl _⟩, by repeat (first | exact Drawn0.refl _ | apply Drawn0.step)⟩
      case rest =>
        clear HC3
        try clear p2
        try clear c4
        try clear c4b0
        try clear p2
        obtain ⟨kq, x15_2, rfl, HA, HJ2, ⟨mc2, rfl⟩⟩ := hcut
        cases kq with
        | zero => exact absurd HA.out (by simp [ferruleref11_Less.j1])
        | succ kj2 =>
          have H := HA.out
          clear HA
          simp only [ferruleref11_Less.j1] at H
          by_cases c5 : x15_2 = true
          · subst c5
            have H1 : (if 0 ≤ x5_1 then (if x5_1 < (a0.size : Int) then (if x5_1 < (a1.size : Int) then (if (bt a0 x5_1) = (bt a1 x5_1) then (ferruleref11_Less.l0 kj2 a0 a1 (wrap64 (x5_1 + 1))) else (some (decide ((bt a0 x5_1) < (bt a1 x5_1))))) else (none)) else (none)) else (none)) = some r := by rw [if_pos rfl] at H; exact H
            clear H
            have H := H1
            clear H1
            by_cases c6 : 0 ≤ x5_1
            · rw [if_pos c6] at H
              have c6b0 : decide (0 ≤ x5_1) = true := decide_eq_true c6
              clear c6
              by_cases c7 : x5_1 < (a0.size : Int)
              · rw [if_pos c7] at H
                have c7b0 : decide (x5_1 < (a0.size : Int)) = true := decide_eq_true c7
                clear c7
                by_cases c9 : x5_1 < (a1.size : Int)
                · rw [if_pos c9] at H
                  have c9b0 : decide (x5_1 < (a1.size : Int)) = true := decide_eq_true c9
                  clear c9
                  by_cases c11 : (bt a0 x5_1) = (bt a1 x5_1)
                  · rw [if_pos c11] at H
                    have c11b0 : ((bt a0 x5_1) == (bt a1 x5_1)) = true := beq_iff_eq.mpr c11
                    have c11b1 : ((bt a0 x5_1) != (bt a1 x5_1)) = false := bne_eq_false_iff_eq.mpr c11
                    clear c11
                    have H' := Aside0.mk H
                    clear H
                    have p8 : 0 ≤ (x5_1 : Int) := of_decide_eq_true (by first | (with_reducible assumption) | assumption)
                    have q8 : x5_1 < (a0.size : Int) := of_decide_eq_true (by first | (with_reducible assumption) | assumption)
                    have hx8 := bt_at a0 x5_1
                    replace p8 := eq_true p8
                    replace q8 := eq_true q8
                    have p10 : 0 ≤ (x5_1 : Int) := of_decide_eq_true (by first | (with_reducible assumption) | assumption)
                    have q10 : x5_1 < (a1.size : Int) := of_decide_eq_true (by first | (with_reducible assumption) | assumption)
                    have hx10 := bt_at a1 x5_1
                    replace p10 := eq_true p10
                    replace q10 := eq_true q10
                    go_wp2
                    repeat (go_quiet (fail); try go_wp2)
                    go_roundg kj2
                    case measure => have := HK1.out; have := HJ2.out; omega
                    case rel => exact ⟨(wrap64 (x5_1 + 1)), (by first | rfl | (simp; done) | (simp [*]; done)), H', ⟨by have := HK1.out; have := HJ2.out; omega⟩, by repeat (first | exact Drawn0.refl _ | apply Drawn0.step)⟩
                  · rw [if_neg c11] at H
                    have c11b0 : ((bt a0 x5_1) == (bt a1 x5_1)) = false := beq_eq_false_iff_ne.mpr c11
                    have c11b1 : ((bt a0 x5_1) != (bt a1 x5_1)) = true := bne_iff_ne.mpr c11
                    obtain rfl := Option.some.inj H
                    have p8 : 0 ≤ (x5_1 : Int) := of_decide_eq_true (by first | (with_reducible assumption) | assumption)
                    have q8 : x5_1 < (a0.size : Int) := of_decide_eq_true (by first | (with_reducible assumption) | assumption)
                    have hx8 := bt_at a0 x5_1
                    replace p8 := eq_true p8
                    replace q8 := eq_true q8
                    have p10 : 0 ≤ (x5_1 : Int) := of_decide_eq_true (by first | (with_reducible assumption) | assumption)
                    have q10 : x5_1 < (a1.size : Int) := of_decide_eq_true (by first | (with_reducible assumption) | assumption)
                    have hx10 := bt_at a1 x5_1
                    replace p10 := eq_true p10
                    replace q10 := eq_true q10
                    have p12 : 0 ≤ (x5_1 : Int) := of_decide_eq_true (by first | (with_reducible assumption) | assumption)
                    have q12 : x5_1 < (a0.size : Int) := of_decide_eq_true (by first | (with_reducible assumption) | assumption)
                    have hx12 := bt_at a0 x5_1
                    replace p12 := eq_true p12
                    replace q12 := eq_true q12
                    have p13 : 0 ≤ (x5_1 : Int) := of_decide_eq_true (by first | (with_reducible assumption) | assumption)
                    have q13 : x5_1 < (a1.size : Int) := of_decide_eq_true (by first | (with_reducible assumption) | assumption)
                    have hx13 := bt_at a1 x5_1
                    replace p13 := eq_true p13
                    replace q13 := eq_true q13
                    go_wp2
                    repeat (go_quiet (fail); try go_wp2)
                    go_ret
                    exact ⟨by first | rfl | (simp; done) | (simp [*]; done), by repeat (first | exact Drawn0.refl _ | apply Drawn0.step)⟩
                · rw [if_neg c9] at H
                  exact absurd H (by simp)
              · rw [if_neg c7] at H
                exact absurd H (by simp)
            · rw [if_neg c6] at H
              exact absurd H (by simp)
          · replace c5 := Bool.eq_false_iff.mpr c5
            subst c5
            have H1 : (some (decide ((a0.size : Int) < (a1.size : Int)))) = some r := by rw [if_neg (show ¬ (false = true) by decide)] at H; exact H
            clear H
            have H := H1
            clear H1
            obtain rfl := Option.some.inj H
            go_wp2
            repeat (go_quiet (fail); try go_wp2)
            go_ret
            exact ⟨by first | rfl | (simp; done) | (simp [*]; done), by repeat (first | exact Drawn0.refl _ | apply Drawn0.step)⟩

end Go.Proofs.Ytmcgcdpiceikeaa.PAll
end
