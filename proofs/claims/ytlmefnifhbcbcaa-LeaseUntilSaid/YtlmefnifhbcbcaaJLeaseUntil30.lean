/- Joined texts of the claim LeaseUntil (part 30): contracts of functions and plain laws. -/
import Derived.Test.YtlmefnifhbcbcaaJLeaseUntil23
import Derived.Test.YtlmefnifhbcbcaaJLeaseUntil29
import Derived.WalkLawsBesides
import Derived.Test.YtlmefnifhbcbcaaJLeaseUntil11
section
/- Groups: slices.Clone of marks and of numbers, and the place of a node's mark, as the printed texts call them. -/
namespace Go.Proofs.Ytlmefnifhbcbcaa.PAll
open Go.RowKit Go.Proofs.YtlmefnifhbcbcaaW.PrintWords Go.Proofs.Ytlmefnifhbcbcaa
set_option linter.unusedVariables false
def api_Mark_68.f (l0 : List S39) : Option (List S39) := if l0.length < 8796093022208 then some l0 else none
theorem api_Mark_68.calls (A0 : Option Addr) (c0 : Nat) (l0 : List S39) (r : List S39) (w : World) (hr0 : Kd.C k39 w A0 l0.length l0) (hc0 : l0.length ≤ c0) (h : api_Mark_68.f l0 = some r) :
    Calls Try.prog 68 #[.slice A0 l0.length c0] w fun e w' => ∃ v0_ : Value, e = .returned (v0_) ∧ Kd.R k39 39 w' w.heap.size (fun _ => True) v0_ r ∧ Below w.heap.size w w' := by
  unfold api_Mark_68.f at h
  split at h
  · obtain rfl := Option.some.inj h
    refine (CloneMark _ (l0.map enc39) w (flat39.sl ⟨A0, c0, rfl, hc0, hr0⟩) (by rw [List.length_map]; omega)).mono ?_
    rintro e w' ⟨v, he, ho, hb⟩
    exact ⟨v, he, flat39.R ho (fun _ _ => trivial), hb⟩
  · cases h
theorem groupOf1 (B : Nat) (id : Int) (x : S39) (W : World) (hB : W.cell? ⟨B, 0, none⟩ = some (.int .u64 id)) :
    Calls Try.prog 86 #[.agg (enc39 x).toArray, .pointer (some ⟨B, 0, none⟩)] W fun e W' => e = .returned (.bool (x.f0 == id)) ∧ Below W.heap.size W W' := by
  unfold enc39
  have hlt := World.block_lt_of_cell? W _ hB
  have hc : (W.alloc (.cells #[.int .u64 x.f0, .int .u64 x.f1] 39)).cell? ⟨B, 0, none⟩ = some (.int .u64 id) := (Below.cell ((Below.refl _ W).alloc (Nat.le_refl _) _) hlt).trans hB
  go_enter Try.func86, Try.ntmps86
  go_wp2
  go_ret
  exact ⟨rfl, (Below.refl _ W).alloc (Nat.le_refl _) _⟩
def group_of.f (l0 : List S39) (a1 : Int) : Option Int := some (findI (fun x : S39 => x.f0 == a1) l0)
theorem group_of.calls (A0 : Option Addr) (c0 : Nat) (l0 : List S39) (a1 : Int) (r : Int) (w : World) (hr0 : Kd.C k39 w A0 l0.length l0) (hc0 : l0.length ≤ c0) (h : group_of.f l0 a1 = some r) :
    Calls Try.prog 67 #[.slice A0 l0.length c0, .int .u64 a1] w fun e w' => e = .returned (.int .i64 r) ∧ Below w.heap.size w w' := by
  obtain rfl := Option.some.inj h
  have HV := Aside0.mk (show Sl k39 w (.slice A0 l0.length c0) l0 from ⟨A0, c0, rfl, hc0, hr0⟩)
  clear hr0 hc0 h
  go_enter Try.func67, Try.ntmps67
  have hcell : (w.alloc (.cells #[.int .u64 a1] 22)).cell? ⟨w.heap.size, 0, none⟩ = some (.int .u64 a1) := cell_row (cs := [.int .u64 a1]) (heap_alloc_new w _) 0
  have HP := Aside0.mk (show Pred Try.prog 86 #[.pointer (some ⟨w.heap.size, 0, none⟩)] (fun cs => .agg cs.toArray) k39 (w.alloc (.cells #[.int .u64 a1] 22)) l0 (fun x => x.f0 == a1) from fun W x cs hb _ hK => by
    obtain rfl := flat39.openK _ _ _ hK
    exact groupOf1 w.heap.size a1 x W ((hb.cell (World.block_lt_of_cell? _ _ hcell)).trans hcell))
  clear hcell
  go_wp2_with (go_at_call 85; refine (IndexFuncMark k39 rfl (fun x => x.f0 == a1) 86 #[.pointer (some ⟨w.heap.size, 0, none⟩)] (enters_of Try.func86 (by kernel_rfl) rfl) (.slice A0 l0.length c0) l0 _ (HV.out.below ((Below.refl _ w).alloc (Nat.le_refl _) _)) HP.out).mono ?_; rintro e w2 ⟨rfl, hb2⟩)
  go_ret
  exact ⟨rfl, ((Below.refl _ w).alloc (Nat.le_refl _) _).trans (hb2.mono (by simp))⟩
end Go.Proofs.Ytlmefnifhbcbcaa.PAll
end
section
-- Printed by this session's pr.sh (the kit's print.py, several laws in one namespace). Not trusted: Lean checks it.
namespace Go.Proofs.Ytlmefnifhbcbcaa.PAll
open Go.RowKit Go.Proofs.YtlmefnifhbcbcaaW.PrintWords Go.Proofs.YtlmefnifhbcbcaaW.PrintLast Go.Proofs.YtlmefnifhbcbcaaW.PrintMore
attribute [local go_sem] max2_int min2_int max_two min_two max_three min_three max_four min_four   -- for this text's walks alone
set_option linter.unusedVariables false
set_option linter.unusedSimpArgs false

/-! ### group_Mark: function 32 -/
def group_Mark.f (l0 : List (S39)) (a1 : Int) : Option (Int × Bool) := (group_of.f l0 a1).bind fun t102 => (if t102 < 0 then (some (0, false)) else (if 0 ≤ t102 then (if t102 < (l0.length : Int) then (some ((rd_T39 l0 t102).f1, true)) else (none)) else (none)))
set_option maxHeartbeats 8000000 in
set_option maxRecDepth 100000 in
theorem group_Mark.calls (A0 : Option Addr) (c0 : Nat) (l0 : List (S39)) (a1 : Int) (r1 : Int) (r2 : Bool) (w : World) (hr0 : Kd.C k39 w A0 l0.length l0) (hc0 : l0.length ≤ c0) (h : group_Mark.f l0 a1 = some (r1, r2)) :
    Calls Try.prog 32 #[.slice A0 l0.length c0, .int .u64 a1] w fun e w' => e = .returned (.tuple #[.int .u64 r1, .bool r2]) ∧ Below w.heap.size w w' := by
  have HR0 := Aside0.mk hr0
  have HC0 := Aside0.mk hc0
  clear hr0 hc0
  have HB := Aside0.mk (Below.refl w.heap.size w)
  have H : ((group_of.f l0 a1).bind fun t102 => (if t102 < 0 then (some (0, false)) else (if 0 ≤ t102 then (if t102 < (l0.length : Int) then (some ((rd_T39 l0 t102).f1, true)) else (none)) else (none)))) = some (r1, r2) := h
  clear h
  replace H := Option.bind_eq_some_iff.mp H
  obtain ⟨t102, A30, H⟩ := H
  replace H : (if t102 < 0 then (some (0, false)) else (if 0 ≤ t102 then (if t102 < (l0.length : Int) then (some ((rd_T39 l0 t102).f1, true)) else (none)) else (none))) = some (r1, r2) := H
  have A3 := Aside0.mk A30
  clear A30
  by_cases c4 : t102 < 0
  · rw [if_pos c4] at H
    have c4b0 : decide (t102 < 0) = true := decide_eq_true c4
    clear c4
    simp only [Option.some.injEq, Prod.mk.injEq] at H
    obtain ⟨rfl, rfl⟩ := H
    go_enter Try.func32, Try.ntmps32
    go_wp2_with (first | ((with_reducible refine gate_callee (f := 67) rfl ?_); refine goesL_ (some 9) rfl rfl Try.func67 (by kernel_rfl) rfl #[.slice A0 l0.length c0, .int .u64 a1] rfl (by (try simp only [List.map_toArray, List.map_cons, List.map_nil]); first | done | rfl | (simp only [List.length_drop, List.length_take]; rfl)) ?_; (with_reducible refine (group_of.calls _ _ l0 a1 t102 _ ?side1 ?side2 A3.out).mono ?_); (case side1 => repeat (first | exact HR0.out | (with_reducible refine Kd.C_alloc ?_ _) | (with_reducible refine Kd.C_drewN ?_ _) | (with_reducible refine Kd.C_drew ?_))); (case side2 => exact HC0.out); rintro e w5 ⟨rfl, hb⟩; refine ⟨_, rfl, ?_⟩; have n0_ := Aside0.mk (below_step (by repeat (first | (with_reducible first | exact HB.out | apply below_alloc | apply pw_below_drewN | apply below_drew1) | exact HB.out)) hb); clear HB; have HB := n0_; clear n0_; (try clear hb); (try clear hb2); (try clear hk); (try clear hi)))
    go_ret2
    exact ⟨by first | rfl | (simp [errW_none, errW_some] <;> rfl) | (simp [*, errW_none, errW_some] <;> rfl), by repeat (first | (with_reducible first | exact HB.out | apply below_alloc | apply pw_below_drewN | apply below_drew1) | exact HB.out)⟩
  · rw [if_neg c4] at H
    have c4b0 : decide (t102 < 0) = false := decide_eq_false c4
    clear c4
    by_cases c6 : 0 ≤ t102
    · rw [if_pos c6] at H
      have c6b0 : decide (0 ≤ t102) = true := decide_eq_true c6
      clear c6
      by_cases c7 : t102 < (l0.length : Int)
      · rw [if_pos c7] at H
        have c7b0 : decide (t102 < (l0.length : Int)) = true := decide_eq_true c7
        clear c7
        simp only [Option.some.injEq, Prod.mk.injEq] at H
        obtain ⟨rfl, rfl⟩ := H
        go_enter Try.func32, Try.ntmps32
        go_wp2_with (first | ((with_reducible refine gate_callee (f := 67) rfl ?_); refine goesL_ (some 9) rfl rfl Try.func67 (by kernel_rfl) rfl #[.slice A0 l0.length c0, .int .u64 a1] rfl (by (try simp only [List.map_toArray, List.map_cons, List.map_nil]); first | done | rfl | (simp only [List.length_drop, List.length_take]; rfl)) ?_; (with_reducible refine (group_of.calls _ _ l0 a1 t102 _ ?side1 ?side2 A3.out).mono ?_); (case side1 => repeat (first | exact HR0.out | (with_reducible refine Kd.C_alloc ?_ _) | (with_reducible refine Kd.C_drewN ?_ _) | (with_reducible refine Kd.C_drew ?_))); (case side2 => exact HC0.out); rintro e w8 ⟨rfl, hb⟩; refine ⟨_, rfl, ?_⟩; have n0_ := Aside0.mk (below_step (by repeat (first | (with_reducible first | exact HB.out | apply below_alloc | apply pw_below_drewN | apply below_drew1) | exact HB.out)) hb); clear HB; have HB := n0_; clear n0_; (try clear hb); (try clear hb2); (try clear hk); (try clear hi); have p103 : 0 ≤ (t102 : Int) := of_decide_eq_true (by first | (with_reducible assumption) | assumption); have q103 : t102 < (l0.length : Int) := of_decide_eq_true (by first | (with_reducible assumption) | assumption); obtain ⟨ad103, e103, hx103_0, hx103_1⟩ := at_T39 HR0.out t102 p103 q103; cases e103; replace hx103_0 := (HB.out.cell (World.block_lt_of_cell? w _ hx103_0)).trans hx103_0; replace hx103_1 := (HB.out.cell (World.block_lt_of_cell? w _ hx103_1)).trans hx103_1; replace p103 := eq_true p103; replace q103 := eq_true q103))
        go_ret2
        exact ⟨by first | rfl | (simp [errW_none, errW_some] <;> rfl) | (simp [*, errW_none, errW_some] <;> rfl), by repeat (first | (with_reducible first | exact HB.out | apply below_alloc | apply pw_below_drewN | apply below_drew1) | exact HB.out)⟩
      · rw [if_neg c7] at H
        exact absurd H (by simp)
    · rw [if_neg c6] at H
      exact absurd H (by simp)

end Go.Proofs.Ytlmefnifhbcbcaa.PAll
end
