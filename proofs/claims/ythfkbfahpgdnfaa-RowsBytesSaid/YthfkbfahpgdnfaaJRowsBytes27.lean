/- Joined texts of the claim RowsBytes (part 27): contracts of functions and plain laws. -/
import Derived.Test.YthfkbfahpgdnfaaJRowsBytes2
import Derived.Test.YthfkbfahpgdnfaaJRowsBytes23
import Derived.Test.YthfkbfahpgdnfaaJRowsBytes17
import Derived.Test.YthfkbfahpgdnfaaJRowsBytes18
section
-- Printed by this session's pr.sh (the kit's print.py, several laws in one namespace). Not trusted: Lean checks it.
namespace Go.Proofs.Ythfkbfahpgdnfaa.PAll
open Go.RowKit Go.Proofs.YthfkbfahpgdnfaaW.PrintWords Go.Proofs.YthfkbfahpgdnfaaW.PrintLast Go.Proofs.YthfkbfahpgdnfaaW.PrintMore
attribute [local go_sem] max2_int min2_int max_two min_two max_three min_three max_four min_four   -- for this text's walks alone
set_option linter.unusedVariables false
set_option linter.unusedSimpArgs false

/-! ### ferruleref11_Take: function 45 -/
mutual
def ferruleref11_Take.j0 : Nat → Int → ByteArray → Bool → Option ((List (S64)) × ByteArray × Int)
  | 0, _, _, _ => none
  | k + 1, x5, x6, x31 => if x31 = true then (some (([] : List (S64)), (⟨#[]⟩ : ByteArray), 3)) else (ferruleref11_Take.l0 k x5 x6 ([] : List (S64)) 0)
def ferruleref11_Take.l0 : Nat → Int → ByteArray → List (S64) → Int → Option ((List (S64)) × ByteArray × Int)
  | 0, _, _, _, _ => none
  | k + 1, x5, x6, x8, x9 => if x9 < x5 then ((ferruleref01_TakeText.f k x6).bind fun bt439 => ((ferruleref01_TakeText.f k bt439.2.1).bind fun bt442 => ((ferruleref01_TakeNum.f k bt442.2.1).bind fun bt445 => (if bt439.2.2 = 0 then (if bt442.2.2 = 0 then (if bt445.2.2 = 0 then (if x8.length < 3518437208883 then (ferruleref11_Take.l0 k x5 bt445.2.1 (x8 ++ [(⟨bt439.1, bt442.1, bt445.1⟩ : S64)]) (IntKind.u64.wrap (x9 + 1))) else (none)) else (some (([] : List (S64)), (⟨#[]⟩ : ByteArray), 3))) else (some (([] : List (S64)), (⟨#[]⟩ : ByteArray), 3))) else (some (([] : List (S64)), (⟨#[]⟩ : ByteArray), 3)))))) else ((ferruleref11_Right.f k x8).bind fun t438 => (if t438 = true then (some (x8, x6, 0)) else (some (([] : List (S64)), (⟨#[]⟩ : ByteArray), 3))))
end
def ferruleref11_Take.f (k : Nat) (a0 : ByteArray) : Option ((List (S64)) × ByteArray × Int) := (ferruleref01_TakeNum.f k a0).bind fun bt435 => (if bt435.2.2 = 0 then (ferruleref11_Take.j0 k bt435.1 bt435.2.1 (decide (bt435.1 > 32))) else (ferruleref11_Take.j0 k bt435.1 bt435.2.1 true))
theorem ferruleref11_Take.mono_l : ∀ k, (∀ y0 y1 y2, LeO (ferruleref11_Take.j0 k y0 y1 y2) (ferruleref11_Take.j0 (k + 1) y0 y1 y2)) ∧ (∀ y0 y1 y2 y3, LeO (ferruleref11_Take.l0 k y0 y1 y2 y3) (ferruleref11_Take.l0 (k + 1) y0 y1 y2 y3))
  | 0 => ⟨fun _ _ _ r h => by simp [ferruleref11_Take.j0] at h, fun _ _ _ _ r h => by simp [ferruleref11_Take.l0] at h⟩
  | k + 1 => by
    obtain ⟨ih0, ih1⟩ := ferruleref11_Take.mono_l k
    refine ⟨?_, ?_⟩
    · intro y0 y1 y2
      unfold ferruleref11_Take.j0
      repeat' first
      | (with_reducible exact ih0 _ _ _)
      | (with_reducible exact ih1 _ _ _ _)
      | (with_reducible exact ferruleref01_TakeNum.mono _ _)
      | (with_reducible exact ferruleref01_TakeText.mono _ _)
      | (with_reducible exact ferruleref11_Right.mono _ _)
      | (with_reducible exact LeO.refl _)
      | (with_reducible exact LeO.none _)
      | (with_reducible refine LeO.ite ?_ ?_)
      | (with_reducible refine LeO.bind ?_ (fun _ => ?_))
      | exact ih0 _ _ _
      | exact ih1 _ _ _ _
      | exact ferruleref01_TakeNum.mono _ _
      | exact ferruleref01_TakeText.mono _ _
      | exact ferruleref11_Right.mono _ _
      | exact LeO.none _
      | refine LeO.ite ?_ ?_
      | refine LeO.bind ?_ (fun _ => ?_)
    · intro y0 y1 y2 y3
      unfold ferruleref11_Take.l0
      repeat' first
      | (with_reducible exact ih0 _ _ _)
      | (with_reducible exact ih1 _ _ _ _)
      | (with_reducible exact ferruleref01_TakeNum.mono _ _)
      | (with_reducible exact ferruleref01_TakeText.mono _ _)
      | (with_reducible exact ferruleref11_Right.mono _ _)
      | (with_reducible exact LeO.refl _)
      | (with_reducible exact LeO.none _)
      | (with_reducible refine LeO.ite ?_ ?_)
      | (with_reducible refine LeO.bind ?_ (fun _ => ?_))
      | exact ih0 _ _ _
      | exact ih1 _ _ _ _
      | exact ferruleref01_TakeNum.mono _ _
      | exact ferruleref01_TakeText.mono _ _
      | exact ferruleref11_Right.mono _ _
      | exact LeO.none _
      | refine LeO.ite ?_ ?_
      | refine LeO.bind ?_ (fun _ => ?_)
theorem ferruleref11_Take.mono : ∀ a0 k, LeO (ferruleref11_Take.f k a0) (ferruleref11_Take.f (k + 1) a0) := by
  intro a0 k
  obtain ⟨ih0, ih1⟩ := ferruleref11_Take.mono_l k
  unfold ferruleref11_Take.f
  repeat' first
      | (with_reducible exact ih0 _ _ _)
      | (with_reducible exact ih1 _ _ _ _)
      | (with_reducible exact ferruleref01_TakeNum.mono _ _)
      | (with_reducible exact ferruleref01_TakeText.mono _ _)
      | (with_reducible exact ferruleref11_Right.mono _ _)
      | (with_reducible exact LeO.refl _)
      | (with_reducible exact LeO.none _)
      | (with_reducible refine LeO.ite ?_ ?_)
      | (with_reducible refine LeO.bind ?_ (fun _ => ?_))
      | exact ih0 _ _ _
      | exact ih1 _ _ _ _
      | exact ferruleref01_TakeNum.mono _ _
      | exact ferruleref01_TakeText.mono _ _
      | exact ferruleref11_Right.mono _ _
      | exact LeO.none _
      | refine LeO.ite ?_ ?_
      | refine LeO.bind ?_ (fun _ => ?_)
set_option maxHeartbeats 8000000 in
set_option maxRecDepth 100000 in
theorem ferruleref11_Take.calls (k : Nat) (a0 : ByteArray) (r1 : List (S64)) (r2 : ByteArray) (r3 : Int) (w : World) (h : ferruleref11_Take.f k a0 = some (r1, r2, r3)) :
    Calls Try.prog 45 #[.string a0] w fun e w' => ∃ v0_ : Value, e = .returned (.tuple #[v0_, .string r2, .int .i64 r3]) ∧ Kd.R k64 64 w' w.heap.size (fun _ => True) v0_ r1 ∧ Below w.heap.size w w' := by
  have hu64 := Try.underlying64
  have HB := Aside0.mk (Below.refl w.heap.size w)
  have H : ((ferruleref01_TakeNum.f k a0).bind fun bt435 => (if bt435.2.2 = 0 then (ferruleref11_Take.j0 k bt435.1 bt435.2.1 (decide (bt435.1 > 32))) else (ferruleref11_Take.j0 k bt435.1 bt435.2.1 true))) = some (r1, r2, r3) := h
  clear h
  replace H := Option.bind_eq_some_iff.mp H
  obtain ⟨⟨t435, t436, t437⟩, A20, H⟩ := H
  replace H : (if t437 = 0 then (ferruleref11_Take.j0 k t435 t436 (decide (t435 > 32))) else (ferruleref11_Take.j0 k t435 t436 true)) = some (r1, r2, r3) := H
  have A2 := Aside0.mk A20
  clear A20
  have HC3 := Aside0.mk H
  clear H
  go_enter Try.func45, Try.ntmps45
  go_upto_region 2 with (first | ((with_reducible refine gate_callee (f := 72) rfl ?_); refine goesL_ (some 22) rfl rfl Try.func72 (by kernel_rfl) rfl #[.string a0] rfl (by (try simp only [List.map_toArray, List.map_cons, List.map_nil]); first | done | rfl | (simp only [List.length_drop, List.length_take]; rfl)) ?_; (with_reducible refine (ferruleref01_TakeNum.calls k a0 t435 t436 t437 _ A2.out).mono ?_); rintro e w' ⟨rfl, ⟨nd, rfl⟩⟩; refine ⟨_, rfl, ?_⟩))
  (try simp only [Act.put, List.setIfInBounds_toArray, List.set_cons_zero, List.set_cons_succ])
  go_cut [31] (fun v31 wc => ∃ (kq : Nat) (x31_2 : Bool), v31 = .bool x31_2 ∧ Aside0 (ferruleref11_Take.j0 kq t435 t436 x31_2 = some (r1, r2, r3)) ∧ Aside0 (kq ≤ k) ∧ Aside0 (Below w.heap.size w wc))
  case first =>
    have H := HC3.out
    clear HC3
    by_cases c4 : t437 = 0
    · rw [if_pos c4] at H
      have c4b0 : (t437 == 0) = true := beq_iff_eq.mpr c4
      have c4b1 : (t437 != 0) = false := bne_eq_false_iff_eq.mpr c4
      clear c4
      (first | rw [c4b0] | (simp only [i64_w, i32_w]; rw [c4b0]) | skip)
      have H' := Aside0.mk H
      clear H
      go_wp2
      go_meet
      case rel => exact ⟨_, (decide (t435 > 32)), (by first | rfl | (simp; done) | (simp [*]; done)), H', ⟨by first | omega | exact Nat.le_refl _⟩, ⟨by repeat (first | (with_reducible first | exact HB.out | apply below_alloc | apply pw_below_drewN | apply below_drew1) | exact HB.out)⟩⟩
    · rw [if_neg c4] at H
      have c4b0 : (t437 == 0) = false := beq_eq_false_iff_ne.mpr c4
      have c4b1 : (t437 != 0) = true := bne_iff_ne.mpr c4
      (first | rw [c4b0] | (simp only [i64_w, i32_w]; rw [c4b0]) | skip)
      have H' := Aside0.mk H
      clear H
      go_wp2
      go_meet
      case rel => exact ⟨_, (true), (by first | rfl | (simp; done) | (simp [*]; done)), H', ⟨by first | omega | exact Nat.le_refl _⟩, ⟨by repeat (first | (with_reducible first | exact HB.out | apply below_alloc | apply pw_below_drewN | apply below_drew1) | exact HB.out)⟩⟩
  case rest =>
    clear HC3
    try clear p2
    try clear c4
    try clear c4b0
    try clear c4b1
    obtain ⟨kq, x31_2, rfl, HA, HJ2, HB⟩ := hcut
    cases kq with
    | zero => exact absurd HA.out (by simp [ferruleref11_Take.j0])
    | succ kj2 =>
      have H := HA.out
      clear HA
      simp only [ferruleref11_Take.j0] at H
      by_cases c5 : x31_2 = true
      · subst c5
        have H1 : (some (([] : List (S64)), (⟨#[]⟩ : ByteArray), 3)) = some (r1, r2, r3) := by rw [if_pos rfl] at H; exact H
        clear H
        have H := H1
        clear H1
        simp only [Option.some.injEq, Prod.mk.injEq] at H
        obtain ⟨rfl, rfl, rfl⟩ := H
        go_wp2
        go_ret3
        exact ⟨_, by first | rfl | (simp [errW_none, errW_some] <;> rfl) | (simp [*, errW_none, errW_some] <;> rfl), by first | exact Kd.R_nil _ _ _ _ _ | exact Kd.N_nil _ _ _ _ _ | exact Kd.V_nil _ _ _ _ _ | exact Kd.Q_nil _ _ _ _ _ | exact Kd.S_nil _ _ _ _ _, by repeat (first | (with_reducible first | exact HB.out | apply below_alloc | apply pw_below_drewN | apply below_drew1) | exact HB.out)⟩
      · replace c5 := Bool.eq_false_iff.mpr c5
        subst c5
        have H1 : (ferruleref11_Take.l0 kj2 t435 t436 ([] : List (S64)) 0) = some (r1, r2, r3) := by rw [if_neg (show ¬ (false = true) by decide)] at H; exact H
        clear H
        have H := H1
        clear H1
        have H' := Aside0.mk H
        clear H
        go_wp2
        go_loopg [6, 8, 9] kj2 (fun kq v6 v8 v9 w' => ∃ (x6_2 : ByteArray) (x8_2 : List (S64)) (x9_2 : Int), v6 = .string x6_2 ∧ v9 = .int .u64 x9_2 ∧ Aside0 (ferruleref11_Take.l0 kq t435 x6_2 x8_2 x9_2 = some (r1, r2, r3)) ∧ Aside0 (kq ≤ kj2) ∧ Aside0 (Kd.R k64 64 w' w.heap.size (fun _ => True) v8 x8_2) ∧ Aside0 (Below w.heap.size w w'))
        case atStart => exact ⟨(t436), (([] : List (S64))), (0), (by first | rfl | (simp; done) | (simp [*]; done)), (by first | rfl | (simp; done) | (simp [*]; done)), H', ⟨Nat.le_refl _⟩, ⟨by first | exact Kd.R_nil _ _ _ _ _ | exact Kd.N_nil _ _ _ _ _ | exact Kd.V_nil _ _ _ _ _ | exact Kd.Q_nil _ _ _ _ _ | exact Kd.S_nil _ _ _ _ _⟩, ⟨by repeat (first | (with_reducible first | exact HB.out | apply below_alloc | apply pw_below_drewN | apply below_drew1) | exact HB.out)⟩⟩
        case round =>
          clear H'
          try clear p2
          try clear c4
          try clear c4b0
          try clear c4b1
          try clear c5
          try clear p2
          obtain ⟨x6_2, x8_2, x9_2, rfl, rfl, HA, HK2, HO_8, HB⟩ := hrel
          cases gk with
          | zero => exact absurd HA.out (by simp [ferruleref11_Take.l0])
          | succ k2 =>
            have H := HA.out
            clear HA
            simp only [ferruleref11_Take.l0] at H
            by_cases c6 : x9_2 < t435
            · rw [if_pos c6] at H
              have c6b0 : decide (x9_2 < t435) = true := decide_eq_true c6
              clear c6
              replace H := Option.bind_eq_some_iff.mp H
              obtain ⟨⟨t439, t440, t441⟩, A70, H⟩ := H
              replace H : ((ferruleref01_TakeText.f k2 t440).bind fun bt442 => ((ferruleref01_TakeNum.f k2 bt442.2.1).bind fun bt445 => (if t441 = 0 then (if bt442.2.2 = 0 then (if bt445.2.2 = 0 then (if x8_2.length < 3518437208883 then (ferruleref11_Take.l0 k2 t435 bt445.2.1 (x8_2 ++ [(⟨t439, bt442.1, bt445.1⟩ : S64)]) (IntKind.u64.wrap (x9_2 + 1))) else (none)) else (some (([] : List (S64)), (⟨#[]⟩ : ByteArray), 3))) else (some (([] : List (S64)), (⟨#[]⟩ : ByteArray), 3))) else (some (([] : List (S64)), (⟨#[]⟩ : ByteArray), 3))))) = some (r1, r2, r3) := H
              have A7 := Aside0.mk A70
              clear A70
              replace H := Option.bind_eq_some_iff.mp H
              obtain ⟨⟨t442, t443, t444⟩, A80, H⟩ := H
              replace H : ((ferruleref01_TakeNum.f k2 t443).bind fun bt445 => (if t441 = 0 then (if t444 = 0 then (if bt445.2.2 = 0 then (if x8_2.length < 3518437208883 then (ferruleref11_Take.l0 k2 t435 bt445.2.1 (x8_2 ++ [(⟨t439, t442, bt445.1⟩ : S64)]) (IntKind.u64.wrap (x9_2 + 1))) else (none)) else (some (([] : List (S64)), (⟨#[]⟩ : ByteArray), 3))) else (some (([] : List (S64)), (⟨#[]⟩ : ByteArray), 3))) else (some (([] : List (S64)), (⟨#[]⟩ : ByteArray), 3)))) = some (r1, r2, r3) := H
              have A8 := Aside0.mk A80
              clear A80
              replace H := Option.bind_eq_some_iff.mp H
              obtain ⟨⟨t445, t446, t447⟩, A90, H⟩ := H
              replace H : (if t441 = 0 then (if t444 = 0 then (if t447 = 0 then (if x8_2.length < 3518437208883 then (ferruleref11_Take.l0 k2 t435 t446 (x8_2 ++ [(⟨t439, t442, t445⟩ : S64)]) (IntKind.u64.wrap (x9_2 + 1))) else (none)) else (some (([] : List (S64)), (⟨#[]⟩ : ByteArray), 3))) else (some (([] : List (S64)), (⟨#[]⟩ : ByteArray), 3))) else (some (([] : List (S64)), (⟨#[]⟩ : ByteArray), 3))) = some (r1, r2, r3) := H
              have A9 := Aside0.mk A90
              clear A90
              by_cases c10 : t441 = 0
              · rw [if_pos c10] at H
                have c10b0 : (t441 == 0) = true := beq_iff_eq.mpr c10
                have c10b1 : (t441 != 0) = false := bne_eq_false_iff_eq.mpr c10
                clear c10
                by_cases c11 : t444 = 0
                · rw [if_pos c11] at H
                  have c11b0 : (t444 == 0) = true := beq_iff_eq.mpr c11
                  have c11b1 : (t444 != 0) = false := bne_eq_false_iff_eq.mpr c11
                  clear c11
                  by_cases c12 : t447 = 0
                  · rw [if_pos c12] at H
                    have c12b0 : (t447 == 0) = true := beq_iff_eq.mpr c12
                    have c12b1 : (t447 != 0) = false := bne_eq_false_iff_eq.mpr c12
                    clear c12
                    by_cases c13 : x8_2.length < 3518437208883
                    · rw [if_pos c13] at H
                      have LMc13 := Aside0.mk c13
                      clear c13
                      obtain ⟨y448, hy448⟩ : ∃ y_ : List (S64), y_ = (x8_2 ++ [(⟨t439, t442, t445⟩ : S64)]) := ⟨_, rfl⟩
                      replace H : (ferruleref11_Take.l0 k2 t435 t446 y448 (IntKind.u64.wrap (x9_2 + 1))) = some (r1, r2, r3) := by first | (rw [hy448]; with_reducible exact H) | (have H2_ := (Option.bind_some _ _).symm.trans H; rw [hy448]; with_reducible exact H2_) | (have H2_ := (Option.bind_some _ _).symm.trans H; with_reducible exact H2_) | with_reducible exact H | (rw [hy448]; exact H) | exact H
                      have Ny448 := Aside0.mk hy448
                      clear hy448
                      have H' := Aside0.mk H
                      clear H
                      go_wp2_with (first | ((with_reducible refine gate_callee (f := 73) rfl ?_); refine goesL_ (some 39) rfl rfl Try.func73 (by kernel_rfl) rfl #[.string x6_2] rfl (by (try simp only [List.map_toArray, List.map_cons, List.map_nil]); first | done | rfl | (simp only [List.length_drop, List.length_take]; rfl)) ?_; (with_reducible refine (ferruleref01_TakeText.calls k2 x6_2 t439 t440 t441 _ A7.out).mono ?_); rintro e w' ⟨rfl, ⟨nd, rfl⟩⟩; refine ⟨_, rfl, ?_⟩) | ((with_reducible refine gate_callee (f := 73) rfl ?_); refine goesL_ (some 45) rfl rfl Try.func73 (by kernel_rfl) rfl #[.string t440] rfl (by (try simp only [List.map_toArray, List.map_cons, List.map_nil]); first | done | rfl | (simp only [List.length_drop, List.length_take]; rfl)) ?_; (with_reducible refine (ferruleref01_TakeText.calls k2 t440 t442 t443 t444 _ A8.out).mono ?_); rintro e w' ⟨rfl, ⟨nd, rfl⟩⟩; refine ⟨_, rfl, ?_⟩) | ((with_reducible refine gate_callee (f := 72) rfl ?_); refine goesL_ (some 51) rfl rfl Try.func72 (by kernel_rfl) rfl #[.string t443] rfl (by (try simp only [List.map_toArray, List.map_cons, List.map_nil]); first | done | rfl | (simp only [List.length_drop, List.length_take]; rfl)) ?_; (with_reducible refine (ferruleref01_TakeNum.calls k2 t443 t445 t446 t447 _ A9.out).mono ?_); rintro e w' ⟨rfl, ⟨nd, rfl⟩⟩; refine ⟨_, rfl, ?_⟩) | ((with_reducible refine gate_builtin (b := .append) (xs := #[.tmp 65, .tmp 70]) rfl ?_); at_builtin; refine Kd.R_append k64 (w0 := w) w.heap.size rfl (.tmp 65) (.tmp 70) 50 64 (.agg #[(.string ⟨#[]⟩), (.string ⟨#[]⟩), (.int .u64 0)]) 40 rfl Try.underlying50 info64 rfl (by decide) (by omega) u8 x8_2 (⟨t439, t442, t445⟩ : S64) [.string t439, .string t442, .int .u64 t445] (fun _ => True) (fun _ => False) rfl rfl ?aP (fun _ hk => hk.elim) ?aF ?aO ?aB ?aS ?aL ?_; (case aP => exact k64_mkM _ _ _ (⟨t439, t442, t445⟩ : S64)); (case aB => exact (by repeat (first | (with_reducible first | exact HB.out | apply below_alloc | apply pw_below_drewN | apply below_drew1) | exact HB.out))); (case aF => exact (fun _ _ => trivial)); (case aO => exact (by (with_reducible repeat (first | apply Kd.R_alloc | apply Kd.R_drewN | apply Kd.R_drew)); exact HO_8.out)); (case aS => exact (below_size (by repeat (first | (with_reducible first | exact HB.out | apply below_alloc | apply pw_below_drewN | apply below_drew1) | exact HB.out)))); (case aL => have := LMc13.out; omega); intro v449 w14 ho hb hg hat; rw [← Ny448.out] at ho; have n0_ := Aside0.mk (hb); have n1_ := Aside0.mk (ho); clear HB; clear HO_8; have HB := n0_; have HO450 := n1_; clear n0_ n1_; clear ho hb hg hat))
                      go_roundg k2
                      case measure => have := HJ2.out; have := HK2.out; omega
                      case rel => exact ⟨(t446), (y448), (IntKind.u64.wrap (x9_2 + 1)), (by first | rfl | (simp; done) | (simp [*]; done)), (by first | rfl | (simp; done) | (simp [*]; done)), H', ⟨by have := HJ2.out; have := HK2.out; omega⟩, ⟨by (with_reducible repeat (first | apply Kd.R_alloc | apply Kd.R_drewN | apply Kd.R_drew)); exact HO450.out⟩, ⟨by repeat (first | (with_reducible first | exact HB.out | apply below_alloc | apply pw_below_drewN | apply below_drew1) | exact HB.out)⟩⟩
                    · rw [if_neg c13] at H
                      exact absurd H (by simp)
                  · rw [if_neg c12] at H
                    have c12b0 : (t447 == 0) = false := beq_eq_false_iff_ne.mpr c12
                    have c12b1 : (t447 != 0) = true := bne_iff_ne.mpr c12
                    simp only [Option.some.injEq, Prod.mk.injEq] at H
                    obtain ⟨rfl, rfl, rfl⟩ := H
                    go_wp2_with (first | ((with_reducible refine gate_callee (f := 73) rfl ?_); refine goesL_ (some 39) rfl rfl Try.func73 (by kernel_rfl) rfl #[.string x6_2] rfl (by (try simp only [List.map_toArray, List.map_cons, List.map_nil]); first | done | rfl | (simp only [List.length_drop, List.length_take]; rfl)) ?_; (with_reducible refine (ferruleref01_TakeText.calls k2 x6_2 t439 t440 t441 _ A7.out).mono ?_); rintro e w' ⟨rfl, ⟨nd, rfl⟩⟩; refine ⟨_, rfl, ?_⟩) | ((with_reducible refine gate_callee (f := 73) rfl ?_); refine goesL_ (some 45) rfl rfl Try.func73 (by kernel_rfl) rfl #[.string t440] rfl (by (try simp only [List.map_toArray, List.map_cons, List.map_nil]); first | done | rfl | (simp only [List.length_drop, List.length_take]; rfl)) ?_; (with_reducible refine (ferruleref01_TakeText.calls k2 t440 t442 t443 t444 _ A8.out).mono ?_); rintro e w' ⟨rfl, ⟨nd, rfl⟩⟩; refine ⟨_, rfl, ?_⟩) | ((with_reducible refine gate_callee (f := 72) rfl ?_); refine goesL_ (some 51) rfl rfl Try.func72 (by kernel_rfl) rfl #[.string t443] rfl (by (try simp only [List.map_toArray, List.map_cons, List.map_nil]); first | done | rfl | (simp only [List.length_drop, List.length_take]; rfl)) ?_; (with_reducible refine (ferruleref01_TakeNum.calls k2 t443 t445 t446 t447 _ A9.out).mono ?_); rintro e w' ⟨rfl, ⟨nd, rfl⟩⟩; refine ⟨_, rfl, ?_⟩))
                    go_ret3
                    exact ⟨_, by first | rfl | (simp [errW_none, errW_some] <;> rfl) | (simp [*, errW_none, errW_some] <;> rfl), by first | exact Kd.R_nil _ _ _ _ _ | exact Kd.N_nil _ _ _ _ _ | exact Kd.V_nil _ _ _ _ _ | exact Kd.Q_nil _ _ _ _ _ | exact Kd.S_nil _ _ _ _ _, by repeat (first | (with_reducible first | exact HB.out | apply below_alloc | apply pw_below_drewN | apply below_drew1) | exact HB.out)⟩
                · rw [if_neg c11] at H
                  have c11b0 : (t444 == 0) = false := beq_eq_false_iff_ne.mpr c11
                  have c11b1 : (t444 != 0) = true := bne_iff_ne.mpr c11
                  simp only [Option.some.injEq, Prod.mk.injEq] at H
                  obtain ⟨rfl, rfl, rfl⟩ := H
                  go_wp2_with (first | ((with_reducible refine gate_callee (f := 73) rfl ?_); refine goesL_ (some 39) rfl rfl Try.func73 (by kernel_rfl) rfl #[.string x6_2] rfl (by (try simp only [List.map_toArray, List.map_cons, List.map_nil]); first | done | rfl | (simp only [List.length_drop, List.length_take]; rfl)) ?_; (with_reducible refine (ferruleref01_TakeText.calls k2 x6_2 t439 t440 t441 _ A7.out).mono ?_); rintro e w' ⟨rfl, ⟨nd, rfl⟩⟩; refine ⟨_, rfl, ?_⟩) | ((with_reducible refine gate_callee (f := 73) rfl ?_); refine goesL_ (some 45) rfl rfl Try.func73 (by kernel_rfl) rfl #[.string t440] rfl (by (try simp only [List.map_toArray, List.map_cons, List.map_nil]); first | done | rfl | (simp only [List.length_drop, List.length_take]; rfl)) ?_; (with_reducible refine (ferruleref01_TakeText.calls k2 t440 t442 t443 t444 _ A8.out).mono ?_); rintro e w' ⟨rfl, ⟨nd, rfl⟩⟩; refine ⟨_, rfl, ?_⟩) | ((with_reducible refine gate_callee (f := 72) rfl ?_); refine goesL_ (some 51) rfl rfl Try.func72 (by kernel_rfl) rfl #[.string t443] rfl (by (try simp only [List.map_toArray, List.map_cons, List.map_nil]); first | done | rfl | (simp only [List.length_drop, List.length_take]; rfl)) ?_; (with_reducible refine (ferruleref01_TakeNum.calls k2 t443 t445 t446 t447 _ A9.out).mono ?_); rintro e w' ⟨rfl, ⟨nd, rfl⟩⟩; refine ⟨_, rfl, ?_⟩))
                  go_ret3
                  exact ⟨_, by first | rfl | (simp [errW_none, errW_some] <;> rfl) | (simp [*, errW_none, errW_some] <;> rfl), by first | exact Kd.R_nil _ _ _ _ _ | exact Kd.N_nil _ _ _ _ _ | exact Kd.V_nil _ _ _ _ _ | exact Kd.Q_nil _ _ _ _ _ | exact Kd.S_nil _ _ _ _ _, by repeat (first | (with_reducible first | exact HB.out | apply below_alloc | apply pw_below_drewN | apply below_drew1) | exact HB.out)⟩
              · rw [if_neg c10] at H
                have c10b0 : (t441 == 0) = false := beq_eq_false_iff_ne.mpr c10
                have c10b1 : (t441 != 0) = true := bne_iff_ne.mpr c10
                simp only [Option.some.injEq, Prod.mk.injEq] at H
                obtain ⟨rfl, rfl, rfl⟩ := H
                go_wp2_with (first | ((with_reducible refine gate_callee (f := 73) rfl ?_); refine goesL_ (some 39) rfl rfl Try.func73 (by kernel_rfl) rfl #[.string x6_2] rfl (by (try simp only [List.map_toArray, List.map_cons, List.map_nil]); first | done | rfl | (simp only [List.length_drop, List.length_take]; rfl)) ?_; (with_reducible refine (ferruleref01_TakeText.calls k2 x6_2 t439 t440 t441 _ A7.out).mono ?_); rintro e w' ⟨rfl, ⟨nd, rfl⟩⟩; refine ⟨_, rfl, ?_⟩) | ((with_reducible refine gate_callee (f := 73) rfl ?_); refine goesL_ (some 45) rfl rfl Try.func73 (by kernel_rfl) rfl #[.string t440] rfl (by (try simp only [List.map_toArray, List.map_cons, List.map_nil]); first | done | rfl | (simp only [List.length_drop, List.length_take]; rfl)) ?_; (with_reducible refine (ferruleref01_TakeText.calls k2 t440 t442 t443 t444 _ A8.out).mono ?_); rintro e w' ⟨rfl, ⟨nd, rfl⟩⟩; refine ⟨_, rfl, ?_⟩) | ((with_reducible refine gate_callee (f := 72) rfl ?_); refine goesL_ (some 51) rfl rfl Try.func72 (by kernel_rfl) rfl #[.string t443] rfl (by (try simp only [List.map_toArray, List.map_cons, List.map_nil]); first | done | rfl | (simp only [List.length_drop, List.length_take]; rfl)) ?_; (with_reducible refine (ferruleref01_TakeNum.calls k2 t443 t445 t446 t447 _ A9.out).mono ?_); rintro e w' ⟨rfl, ⟨nd, rfl⟩⟩; refine ⟨_, rfl, ?_⟩))
                go_ret3
                exact ⟨_, by first | rfl | (simp [errW_none, errW_some] <;> rfl) | (simp [*, errW_none, errW_some] <;> rfl), by first | exact Kd.R_nil _ _ _ _ _ | exact Kd.N_nil _ _ _ _ _ | exact Kd.V_nil _ _ _ _ _ | exact Kd.Q_nil _ _ _ _ _ | exact Kd.S_nil _ _ _ _ _, by repeat (first | (with_reducible first | exact HB.out | apply below_alloc | apply pw_below_drewN | apply below_drew1) | exact HB.out)⟩
            · rw [if_neg c6] at H
              have c6b0 : decide (x9_2 < t435) = false := decide_eq_false c6
              clear c6
              replace H := Option.bind_eq_some_iff.mp H
              obtain ⟨t438, A150, H⟩ := H
              replace H : (if t438 = true then (some (x8_2, x6_2, 0)) else (some (([] : List (S64)), (⟨#[]⟩ : ByteArray), 3))) = some (r1, r2, r3) := H
              have A15 := Aside0.mk A150
              clear A150
              by_cases c16 : t438 = true
              · subst c16
                have H1 : (some (x8_2, x6_2, 0)) = some (r1, r2, r3) := by rw [if_pos rfl] at H; exact H
                clear H
                have H := H1
                clear H1
                simp only [Option.some.injEq, Prod.mk.injEq] at H
                obtain ⟨rfl, rfl, rfl⟩ := H
                obtain ⟨Ao17, co17, eo17⟩ := Kd.R_slice HO_8.out
                subst eo17
                go_wp2_with (first | ((with_reducible refine gate_callee (f := 41) rfl ?_); refine goesL_ (some 74) rfl rfl Try.func41 (by kernel_rfl) rfl #[.slice Ao17 x8_2.length co17] rfl (by (try simp only [List.map_toArray, List.map_cons, List.map_nil]); first | done | rfl | (simp only [List.length_drop, List.length_take]; rfl)) ?_; (with_reducible refine (ferruleref11_Right.calls k2 _ _ x8_2 true _ ?side1 ?side2 A15.out).mono ?_); (case side1 => repeat (first | exact (Kd.R_reads' HO_8.out).2.2 | (with_reducible refine Kd.C_alloc ?_ _) | (with_reducible refine Kd.C_drewN ?_ _) | (with_reducible refine Kd.C_drew ?_))); (case side2 => exact (Kd.R_reads' HO_8.out).2.1); rintro e w18 ⟨rfl, hb⟩; refine ⟨_, rfl, ?_⟩; have n0_ := Aside0.mk (Kd.R_below (by (with_reducible repeat (first | apply Kd.R_alloc | apply Kd.R_drewN | apply Kd.R_drew)); exact HO_8.out) hb); have n1_ := Aside0.mk (below_step (by repeat (first | (with_reducible first | exact HB.out | apply below_alloc | apply pw_below_drewN | apply below_drew1) | exact HB.out)) hb); clear HO_8; clear HB; have HO_8 := n0_; have HB := n1_; clear n0_ n1_; (try clear hb); (try clear hb2); (try clear hk); (try clear hi)))
                go_ret3
                exact ⟨_, by first | rfl | (simp [errW_none, errW_some] <;> rfl) | (simp [*, errW_none, errW_some] <;> rfl), by (with_reducible repeat (first | apply Kd.R_alloc | apply Kd.R_drewN | apply Kd.R_drew)); exact HO_8.out, by repeat (first | (with_reducible first | exact HB.out | apply below_alloc | apply pw_below_drewN | apply below_drew1) | exact HB.out)⟩
              · replace c16 := Bool.eq_false_iff.mpr c16
                subst c16
                have H1 : (some (([] : List (S64)), (⟨#[]⟩ : ByteArray), 3)) = some (r1, r2, r3) := by rw [if_neg (show ¬ (false = true) by decide)] at H; exact H
                clear H
                have H := H1
                clear H1
                simp only [Option.some.injEq, Prod.mk.injEq] at H
                obtain ⟨rfl, rfl, rfl⟩ := H
                obtain ⟨Ao19, co19, eo19⟩ := Kd.R_slice HO_8.out
                subst eo19
                go_wp2_with (first | ((with_reducible refine gate_callee (f := 41) rfl ?_); refine goesL_ (some 74) rfl rfl Try.func41 (by kernel_rfl) rfl #[.slice Ao19 x8_2.length co19] rfl (by (try simp only [List.map_toArray, List.map_cons, List.map_nil]); first | done | rfl | (simp only [List.length_drop, List.length_take]; rfl)) ?_; (with_reducible refine (ferruleref11_Right.calls k2 _ _ x8_2 false _ ?side1 ?side2 A15.out).mono ?_); (case side1 => repeat (first | exact (Kd.R_reads' HO_8.out).2.2 | (with_reducible refine Kd.C_alloc ?_ _) | (with_reducible refine Kd.C_drewN ?_ _) | (with_reducible refine Kd.C_drew ?_))); (case side2 => exact (Kd.R_reads' HO_8.out).2.1); rintro e w20 ⟨rfl, hb⟩; refine ⟨_, rfl, ?_⟩; have n0_ := Aside0.mk (Kd.R_below (by (with_reducible repeat (first | apply Kd.R_alloc | apply Kd.R_drewN | apply Kd.R_drew)); exact HO_8.out) hb); have n1_ := Aside0.mk (below_step (by repeat (first | (with_reducible first | exact HB.out | apply below_alloc | apply pw_below_drewN | apply below_drew1) | exact HB.out)) hb); clear HO_8; clear HB; have HO_8 := n0_; have HB := n1_; clear n0_ n1_; (try clear hb); (try clear hb2); (try clear hk); (try clear hi)))
                go_ret3
                exact ⟨_, by first | rfl | (simp [errW_none, errW_some] <;> rfl) | (simp [*, errW_none, errW_some] <;> rfl), by first | exact Kd.R_nil _ _ _ _ _ | exact Kd.N_nil _ _ _ _ _ | exact Kd.V_nil _ _ _ _ _ | exact Kd.Q_nil _ _ _ _ _ | exact Kd.S_nil _ _ _ _ _, by repeat (first | (with_reducible first | exact HB.out | apply below_alloc | apply pw_below_drewN | apply below_drew1) | exact HB.out)⟩

end Go.Proofs.Ythfkbfahpgdnfaa.PAll
end
