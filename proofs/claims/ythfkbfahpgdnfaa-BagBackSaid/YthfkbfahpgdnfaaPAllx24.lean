-- Printed by this session's pr.sh (the kit's print.py, several laws in one namespace). Not trusted: Lean checks it.
import Derived.Test.YthfkbfahpgdnfaaPAllx0
import Derived.Test.YthfkbfahpgdnfaaPAllx19
namespace Go.Proofs.Ythfkbfahpgdnfaa.PAll
open Go.RowKit Go.Proofs.YthfkbfahpgdnfaaW.PrintWords Go.Proofs.YthfkbfahpgdnfaaW.PrintLast Go.Proofs.YthfkbfahpgdnfaaW.PrintMore
attribute [local go_sem] max2_int min2_int max_two min_two max_three min_three max_four min_four   -- for this text's walks alone
set_option linter.unusedVariables false
set_option linter.unusedSimpArgs false

/-! ### ferruleref18_Copy: function 26 -/
def ferruleref18_Copy.f (k : Nat) (l0 : List (S79)) (a1 : Int) : Option ((List (S79)) × Int) := (ferruleref18_place.f k l0 a1).bind fun t174 => (if t174 < 0 then (some (l0, 7)) else ((some (([] : List (S79)) : List (S79))).bind fun y175 => (if y175.length + l0.length < 5864062014805 then ((some (y175 ++ l0 : List (S79))).bind fun y178 => (if 0 ≤ t174 then (if t174 < (y178.length : Int) then (some ((y178.set (t174 : Int).toNat (⟨(rd_T79 y178 t174).f0, wrap64 (((rd_T79 y178 t174).f1) + 1)⟩ : S79)), 0)) else (none)) else (none))) else (none))))
theorem ferruleref18_Copy.mono : ∀ a0 a1 k, LeO (ferruleref18_Copy.f k a0 a1) (ferruleref18_Copy.f (k + 1) a0 a1) := by
  intro a0 a1 k
  unfold ferruleref18_Copy.f
  repeat' first
      | (with_reducible exact ferruleref18_place.mono _ _ _)
      | (with_reducible exact LeO.refl _)
      | (with_reducible exact LeO.none _)
      | (with_reducible refine LeO.ite ?_ ?_)
      | (with_reducible refine LeO.bind ?_ (fun _ => ?_))
      | exact ferruleref18_place.mono _ _ _
      | exact LeO.none _
      | refine LeO.ite ?_ ?_
      | refine LeO.bind ?_ (fun _ => ?_)
set_option maxHeartbeats 8000000 in
set_option maxRecDepth 100000 in
theorem ferruleref18_Copy.calls (k : Nat) (P0_ : Nat → Prop) (A0 : Option Addr) (c0 : Nat) (l0 : List (S79)) (a1 : Int) (r1 : List (S79)) (r2 : Int) (w : World) (hs0 : Kd.V k79 79 w w.heap.size (fun k_ => P0_ k_) (.slice A0 l0.length c0) l0) (h : ferruleref18_Copy.f k l0 a1 = some (r1, r2)) :
    Calls Try.prog 26 #[.slice A0 l0.length c0, .int .i64 a1] w fun e w' => ∃ v0_ : Value, e = .returned (.tuple #[v0_, .int .i64 r2]) ∧ Kd.V k79 79 w' w.heap.size (fun k_ => (P0_ k_ ∨ w.heap.size ≤ k_)) v0_ r1 ∧ Below w.heap.size w w' := by
  have HO0 := Aside0.mk (show Kd.V k79 79 w w.heap.size (fun k_ => (P0_ k_ ∨ w.heap.size ≤ k_)) (.slice A0 l0.length c0) l0 from Kd.V_mono hs0 (fun k_ hk => .inl hk))
  have HB := Aside0.mk (Below.refl w.heap.size w)
  have H : ((ferruleref18_place.f k l0 a1).bind fun t174 => (if t174 < 0 then (some (l0, 7)) else ((some (([] : List (S79)) : List (S79))).bind fun y175 => (if y175.length + l0.length < 5864062014805 then ((some (y175 ++ l0 : List (S79))).bind fun y178 => (if 0 ≤ t174 then (if t174 < (y178.length : Int) then (some ((y178.set (t174 : Int).toNat (⟨(rd_T79 y178 t174).f0, wrap64 (((rd_T79 y178 t174).f1) + 1)⟩ : S79)), 0)) else (none)) else (none))) else (none))))) = some (r1, r2) := h
  clear h
  replace H := Option.bind_eq_some_iff.mp H
  obtain ⟨t174, A30, H⟩ := H
  replace H : (if t174 < 0 then (some (l0, 7)) else ((some (([] : List (S79)) : List (S79))).bind fun y175 => (if y175.length + l0.length < 5864062014805 then ((some (y175 ++ l0 : List (S79))).bind fun y178 => (if 0 ≤ t174 then (if t174 < (y178.length : Int) then (some ((y178.set (t174 : Int).toNat (⟨(rd_T79 y178 t174).f0, wrap64 (((rd_T79 y178 t174).f1) + 1)⟩ : S79)), 0)) else (none)) else (none))) else (none)))) = some (r1, r2) := H
  have A3 := Aside0.mk A30
  clear A30
  by_cases c4 : t174 < 0
  · rw [if_pos c4] at H
    have c4b0 : decide (t174 < 0) = true := decide_eq_true c4
    clear c4
    simp only [Option.some.injEq, Prod.mk.injEq] at H
    obtain ⟨rfl, rfl⟩ := H
    go_enter Try.func26, Try.ntmps26
    go_wp2_with (first | ((with_reducible refine gate_callee (f := 48) rfl ?_); refine goesL_ (some 10) rfl rfl Try.func48 (by kernel_rfl) rfl #[.slice A0 l0.length c0, .int .i64 a1] rfl (by (try simp only [List.map_toArray, List.map_cons, List.map_nil]); first | done | rfl | (simp only [List.length_drop, List.length_take]; rfl)) ?_; (with_reducible refine (ferruleref18_place.calls k _ _ l0 a1 t174 _ ?side1 ?side2 A3.out).mono ?_); (case side1 => repeat (first | exact (Kd.V_reads' HO0.out).2.2 | (with_reducible refine Kd.C_alloc ?_ _) | (with_reducible refine Kd.C_drewN ?_ _) | (with_reducible refine Kd.C_drew ?_))); (case side2 => exact (Kd.V_reads' HO0.out).2.1); rintro e w' ⟨rfl, ⟨nd, rfl⟩⟩; refine ⟨_, rfl, ?_⟩))
    go_ret2
    exact ⟨_, by first | rfl | (simp [errW_none, errW_some] <;> rfl) | (simp [*, errW_none, errW_some] <;> rfl), by (with_reducible repeat (first | apply Kd.V_alloc | apply Kd.V_drewN | apply Kd.V_drew)); exact HO0.out, by repeat (first | (with_reducible first | exact HB.out | apply below_alloc | apply pw_below_drewN | apply below_drew1) | exact HB.out)⟩
  · rw [if_neg c4] at H
    have c4b0 : decide (t174 < 0) = false := decide_eq_false c4
    clear c4
    obtain ⟨y175, hy175⟩ : ∃ y_ : List (S79), y_ = (([] : List (S79))) := ⟨_, rfl⟩
    replace H : (if y175.length + l0.length < 5864062014805 then ((some (y175 ++ l0 : List (S79))).bind fun y178 => (if 0 ≤ t174 then (if t174 < (y178.length : Int) then (some ((y178.set (t174 : Int).toNat (⟨(rd_T79 y178 t174).f0, wrap64 (((rd_T79 y178 t174).f1) + 1)⟩ : S79)), 0)) else (none)) else (none))) else (none)) = some (r1, r2) := by first | (rw [hy175]; with_reducible exact H) | (have H2_ := (Option.bind_some _ _).symm.trans H; rw [hy175]; with_reducible exact H2_) | (have H2_ := (Option.bind_some _ _).symm.trans H; with_reducible exact H2_) | with_reducible exact H | (rw [hy175]; exact H) | exact H
    have Ny175 := Aside0.mk hy175
    clear hy175
    by_cases c5 : y175.length + l0.length < 5864062014805
    · rw [if_pos c5] at H
      have LMc5 := Aside0.mk c5
      clear c5
      obtain ⟨y178, hy178⟩ : ∃ y_ : List (S79), y_ = (y175 ++ l0) := ⟨_, rfl⟩
      replace H : (if 0 ≤ t174 then (if t174 < (y178.length : Int) then (some ((y178.set (t174 : Int).toNat (⟨(rd_T79 y178 t174).f0, wrap64 (((rd_T79 y178 t174).f1) + 1)⟩ : S79)), 0)) else (none)) else (none)) = some (r1, r2) := by first | (rw [hy178]; with_reducible exact H) | (have H2_ := (Option.bind_some _ _).symm.trans H; rw [hy178]; with_reducible exact H2_) | (have H2_ := (Option.bind_some _ _).symm.trans H; with_reducible exact H2_) | with_reducible exact H | (rw [hy178]; exact H) | exact H
      have Ny178 := Aside0.mk hy178
      clear hy178
      by_cases c6 : 0 ≤ t174
      · rw [if_pos c6] at H
        have c6b0 : decide (0 ≤ t174) = true := decide_eq_true c6
        clear c6
        by_cases c7 : t174 < (y178.length : Int)
        · rw [if_pos c7] at H
          have c7b0 : decide (t174 < (y178.length : Int)) = true := decide_eq_true c7
          clear c7
          obtain ⟨y182, hy182⟩ : ∃ y_ : List (S79), y_ = (y178.set (t174 : Int).toNat (⟨(rd_T79 y178 t174).f0, wrap64 (((rd_T79 y178 t174).f1) + 1)⟩ : S79)) := ⟨_, rfl⟩
          replace H : (some (y182, 0)) = some (r1, r2) := by first | (rw [hy182]; with_reducible exact H) | (have H2_ := (Option.bind_some _ _).symm.trans H; rw [hy182]; with_reducible exact H2_) | (have H2_ := (Option.bind_some _ _).symm.trans H; with_reducible exact H2_) | with_reducible exact H | (rw [hy182]; exact H) | exact H
          have Ny182 := Aside0.mk hy182
          clear hy182
          simp only [Option.some.injEq, Prod.mk.injEq] at H
          obtain ⟨rfl, rfl⟩ := H
          go_enter Try.func26, Try.ntmps26
          go_wp2_with (first | ((with_reducible refine gate_callee (f := 48) rfl ?_); refine goesL_ (some 10) rfl rfl Try.func48 (by kernel_rfl) rfl #[.slice A0 l0.length c0, .int .i64 a1] rfl (by (try simp only [List.map_toArray, List.map_cons, List.map_nil]); first | done | rfl | (simp only [List.length_drop, List.length_take]; rfl)) ?_; (with_reducible refine (ferruleref18_place.calls k _ _ l0 a1 t174 _ ?side1 ?side2 A3.out).mono ?_); (case side1 => repeat (first | exact (Kd.V_reads' HO0.out).2.2 | (with_reducible refine Kd.C_alloc ?_ _) | (with_reducible refine Kd.C_drewN ?_ _) | (with_reducible refine Kd.C_drew ?_))); (case side2 => exact (Kd.V_reads' HO0.out).2.1); rintro e w' ⟨rfl, ⟨nd, rfl⟩⟩; refine ⟨_, rfl, ?_⟩) | ((with_reducible refine gate_dst (N := 14) rfl ?_); refine Kd.R_lit k79 _ 79 ?hg (N := 14) ?hd (xs := ([] : List (S79))) (inner := []) (ok := fun _ => True) (okp := fun _ => True) ?hr ?hp (fun _ hk => hk) trivial (Below.refl _ _) (Nat.le_refl _) (by simp) ?_; (case hd => rfl); (case hg => rfl); (case hr => first | (go_simp; done) | (go_simp; rfl)); (case hp => exact (Reps.none _ _)); intro v176 w9 ho10 hb hg_ hnew_; clear hg_ hnew_; (first | rw [← Ny175.out] at ho10 | (simp only [Int.reduceToNat] at ho10; rw [← Ny175.out] at ho10)); have n0_ := Aside0.mk (Kd.V_elder' (by (with_reducible repeat (first | apply Kd.V_alloc | apply Kd.V_drewN | apply Kd.V_drew)); exact HO0.out) (Kd.R_base ho10) hb); have n1_ := Aside0.mk (Kd.R_lower (Kd.R_newM (M := fun k_ => (w.heap.size ≤ k_)) ho10 (below_size (by repeat (first | (with_reducible first | exact HB.out | apply below_alloc | apply pw_below_drewN | apply below_drew1) | exact HB.out))) (fun k_ h_ => h_)) (below_size (by repeat (first | (with_reducible first | exact HB.out | apply below_alloc | apply pw_below_drewN | apply below_drew1) | exact HB.out)))); have n2_ := Aside0.mk (below_step (by repeat (first | (with_reducible first | exact HB.out | apply below_alloc | apply pw_below_drewN | apply below_drew1) | exact HB.out)) hb); clear HO0; clear HB; have HO0 := n0_; have HO177 := n1_; have HB := n2_; clear n0_ n1_ n2_; clear hb ho10) | ((with_reducible refine gate_builtin (b := .append) (xs := #[.tmp 14, .tmp 15]) rfl ?_); at_builtin; refine Kd.R_append_rows k79 (w0 := w) w.heap.size rfl (.tmp 14) (.tmp 15) 22 79 (.agg #[(.string ⟨#[]⟩), (.int .i64 0)]) 24 rfl Try.underlying22 info79 rfl (by decide) (by omega) v176 y175 l0 _ _ _ (fun k_ => (w.heap.size ≤ k_)) (fun _ => False) rfl rfl ?aO ?aR (fun _ _ h => h) (fun _ h => h.elim) ?aF ?aB ?aS ?aL ?_; (case aR => repeat (first | exact (Kd.V_reads' HO0.out).2.2 | (with_reducible refine Kd.C_alloc ?_ _) | (with_reducible refine Kd.C_drewN ?_ _) | (with_reducible refine Kd.C_drew ?_))); (case aB => exact (by repeat (first | (with_reducible first | exact HB.out | apply below_alloc | apply pw_below_drewN | apply below_drew1) | exact HB.out))); (case aF => exact (fun k_ hk => (Nat.le_trans (below_size (by repeat (first | (with_reducible first | exact HB.out | apply below_alloc | apply pw_below_drewN | apply below_drew1) | exact HB.out))) hk))); (case aO => exact (by (with_reducible repeat (first | apply Kd.R_alloc | apply Kd.R_drewN | apply Kd.R_drew)); exact Kd.R_mono HO177.out (fun _ hk => hk.1))); (case aS => exact (below_size (by repeat (first | (with_reducible first | exact HB.out | apply below_alloc | apply pw_below_drewN | apply below_drew1) | exact HB.out)))); (case aL => have := LMc5.out; omega); intro v179 w11 ho hb hg hat; rw [← Ny178.out] at ho; have n0_ := Aside0.mk (Kd.V_afterv (ok := (fun k_ => (P0_ k_ ∨ w.heap.size ≤ k_))) (by (with_reducible repeat (first | apply Kd.V_alloc | apply Kd.V_drewN | apply Kd.V_drew)); exact HO0.out) hg hat); have n1_ := Aside0.mk (hb); have n2_ := Aside0.mk (ho); clear HO0; clear HB; clear HO177; have HO0 := n0_; have HB := n1_; have HO180 := n2_; clear n0_ n1_ n2_; clear ho hb hg hat; obtain ⟨Ao12, co12, eo12⟩ := Kd.R_slice HO180.out; subst eo12; have p181 : 0 ≤ (t174 : Int) := of_decide_eq_true (by first | (with_reducible assumption) | assumption); have q181 : t174 < (y178.length : Int) := of_decide_eq_true (by first | (with_reducible assumption) | assumption); obtain ⟨ad181, e181, hx181_0, hx181_1⟩ := at_T79 (Kd.R_reads' HO180.out).2.2 t174 p181 q181; cases e181; replace p181 := eq_true p181; replace q181 := eq_true q181; have p8 : 0 ≤ (t174 : Int) := of_decide_eq_true (by first | (with_reducible assumption) | assumption); have q8 : (t174 : Int) < ((y178.length : Int) : Int) := of_decide_eq_true (by first | (with_reducible assumption) | assumption); obtain ⟨go8, co8, eo8, gb8, gl8, cl8, HG8⟩ := Kd.R_form HO180.out (by omega); (first | cases eo8 | (injection eo8 with ea_ en_ ec_; (first | subst ea_ | (injection ea_ with ea_; subst ea_)); subst ec_; clear en_)); have GB8 := Aside0.mk gb8; have GG8 := Aside0.mk HG8; clear gb8 gl8 HG8; (first | simp only [add_plain] at hx181_0 | skip); (first | simp only [add_plain] at hx181_1 | skip); obtain ⟨ce8, hcl8, hM8, hcc8, hfr8⟩ := Kd.R_elem HO180.out z79 (t174 : Int) p8 q8; obtain rfl := k79_openM hM8; have hx8_0 : w11.cell? ⟨go8, (t174 : Int).toNat * 2, none⟩ = some (.string ((rd_T79 y178 t174).f0)) := hcc8 0 _ rfl; have hx8_1 : w11.cell? ⟨go8, (t174 : Int).toNat * 2 + 1, none⟩ = some (.int .i64 ((rd_T79 y178 t174).f1)) := hcc8 1 _ rfl; have hf8_0 : w11.frozen? ⟨go8, (t174 : Int).toNat * 2, none⟩ = false := hfr8 0; have hf8_1 : w11.frozen? ⟨go8, (t174 : Int).toNat * 2 + 1, none⟩ = false := hfr8 1; clear hcl8 hcc8 hfr8 hM8; replace p8 := eq_true p8; replace q8 := eq_true q8; have HX13 := Aside0.mk (show Kd.R k79 79 w11 w.heap.size (fun k_ => (w.heap.size ≤ k_)) (.slice (some ⟨go8, 0, none⟩) y178.length co12) y178 from (by (with_reducible repeat (first | apply Kd.R_alloc | apply Kd.R_drewN | apply Kd.R_drew)); exact HO180.out)); obtain ⟨ce13, hcl13, hM13, hcc13, hfr13⟩ := Kd.R_elem HX13.out z79 (t174 : Int) (of_decide_eq_true (by first | (with_reducible assumption) | assumption)) (by have h_ : (t174 : Int) < ((y178.length : Int) : Int) := of_decide_eq_true (by first | (with_reducible assumption) | assumption); first | exact h_ | (have e_ := (Kd.R_reads' HO180.out).1; omega) | simpa using h_); obtain rfl := k79_openM hM13; have HP13 := Kd.R_seg HX13.out (t174 : Int) (of_decide_eq_true (by first | (with_reducible assumption) | assumption)) (by have h_ : (t174 : Int) < ((y178.length : Int) : Int) := of_decide_eq_true (by first | (with_reducible assumption) | assumption); first | exact h_ | (have e_ := (Kd.R_reads' HO180.out).1; omega) | simpa using h_) (seg := [.int .i64 (wrap64 (((rd_T79 y178 t174).f1) + 1))]) (j := 1) hcl13 hcc13 (show 2 ≤ 2 from by decide) (x' := (⟨(rd_T79 y178 t174).f0, wrap64 (((rd_T79 y178 t174).f1) + 1)⟩ : S79)) (k79_mkM _ _ _ (⟨(rd_T79 y178 t174).f0, wrap64 (((rd_T79 y178 t174).f1) + 1)⟩ : S79) ) (fun _ hk => hk); have hx13_1 := hcc13 1 _ rfl; (try simp only [show (k79).sz = 2 from rfl, Nat.mul_one, Nat.add_zero] at hx13_1); have hf13_1 := hfr13 1; (try simp only [show (k79).sz = 2 from rfl, Nat.mul_one, Nat.add_zero] at hf13_1); clear hcl13 hcc13 hfr13 hM13) | ((with_reducible refine gate_store (t := 3) (p := 24) rfl ?_); refine store_event (t := 3) (p := 24) (v := ?vo_w14) (w1 := (w11.setCell ⟨go8, (t174 : Int).toNat * 2 + 1, none⟩ (.int .i64 (wrap64 (((rd_T79 y178 t174).f1) + 1))))) ?hg ?ho ?hn ?hr ?_; (case ho => rfl); (case hg => rfl); (case hn => rfl); (case hr => first | (go_simp; done) | (go_simp; rfl)); intro w14 hw; have hg : w11.grownBy w14 (some go8) := (by rw [hw]; exact HP13.2); have hp_ : Kd.R k79 79 w14 w.heap.size (fun k_ => (w.heap.size ≤ k_)) (.slice (some ⟨go8, 0, none⟩) y178.length co12) y182 := (by rw [hw, Ny182.out]; exact HP13.1); clear HP13; have n0_ := Aside0.mk (Kd.V_afterv (v := (.slice (some ⟨go8, 0, none⟩) y178.length co12)) (v1 := (.slice (some ⟨go8, 0, none⟩) y178.length co12)) (ok := (fun k_ => (P0_ k_ ∨ w.heap.size ≤ k_))) (by (with_reducible repeat (first | apply Kd.V_alloc | apply Kd.V_drewN | apply Kd.V_drew)); exact HO0.out) hg (.inl rfl)); have n1_ := Aside0.mk (hp_); have n2_ := Aside0.mk ((by rw [hw]; exact below_set (HB.out) GB8.out : Below w.heap.size w w14)); clear HO0; clear HO180; clear HB; have HO0 := n0_; have HO180 := n1_; have HB := n2_; clear n0_ n1_ n2_; clear hg hw hp_))
          go_ret2
          exact ⟨_, by first | rfl | (simp [errW_none, errW_some] <;> rfl) | (simp [*, errW_none, errW_some] <;> rfl), Kd.V_mono (Kd.R_V (by (with_reducible repeat (first | apply Kd.R_alloc | apply Kd.R_drewN | apply Kd.R_drew)); exact HO180.out)) (fun k_ hk => by first | exact ⟨(.inr (hk.1)), hk.2⟩ | exact (.inr (hk))), by repeat (first | (with_reducible first | exact HB.out | apply below_alloc | apply pw_below_drewN | apply below_drew1) | exact HB.out)⟩
        · rw [if_neg c7] at H
          exact absurd H (by simp)
      · rw [if_neg c6] at H
        exact absurd H (by simp)
    · rw [if_neg c5] at H
      exact absurd H (by simp)

end Go.Proofs.Ythfkbfahpgdnfaa.PAll
