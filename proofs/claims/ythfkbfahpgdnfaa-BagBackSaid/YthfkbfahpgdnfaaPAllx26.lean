-- Printed by this session's pr.sh (the kit's print.py, several laws in one namespace). Not trusted: Lean checks it.
import Derived.Test.YthfkbfahpgdnfaaPAllx0
import Derived.Test.YthfkbfahpgdnfaaPAllx13
namespace Go.Proofs.Ythfkbfahpgdnfaa.PAll
open Go.RowKit Go.Proofs.YthfkbfahpgdnfaaW.PrintWords Go.Proofs.YthfkbfahpgdnfaaW.PrintLast Go.Proofs.YthfkbfahpgdnfaaW.PrintMore
attribute [local go_sem] max2_int min2_int max_two min_two max_three min_three max_four min_four   -- for this text's walks alone
set_option linter.unusedVariables false
set_option linter.unusedSimpArgs false

/-! ### ferruleref18_Put: function 29 -/
mutual
def ferruleref18_Put.l0 : Nat → List (S79) → ByteArray → List (S79) → Int → Option ((List (S79)))
  | 0, _, _, _, _ => none
  | k + 1, x0, x1, x5, x6 => if x6 < (x5.length : Int) then (if 0 ≤ x6 then (if ((rd_T79 x5 x6).f0).toList = x1.toList then (some (x5.set (x6 : Int).toNat (⟨(rd_T79 x5 x6).f0, wrap64 (((rd_T79 x5 x6).f1) + 1)⟩ : S79))) else (ferruleref18_Put.l0 k x0 x1 x5 (wrap64 (x6 + 1)))) else (none)) else (ferruleref18_Put.l1 k x0 x1 0)
def ferruleref18_Put.l1 : Nat → List (S79) → ByteArray → Int → Option ((List (S79)))
  | 0, _, _, _ => none
  | k + 1, x0, x1, x7 => if x7 < (x0.length : Int) then (if 0 ≤ x7 then ((ferruleref11_Less.f k x1 ((rd_T79 x0 x7).f0)).bind fun t195 => (if t195 = true then ((some (([] : List (S79)) : List (S79))).bind fun y196 => (if x7 ≤ (x0.length : Int) then ((some (x0.take (x7 : Int).toNat : List (S79))).bind fun y199 => (if y196.length + y199.length < 5864062014805 then ((some (y196 ++ y199 : List (S79))).bind fun y203 => (if y203.length < 5864062014805 then ((some (y203 ++ [(⟨x1, 1⟩ : S79)] : List (S79))).bind fun y206 => ((some (x0.drop (x7 : Int).toNat : List (S79))).bind fun y209 => (if y206.length + y209.length < 5864062014805 then (some (y206 ++ y209)) else (none)))) else (none))) else (none))) else (none))) else (ferruleref18_Put.l1 k x0 x1 (wrap64 (x7 + 1))))) else (none)) else ((some (([] : List (S79)) : List (S79))).bind fun y216 => (if 0 ≤ x7 then (if x7 ≤ (x0.length : Int) then ((some (x0.take (x7 : Int).toNat : List (S79))).bind fun y219 => (if y216.length + y219.length < 5864062014805 then ((some (y216 ++ y219 : List (S79))).bind fun y223 => (if y223.length < 5864062014805 then ((some (y223 ++ [(⟨x1, 1⟩ : S79)] : List (S79))).bind fun y226 => ((some (x0.drop (x7 : Int).toNat : List (S79))).bind fun y229 => (if y226.length + y229.length < 5864062014805 then (some (y226 ++ y229)) else (none)))) else (none))) else (none))) else (none)) else (none)))
end
def ferruleref18_Put.f (k : Nat) (l0 : List (S79)) (a1 : ByteArray) : Option ((List (S79))) := (some (([] : List (S79)) : List (S79))).bind fun y185 => (if y185.length + l0.length < 5864062014805 then (ferruleref18_Put.l0 k l0 a1 (y185 ++ l0) 0) else (none))
theorem ferruleref18_Put.mono_l : ∀ k, (∀ y0 y1 y2 y3, LeO (ferruleref18_Put.l0 k y0 y1 y2 y3) (ferruleref18_Put.l0 (k + 1) y0 y1 y2 y3)) ∧ (∀ y0 y1 y2, LeO (ferruleref18_Put.l1 k y0 y1 y2) (ferruleref18_Put.l1 (k + 1) y0 y1 y2))
  | 0 => ⟨fun _ _ _ _ r h => by simp [ferruleref18_Put.l0] at h, fun _ _ _ r h => by simp [ferruleref18_Put.l1] at h⟩
  | k + 1 => by
    obtain ⟨ih0, ih1⟩ := ferruleref18_Put.mono_l k
    refine ⟨?_, ?_⟩
    · intro y0 y1 y2 y3
      unfold ferruleref18_Put.l0
      repeat' first
      | (with_reducible exact ih0 _ _ _ _)
      | (with_reducible exact ih1 _ _ _)
      | (with_reducible exact ferruleref11_Less.mono _ _ _)
      | (with_reducible exact LeO.refl _)
      | (with_reducible exact LeO.none _)
      | (with_reducible refine LeO.ite ?_ ?_)
      | (with_reducible refine LeO.bind ?_ (fun _ => ?_))
      | exact ih0 _ _ _ _
      | exact ih1 _ _ _
      | exact ferruleref11_Less.mono _ _ _
      | exact LeO.none _
      | refine LeO.ite ?_ ?_
      | refine LeO.bind ?_ (fun _ => ?_)
    · intro y0 y1 y2
      unfold ferruleref18_Put.l1
      repeat' first
      | (with_reducible exact ih0 _ _ _ _)
      | (with_reducible exact ih1 _ _ _)
      | (with_reducible exact ferruleref11_Less.mono _ _ _)
      | (with_reducible exact LeO.refl _)
      | (with_reducible exact LeO.none _)
      | (with_reducible refine LeO.ite ?_ ?_)
      | (with_reducible refine LeO.bind ?_ (fun _ => ?_))
      | exact ih0 _ _ _ _
      | exact ih1 _ _ _
      | exact ferruleref11_Less.mono _ _ _
      | exact LeO.none _
      | refine LeO.ite ?_ ?_
      | refine LeO.bind ?_ (fun _ => ?_)
theorem ferruleref18_Put.mono : ∀ a0 a1 k, LeO (ferruleref18_Put.f k a0 a1) (ferruleref18_Put.f (k + 1) a0 a1) := by
  intro a0 a1 k
  obtain ⟨ih0, ih1⟩ := ferruleref18_Put.mono_l k
  unfold ferruleref18_Put.f
  repeat' first
      | (with_reducible exact ih0 _ _ _ _)
      | (with_reducible exact ih1 _ _ _)
      | (with_reducible exact ferruleref11_Less.mono _ _ _)
      | (with_reducible exact LeO.refl _)
      | (with_reducible exact LeO.none _)
      | (with_reducible refine LeO.ite ?_ ?_)
      | (with_reducible refine LeO.bind ?_ (fun _ => ?_))
      | exact ih0 _ _ _ _
      | exact ih1 _ _ _
      | exact ferruleref11_Less.mono _ _ _
      | exact LeO.none _
      | refine LeO.ite ?_ ?_
      | refine LeO.bind ?_ (fun _ => ?_)
set_option maxHeartbeats 8000000 in
set_option maxRecDepth 100000 in
theorem ferruleref18_Put.calls (k : Nat) (A0 : Option Addr) (c0 : Nat) (l0 : List (S79)) (a1 : ByteArray) (r : List (S79)) (w : World) (hr0 : Kd.C k79 w A0 l0.length l0) (hc0 : l0.length ≤ c0) (h : ferruleref18_Put.f k l0 a1 = some r) :
    Calls Try.prog 29 #[.slice A0 l0.length c0, .string a1] w fun e w' => ∃ v0_ : Value, e = .returned (v0_) ∧ Kd.R k79 79 w' w.heap.size (fun _ => True) v0_ r ∧ Below w.heap.size w w' := by
  have hu79 := Try.underlying79
  have HR0 := Aside0.mk hr0
  have HC0 := Aside0.mk hc0
  clear hr0 hc0
  have HB := Aside0.mk (Below.refl w.heap.size w)
  have H : ((some (([] : List (S79)) : List (S79))).bind fun y185 => (if y185.length + l0.length < 5864062014805 then (ferruleref18_Put.l0 k l0 a1 (y185 ++ l0) 0) else (none))) = some r := h
  clear h
  obtain ⟨y185, hy185⟩ : ∃ y_ : List (S79), y_ = (([] : List (S79))) := ⟨_, rfl⟩
  replace H : (if y185.length + l0.length < 5864062014805 then (ferruleref18_Put.l0 k l0 a1 (y185 ++ l0) 0) else (none)) = some r := by first | (rw [hy185]; with_reducible exact H) | (have H2_ := (Option.bind_some _ _).symm.trans H; rw [hy185]; with_reducible exact H2_) | (have H2_ := (Option.bind_some _ _).symm.trans H; with_reducible exact H2_) | with_reducible exact H | (rw [hy185]; exact H) | exact H
  have Ny185 := Aside0.mk hy185
  clear hy185
  by_cases c3 : y185.length + l0.length < 5864062014805
  · rw [if_pos c3] at H
    have LMc3 := Aside0.mk c3
    clear c3
    obtain ⟨y188, hy188⟩ : ∃ y_ : List (S79), y_ = (y185 ++ l0) := ⟨_, rfl⟩
    replace H : (ferruleref18_Put.l0 k l0 a1 y188 0) = some r := by first | (rw [hy188]; with_reducible exact H) | (have H2_ := (Option.bind_some _ _).symm.trans H; rw [hy188]; with_reducible exact H2_) | (have H2_ := (Option.bind_some _ _).symm.trans H; with_reducible exact H2_) | with_reducible exact H | (rw [hy188]; exact H) | exact H
    have Ny188 := Aside0.mk hy188
    clear hy188
    have H' := Aside0.mk H
    clear H
    go_enter Try.func29, Try.ntmps29
    go_wp2_with (first | ((with_reducible refine gate_dst (N := 8) rfl ?_); refine Kd.R_lit k79 _ 79 ?hg (N := 8) ?hd (xs := ([] : List (S79))) (inner := []) (ok := fun _ => True) (okp := fun _ => True) ?hr ?hp (fun _ hk => hk) trivial (Below.refl _ _) (Nat.le_refl _) (by simp) ?_; (case hd => rfl); (case hg => rfl); (case hr => first | (go_simp; done) | (go_simp; rfl)); (case hp => exact (Reps.none _ _)); intro v186 w4 ho5 hb hg_ hnew_; clear hg_ hnew_; (first | rw [← Ny185.out] at ho5 | (simp only [Int.reduceToNat] at ho5; rw [← Ny185.out] at ho5)); have n0_ := Aside0.mk (Kd.R_lower ho5 (below_size (by repeat (first | (with_reducible first | exact HB.out | apply below_alloc | apply pw_below_drewN | apply below_drew1) | exact HB.out)))); have n1_ := Aside0.mk (below_step (by repeat (first | (with_reducible first | exact HB.out | apply below_alloc | apply pw_below_drewN | apply below_drew1) | exact HB.out)) hb); clear HB; have HO187 := n0_; have HB := n1_; clear n0_ n1_; clear hb ho5) | ((with_reducible refine gate_builtin (b := .append) (xs := #[.tmp 8, .tmp 9]) rfl ?_); at_builtin; refine Kd.R_append_rows k79 (w0 := w) w.heap.size rfl (.tmp 8) (.tmp 9) 22 79 (.agg #[(.string ⟨#[]⟩), (.int .i64 0)]) 24 rfl Try.underlying22 info79 rfl (by decide) (by omega) v186 y185 l0 _ _ _ (fun _ => True) (fun _ => False) rfl rfl ?aO ?aR (fun _ _ h => h) (fun _ h => h.elim) ?aF ?aB ?aS ?aL ?_; (case aR => repeat (first | exact (Kd.C_below HR0.out HB.out) | (with_reducible refine Kd.C_alloc ?_ _) | (with_reducible refine Kd.C_drewN ?_ _) | (with_reducible refine Kd.C_drew ?_))); (case aB => exact (by repeat (first | (with_reducible first | exact HB.out | apply below_alloc | apply pw_below_drewN | apply below_drew1) | exact HB.out))); (case aF => exact (fun _ _ => trivial)); (case aO => exact (by (with_reducible repeat (first | apply Kd.R_alloc | apply Kd.R_drewN | apply Kd.R_drew)); exact HO187.out)); (case aS => exact (below_size (by repeat (first | (with_reducible first | exact HB.out | apply below_alloc | apply pw_below_drewN | apply below_drew1) | exact HB.out)))); (case aL => have := LMc3.out; omega); intro v189 w6 ho hb hg hat; rw [← Ny188.out] at ho; have n0_ := Aside0.mk (hb); have n1_ := Aside0.mk (ho); clear HB; clear HO187; have HB := n0_; have HO190 := n1_; clear n0_ n1_; clear ho hb hg hat))
    go_loopg [6] k (fun kq v6 w' => ∃ (x5_1 : List (S79)) (x6_1 : Int), v6 = .int .i64 x6_1 ∧ Aside0 (ferruleref18_Put.l0 kq l0 a1 x5_1 x6_1 = some r) ∧ Aside0 (kq ≤ k) ∧ Aside0 (Kd.R k79 79 w' w.heap.size (fun _ => True) v189 x5_1) ∧ Aside0 (Below w.heap.size w w'))
    case atStart => exact ⟨(y188), (0), (by first | rfl | (simp; done) | (simp [*]; done)), H', ⟨Nat.le_refl _⟩, ⟨by (with_reducible repeat (first | apply Kd.R_alloc | apply Kd.R_drewN | apply Kd.R_drew)); exact HO190.out⟩, ⟨by repeat (first | (with_reducible first | exact HB.out | apply below_alloc | apply pw_below_drewN | apply below_drew1) | exact HB.out)⟩⟩
    case round =>
      clear H'
      try clear c2
      try clear p2
      try clear c3
      obtain ⟨x5_1, x6_1, rfl, HA, HK1, HO_5, HB⟩ := hrel
      cases gk with
      | zero => exact absurd HA.out (by simp [ferruleref18_Put.l0])
      | succ k1 =>
        have H := HA.out
        clear HA
        simp only [ferruleref18_Put.l0] at H
        by_cases c7 : x6_1 < (x5_1.length : Int)
        · rw [if_pos c7] at H
          have c7b0 : decide (x6_1 < (x5_1.length : Int)) = true := decide_eq_true c7
          clear c7
          by_cases c8 : 0 ≤ x6_1
          · rw [if_pos c8] at H
            have c8b0 : decide (0 ≤ x6_1) = true := decide_eq_true c8
            clear c8
            by_cases c9 : ((rd_T79 x5_1 x6_1).f0).toList = a1.toList
            · rw [if_pos c9] at H
              have c9b0 : (((rd_T79 x5_1 x6_1).f0).toList == a1.toList) = true := beq_iff_eq.mpr c9
              have c9b1 : (((rd_T79 x5_1 x6_1).f0).toList != a1.toList) = false := bne_eq_false_iff_eq.mpr c9
              clear c9
              obtain ⟨y193, hy193⟩ : ∃ y_ : List (S79), y_ = (x5_1.set (x6_1 : Int).toNat (⟨(rd_T79 x5_1 x6_1).f0, wrap64 (((rd_T79 x5_1 x6_1).f1) + 1)⟩ : S79)) := ⟨_, rfl⟩
              replace H : (some y193) = some r := by first | (rw [hy193]; with_reducible exact H) | (have H2_ := (Option.bind_some _ _).symm.trans H; rw [hy193]; with_reducible exact H2_) | (have H2_ := (Option.bind_some _ _).symm.trans H; with_reducible exact H2_) | with_reducible exact H | (rw [hy193]; exact H) | exact H
              have Ny193 := Aside0.mk hy193
              clear hy193
              obtain rfl := Option.some.inj H
              obtain ⟨Ao11, co11, eo11⟩ := Kd.R_slice HO_5.out
              subst eo11
              have p191 : 0 ≤ (x6_1 : Int) := of_decide_eq_true (by first | (with_reducible assumption) | assumption)
              have q191 : x6_1 < (x5_1.length : Int) := of_decide_eq_true (by first | (with_reducible assumption) | assumption)
              obtain ⟨ad191, e191, hx191_0, hx191_1⟩ := at_T79 (Kd.R_reads' HO_5.out).2.2 x6_1 p191 q191
              cases e191
              replace p191 := eq_true p191
              replace q191 := eq_true q191
              have p192 : 0 ≤ (x6_1 : Int) := of_decide_eq_true (by first | (with_reducible assumption) | assumption)
              have q192 : x6_1 < (x5_1.length : Int) := of_decide_eq_true (by first | (with_reducible assumption) | assumption)
              obtain ⟨ad192, e192, hx192_0, hx192_1⟩ := at_T79 (Kd.R_reads' HO_5.out).2.2 x6_1 p192 q192
              obtain rfl : ad191 = ad192 := (by injection e192)
              replace p192 := eq_true p192
              replace q192 := eq_true q192
              have p10 : 0 ≤ (x6_1 : Int) := of_decide_eq_true (by first | (with_reducible assumption) | assumption)
              have q10 : (x6_1 : Int) < ((x5_1.length : Int) : Int) := of_decide_eq_true (by first | (with_reducible assumption) | assumption)
              obtain ⟨go10, co10, eo10, gb10, gl10, cl10, HG10⟩ := Kd.R_form HO_5.out (by omega)
              (first | cases eo10 | (injection eo10 with ea_ en_ ec_; (first | subst ea_ | (injection ea_ with ea_; subst ea_)); subst ec_; clear en_))
              have GB10 := Aside0.mk gb10
              have GG10 := Aside0.mk HG10
              clear gb10 gl10 HG10
              (first | simp only [add_plain] at hx191_0 | skip)
              (first | simp only [add_plain] at hx191_1 | skip)
              (first | simp only [add_plain] at hx192_0 | skip)
              (first | simp only [add_plain] at hx192_1 | skip)
              obtain ⟨ce10, hcl10, hM10, hcc10, hfr10⟩ := Kd.R_elem HO_5.out z79 (x6_1 : Int) p10 q10
              obtain rfl := k79_openM hM10
              have hx10_0 : wr.cell? ⟨go10, (x6_1 : Int).toNat * 2, none⟩ = some (.string ((rd_T79 x5_1 x6_1).f0)) := hcc10 0 _ rfl
              have hx10_1 : wr.cell? ⟨go10, (x6_1 : Int).toNat * 2 + 1, none⟩ = some (.int .i64 ((rd_T79 x5_1 x6_1).f1)) := hcc10 1 _ rfl
              have hf10_0 : wr.frozen? ⟨go10, (x6_1 : Int).toNat * 2, none⟩ = false := hfr10 0
              have hf10_1 : wr.frozen? ⟨go10, (x6_1 : Int).toNat * 2 + 1, none⟩ = false := hfr10 1
              clear hcl10 hcc10 hfr10 hM10
              replace p10 := eq_true p10
              replace q10 := eq_true q10
              have HX12 := Aside0.mk (show Kd.R k79 79 wr w.heap.size (fun _ => True) (.slice (some ⟨go10, 0, none⟩) x5_1.length co11) x5_1 from (by (with_reducible repeat (first | apply Kd.R_alloc | apply Kd.R_drewN | apply Kd.R_drew)); exact HO_5.out))
              obtain ⟨ce12, hcl12, hM12, hcc12, hfr12⟩ := Kd.R_elem HX12.out z79 (x6_1 : Int) (of_decide_eq_true (by first | (with_reducible assumption) | assumption)) (by have h_ : (x6_1 : Int) < ((x5_1.length : Int) : Int) := of_decide_eq_true (by first | (with_reducible assumption) | assumption); first | exact h_ | (have e_ := (Kd.R_reads' HO_5.out).1; omega) | simpa using h_)
              obtain rfl := k79_openM hM12
              have HP12 := Kd.R_seg HX12.out (x6_1 : Int) (of_decide_eq_true (by first | (with_reducible assumption) | assumption)) (by have h_ : (x6_1 : Int) < ((x5_1.length : Int) : Int) := of_decide_eq_true (by first | (with_reducible assumption) | assumption); first | exact h_ | (have e_ := (Kd.R_reads' HO_5.out).1; omega) | simpa using h_) (seg := [.int .i64 (wrap64 (((rd_T79 x5_1 x6_1).f1) + 1))]) (j := 1) hcl12 hcc12 (show 2 ≤ 2 from by decide) (x' := (⟨(rd_T79 x5_1 x6_1).f0, wrap64 (((rd_T79 x5_1 x6_1).f1) + 1)⟩ : S79)) (k79_mkM _ _ _ (⟨(rd_T79 x5_1 x6_1).f0, wrap64 (((rd_T79 x5_1 x6_1).f1) + 1)⟩ : S79) ) (fun _ hk => hk)
              have hx12_1 := hcc12 1 _ rfl
              (try simp only [show (k79).sz = 2 from rfl, Nat.mul_one, Nat.add_zero] at hx12_1)
              have hf12_1 := hfr12 1
              (try simp only [show (k79).sz = 2 from rfl, Nat.mul_one, Nat.add_zero] at hf12_1)
              clear hcl12 hcc12 hfr12 hM12
              go_wp2_with (first | ((with_reducible refine gate_store (t := 3) (p := 31) rfl ?_); refine store_event (t := 3) (p := 31) (v := ?vo_w13) (w1 := (wr.setCell ⟨go10, (x6_1 : Int).toNat * 2 + 1, none⟩ (.int .i64 (wrap64 (((rd_T79 x5_1 x6_1).f1) + 1))))) ?hg ?ho ?hn ?hr ?_; (case ho => rfl); (case hg => rfl); (case hn => rfl); (case hr => first | (go_simp; done) | (go_simp; rfl)); intro w13 hw; have hg : wr.grownBy w13 (some go10) := (by rw [hw]; exact HP12.2); have hp_ : Kd.R k79 79 w13 w.heap.size (fun _ => True) (.slice (some ⟨go10, 0, none⟩) x5_1.length co11) y193 := (by rw [hw, Ny193.out]; exact HP12.1); clear HP12; have n0_ := Aside0.mk (hp_); have n1_ := Aside0.mk ((by rw [hw]; exact below_set (HB.out) GB10.out : Below w.heap.size w w13)); clear HO_5; clear HB; have HO_5 := n0_; have HB := n1_; clear n0_ n1_; clear hg hw hp_))
              go_ret
              exact ⟨_, by first | rfl | (simp [errW_none, errW_some] <;> rfl) | (simp [*, errW_none, errW_some] <;> rfl), by (with_reducible repeat (first | apply Kd.R_alloc | apply Kd.R_drewN | apply Kd.R_drew)); exact HO_5.out, by repeat (first | (with_reducible first | exact HB.out | apply below_alloc | apply pw_below_drewN | apply below_drew1) | exact HB.out)⟩
            · rw [if_neg c9] at H
              have c9b0 : (((rd_T79 x5_1 x6_1).f0).toList == a1.toList) = false := beq_eq_false_iff_ne.mpr c9
              have c9b1 : (((rd_T79 x5_1 x6_1).f0).toList != a1.toList) = true := bne_iff_ne.mpr c9
              have H' := Aside0.mk H
              clear H
              obtain ⟨Ao14, co14, eo14⟩ := Kd.R_slice HO_5.out
              subst eo14
              have p191 : 0 ≤ (x6_1 : Int) := of_decide_eq_true (by first | (with_reducible assumption) | assumption)
              have q191 : x6_1 < (x5_1.length : Int) := of_decide_eq_true (by first | (with_reducible assumption) | assumption)
              obtain ⟨ad191, e191, hx191_0, hx191_1⟩ := at_T79 (Kd.R_reads' HO_5.out).2.2 x6_1 p191 q191
              cases e191
              replace p191 := eq_true p191
              replace q191 := eq_true q191
              go_wp2
              go_roundg k1
              case measure => have := HK1.out; omega
              case rel => exact ⟨(x5_1), (wrap64 (x6_1 + 1)), (by first | rfl | (simp; done) | (simp [*]; done)), H', ⟨by have := HK1.out; omega⟩, ⟨by (with_reducible repeat (first | apply Kd.R_alloc | apply Kd.R_drewN | apply Kd.R_drew)); exact HO_5.out⟩, ⟨by repeat (first | (with_reducible first | exact HB.out | apply below_alloc | apply pw_below_drewN | apply below_drew1) | exact HB.out)⟩⟩
          · rw [if_neg c8] at H
            exact absurd H (by simp)
        · rw [if_neg c7] at H
          have c7b0 : decide (x6_1 < (x5_1.length : Int)) = false := decide_eq_false c7
          clear c7
          have H' := Aside0.mk H
          clear H
          obtain ⟨Ao15, co15, eo15⟩ := Kd.R_slice HO_5.out
          subst eo15
          go_wp2
          go_loopg [7] k1 (fun kq v7 w' => ∃ (x7_2 : Int), v7 = .int .i64 x7_2 ∧ Aside0 (ferruleref18_Put.l1 kq l0 a1 x7_2 = some r) ∧ Aside0 (kq ≤ k1) ∧ Aside0 (Below w.heap.size w w'))
          case atStart => exact ⟨(0), (by first | rfl | (simp; done) | (simp [*]; done)), H', ⟨Nat.le_refl _⟩, ⟨by repeat (first | (with_reducible first | exact HB.out | apply below_alloc | apply pw_below_drewN | apply below_drew1) | exact HB.out)⟩⟩
          case round =>
            clear H'
            try clear c1
            try clear p1
            try clear q1
            try clear hx1
            try clear c2
            try clear p2
            try clear c3
            try clear p6
            try clear c7
            try clear c7b0
            try clear c8
            try clear c8b0
            try clear c9
            try clear c9b0
            try clear c9b1
            try clear c10
            try clear p10
            try clear q10
            try clear hx10
            try clear hf10
            try clear c12
            try clear hx12
            try clear hf12
            try clear hx10_0
            try clear hx10_1
            try clear hx12_1
            try clear hx191_0
            try clear hx191_1
            try clear hx192_0
            try clear hx192_1
            try clear p10
            try clear p191
            try clear p192
            try clear p2
            try clear q10
            try clear q191
            try clear q192
            obtain ⟨x7_2, rfl, HA, HK2, HB⟩ := hrel
            cases gk with
            | zero => exact absurd HA.out (by simp [ferruleref18_Put.l1])
            | succ k2 =>
              have H := HA.out
              clear HA
              simp only [ferruleref18_Put.l1] at H
              by_cases c16 : x7_2 < (l0.length : Int)
              · rw [if_pos c16] at H
                have c16b0 : decide (x7_2 < (l0.length : Int)) = true := decide_eq_true c16
                clear c16
                by_cases c17 : 0 ≤ x7_2
                · rw [if_pos c17] at H
                  have c17b0 : decide (0 ≤ x7_2) = true := decide_eq_true c17
                  clear c17
                  replace H := Option.bind_eq_some_iff.mp H
                  obtain ⟨t195, A180, H⟩ := H
                  replace H : (if t195 = true then ((some (([] : List (S79)) : List (S79))).bind fun y196 => (if x7_2 ≤ (l0.length : Int) then ((some (l0.take (x7_2 : Int).toNat : List (S79))).bind fun y199 => (if y196.length + y199.length < 5864062014805 then ((some (y196 ++ y199 : List (S79))).bind fun y203 => (if y203.length < 5864062014805 then ((some (y203 ++ [(⟨a1, 1⟩ : S79)] : List (S79))).bind fun y206 => ((some (l0.drop (x7_2 : Int).toNat : List (S79))).bind fun y209 => (if y206.length + y209.length < 5864062014805 then (some (y206 ++ y209)) else (none)))) else (none))) else (none))) else (none))) else (ferruleref18_Put.l1 k2 l0 a1 (wrap64 (x7_2 + 1)))) = some r := H
                  have A18 := Aside0.mk A180
                  clear A180
                  by_cases c19 : t195 = true
                  · subst c19
                    have H1 : ((some (([] : List (S79)) : List (S79))).bind fun y196 => (if x7_2 ≤ (l0.length : Int) then ((some (l0.take (x7_2 : Int).toNat : List (S79))).bind fun y199 => (if y196.length + y199.length < 5864062014805 then ((some (y196 ++ y199 : List (S79))).bind fun y203 => (if y203.length < 5864062014805 then ((some (y203 ++ [(⟨a1, 1⟩ : S79)] : List (S79))).bind fun y206 => ((some (l0.drop (x7_2 : Int).toNat : List (S79))).bind fun y209 => (if y206.length + y209.length < 5864062014805 then (some (y206 ++ y209)) else (none)))) else (none))) else (none))) else (none))) = some r := by rw [if_pos rfl] at H; exact H
                    clear H
                    have H := H1
                    clear H1
                    obtain ⟨y196, hy196⟩ : ∃ y_ : List (S79), y_ = (([] : List (S79))) := ⟨_, rfl⟩
                    replace H : (if x7_2 ≤ (l0.length : Int) then ((some (l0.take (x7_2 : Int).toNat : List (S79))).bind fun y199 => (if y196.length + y199.length < 5864062014805 then ((some (y196 ++ y199 : List (S79))).bind fun y203 => (if y203.length < 5864062014805 then ((some (y203 ++ [(⟨a1, 1⟩ : S79)] : List (S79))).bind fun y206 => ((some (l0.drop (x7_2 : Int).toNat : List (S79))).bind fun y209 => (if y206.length + y209.length < 5864062014805 then (some (y206 ++ y209)) else (none)))) else (none))) else (none))) else (none)) = some r := by first | (rw [hy196]; with_reducible exact H) | (have H2_ := (Option.bind_some _ _).symm.trans H; rw [hy196]; with_reducible exact H2_) | (have H2_ := (Option.bind_some _ _).symm.trans H; with_reducible exact H2_) | with_reducible exact H | (rw [hy196]; exact H) | exact H
                    have Ny196 := Aside0.mk hy196
                    clear hy196
                    have c20b0 := eq_true (of_decide_eq_true (by first | (with_reducible assumption) | assumption) : 0 ≤ x7_2)
                    by_cases c21 : x7_2 ≤ (l0.length : Int)
                    · rw [if_pos c21] at H
                      have c21b0 := eq_true c21
                      have c21b1 : decide (x7_2 ≤ (l0.length : Int)) = true := decide_eq_true c21
                      clear c21
                      obtain ⟨y199, hy199⟩ : ∃ y_ : List (S79), y_ = (l0.take (x7_2 : Int).toNat) := ⟨_, rfl⟩
                      replace H : (if y196.length + y199.length < 5864062014805 then ((some (y196 ++ y199 : List (S79))).bind fun y203 => (if y203.length < 5864062014805 then ((some (y203 ++ [(⟨a1, 1⟩ : S79)] : List (S79))).bind fun y206 => ((some (l0.drop (x7_2 : Int).toNat : List (S79))).bind fun y209 => (if y206.length + y209.length < 5864062014805 then (some (y206 ++ y209)) else (none)))) else (none))) else (none)) = some r := by first | (rw [hy199]; with_reducible exact H) | (have H2_ := (Option.bind_some _ _).symm.trans H; rw [hy199]; with_reducible exact H2_) | (have H2_ := (Option.bind_some _ _).symm.trans H; with_reducible exact H2_) | with_reducible exact H | (rw [hy199]; exact H) | exact H
                      have Ny199 := Aside0.mk hy199
                      clear hy199
                      by_cases c22 : y196.length + y199.length < 5864062014805
                      · rw [if_pos c22] at H
                        have LMc22 := Aside0.mk c22
                        clear c22
                        obtain ⟨y203, hy203⟩ : ∃ y_ : List (S79), y_ = (y196 ++ y199) := ⟨_, rfl⟩
                        replace H : (if y203.length < 5864062014805 then ((some (y203 ++ [(⟨a1, 1⟩ : S79)] : List (S79))).bind fun y206 => ((some (l0.drop (x7_2 : Int).toNat : List (S79))).bind fun y209 => (if y206.length + y209.length < 5864062014805 then (some (y206 ++ y209)) else (none)))) else (none)) = some r := by first | (rw [hy203]; with_reducible exact H) | (have H2_ := (Option.bind_some _ _).symm.trans H; rw [hy203]; with_reducible exact H2_) | (have H2_ := (Option.bind_some _ _).symm.trans H; with_reducible exact H2_) | with_reducible exact H | (rw [hy203]; exact H) | exact H
                        have Ny203 := Aside0.mk hy203
                        clear hy203
                        by_cases c23 : y203.length < 5864062014805
                        · rw [if_pos c23] at H
                          have LMc23 := Aside0.mk c23
                          clear c23
                          obtain ⟨y206, hy206⟩ : ∃ y_ : List (S79), y_ = (y203 ++ [(⟨a1, 1⟩ : S79)]) := ⟨_, rfl⟩
                          replace H : ((some (l0.drop (x7_2 : Int).toNat : List (S79))).bind fun y209 => (if y206.length + y209.length < 5864062014805 then (some (y206 ++ y209)) else (none))) = some r := by first | (rw [hy206]; with_reducible exact H) | (have H2_ := (Option.bind_some _ _).symm.trans H; rw [hy206]; with_reducible exact H2_) | (have H2_ := (Option.bind_some _ _).symm.trans H; with_reducible exact H2_) | with_reducible exact H | (rw [hy206]; exact H) | exact H
                          have Ny206 := Aside0.mk hy206
                          clear hy206
                          have c24b0 := eq_true (of_decide_eq_true (by first | (with_reducible assumption) | assumption) : 0 ≤ x7_2)
                          have c25b0 := eq_true (of_decide_eq_true (by first | (with_reducible assumption) | assumption) : x7_2 ≤ (l0.length : Int))
                          obtain ⟨y209, hy209⟩ : ∃ y_ : List (S79), y_ = (l0.drop (x7_2 : Int).toNat) := ⟨_, rfl⟩
                          replace H : (if y206.length + y209.length < 5864062014805 then (some (y206 ++ y209)) else (none)) = some r := by first | (rw [hy209]; with_reducible exact H) | (have H2_ := (Option.bind_some _ _).symm.trans H; rw [hy209]; with_reducible exact H2_) | (have H2_ := (Option.bind_some _ _).symm.trans H; with_reducible exact H2_) | with_reducible exact H | (rw [hy209]; exact H) | exact H
                          have Ny209 := Aside0.mk hy209
                          clear hy209
                          by_cases c26 : y206.length + y209.length < 5864062014805
                          · rw [if_pos c26] at H
                            have LMc26 := Aside0.mk c26
                            clear c26
                            obtain ⟨y213, hy213⟩ : ∃ y_ : List (S79), y_ = (y206 ++ y209) := ⟨_, rfl⟩
                            replace H : (some y213) = some r := by first | (rw [hy213]; with_reducible exact H) | (have H2_ := (Option.bind_some _ _).symm.trans H; rw [hy213]; with_reducible exact H2_) | (have H2_ := (Option.bind_some _ _).symm.trans H; with_reducible exact H2_) | with_reducible exact H | (rw [hy213]; exact H) | exact H
                            have Ny213 := Aside0.mk hy213
                            clear hy213
                            obtain rfl := Option.some.inj H
                            have p194 : 0 ≤ (x7_2 : Int) := of_decide_eq_true (by first | (with_reducible assumption) | assumption)
                            have q194 : x7_2 < (l0.length : Int) := of_decide_eq_true (by first | (with_reducible assumption) | assumption)
                            obtain ⟨ad194, e194, hx194_0, hx194_1⟩ := at_T79 HR0.out x7_2 p194 q194
                            cases e194
                            replace hx194_0 := (HB.out.cell (World.block_lt_of_cell? w _ hx194_0)).trans hx194_0
                            replace hx194_1 := (HB.out.cell (World.block_lt_of_cell? w _ hx194_1)).trans hx194_1
                            replace p194 := eq_true p194
                            replace q194 := eq_true q194
                            go_wp2_with (first | (go_at_call 46; (with_reducible refine (ferruleref11_Less.calls k2 a1 ((rd_T79 l0 x7_2).f0) true _ A18.out).mono ?_); rintro e w' ⟨rfl, ⟨nd, rfl⟩⟩) | ((with_reducible refine gate_dst (N := 49) rfl ?_); refine Kd.R_lit k79 _ 79 ?hg (N := 49) ?hd (xs := ([] : List (S79))) (inner := []) (ok := fun _ => True) (okp := fun _ => True) ?hr ?hp (fun _ hk => hk) trivial (Below.refl _ _) (Nat.le_refl _) (by simp) ?_; (case hd => rfl); (case hg => rfl); (case hr => first | (go_simp; done) | (go_simp; rfl)); (case hp => exact (Reps.none _ _)); intro v197 w27 ho28 hb hg_ hnew_; clear hg_ hnew_; (first | rw [← Ny196.out] at ho28 | (simp only [Int.reduceToNat] at ho28; rw [← Ny196.out] at ho28)); have n0_ := Aside0.mk (Kd.R_lower ho28 (below_size (by repeat (first | (with_reducible first | exact HB.out | apply below_alloc | apply pw_below_drewN | apply below_drew1) | exact HB.out)))); have n1_ := Aside0.mk (below_step (by repeat (first | (with_reducible first | exact HB.out | apply below_alloc | apply pw_below_drewN | apply below_drew1) | exact HB.out)) hb); clear HB; have HO198 := n0_; have HB := n1_; clear n0_ n1_; clear hb ho28; have q29 : (x7_2 : Int) ≤ ((l0.length : Int) : Int) := of_decide_eq_true (by first | (with_reducible assumption) | assumption); obtain ⟨i029, hi029, _, hsz29, _⟩ := info_parts info79; have hroom29 : l0.length ≤ c0 := HC0.out; have hC29 : Kd.C k79 _ (some ad194) l0.length l0 := HR0.out; have hcut29 := cut_to (P := Try.prog) 22 79 .i64 Try.underlying22 hi029 (some ad194) l0.length c0 x7_2 (of_decide_eq_true (by first | (with_reducible assumption) | assumption)) q29 hroom29; have hr29 := Kd.C_take (m := (x7_2 : Int).toNat) hC29 (by omega); have hy29 : y199.length = (x7_2 : Int).toNat := (by rw [Ny199.out, List.length_take]; omega); rw [← Ny199.out] at hr29; rw [← hy29] at hcut29; have HR202 := Aside0.mk hr29; have HC202 := Aside0.mk (show y199.length ≤ c0 from by omega); clear hr29 hC29 hroom29 hi029 hsz29; have KY29 := Aside0.mk hy29; clear hy29; replace q29 := eq_true q29) | ((with_reducible refine gate_builtin (b := .append) (xs := #[.tmp 49, .tmp 52]) rfl ?_); at_builtin; refine Kd.R_append_rows k79 (w0 := w) w.heap.size rfl (.tmp 49) (.tmp 52) 22 79 (.agg #[(.string ⟨#[]⟩), (.int .i64 0)]) 24 rfl Try.underlying22 info79 rfl (by decide) (by omega) v197 y196 y199 _ _ _ (fun _ => True) (fun _ => False) rfl rfl ?aO ?aR (fun _ _ h => h) (fun _ h => h.elim) ?aF ?aB ?aS ?aL ?_; (case aR => repeat (first | exact (Kd.C_below HR202.out HB.out) | (with_reducible refine Kd.C_alloc ?_ _) | (with_reducible refine Kd.C_drewN ?_ _) | (with_reducible refine Kd.C_drew ?_))); (case aB => exact (by repeat (first | (with_reducible first | exact HB.out | apply below_alloc | apply pw_below_drewN | apply below_drew1) | exact HB.out))); (case aF => exact (fun _ _ => trivial)); (case aO => exact (by (with_reducible repeat (first | apply Kd.R_alloc | apply Kd.R_drewN | apply Kd.R_drew)); exact HO198.out)); (case aS => exact (below_size (by repeat (first | (with_reducible first | exact HB.out | apply below_alloc | apply pw_below_drewN | apply below_drew1) | exact HB.out)))); (case aL => have := LMc22.out; omega); intro v204 w30 ho hb hg hat; rw [← Ny203.out] at ho; have n0_ := Aside0.mk (hb); have n1_ := Aside0.mk (ho); clear HB; clear HO198; have HB := n0_; have HO205 := n1_; clear n0_ n1_; clear ho hb hg hat) | ((with_reducible refine gate_builtin (b := .append) (xs := #[.tmp 54, .tmp 57]) rfl ?_); at_builtin; refine Kd.R_append k79 (w0 := w) w.heap.size rfl (.tmp 54) (.tmp 57) 22 79 (.agg #[(.string ⟨#[]⟩), (.int .i64 0)]) 24 rfl Try.underlying22 info79 rfl (by decide) (by omega) v204 y203 (⟨a1, 1⟩ : S79) [.string a1, .int .i64 1] (fun _ => True) (fun _ => False) rfl rfl ?aP (fun _ hk => hk.elim) ?aF ?aO ?aB ?aS ?aL ?_; (case aP => exact k79_mkM _ _ _ (⟨a1, 1⟩ : S79)); (case aB => exact (by repeat (first | (with_reducible first | exact HB.out | apply below_alloc | apply pw_below_drewN | apply below_drew1) | exact HB.out))); (case aF => exact (fun _ _ => trivial)); (case aO => exact (by (with_reducible repeat (first | apply Kd.R_alloc | apply Kd.R_drewN | apply Kd.R_drew)); exact HO205.out)); (case aS => exact (below_size (by repeat (first | (with_reducible first | exact HB.out | apply below_alloc | apply pw_below_drewN | apply below_drew1) | exact HB.out)))); (case aL => have := LMc23.out; omega); intro v207 w31 ho hb hg hat; rw [← Ny206.out] at ho; have n0_ := Aside0.mk (hb); have n1_ := Aside0.mk (ho); clear HB; clear HO205; have HB := n0_; have HO208 := n1_; clear n0_ n1_; clear ho hb hg hat; have q32 : (x7_2 : Int) ≤ ((l0.length : Int) : Int) := of_decide_eq_true (by first | (with_reducible assumption) | assumption); obtain ⟨i032, hi032, _, hsz32, _⟩ := info_parts info79; have hroom32 : l0.length ≤ c0 := HC0.out; have hC32 : Kd.C k79 _ (some ad194) l0.length l0 := HR0.out; have q032 : (0 : Int) ≤ (x7_2 : Int) := of_decide_eq_true (by first | (with_reducible assumption) | assumption); have hcut32 := cut_from (P := Try.prog) 22 79 .i64 Try.underlying22 hi032 2 hsz32 (some ad194) l0.length c0 x7_2 q032 q32; have hr32 := Kd.C_drop (m := (x7_2 : Int).toNat) (c := c0) hC32 (by omega) hroom32; obtain ⟨A32, hA32⟩ : ∃ A1, A1 = (if c0 = (x7_2 : Int).toNat then (some ad194) else ((some ad194) : Option Addr).map (·.add ((x7_2 : Int).toNat * 2))) := ⟨_, rfl⟩; obtain ⟨c32, hc32⟩ : ∃ c1, c1 = c0 - (x7_2 : Int).toNat := ⟨_, rfl⟩; have hy32 : y209.length = l0.length - (x7_2 : Int).toNat := (by rw [Ny209.out, List.length_drop] <;> omega); rw [show (l0).drop (x7_2 : Int).toNat = y209 from Ny209.out.symm] at hr32; replace hr32 : Kd.C k79 _ A32 y209.length y209 := (by rw [hA32]; exact hr32); rw [← hy32, ← hA32, ← hc32] at hcut32; have HR212 := Aside0.mk hr32; have HC212 := Aside0.mk (show y209.length ≤ c32 from by rw [hy32, hc32]; exact Nat.sub_le_sub_right hroom32 _); clear hr32 hC32 hroom32 hi032 hsz32 hc32; have KY32 := Aside0.mk hy32; have KA32 := Aside0.mk hA32; clear hy32 hA32; replace q32 := eq_true q32) | ((with_reducible refine gate_builtin (b := .append) (xs := #[.tmp 59, .tmp 62]) rfl ?_); at_builtin; refine Kd.R_append_rows k79 (w0 := w) w.heap.size rfl (.tmp 59) (.tmp 62) 22 79 (.agg #[(.string ⟨#[]⟩), (.int .i64 0)]) 24 rfl Try.underlying22 info79 rfl (by decide) (by omega) v207 y206 y209 _ _ _ (fun _ => True) (fun _ => False) rfl rfl ?aO ?aR (fun _ _ h => h) (fun _ h => h.elim) ?aF ?aB ?aS ?aL ?_; (case aR => repeat (first | exact (Kd.C_below HR212.out HB.out) | (with_reducible refine Kd.C_alloc ?_ _) | (with_reducible refine Kd.C_drewN ?_ _) | (with_reducible refine Kd.C_drew ?_))); (case aB => exact (by repeat (first | (with_reducible first | exact HB.out | apply below_alloc | apply pw_below_drewN | apply below_drew1) | exact HB.out))); (case aF => exact (fun _ _ => trivial)); (case aO => exact (by (with_reducible repeat (first | apply Kd.R_alloc | apply Kd.R_drewN | apply Kd.R_drew)); exact HO208.out)); (case aS => exact (below_size (by repeat (first | (with_reducible first | exact HB.out | apply below_alloc | apply pw_below_drewN | apply below_drew1) | exact HB.out)))); (case aL => have := LMc26.out; omega); intro v214 w33 ho hb hg hat; rw [← Ny213.out] at ho; have n0_ := Aside0.mk (hb); have n1_ := Aside0.mk (ho); clear HB; clear HO208; have HB := n0_; have HO215 := n1_; clear n0_ n1_; clear ho hb hg hat))
                            go_ret
                            exact ⟨_, by first | rfl | (simp [errW_none, errW_some] <;> rfl) | (simp [*, errW_none, errW_some] <;> rfl), by (with_reducible repeat (first | apply Kd.R_alloc | apply Kd.R_drewN | apply Kd.R_drew)); exact HO215.out, by repeat (first | (with_reducible first | exact HB.out | apply below_alloc | apply pw_below_drewN | apply below_drew1) | exact HB.out)⟩
                          · rw [if_neg c26] at H
                            exact absurd H (by simp)
                        · rw [if_neg c23] at H
                          exact absurd H (by simp)
                      · rw [if_neg c22] at H
                        exact absurd H (by simp)
                    · rw [if_neg c21] at H
                      exact absurd H (by simp)
                  · replace c19 := Bool.eq_false_iff.mpr c19
                    subst c19
                    have H1 : (ferruleref18_Put.l1 k2 l0 a1 (wrap64 (x7_2 + 1))) = some r := by rw [if_neg (show ¬ (false = true) by decide)] at H; exact H
                    clear H
                    have H := H1
                    clear H1
                    have H' := Aside0.mk H
                    clear H
                    have p194 : 0 ≤ (x7_2 : Int) := of_decide_eq_true (by first | (with_reducible assumption) | assumption)
                    have q194 : x7_2 < (l0.length : Int) := of_decide_eq_true (by first | (with_reducible assumption) | assumption)
                    obtain ⟨ad194, e194, hx194_0, hx194_1⟩ := at_T79 HR0.out x7_2 p194 q194
                    cases e194
                    replace hx194_0 := (HB.out.cell (World.block_lt_of_cell? w _ hx194_0)).trans hx194_0
                    replace hx194_1 := (HB.out.cell (World.block_lt_of_cell? w _ hx194_1)).trans hx194_1
                    replace p194 := eq_true p194
                    replace q194 := eq_true q194
                    go_wp2_with (first | (go_at_call 46; (with_reducible refine (ferruleref11_Less.calls k2 a1 ((rd_T79 l0 x7_2).f0) false _ A18.out).mono ?_); rintro e w' ⟨rfl, ⟨nd, rfl⟩⟩))
                    go_roundg k2
                    case measure => have := HK1.out; have := HK2.out; omega
                    case rel => exact ⟨(wrap64 (x7_2 + 1)), (by first | rfl | (simp; done) | (simp [*]; done)), H', ⟨by have := HK1.out; have := HK2.out; omega⟩, ⟨by repeat (first | (with_reducible first | exact HB.out | apply below_alloc | apply pw_below_drewN | apply below_drew1) | exact HB.out)⟩⟩
                · rw [if_neg c17] at H
                  exact absurd H (by simp)
              · rw [if_neg c16] at H
                have c16b0 : decide (x7_2 < (l0.length : Int)) = false := decide_eq_false c16
                clear c16
                obtain ⟨y216, hy216⟩ : ∃ y_ : List (S79), y_ = (([] : List (S79))) := ⟨_, rfl⟩
                replace H : (if 0 ≤ x7_2 then (if x7_2 ≤ (l0.length : Int) then ((some (l0.take (x7_2 : Int).toNat : List (S79))).bind fun y219 => (if y216.length + y219.length < 5864062014805 then ((some (y216 ++ y219 : List (S79))).bind fun y223 => (if y223.length < 5864062014805 then ((some (y223 ++ [(⟨a1, 1⟩ : S79)] : List (S79))).bind fun y226 => ((some (l0.drop (x7_2 : Int).toNat : List (S79))).bind fun y229 => (if y226.length + y229.length < 5864062014805 then (some (y226 ++ y229)) else (none)))) else (none))) else (none))) else (none)) else (none)) = some r := by first | (rw [hy216]; with_reducible exact H) | (have H2_ := (Option.bind_some _ _).symm.trans H; rw [hy216]; with_reducible exact H2_) | (have H2_ := (Option.bind_some _ _).symm.trans H; with_reducible exact H2_) | with_reducible exact H | (rw [hy216]; exact H) | exact H
                have Ny216 := Aside0.mk hy216
                clear hy216
                by_cases c34 : 0 ≤ x7_2
                · rw [if_pos c34] at H
                  have c34b0 := eq_true c34
                  have c34b1 : decide (0 ≤ x7_2) = true := decide_eq_true c34
                  clear c34
                  by_cases c35 : x7_2 ≤ (l0.length : Int)
                  · rw [if_pos c35] at H
                    have c35b0 := eq_true c35
                    have c35b1 : decide (x7_2 ≤ (l0.length : Int)) = true := decide_eq_true c35
                    clear c35
                    obtain ⟨y219, hy219⟩ : ∃ y_ : List (S79), y_ = (l0.take (x7_2 : Int).toNat) := ⟨_, rfl⟩
                    replace H : (if y216.length + y219.length < 5864062014805 then ((some (y216 ++ y219 : List (S79))).bind fun y223 => (if y223.length < 5864062014805 then ((some (y223 ++ [(⟨a1, 1⟩ : S79)] : List (S79))).bind fun y226 => ((some (l0.drop (x7_2 : Int).toNat : List (S79))).bind fun y229 => (if y226.length + y229.length < 5864062014805 then (some (y226 ++ y229)) else (none)))) else (none))) else (none)) = some r := by first | (rw [hy219]; with_reducible exact H) | (have H2_ := (Option.bind_some _ _).symm.trans H; rw [hy219]; with_reducible exact H2_) | (have H2_ := (Option.bind_some _ _).symm.trans H; with_reducible exact H2_) | with_reducible exact H | (rw [hy219]; exact H) | exact H
                    have Ny219 := Aside0.mk hy219
                    clear hy219
                    by_cases c36 : y216.length + y219.length < 5864062014805
                    · rw [if_pos c36] at H
                      have LMc36 := Aside0.mk c36
                      clear c36
                      obtain ⟨y223, hy223⟩ : ∃ y_ : List (S79), y_ = (y216 ++ y219) := ⟨_, rfl⟩
                      replace H : (if y223.length < 5864062014805 then ((some (y223 ++ [(⟨a1, 1⟩ : S79)] : List (S79))).bind fun y226 => ((some (l0.drop (x7_2 : Int).toNat : List (S79))).bind fun y229 => (if y226.length + y229.length < 5864062014805 then (some (y226 ++ y229)) else (none)))) else (none)) = some r := by first | (rw [hy223]; with_reducible exact H) | (have H2_ := (Option.bind_some _ _).symm.trans H; rw [hy223]; with_reducible exact H2_) | (have H2_ := (Option.bind_some _ _).symm.trans H; with_reducible exact H2_) | with_reducible exact H | (rw [hy223]; exact H) | exact H
                      have Ny223 := Aside0.mk hy223
                      clear hy223
                      by_cases c37 : y223.length < 5864062014805
                      · rw [if_pos c37] at H
                        have LMc37 := Aside0.mk c37
                        clear c37
                        obtain ⟨y226, hy226⟩ : ∃ y_ : List (S79), y_ = (y223 ++ [(⟨a1, 1⟩ : S79)]) := ⟨_, rfl⟩
                        replace H : ((some (l0.drop (x7_2 : Int).toNat : List (S79))).bind fun y229 => (if y226.length + y229.length < 5864062014805 then (some (y226 ++ y229)) else (none))) = some r := by first | (rw [hy226]; with_reducible exact H) | (have H2_ := (Option.bind_some _ _).symm.trans H; rw [hy226]; with_reducible exact H2_) | (have H2_ := (Option.bind_some _ _).symm.trans H; with_reducible exact H2_) | with_reducible exact H | (rw [hy226]; exact H) | exact H
                        have Ny226 := Aside0.mk hy226
                        clear hy226
                        have c38b0 := eq_true (of_decide_eq_true (by first | (with_reducible assumption) | assumption) : 0 ≤ x7_2)
                        have c39b0 := eq_true (of_decide_eq_true (by first | (with_reducible assumption) | assumption) : x7_2 ≤ (l0.length : Int))
                        obtain ⟨y229, hy229⟩ : ∃ y_ : List (S79), y_ = (l0.drop (x7_2 : Int).toNat) := ⟨_, rfl⟩
                        replace H : (if y226.length + y229.length < 5864062014805 then (some (y226 ++ y229)) else (none)) = some r := by first | (rw [hy229]; with_reducible exact H) | (have H2_ := (Option.bind_some _ _).symm.trans H; rw [hy229]; with_reducible exact H2_) | (have H2_ := (Option.bind_some _ _).symm.trans H; with_reducible exact H2_) | with_reducible exact H | (rw [hy229]; exact H) | exact H
                        have Ny229 := Aside0.mk hy229
                        clear hy229
                        by_cases c40 : y226.length + y229.length < 5864062014805
                        · rw [if_pos c40] at H
                          have LMc40 := Aside0.mk c40
                          clear c40
                          obtain ⟨y233, hy233⟩ : ∃ y_ : List (S79), y_ = (y226 ++ y229) := ⟨_, rfl⟩
                          replace H : (some y233) = some r := by first | (rw [hy233]; with_reducible exact H) | (have H2_ := (Option.bind_some _ _).symm.trans H; rw [hy233]; with_reducible exact H2_) | (have H2_ := (Option.bind_some _ _).symm.trans H; with_reducible exact H2_) | with_reducible exact H | (rw [hy233]; exact H) | exact H
                          have Ny233 := Aside0.mk hy233
                          clear hy233
                          obtain rfl := Option.some.inj H
                          go_wp2_with (first | ((with_reducible refine gate_dst (N := 49) rfl ?_); refine Kd.R_lit k79 _ 79 ?hg (N := 49) ?hd (xs := ([] : List (S79))) (inner := []) (ok := fun _ => True) (okp := fun _ => True) ?hr ?hp (fun _ hk => hk) trivial (Below.refl _ _) (Nat.le_refl _) (by simp) ?_; (case hd => rfl); (case hg => rfl); (case hr => first | (go_simp; done) | (go_simp; rfl)); (case hp => exact (Reps.none _ _)); intro v217 w41 ho42 hb hg_ hnew_; clear hg_ hnew_; (first | rw [← Ny216.out] at ho42 | (simp only [Int.reduceToNat] at ho42; rw [← Ny216.out] at ho42)); have n0_ := Aside0.mk (Kd.R_lower ho42 (below_size (by repeat (first | (with_reducible first | exact HB.out | apply below_alloc | apply pw_below_drewN | apply below_drew1) | exact HB.out)))); have n1_ := Aside0.mk (below_step (by repeat (first | (with_reducible first | exact HB.out | apply below_alloc | apply pw_below_drewN | apply below_drew1) | exact HB.out)) hb); clear HB; have HO218 := n0_; have HB := n1_; clear n0_ n1_; clear hb ho42; have q43 : (x7_2 : Int) ≤ ((l0.length : Int) : Int) := of_decide_eq_true (by first | (with_reducible assumption) | assumption); obtain ⟨i043, hi043, _, hsz43, _⟩ := info_parts info79; have hroom43 : l0.length ≤ c0 := HC0.out; have hC43 : Kd.C k79 _ A0 l0.length l0 := HR0.out; have hcut43 := cut_to (P := Try.prog) 22 79 .i64 Try.underlying22 hi043 A0 l0.length c0 x7_2 (of_decide_eq_true (by first | (with_reducible assumption) | assumption)) q43 hroom43; have hr43 := Kd.C_take (m := (x7_2 : Int).toNat) hC43 (by omega); have hy43 : y219.length = (x7_2 : Int).toNat := (by rw [Ny219.out, List.length_take]; omega); rw [← Ny219.out] at hr43; rw [← hy43] at hcut43; have HR222 := Aside0.mk hr43; have HC222 := Aside0.mk (show y219.length ≤ c0 from by omega); clear hr43 hC43 hroom43 hi043 hsz43; have KY43 := Aside0.mk hy43; clear hy43; replace q43 := eq_true q43) | ((with_reducible refine gate_builtin (b := .append) (xs := #[.tmp 49, .tmp 52]) rfl ?_); at_builtin; refine Kd.R_append_rows k79 (w0 := w) w.heap.size rfl (.tmp 49) (.tmp 52) 22 79 (.agg #[(.string ⟨#[]⟩), (.int .i64 0)]) 24 rfl Try.underlying22 info79 rfl (by decide) (by omega) v217 y216 y219 _ _ _ (fun _ => True) (fun _ => False) rfl rfl ?aO ?aR (fun _ _ h => h) (fun _ h => h.elim) ?aF ?aB ?aS ?aL ?_; (case aR => repeat (first | exact (Kd.C_below HR222.out HB.out) | (with_reducible refine Kd.C_alloc ?_ _) | (with_reducible refine Kd.C_drewN ?_ _) | (with_reducible refine Kd.C_drew ?_))); (case aB => exact (by repeat (first | (with_reducible first | exact HB.out | apply below_alloc | apply pw_below_drewN | apply below_drew1) | exact HB.out))); (case aF => exact (fun _ _ => trivial)); (case aO => exact (by (with_reducible repeat (first | apply Kd.R_alloc | apply Kd.R_drewN | apply Kd.R_drew)); exact HO218.out)); (case aS => exact (below_size (by repeat (first | (with_reducible first | exact HB.out | apply below_alloc | apply pw_below_drewN | apply below_drew1) | exact HB.out)))); (case aL => have := LMc36.out; omega); intro v224 w44 ho hb hg hat; rw [← Ny223.out] at ho; have n0_ := Aside0.mk (hb); have n1_ := Aside0.mk (ho); clear HB; clear HO218; have HB := n0_; have HO225 := n1_; clear n0_ n1_; clear ho hb hg hat) | ((with_reducible refine gate_builtin (b := .append) (xs := #[.tmp 54, .tmp 57]) rfl ?_); at_builtin; refine Kd.R_append k79 (w0 := w) w.heap.size rfl (.tmp 54) (.tmp 57) 22 79 (.agg #[(.string ⟨#[]⟩), (.int .i64 0)]) 24 rfl Try.underlying22 info79 rfl (by decide) (by omega) v224 y223 (⟨a1, 1⟩ : S79) [.string a1, .int .i64 1] (fun _ => True) (fun _ => False) rfl rfl ?aP (fun _ hk => hk.elim) ?aF ?aO ?aB ?aS ?aL ?_; (case aP => exact k79_mkM _ _ _ (⟨a1, 1⟩ : S79)); (case aB => exact (by repeat (first | (with_reducible first | exact HB.out | apply below_alloc | apply pw_below_drewN | apply below_drew1) | exact HB.out))); (case aF => exact (fun _ _ => trivial)); (case aO => exact (by (with_reducible repeat (first | apply Kd.R_alloc | apply Kd.R_drewN | apply Kd.R_drew)); exact HO225.out)); (case aS => exact (below_size (by repeat (first | (with_reducible first | exact HB.out | apply below_alloc | apply pw_below_drewN | apply below_drew1) | exact HB.out)))); (case aL => have := LMc37.out; omega); intro v227 w45 ho hb hg hat; rw [← Ny226.out] at ho; have n0_ := Aside0.mk (hb); have n1_ := Aside0.mk (ho); clear HB; clear HO225; have HB := n0_; have HO228 := n1_; clear n0_ n1_; clear ho hb hg hat; have q46 : (x7_2 : Int) ≤ ((l0.length : Int) : Int) := of_decide_eq_true (by first | (with_reducible assumption) | assumption); obtain ⟨i046, hi046, _, hsz46, _⟩ := info_parts info79; have hroom46 : l0.length ≤ c0 := HC0.out; have hC46 : Kd.C k79 _ A0 l0.length l0 := HR0.out; have q046 : (0 : Int) ≤ (x7_2 : Int) := of_decide_eq_true (by first | (with_reducible assumption) | assumption); have hcut46 := cut_from (P := Try.prog) 22 79 .i64 Try.underlying22 hi046 2 hsz46 A0 l0.length c0 x7_2 q046 q46; have hr46 := Kd.C_drop (m := (x7_2 : Int).toNat) (c := c0) hC46 (by omega) hroom46; obtain ⟨A46, hA46⟩ : ∃ A1, A1 = (if c0 = (x7_2 : Int).toNat then A0 else (A0 : Option Addr).map (·.add ((x7_2 : Int).toNat * 2))) := ⟨_, rfl⟩; obtain ⟨c46, hc46⟩ : ∃ c1, c1 = c0 - (x7_2 : Int).toNat := ⟨_, rfl⟩; have hy46 : y229.length = l0.length - (x7_2 : Int).toNat := (by rw [Ny229.out, List.length_drop] <;> omega); rw [show (l0).drop (x7_2 : Int).toNat = y229 from Ny229.out.symm] at hr46; replace hr46 : Kd.C k79 _ A46 y229.length y229 := (by rw [hA46]; exact hr46); rw [← hy46, ← hA46, ← hc46] at hcut46; have HR232 := Aside0.mk hr46; have HC232 := Aside0.mk (show y229.length ≤ c46 from by rw [hy46, hc46]; exact Nat.sub_le_sub_right hroom46 _); clear hr46 hC46 hroom46 hi046 hsz46 hc46; have KY46 := Aside0.mk hy46; have KA46 := Aside0.mk hA46; clear hy46 hA46; replace q46 := eq_true q46) | ((with_reducible refine gate_builtin (b := .append) (xs := #[.tmp 59, .tmp 62]) rfl ?_); at_builtin; refine Kd.R_append_rows k79 (w0 := w) w.heap.size rfl (.tmp 59) (.tmp 62) 22 79 (.agg #[(.string ⟨#[]⟩), (.int .i64 0)]) 24 rfl Try.underlying22 info79 rfl (by decide) (by omega) v227 y226 y229 _ _ _ (fun _ => True) (fun _ => False) rfl rfl ?aO ?aR (fun _ _ h => h) (fun _ h => h.elim) ?aF ?aB ?aS ?aL ?_; (case aR => repeat (first | exact (Kd.C_below HR232.out HB.out) | (with_reducible refine Kd.C_alloc ?_ _) | (with_reducible refine Kd.C_drewN ?_ _) | (with_reducible refine Kd.C_drew ?_))); (case aB => exact (by repeat (first | (with_reducible first | exact HB.out | apply below_alloc | apply pw_below_drewN | apply below_drew1) | exact HB.out))); (case aF => exact (fun _ _ => trivial)); (case aO => exact (by (with_reducible repeat (first | apply Kd.R_alloc | apply Kd.R_drewN | apply Kd.R_drew)); exact HO228.out)); (case aS => exact (below_size (by repeat (first | (with_reducible first | exact HB.out | apply below_alloc | apply pw_below_drewN | apply below_drew1) | exact HB.out)))); (case aL => have := LMc40.out; omega); intro v234 w47 ho hb hg hat; rw [← Ny233.out] at ho; have n0_ := Aside0.mk (hb); have n1_ := Aside0.mk (ho); clear HB; clear HO228; have HB := n0_; have HO235 := n1_; clear n0_ n1_; clear ho hb hg hat))
                          go_ret
                          exact ⟨_, by first | rfl | (simp [errW_none, errW_some] <;> rfl) | (simp [*, errW_none, errW_some] <;> rfl), by (with_reducible repeat (first | apply Kd.R_alloc | apply Kd.R_drewN | apply Kd.R_drew)); exact HO235.out, by repeat (first | (with_reducible first | exact HB.out | apply below_alloc | apply pw_below_drewN | apply below_drew1) | exact HB.out)⟩
                        · rw [if_neg c40] at H
                          exact absurd H (by simp)
                      · rw [if_neg c37] at H
                        exact absurd H (by simp)
                    · rw [if_neg c36] at H
                      exact absurd H (by simp)
                  · rw [if_neg c35] at H
                    exact absurd H (by simp)
                · rw [if_neg c34] at H
                  exact absurd H (by simp)
  · rw [if_neg c3] at H
    exact absurd H (by simp)

end Go.Proofs.Ythfkbfahpgdnfaa.PAll
