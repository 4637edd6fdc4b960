/- Joined texts of the claim GroupChanges (part 25): contracts of functions and plain laws. -/
import Derived.Test.YtlmefnifhbcbcaaJGroupChanges2
import Derived.Test.YtlmefnifhbcbcaaJGroupChanges21
import Derived.Test.YtlmefnifhbcbcaaJGroupChanges24
section
-- Printed by this session's pr.sh (the kit's print.py, several laws in one namespace). Not trusted: Lean checks it.
namespace Go.Proofs.Ytlmefnifhbcbcaa.PAll
open Go.RowKit Go.Proofs.YtlmefnifhbcbcaaW.PrintWords Go.Proofs.YtlmefnifhbcbcaaW.PrintLast Go.Proofs.YtlmefnifhbcbcaaW.PrintMore
attribute [local go_sem] max2_int min2_int max_two min_two max_three min_three max_four min_four   -- for this text's walks alone
set_option linter.unusedVariables false
set_option linter.unusedSimpArgs false

/-! ### ferruleref06_less: function 65 -/
def ferruleref06_less.l0 : Nat → List Int → Int → List Int → Int → Option (List Int)
  | 0, _, _, _, _ => none
  | k + 1, x0, x1, x5, x6 => if x6 < (x0.length : Int) then (if 0 ≤ x6 then (if (rd x0 x6) = x1 then (ferruleref06_less.l0 k x0 x1 x5 (wrap64 (x6 + 1))) else (if x5.length < 17592186044416 then (ferruleref06_less.l0 k x0 x1 (x5 ++ [rd x0 x6]) (wrap64 (x6 + 1))) else (none))) else (none)) else (some x5)
def ferruleref06_less.f (k : Nat) (l0 : List Int) (a1 : Int) : Option (List Int) := ferruleref06_less.l0 k l0 a1 ([] : List Int) 0
theorem ferruleref06_less.mono_l : ∀ k, (∀ y0 y1 y2 y3, LeO (ferruleref06_less.l0 k y0 y1 y2 y3) (ferruleref06_less.l0 (k + 1) y0 y1 y2 y3))
  | 0 => fun _ _ _ _ r h => by simp [ferruleref06_less.l0] at h
  | k + 1 => by
    have ih0 := ferruleref06_less.mono_l k
    · intro y0 y1 y2 y3
      unfold ferruleref06_less.l0
      repeat' first
      | (with_reducible exact ih0 _ _ _ _)
      | (with_reducible exact LeO.refl _)
      | (with_reducible exact LeO.none _)
      | (with_reducible refine LeO.ite ?_ ?_)
      | (with_reducible refine LeO.bind ?_ (fun _ => ?_))
      | exact ih0 _ _ _ _
      | exact LeO.none _
      | refine LeO.ite ?_ ?_
      | refine LeO.bind ?_ (fun _ => ?_)
theorem ferruleref06_less.mono : ∀ a0 a1 k, LeO (ferruleref06_less.f k a0 a1) (ferruleref06_less.f (k + 1) a0 a1) := by
  intro a0 a1 k
  have ih0 := ferruleref06_less.mono_l k
  unfold ferruleref06_less.f
  repeat' first
      | (with_reducible exact ih0 _ _ _ _)
      | (with_reducible exact LeO.refl _)
      | (with_reducible exact LeO.none _)
      | (with_reducible refine LeO.ite ?_ ?_)
      | (with_reducible refine LeO.bind ?_ (fun _ => ?_))
      | exact ih0 _ _ _ _
      | exact LeO.none _
      | refine LeO.ite ?_ ?_
      | refine LeO.bind ?_ (fun _ => ?_)
set_option maxHeartbeats 8000000 in
set_option maxRecDepth 100000 in
theorem ferruleref06_less.calls (k : Nat) (A0 : Option Addr) (c0 : Nat) (l0 : List Int) (a1 : Int) (r : List Int) (w : World) (hr0 : Kd.C (Kd.int .u64) w A0 l0.length l0) (hc0 : l0.length ≤ c0) (h : ferruleref06_less.f k l0 a1 = some r) :
    Calls Try.prog 65 #[.slice A0 l0.length c0, .int .u64 a1] w fun e w' => ∃ v0_ : Value, e = .returned (v0_) ∧ Kd.R (Kd.int .u64) 22 w' w.heap.size (fun _ => True) v0_ r ∧ Below w.heap.size w w' := by
  have HR0 := Aside0.mk hr0
  have HC0 := Aside0.mk hc0
  clear hr0 hc0
  have HB := Aside0.mk (Below.refl w.heap.size w)
  have H : (ferruleref06_less.l0 k l0 a1 ([] : List Int) 0) = some r := h
  clear h
  have H' := Aside0.mk H
  clear H
  go_enter Try.func65, Try.ntmps65
  go_wp2
  go_loopg [5, 6] k (fun kq v5 v6 w' => ∃ (x5_1 : List Int) (x6_1 : Int), v6 = .int .i64 x6_1 ∧ Aside0 (ferruleref06_less.l0 kq l0 a1 x5_1 x6_1 = some r) ∧ Aside0 (kq ≤ k) ∧ Aside0 (Kd.R (Kd.int .u64) 22 w' w.heap.size (fun _ => True) v5 x5_1) ∧ Aside0 (Below w.heap.size w w'))
  case atStart => exact ⟨(([] : List Int)), (0), (by first | rfl | (simp; done) | (simp [*]; done)), H', ⟨Nat.le_refl _⟩, ⟨by first | exact Kd.R_nil _ _ _ _ _ | exact Kd.N_nil _ _ _ _ _ | exact Kd.V_nil _ _ _ _ _ | exact Kd.Q_nil _ _ _ _ _ | exact Kd.S_nil _ _ _ _ _⟩, ⟨by repeat (first | (with_reducible first | exact HB.out | apply below_alloc | apply pw_below_drewN | apply below_drew1) | exact HB.out)⟩⟩
  case round =>
    clear H'
    try clear p2
    obtain ⟨x5_1, x6_1, rfl, HA, HK1, HO_5, HB⟩ := hrel
    cases gk with
    | zero => exact absurd HA.out (by simp [ferruleref06_less.l0])
    | succ k1 =>
      have H := HA.out
      clear HA
      simp only [ferruleref06_less.l0] at H
      by_cases c3 : x6_1 < (l0.length : Int)
      · rw [if_pos c3] at H
        have c3b0 : decide (x6_1 < (l0.length : Int)) = true := decide_eq_true c3
        clear c3
        by_cases c4 : 0 ≤ x6_1
        · rw [if_pos c4] at H
          have c4b0 : decide (0 ≤ x6_1) = true := decide_eq_true c4
          clear c4
          by_cases c5 : (rd l0 x6_1) = a1
          · rw [if_pos c5] at H
            have c5b0 : ((rd l0 x6_1) == a1) = true := beq_iff_eq.mpr c5
            have c5b1 : ((rd l0 x6_1) != a1) = false := bne_eq_false_iff_eq.mpr c5
            clear c5
            have H' := Aside0.mk H
            clear H
            have p378 : 0 ≤ (x6_1 : Int) := of_decide_eq_true (by first | (with_reducible assumption) | assumption)
            have q378 : x6_1 < (l0.length : Int) := of_decide_eq_true (by first | (with_reducible assumption) | assumption)
            obtain ⟨ad378, e378, hx378_0⟩ := Kd.at_int HR0.out x6_1 p378 q378
            cases e378
            replace hx378_0 := (HB.out.cell (World.block_lt_of_cell? w _ hx378_0)).trans hx378_0
            replace p378 := eq_true p378
            replace q378 := eq_true q378
            go_wp2
            go_roundg k1
            case measure => have := HK1.out; omega
            case rel => exact ⟨(x5_1), (wrap64 (x6_1 + 1)), (by first | rfl | (simp; done) | (simp [*]; done)), H', ⟨by have := HK1.out; omega⟩, ⟨by (with_reducible repeat (first | apply Kd.R_alloc | apply Kd.R_drewN | apply Kd.R_drew)); exact HO_5.out⟩, ⟨by repeat (first | (with_reducible first | exact HB.out | apply below_alloc | apply pw_below_drewN | apply below_drew1) | exact HB.out)⟩⟩
          · rw [if_neg c5] at H
            have c5b0 : ((rd l0 x6_1) == a1) = false := beq_eq_false_iff_ne.mpr c5
            have c5b1 : ((rd l0 x6_1) != a1) = true := bne_iff_ne.mpr c5
            by_cases c6 : x5_1.length < 17592186044416
            · rw [if_pos c6] at H
              have LMc6 := Aside0.mk c6
              clear c6
              obtain ⟨y380, hy380⟩ : ∃ y_ : List Int, y_ = (x5_1 ++ [rd l0 x6_1]) := ⟨_, rfl⟩
              replace H : (ferruleref06_less.l0 k1 l0 a1 y380 (wrap64 (x6_1 + 1))) = some r := by first | (rw [hy380]; with_reducible exact H) | (have H2_ := (Option.bind_some _ _).symm.trans H; rw [hy380]; with_reducible exact H2_) | (have H2_ := (Option.bind_some _ _).symm.trans H; with_reducible exact H2_) | with_reducible exact H | (rw [hy380]; exact H) | exact H
              have Ny380 := Aside0.mk hy380
              clear hy380
              have H' := Aside0.mk H
              clear H
              have p378 : 0 ≤ (x6_1 : Int) := of_decide_eq_true (by first | (with_reducible assumption) | assumption)
              have q378 : x6_1 < (l0.length : Int) := of_decide_eq_true (by first | (with_reducible assumption) | assumption)
              obtain ⟨ad378, e378, hx378_0⟩ := Kd.at_int HR0.out x6_1 p378 q378
              cases e378
              replace hx378_0 := (HB.out.cell (World.block_lt_of_cell? w _ hx378_0)).trans hx378_0
              replace p378 := eq_true p378
              replace q378 := eq_true q378
              have p379 : 0 ≤ (x6_1 : Int) := of_decide_eq_true (by first | (with_reducible assumption) | assumption)
              have q379 : x6_1 < (l0.length : Int) := of_decide_eq_true (by first | (with_reducible assumption) | assumption)
              obtain ⟨ad379, e379, hx379_0⟩ := Kd.at_int HR0.out x6_1 p379 q379
              obtain rfl : ad378 = ad379 := (by injection e379)
              replace hx379_0 := (HB.out.cell (World.block_lt_of_cell? w _ hx379_0)).trans hx379_0
              replace p379 := eq_true p379
              replace q379 := eq_true q379
              go_wp2_with (first | ((with_reducible refine gate_builtin (b := .append) (xs := #[.tmp 19, .tmp 24]) rfl ?_); at_builtin; refine Kd.R_append (Kd.int .u64) (w0 := w) w.heap.size rfl (.tmp 19) (.tmp 24) 26 22 (.int .u64 0) 8 rfl Try.underlying26 info22 rfl (by decide) (by omega) u5 x5_1 (rd l0 x6_1) [.int .u64 (rd l0 x6_1)] (fun _ => True) (fun _ => False) rfl rfl ?aP (fun _ hk => hk.elim) ?aF ?aO ?aB ?aS ?aL ?_; (case aP => exact rfl); (case aB => exact (by repeat (first | (with_reducible first | exact HB.out | apply below_alloc | apply pw_below_drewN | apply below_drew1) | exact HB.out))); (case aF => exact (fun _ _ => trivial)); (case aO => exact (by (with_reducible repeat (first | apply Kd.R_alloc | apply Kd.R_drewN | apply Kd.R_drew)); exact HO_5.out)); (case aS => exact (below_size (by repeat (first | (with_reducible first | exact HB.out | apply below_alloc | apply pw_below_drewN | apply below_drew1) | exact HB.out)))); (case aL => have := LMc6.out; omega); intro v381 w7 ho hb hg hat; rw [← Ny380.out] at ho; have n0_ := Aside0.mk (hb); have n1_ := Aside0.mk (ho); clear HB; clear HO_5; have HB := n0_; have HO382 := n1_; clear n0_ n1_; clear ho hb hg hat))
              go_roundg k1
              case measure => have := HK1.out; omega
              case rel => exact ⟨(y380), (wrap64 (x6_1 + 1)), (by first | rfl | (simp; done) | (simp [*]; done)), H', ⟨by have := HK1.out; omega⟩, ⟨by (with_reducible repeat (first | apply Kd.R_alloc | apply Kd.R_drewN | apply Kd.R_drew)); exact HO382.out⟩, ⟨by repeat (first | (with_reducible first | exact HB.out | apply below_alloc | apply pw_below_drewN | apply below_drew1) | exact HB.out)⟩⟩
            · rw [if_neg c6] at H
              exact absurd H (by simp)
        · rw [if_neg c4] at H
          exact absurd H (by simp)
      · rw [if_neg c3] at H
        have c3b0 : decide (x6_1 < (l0.length : Int)) = false := decide_eq_false c3
        clear c3
        obtain rfl := Option.some.inj H
        go_wp2
        go_ret
        exact ⟨_, by first | rfl | (simp [errW_none, errW_some] <;> rfl) | (simp [*, errW_none, errW_some] <;> rfl), by (with_reducible repeat (first | apply Kd.R_alloc | apply Kd.R_drewN | apply Kd.R_drew)); exact HO_5.out, by repeat (first | (with_reducible first | exact HB.out | apply below_alloc | apply pw_below_drewN | apply below_drew1) | exact HB.out)⟩

end Go.Proofs.Ytlmefnifhbcbcaa.PAll
end
section
/- Plain laws of groups: a node put into a list that rises, or taken out of it, as the document does it. -/
namespace Go.Proofs.Ytlmefnifhbcbcaa.PAll
open Go.RowKit Go.Proofs.YtlmefnifhbcbcaaW.PrintWords Go.Proofs.YtlmefnifhbcbcaaW.PrintMore Go.Proofs.Ytlmefnifhbcbcaa
set_option linter.unusedVariables false
/-! the document's put and less -/
theorem rput_done (l : List Int) (id : Int) (hl : l.length ≤ 100) : ∀ (d j : Nat) (out : List Int), d = l.length - j → j ≤ l.length → out.length ≤ j + 1 → Ev (fun q => ferruleref06_put.l0 q l id out true (j : Int)) (out ++ l.drop j) := by
  intro d
  induction d with
  | zero =>
    intro j out hd hj ho
    rw [List.drop_eq_nil_of_le (by omega), List.append_nil]
    exact Ev.step (f := fun _ => some out) (fun q => by simp only [ferruleref06_put.l0]; rw [if_neg (show ¬ (j : Int) < l.length by omega)]; exact if_pos trivial) (Ev.now out)
  | succ d ih =>
    intro j out hd hj ho
    have hlt : j < l.length := by omega
    rw [dropGet l j hlt, show out ++ l[j]! :: l.drop (j + 1) = (out ++ [l[j]!]) ++ l.drop (j + 1) by simp]
    refine Ev.step (f := fun q => ferruleref06_put.l0 q l id (out ++ [l[j]!]) true ((j + 1 : Nat) : Int)) (fun q => ?_) (ih (j + 1) _ (by omega) (by omega) (by simp; omega))
    simp only [ferruleref06_put.l0]
    rw [if_pos (show (j : Int) < l.length by omega), if_pos (show (0 : Int) ≤ j by omega), rd_int l j hlt, wrapUp j (by omega), if_pos (show out.length < 17592186044416 by omega)]
    by_cases c : l[j]! > id
    · rw [if_pos c]; exact if_pos trivial
    · rw [if_neg c]
theorem rput_l0 (l : List Int) (id : Int) (hl : l.length ≤ 100) : ∀ (d j : Nat) (out : List Int), d = l.length - j → j ≤ l.length → out.length ≤ j → Ev (fun q => ferruleref06_put.l0 q l id out false (j : Int)) (out ++ insV (l.drop j) id) := by
  intro d
  induction d with
  | zero =>
    intro j out hd hj ho
    rw [List.drop_eq_nil_of_le (by omega)]
    exact Ev.step (f := fun _ => some (out ++ [id])) (fun q => by simp only [ferruleref06_put.l0]; rw [if_neg (show ¬ (j : Int) < l.length by omega), if_pos (show out.length < 17592186044416 by omega)]; exact if_neg (by decide)) (Ev.now _)
  | succ d ih =>
    intro j out hd hj ho
    have hlt : j < l.length := by omega
    rw [dropGet l j hlt]
    unfold insV
    by_cases c : l[j]! > id
    · rw [if_pos c, show out ++ id :: l[j]! :: l.drop (j + 1) = (out ++ [id] ++ [l[j]!]) ++ l.drop (j + 1) by simp]
      refine Ev.step (f := fun q => ferruleref06_put.l0 q l id (out ++ [id] ++ [l[j]!]) true ((j + 1 : Nat) : Int)) (fun q => ?_) (rput_done l id hl d (j + 1) _ (by omega) (by omega) (by simp; omega))
      simp only [ferruleref06_put.l0]
      rw [if_pos (show (j : Int) < l.length by omega), if_pos (show (0 : Int) ≤ j by omega), rd_int l j hlt, wrapUp j (by omega), if_pos c, if_pos (show out.length < 17592186044416 by omega)]
      refine (if_neg (by decide)).trans ?_
      rw [Option.bind_some]
      rw [if_pos (show (out ++ [id]).length < 17592186044416 by rw [List.length_append, List.length_singleton]; omega)]
      exact if_pos (by omega)
    · rw [if_neg c, show out ++ l[j]! :: insV (l.drop (j + 1)) id = (out ++ [l[j]!]) ++ insV (l.drop (j + 1)) id by simp]
      refine Ev.step (f := fun q => ferruleref06_put.l0 q l id (out ++ [l[j]!]) false ((j + 1 : Nat) : Int)) (fun q => ?_) (ih (j + 1) _ (by omega) (by omega) (by simp; omega))
      simp only [ferruleref06_put.l0]
      rw [if_pos (show (j : Int) < l.length by omega), if_pos (show (0 : Int) ≤ j by omega), rd_int l j hlt, wrapUp j (by omega), if_neg c, if_pos (show out.length < 17592186044416 by omega)]
theorem rput_ev (l : List Int) (id : Int) (hl : l.length ≤ 100) : Ev (fun q => ferruleref06_put.f q l id) (insV l id) := rput_l0 l id hl l.length 0 [] (by omega) (by omega) (by simp)
theorem rless_l0 (l : List Int) (id : Int) (hl : l.length ≤ 100) : ∀ (d j : Nat) (out : List Int), d = l.length - j → j ≤ l.length → out.length ≤ j → Ev (fun q => ferruleref06_less.l0 q l id out (j : Int)) (out ++ delV (l.drop j) id) := by
  intro d
  induction d with
  | zero =>
    intro j out hd hj ho
    rw [List.drop_eq_nil_of_le (by omega)]
    show Ev _ (out ++ [])
    rw [List.append_nil]
    exact Ev.step (f := fun _ => some out) (fun q => by simp only [ferruleref06_less.l0]; rw [if_neg (show ¬ (j : Int) < l.length by omega)]) (Ev.now out)
  | succ d ih =>
    intro j out hd hj ho
    have hlt : j < l.length := by omega
    rw [dropGet l j hlt]
    unfold delV
    by_cases c : l[j]! = id
    · rw [List.filter_cons_of_neg (by simpa using c)]
      exact Ev.step (f := fun q => ferruleref06_less.l0 q l id out ((j + 1 : Nat) : Int)) (fun q => by simp only [ferruleref06_less.l0]; rw [if_pos (show (j : Int) < l.length by omega), if_pos (show (0 : Int) ≤ j by omega), rd_int l j hlt, wrapUp j (by omega), if_pos c]) (ih (j + 1) _ (by omega) (by omega) (by omega))
    · rw [List.filter_cons_of_pos (by simpa using c), show out ++ l[j]! :: (l.drop (j + 1)).filter (fun x => !(x == id)) = (out ++ [l[j]!]) ++ delV (l.drop (j + 1)) id by simp [delV]]
      exact Ev.step (f := fun q => ferruleref06_less.l0 q l id (out ++ [l[j]!]) ((j + 1 : Nat) : Int)) (fun q => by simp only [ferruleref06_less.l0]; rw [if_pos (show (j : Int) < l.length by omega), if_pos (show (0 : Int) ≤ j by omega), rd_int l j hlt, wrapUp j (by omega), if_neg c, if_pos (show out.length < 17592186044416 by omega)]) (ih (j + 1) _ (by omega) (by omega) (by simp; omega))
theorem rless_ev (l : List Int) (id : Int) (hl : l.length ≤ 100) : Ev (fun q => ferruleref06_less.f q l id) (delV l id) := rless_l0 l id hl l.length 0 [] (by omega) (by omega) (by simp)
end Go.Proofs.Ytlmefnifhbcbcaa.PAll
end
