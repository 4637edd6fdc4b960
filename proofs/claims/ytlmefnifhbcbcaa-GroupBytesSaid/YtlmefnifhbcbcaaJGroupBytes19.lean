/- Joined texts of the claim GroupBytes (part 19): contracts of functions and plain laws. -/
import Derived.Test.YtlmefnifhbcbcaaJGroupBytes13
import Derived.Test.YtlmefnifhbcbcaaJGroupBytes18
import Derived.Test.YtlmefnifhbcbcaaJGroupBytes17
section
-- Printed by this session's pr.sh (the kit's print.py, several laws in one namespace). Not trusted: Lean checks it.
namespace Go.Proofs.Ytlmefnifhbcbcaa.PAll
open Go.RowKit Go.Proofs.YtlmefnifhbcbcaaW.PrintWords Go.Proofs.YtlmefnifhbcbcaaW.PrintLast Go.Proofs.YtlmefnifhbcbcaaW.PrintMore
set_option linter.unusedVariables false
set_option linter.unusedSimpArgs false

/-! ### group_Mark: function 32 -/
def group_Mark.f (l0 : List (S39)) (a1 : Int) : Option (Int × Bool) := (group_of.f l0 a1).bind fun t102 => (if t102 < 0 then (some (0, false)) else (if 0 ≤ t102 then (if t102 < (l0.length : Int) then (some ((rd_T39 l0 t102).f1, true)) else (none)) else (none)))
set_option maxHeartbeats 8000000 in
set_option maxRecDepth 100000 in
theorem group_Mark.calls (A0 : Option Addr) (c0 : Nat) (l0 : List (S39)) (a1 : Int) (r1 : Int) (r2 : Bool) (w : World) (hr0 : Kd.C k39 w A0 l0.length l0) (hc0 : l0.length ≤ c0) (h : group_Mark.f l0 a1 = some (r1, r2)) :
    Calls Try.prog 32 #[.slice A0 l0.length c0, .int .u64 a1] w fun e w' => e = .returned (.tuple #[.int .u64 r1, .bool r2]) ∧ Below w.heap.size w w' := by
  have HR0 := Aside0.mk hr0
  have HC0 := Aside0.mk hc0
  clear hr0 hc0
  have HB := Aside0.mk (Below.refl w.heap.size w)
  have H : ((group_of.f l0 a1).bind fun t102 => (if t102 < 0 then (some (0, false)) else (if 0 ≤ t102 then (if t102 < (l0.length : Int) then (some ((rd_T39 l0 t102).f1, true)) else (none)) else (none)))) = some (r1, r2) := h
  clear h
  replace H := Option.bind_eq_some_iff.mp H
  obtain ⟨t102, A30, H⟩ := H
  replace H : (if t102 < 0 then (some (0, false)) else (if 0 ≤ t102 then (if t102 < (l0.length : Int) then (some ((rd_T39 l0 t102).f1, true)) else (none)) else (none))) = some (r1, r2) := H
  have A3 := Aside0.mk A30
  clear A30
  by_cases c4 : t102 < 0
  · rw [if_pos c4] at H
    have c4b0 : decide (t102 < 0) = true := decide_eq_true c4
    clear c4
    simp only [Option.some.injEq, Prod.mk.injEq] at H
    obtain ⟨rfl, rfl⟩ := H
    go_enter Try.func32, Try.ntmps32
    go_wp2_with (first | ((with_reducible refine gate_callee (f := 67) rfl ?_); refine goesL_ (some 9) rfl rfl Try.func67 (by kernel_rfl) rfl #[.slice A0 l0.length c0, .int .u64 a1] rfl (by (try simp only [List.map_toArray, List.map_cons, List.map_nil]); first | done | rfl | (simp only [List.length_drop, List.length_take]; rfl)) ?_; (with_reducible refine (group_of.calls _ _ l0 a1 t102 _ ?side1 ?side2 A3.out).mono ?_); (case side1 => repeat (first | exact HR0.out | (with_reducible refine Kd.C_alloc ?_ _) | (with_reducible refine Kd.C_drewN ?_ _) | (with_reducible refine Kd.C_drew ?_))); (case side2 => exact HC0.out); rintro e w5 ⟨rfl, hb⟩; refine ⟨_, rfl, ?_⟩; have n0_ := Aside0.mk (below_step (by repeat (first | (with_reducible first | exact HB.out | apply below_alloc | apply pw_below_drewN | apply below_drew1) | exact HB.out)) hb); clear HB; have HB := n0_; clear n0_; (try clear hb); (try clear hb2); (try clear hk); (try clear hi)))
    go_ret2
    exact ⟨by first | rfl | (simp [errW_none, errW_some] <;> rfl) | (simp [*, errW_none, errW_some] <;> rfl), by repeat (first | (with_reducible first | exact HB.out | apply below_alloc | apply pw_below_drewN | apply below_drew1) | exact HB.out)⟩
  · rw [if_neg c4] at H
    have c4b0 : decide (t102 < 0) = false := decide_eq_false c4
    clear c4
    by_cases c6 : 0 ≤ t102
    · rw [if_pos c6] at H
      have c6b0 : decide (0 ≤ t102) = true := decide_eq_true c6
      clear c6
      by_cases c7 : t102 < (l0.length : Int)
      · rw [if_pos c7] at H
        have c7b0 : decide (t102 < (l0.length : Int)) = true := decide_eq_true c7
        clear c7
        simp only [Option.some.injEq, Prod.mk.injEq] at H
        obtain ⟨rfl, rfl⟩ := H
        go_enter Try.func32, Try.ntmps32
        go_wp2_with (first | ((with_reducible refine gate_callee (f := 67) rfl ?_); refine goesL_ (some 9) rfl rfl Try.func67 (by kernel_rfl) rfl #[.slice A0 l0.length c0, .int .u64 a1] rfl (by (try simp only [List.map_toArray, List.map_cons, List.map_nil]); first | done | rfl | (simp only [List.length_drop, List.length_take]; rfl)) ?_; (with_reducible refine (group_of.calls _ _ l0 a1 t102 _ ?side1 ?side2 A3.out).mono ?_); (case side1 => repeat (first | exact HR0.out | (with_reducible refine Kd.C_alloc ?_ _) | (with_reducible refine Kd.C_drewN ?_ _) | (with_reducible refine Kd.C_drew ?_))); (case side2 => exact HC0.out); rintro e w8 ⟨rfl, hb⟩; refine ⟨_, rfl, ?_⟩; have n0_ := Aside0.mk (below_step (by repeat (first | (with_reducible first | exact HB.out | apply below_alloc | apply pw_below_drewN | apply below_drew1) | exact HB.out)) hb); clear HB; have HB := n0_; clear n0_; (try clear hb); (try clear hb2); (try clear hk); (try clear hi); have p103 : 0 ≤ (t102 : Int) := of_decide_eq_true (by first | (with_reducible assumption) | assumption); have q103 : t102 < (l0.length : Int) := of_decide_eq_true (by first | (with_reducible assumption) | assumption); obtain ⟨ad103, e103, hx103_0, hx103_1⟩ := at_T39 HR0.out t102 p103 q103; cases e103; replace hx103_0 := (HB.out.cell (World.block_lt_of_cell? w _ hx103_0)).trans hx103_0; replace hx103_1 := (HB.out.cell (World.block_lt_of_cell? w _ hx103_1)).trans hx103_1; replace p103 := eq_true p103; replace q103 := eq_true q103))
        go_ret2
        exact ⟨by first | rfl | (simp [errW_none, errW_some] <;> rfl) | (simp [*, errW_none, errW_some] <;> rfl), by repeat (first | (with_reducible first | exact HB.out | apply below_alloc | apply pw_below_drewN | apply below_drew1) | exact HB.out)⟩
      · rw [if_neg c7] at H
        exact absurd H (by simp)
    · rw [if_neg c6] at H
      exact absurd H (by simp)

end Go.Proofs.Ytlmefnifhbcbcaa.PAll
end
section
/- Groups: what a majority has, in plain words. -/
namespace Go.Proofs.Ytlmefnifhbcbcaa.PAll
open Go.RowKit Go.Proofs.YtlmefnifhbcbcaaW.PrintWords Go.Proofs.YtlmefnifhbcbcaaW.PrintMore Go.Proofs.Ytlmefnifhbcbcaa
set_option linter.unusedVariables false
def markV (m : List S39) (id : Int) : Int := if findI (fun x : S39 => x.f0 == id) m < 0 then 0 else (m[(findI (fun x : S39 => x.f0 == id) m).toNat]!).f1
theorem rd_mark (l : List S39) (j : Nat) (hj : j < l.length) : rd_T39 l (j : Int) = l[j]! := by
  simp [rd_T39, List.getD_eq_getElem?_getD, List.getElem?_eq_getElem hj, getElem!_pos l j hj]
theorem findI_two {α : Type} (p : α → Bool) (l : List α) : findI p l = -1 ∨ ∃ i : Nat, i < l.length ∧ findI p l = i := by
  unfold findI
  by_cases h : l.findIdx p < l.length
  · rw [if_pos h]; exact .inr ⟨_, h, rfl⟩
  · rw [if_neg h]; exact .inl rfl
theorem Mark_eq (m : List S39) (id : Int) : group_Mark.f m id = some (markV m id, decide (0 ≤ findI (fun x : S39 => x.f0 == id) m)) := by
  unfold group_Mark.f group_of.f markV
  simp only [Option.bind_some]
  rcases findI_two (fun x : S39 => x.f0 == id) m with h | ⟨i, hi, h⟩
  · rw [h]; rfl
  · rw [h, if_neg (by omega), if_pos (by omega), if_pos (by omega), if_neg (by omega), rd_mark m i hi, decide_eq_true (by omega)]; rfl
def valsV (l : List Int) (m : List S39) : List Int := l.map (markV m)
def cntGe (l : List Int) (x : Int) : Nat := (l.filter (fun y => decide (x ≤ y))).length
def bestV (all : List Int) : List Int → Int → Int
  | [], b => b
  | x :: r, b => bestV all r (if (cntGe all x : Int) ≥ (all.length : Int) / 2 + 1 then (if x > b then x else b) else b)
def agrV (l : List Int) (m : List S39) : Int := bestV (valsV l m) (valsV l m) 0
def natM (m : List S39) : Bool := m.all (fun x => decide (0 ≤ x.f1))
end Go.Proofs.Ytlmefnifhbcbcaa.PAll
end
section
/- Plain laws of groups: the value that a majority has, out of the list sorted downwards. -/
namespace Go.Proofs.Ytlmefnifhbcbcaa.PAll
open Go.RowKit Go.Proofs.YtlmefnifhbcbcaaW.PrintWords Go.Proofs.Ytlmefnifhbcbcaa
set_option linter.unusedVariables false
def cand (all : List Int) (x : Int) : Prop := (cntGe all x : Int) ≥ (all.length : Int) / 2 + 1
theorem bestV_spec (all : List Int) : ∀ (r : List Int) (b : Int), b ≤ bestV all r b ∧ (bestV all r b = b ∨ (bestV all r b ∈ r ∧ cand all (bestV all r b))) ∧ ∀ x ∈ r, cand all x → x ≤ bestV all r b
  | [], b => ⟨Int.le_refl _, .inl rfl, fun x hx => by cases hx⟩
  | x :: r, b => by
    unfold bestV
    by_cases c : (cntGe all x : Int) ≥ (all.length : Int) / 2 + 1
    · rw [if_pos c]
      by_cases c2 : x > b
      · rw [if_pos c2]
        obtain ⟨h1, h2, h3⟩ := bestV_spec all r x
        refine ⟨by omega, .inr ?_, fun y hy hc => ?_⟩
        · rcases h2 with h2 | h2
          · rw [h2]; exact ⟨List.mem_cons_self .., c⟩
          · exact ⟨List.mem_cons_of_mem _ h2.1, h2.2⟩
        · rcases List.mem_cons.1 hy with rfl | hy
          · exact h1
          · exact h3 y hy hc
      · rw [if_neg c2]
        obtain ⟨h1, h2, h3⟩ := bestV_spec all r b
        refine ⟨h1, ?_, fun y hy hc => ?_⟩
        · rcases h2 with h2 | h2
          · exact .inl h2
          · exact .inr ⟨List.mem_cons_of_mem _ h2.1, h2.2⟩
        · rcases List.mem_cons.1 hy with rfl | hy
          · omega
          · exact h3 y hy hc
    · rw [if_neg c]
      obtain ⟨h1, h2, h3⟩ := bestV_spec all r b
      refine ⟨h1, ?_, fun y hy hc => ?_⟩
      · rcases h2 with h2 | h2
        · exact .inl h2
        · exact .inr ⟨List.mem_cons_of_mem _ h2.1, h2.2⟩
      · rcases List.mem_cons.1 hy with rfl | hy
        · exact absurd hc c
        · exact h3 y hy hc
theorem cnt_perm {l m : List Int} (h : l.Perm m) (x : Int) : cntGe l x = cntGe m x := (h.filter _).length_eq
theorem cnt_low (m : List Int) (k : Nat) (hk : k < m.length) (hs : ∀ i j, i < j → j < m.length → m[j]! ≤ m[i]!) : k + 1 ≤ cntGe m (m[k]!) := by
  unfold cntGe
  have e : m = m.take (k + 1) ++ m.drop (k + 1) := (List.take_append_drop _ _).symm
  have hall : (m.take (k + 1)).filter (fun y => decide (m[k]! ≤ y)) = m.take (k + 1) := by
    rw [List.filter_eq_self]
    intro y hy
    obtain ⟨i, hi, rfl⟩ := List.mem_iff_getElem.1 hy
    rw [List.length_take] at hi
    rw [List.getElem_take]
    apply decide_eq_true
    by_cases e : i = k
    · subst e; rw [getElem!_pos m i hk]; exact Int.le_refl _
    · have := hs i k (by omega) hk
      rw [getElem!_pos m i (by omega)] at this
      exact this
  have h2 : (m.filter (fun y => decide (m[k]! ≤ y))).length = ((m.take (k + 1)).filter (fun y => decide (m[k]! ≤ y))).length + ((m.drop (k + 1)).filter (fun y => decide (m[k]! ≤ y))).length := by
    rw [← List.length_append, ← List.filter_append, List.take_append_drop]
  rw [h2, hall, List.length_take]
  omega
theorem cnt_high (m : List Int) (k : Nat) (y : Int) (hy : ∀ i, k ≤ i → i < m.length → m[i]! < y) : cntGe m y ≤ k := by
  unfold cntGe
  have hnone : (m.drop k).filter (fun z => decide (y ≤ z)) = [] := by
    rw [List.filter_eq_nil_iff]
    intro z hz
    obtain ⟨i, hi, rfl⟩ := List.mem_iff_getElem.1 hz
    rw [List.length_drop] at hi
    rw [List.getElem_drop]
    have := hy (k + i) (by omega) (by omega)
    rw [getElem!_pos m (k + i) (by omega)] at this
    simp
    omega
  have h2 : (m.filter (fun z => decide (y ≤ z))).length = ((m.take k).filter (fun z => decide (y ≤ z))).length + ((m.drop k).filter (fun z => decide (y ≤ z))).length := by
    rw [← List.length_append, ← List.filter_append, List.take_append_drop]
  rw [h2, hnone]
  have := List.length_filter_le (fun z => decide (y ≤ z)) (m.take k)
  have h3 : (m.take k).length ≤ k := List.length_take_le _ _
  simp only [List.length_nil]
  omega
theorem sorted_agr (l m : List Int) (hp : m.Perm l) (hs : ∀ i j, i < j → j < m.length → m[j]! ≤ m[i]!) (hn : ∀ x ∈ l, 0 ≤ x) (h0 : 0 < l.length) : m[l.length / 2]! = bestV l l 0 := by
  have hl : m.length = l.length := hp.length_eq
  have hk : l.length / 2 < m.length := by omega
  have hmem : m[l.length / 2]! ∈ l := hp.mem_iff.1 (getMem m _ hk)
  have hc : cand l (m[l.length / 2]!) := by
    unfold cand
    rw [← cnt_perm hp]
    have := cnt_low m (l.length / 2) hk hs
    omega
  have hmax : ∀ y, cand l y → y ≤ m[l.length / 2]! := fun y hy => by
    unfold cand at hy
    rw [← cnt_perm hp] at hy
    apply Int.not_lt.1
    intro hlt
    have := cnt_high m (l.length / 2) y (fun i hi hi2 => by
      by_cases e : i = l.length / 2
      · rw [e]; exact hlt
      · have := hs (l.length / 2) i (by omega) hi2
        omega)
    omega
  obtain ⟨h1, h2, h3⟩ := bestV_spec l l 0
  have ha := h3 _ hmem hc
  have hx := hn _ hmem
  rcases h2 with h2 | h2
  · omega
  · have := hmax _ h2.2
    omega
end Go.Proofs.Ytlmefnifhbcbcaa.PAll
end
