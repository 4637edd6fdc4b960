/- Joined texts of the claim RowsBytes (part 13): contracts of functions and plain laws. -/
import Derived.Test.YthfkbfahpgdnfaaJRowsBytes2
import Derived.Test.YthfkbfahpgdnfaaJRowsBytes3
import Derived.Test.YthfkbfahpgdnfaaJRowsBytes12
import Derived.Test.YthfkbfahpgdnfaaJRowsBytes0
section
/- What the laws of rows have in common. -/
namespace Go.Proofs.Ythfkbfahpgdnfaa.PAll
open Go.RowKit Go.Proofs.YthfkbfahpgdnfaaW.PrintWords Go.Proofs.YthfkbfahpgdnfaaW.PrintMore Go.Proofs.Ythfkbfahpgdnfaa
set_option linter.unusedVariables false
theorem shown11_ok : ∃ k, ferrulelaw11_shown.f k = some true := ⟨60, by kernel_rfl⟩
theorem shown11_ev : Ev (fun k => ferrulelaw11_shown.f k) true := by
  obtain ⟨k, h⟩ := shown11_ok
  exact Ev.of ferrulelaw11_shown.mono h
theorem bytesRow : Try.prog.bytesOf 64 = 40 := by kernel_rfl
theorem bytesPut : Try.prog.bytesOf 52 = 40 := by kernel_rfl
theorem putCells {cs : Array Value} {x : S52} {w : World} (h : k52.K w x cs.toList) : cs = #[.string x.f0, .string x.f1, .bool x.f2] := by
  have := flat52.openK _ _ _ h
  exact Array.toList_inj.1 this
end Go.Proofs.Ythfkbfahpgdnfaa.PAll
end
section
-- Printed by this session's pr.sh (the kit's print.py, several laws in one namespace). Not trusted: Lean checks it.
namespace Go.Proofs.Ythfkbfahpgdnfaa.PAll
open Go.RowKit Go.Proofs.YthfkbfahpgdnfaaW.PrintWords Go.Proofs.YthfkbfahpgdnfaaW.PrintLast Go.Proofs.YthfkbfahpgdnfaaW.PrintMore
attribute [local go_sem] max2_int min2_int max_two min_two max_three min_three max_four min_four   -- for this text's walks alone
set_option linter.unusedVariables false
set_option linter.unusedSimpArgs false

/-! ### ferruleref11_Less: function 46 -/
mutual
def ferruleref11_Less.l0 : Nat → ByteArray → ByteArray → Int → Option (Bool)
  | 0, _, _, _ => none
  | k + 1, x0, x1, x5 => if x5 < (x0.size : Int) then (ferruleref11_Less.j1 k x0 x1 x5 (decide (x5 < (x1.size : Int)))) else (ferruleref11_Less.j1 k x0 x1 x5 false)
def ferruleref11_Less.j1 : Nat → ByteArray → ByteArray → Int → Bool → Option (Bool)
  | 0, _, _, _, _ => none
  | k + 1, x0, x1, x5, x15 => if x15 = true then (if 0 ≤ x5 then (if x5 < (x0.size : Int) then (if x5 < (x1.size : Int) then (if (bt x0 x5) = (bt x1 x5) then (ferruleref11_Less.l0 k x0 x1 (wrap64 (x5 + 1))) else (some (decide ((bt x0 x5) < (bt x1 x5))))) else (none)) else (none)) else (none)) else (some (decide ((x0.size : Int) < (x1.size : Int))))
end
def ferruleref11_Less.f (k : Nat) (a0 : ByteArray) (a1 : ByteArray) : Option (Bool) := ferruleref11_Less.l0 k a0 a1 0
theorem ferruleref11_Less.mono_l : ∀ k, (∀ y0 y1 y2, LeO (ferruleref11_Less.l0 k y0 y1 y2) (ferruleref11_Less.l0 (k + 1) y0 y1 y2)) ∧ (∀ y0 y1 y2 y3, LeO (ferruleref11_Less.j1 k y0 y1 y2 y3) (ferruleref11_Less.j1 (k + 1) y0 y1 y2 y3))
  | 0 => ⟨fun _ _ _ r h => by simp [ferruleref11_Less.l0] at h, fun _ _ _ _ r h => by simp [ferruleref11_Less.j1] at h⟩
  | k + 1 => by
    obtain ⟨ih0, ih1⟩ := ferruleref11_Less.mono_l k
    refine ⟨?_, ?_⟩
    · intro y0 y1 y2
      unfold ferruleref11_Less.l0
      repeat' first
      | (with_reducible exact ih0 _ _ _)
      | (with_reducible exact ih1 _ _ _ _)
      | (with_reducible exact LeO.refl _)
      | (with_reducible exact LeO.none _)
      | (with_reducible refine LeO.ite ?_ ?_)
      | (with_reducible refine LeO.bind ?_ (fun _ => ?_))
      | exact ih0 _ _ _
      | exact ih1 _ _ _ _
      | exact LeO.none _
      | refine LeO.ite ?_ ?_
      | refine LeO.bind ?_ (fun _ => ?_)
    · intro y0 y1 y2 y3
      unfold ferruleref11_Less.j1
      repeat' first
      | (with_reducible exact ih0 _ _ _)
      | (with_reducible exact ih1 _ _ _ _)
      | (with_reducible exact LeO.refl _)
      | (with_reducible exact LeO.none _)
      | (with_reducible refine LeO.ite ?_ ?_)
      | (with_reducible refine LeO.bind ?_ (fun _ => ?_))
      | exact ih0 _ _ _
      | exact ih1 _ _ _ _
      | exact LeO.none _
      | refine LeO.ite ?_ ?_
      | refine LeO.bind ?_ (fun _ => ?_)
theorem ferruleref11_Less.mono : ∀ a0 a1 k, LeO (ferruleref11_Less.f k a0 a1) (ferruleref11_Less.f (k + 1) a0 a1) := by
  intro a0 a1 k
  obtain ⟨ih0, ih1⟩ := ferruleref11_Less.mono_l k
  unfold ferruleref11_Less.f
  repeat' first
      | (with_reducible exact ih0 _ _ _)
      | (with_reducible exact ih1 _ _ _ _)
      | (with_reducible exact LeO.refl _)
      | (with_reducible exact LeO.none _)
      | (with_reducible refine LeO.ite ?_ ?_)
      | (with_reducible refine LeO.bind ?_ (fun _ => ?_))
      | exact ih0 _ _ _
      | exact ih1 _ _ _ _
      | exact LeO.none _
      | refine LeO.ite ?_ ?_
      | refine LeO.bind ?_ (fun _ => ?_)
set_option maxHeartbeats 8000000 in
set_option maxRecDepth 100000 in
theorem ferruleref11_Less.calls (k : Nat) (a0 : ByteArray) (a1 : ByteArray) (r : Bool) (w : World) (h : ferruleref11_Less.f k a0 a1 = some r) :
    Calls Try.prog 46 #[.string a0, .string a1] w fun e w' => e = .returned (.bool r) ∧ Drawn0 w w' := by
  have H : (ferruleref11_Less.l0 k a0 a1 0) = some r := h
  clear h
  have H' := Aside0.mk H
  clear H
  go_enter Try.func46, Try.ntmps46
  go_wp2
  repeat (go_quiet (fail); try go_wp2)
  go_loopg [5] k (fun kq v5 w' => ∃ (x5_1 : Int), v5 = .int .i64 x5_1 ∧ Aside0 (ferruleref11_Less.l0 kq a0 a1 x5_1 = some r) ∧ Aside0 (kq ≤ k) ∧ Drawn0 w w')
  case atStart => exact ⟨(0), (by first | rfl | (simp; done) | (simp [*]; done)), H', ⟨Nat.le_refl _⟩, by repeat (first | exact Drawn0.refl _ | apply Drawn0.step)⟩
  case round =>
    clear H'
    try clear p2
    obtain ⟨x5_1, rfl, HA, HK1, ⟨m1, rfl⟩⟩ := hrel
    cases gk with
    | zero => exact absurd HA.out (by simp [ferruleref11_Less.l0])
    | succ k1 =>
      have H := HA.out
      clear HA
      simp only [ferruleref11_Less.l0] at H
      have HC3 := Aside0.mk H
      clear H
      go_upto_region 2 with (fail)
      repeat (go_quiet (fail); go_upto_region 2 with (fail))
      go_cut [15] (fun v15 wc => ∃ (kq : Nat) (x15_2 : Bool), v15 = .bool x15_2 ∧ Aside0 (ferruleref11_Less.j1 kq a0 a1 x5_1 x15_2 = some r) ∧ Aside0 (kq ≤ k1) ∧ Drawn0 w wc)
      case first =>
        have H := HC3.out
        clear HC3
        by_cases c4 : x5_1 < (a0.size : Int)
        · rw [if_pos c4] at H
          have c4b0 : decide (x5_1 < (a0.size : Int)) = true := decide_eq_true c4
          clear c4
          (first | rw [c4b0] | (simp only [i64_w, i32_w]; rw [c4b0]) | skip)
          have H' := Aside0.mk H
          clear H
          go_wp2
          repeat (go_quiet (fail); try go_wp2)
          go_meet
          case rel => exact ⟨_, (decide (x5_1 < (a1.size : Int))), (by first | rfl | (simp; done) | (simp [*]; done)), H', ⟨by have := HK1.out; first | omega | exact Nat.le_refl _⟩, by repeat (first | exact Drawn0.refl _ | apply Drawn0.step)⟩
        · rw [if_neg c4] at H
          have c4b0 : decide (x5_1 < (a0.size : Int)) = false := decide_eq_false c4
          clear c4
          (first | rw [c4b0] | (simp only [i64_w, i32_w]; rw [c4b0]) | skip)
          have H' := Aside0.mk H
          clear H
          go_wp2
          repeat (go_quiet (fail); try go_wp2)
          go_meet
          case rel => exact ⟨_, (false), (by first | rfl | (simp; done) | (simp [*]; done)), H', ⟨by have := HK1.out; first | omega | exact Nat.le_refl _⟩, by repeat (first | exact Drawn0.refl _ | apply Drawn0.step)⟩
      case rest =>
        clear HC3
        try clear p2
        try clear c4
        try clear c4b0
        try clear p2
        obtain ⟨kq, x15_2, rfl, HA, HJ2, ⟨mc2, rfl⟩⟩ := hcut
        cases kq with
        | zero => exact absurd HA.out (by simp [ferruleref11_Less.j1])
        | succ kj2 =>
          have H := HA.out
          clear HA
          simp only [ferruleref11_Less.j1] at H
          by_cases c5 : x15_2 = true
          · subst c5
            have H1 : (if 0 ≤ x5_1 then (if x5_1 < (a0.size : Int) then (if x5_1 < (a1.size : Int) then (if (bt a0 x5_1) = (bt a1 x5_1) then (ferruleref11_Less.l0 kj2 a0 a1 (wrap64 (x5_1 + 1))) else (some (decide ((bt a0 x5_1) < (bt a1 x5_1))))) else (none)) else (none)) else (none)) = some r := by rw [if_pos rfl] at H; exact H
            clear H
            have H := H1
            clear H1
            by_cases c6 : 0 ≤ x5_1
            · rw [if_pos c6] at H
              have c6b0 : decide (0 ≤ x5_1) = true := decide_eq_true c6
              clear c6
              by_cases c7 : x5_1 < (a0.size : Int)
              · rw [if_pos c7] at H
                have c7b0 : decide (x5_1 < (a0.size : Int)) = true := decide_eq_true c7
                clear c7
                by_cases c9 : x5_1 < (a1.size : Int)
                · rw [if_pos c9] at H
                  have c9b0 : decide (x5_1 < (a1.size : Int)) = true := decide_eq_true c9
                  clear c9
                  by_cases c11 : (bt a0 x5_1) = (bt a1 x5_1)
                  · rw [if_pos c11] at H
                    have c11b0 : ((bt a0 x5_1) == (bt a1 x5_1)) = true := beq_iff_eq.mpr c11
                    have c11b1 : ((bt a0 x5_1) != (bt a1 x5_1)) = false := bne_eq_false_iff_eq.mpr c11
                    clear c11
                    have H' := Aside0.mk H
                    clear H
                    have p8 : 0 ≤ (x5_1 : Int) := of_decide_eq_true (by first | (with_reducible assumption) | assumption)
                    have q8 : x5_1 < (a0.size : Int) := of_decide_eq_true (by first | (with_reducible assumption) | assumption)
                    have hx8 := bt_at a0 x5_1
                    replace p8 := eq_true p8
                    replace q8 := eq_true q8
                    have p10 : 0 ≤ (x5_1 : Int) := of_decide_eq_true (by first | (with_reducible assumption) | assumption)
                    have q10 : x5_1 < (a1.size : Int) := of_decide_eq_true (by first | (with_reducible assumption) | assumption)
                    have hx10 := bt_at a1 x5_1
                    replace p10 := eq_true p10
                    replace q10 := eq_true q10
                    go_wp2
                    repeat (go_quiet (fail); try go_wp2)
                    go_roundg kj2
                    case measure => have := HK1.out; have := HJ2.out; omega
                    case rel => exact ⟨(wrap64 (x5_1 + 1)), (by first | rfl | (simp; done) | (simp [*]; done)), H', ⟨by have := HK1.out; have := HJ2.out; omega⟩, by repeat (first | exact Drawn0.refl _ | apply Drawn0.step)⟩
                  · rw [if_neg c11] at H
                    have c11b0 : ((bt a0 x5_1) == (bt a1 x5_1)) = false := beq_eq_false_iff_ne.mpr c11
                    have c11b1 : ((bt a0 x5_1) != (bt a1 x5_1)) = true := bne_iff_ne.mpr c11
                    obtain rfl := Option.some.inj H
                    have p8 : 0 ≤ (x5_1 : Int) := of_decide_eq_true (by first | (with_reducible assumption) | assumption)
                    have q8 : x5_1 < (a0.size : Int) := of_decide_eq_true (by first | (with_reducible assumption) | assumption)
                    have hx8 := bt_at a0 x5_1
                    replace p8 := eq_true p8
                    replace q8 := eq_true q8
                    have p10 : 0 ≤ (x5_1 : Int) := of_decide_eq_true (by first | (with_reducible assumption) | assumption)
                    have q10 : x5_1 < (a1.size : Int) := of_decide_eq_true (by first | (with_reducible assumption) | assumption)
                    have hx10 := bt_at a1 x5_1
                    replace p10 := eq_true p10
                    replace q10 := eq_true q10
                    have p12 : 0 ≤ (x5_1 : Int) := of_decide_eq_true (by first | (with_reducible assumption) | assumption)
                    have q12 : x5_1 < (a0.size : Int) := of_decide_eq_true (by first | (with_reducible assumption) | assumption)
                    have hx12 := bt_at a0 x5_1
                    replace p12 := eq_true p12
                    replace q12 := eq_true q12
                    have p13 : 0 ≤ (x5_1 : Int) := of_decide_eq_true (by first | (with_reducible assumption) | assumption)
                    have q13 : x5_1 < (a1.size : Int) := of_decide_eq_true (by first | (with_reducible assumption) | assumption)
                    have hx13 := bt_at a1 x5_1
                    replace p13 := eq_true p13
                    replace q13 := eq_true q13
                    go_wp2
                    repeat (go_quiet (fail); try go_wp2)
                    go_ret
                    exact ⟨by first | rfl | (simp; done) | (simp [*]; done), by repeat (first | exact Drawn0.refl _ | apply Drawn0.step)⟩
                · rw [if_neg c9] at H
                  exact absurd H (by simp)
              · rw [if_neg c7] at H
                exact absurd H (by simp)
            · rw [if_neg c6] at H
              exact absurd H (by simp)
          · replace c5 := Bool.eq_false_iff.mpr c5
            subst c5
            have H1 : (some (decide ((a0.size : Int) < (a1.size : Int)))) = some r := by rw [if_neg (show ¬ (false = true) by decide)] at H; exact H
            clear H
            have H := H1
            clear H1
            obtain rfl := Option.some.inj H
            go_wp2
            repeat (go_quiet (fail); try go_wp2)
            go_ret
            exact ⟨by first | rfl | (simp; done) | (simp [*]; done), by repeat (first | exact Drawn0.refl _ | apply Drawn0.step)⟩

end Go.Proofs.Ythfkbfahpgdnfaa.PAll
end
section
/- Plain tools: reading of lists and texts as the printed functions do it; the order of texts. -/
namespace Go.Proofs.Ythfkbfahpgdnfaa.PAll
open Go.RowKit Go.Proofs.YthfkbfahpgdnfaaW.PrintWords Go.Proofs.YthfkbfahpgdnfaaW.PrintMore Go.Proofs.Ythfkbfahpgdnfaa
set_option linter.unusedVariables false
theorem wrap_up (j : Nat) (h : j < 9223372036854775807) : wrap64 ((j : Int) + 1) = ((j + 1 : Nat) : Int) := by unfold wrap64; omega
theorem wrap_down (j : Nat) (h : 0 < j) (h2 : j < 9223372036854775807) : wrap64 ((j : Int) - 1) = ((j - 1 : Nat) : Int) := by unfold wrap64; omega
theorem get_mem {α : Type} [Inhabited α] (l : List α) (j : Nat) (hj : j < l.length) : l[j]! ∈ l := by rw [getElem!_pos l j hj]; exact List.getElem_mem hj
theorem drop_get {α : Type} [Inhabited α] (l : List α) (j : Nat) (hj : j < l.length) : l.drop j = l[j]! :: l.drop (j + 1) := by rw [List.drop_eq_getElem_cons hj, getElem!_pos l j hj]
theorem take_get {α : Type} [Inhabited α] (l : List α) (j : Nat) (hj : j < l.length) : l.take (j + 1) = l.take j ++ [l[j]!] := by rw [List.take_succ_eq_append_getElem hj, getElem!_pos l j hj]
theorem bt_get (s : ByteArray) (j : Nat) (hj : j < s.size) : ∃ b : UInt8, bt s (j : Int) = (b.toNat : Int) ∧ s.toList.drop j = b :: s.toList.drop (j + 1) := by
  have hl : s.toList.length = s.size := by rw [ByteArray.toList_eq, Array.length_toList]; rfl
  refine ⟨s[j], by simp [bt, hj], ?_⟩
  rw [List.drop_eq_getElem_cons (by omega)]
  congr 1
  simp only [ByteArray.toList_eq]
  rfl
theorem toList_len (s : ByteArray) : s.toList.length = s.size := by rw [ByteArray.toList_eq, Array.length_toList]; rfl
theorem Less_l0 (a b : ByteArray) (ha : a.size ≤ 9223372036854775806) : ∀ (d i : Nat), d = a.size - i → i ≤ a.size → i ≤ b.size → ∀ q, 2 * d + 2 < q → ferruleref11_Less.l0 q a b i = some (Op.bytesLess (a.toList.drop i) (b.toList.drop i)) := by
  intro d
  induction d with
  | zero =>
    intro i hd h1 h2 q hq
    obtain ⟨q, rfl⟩ : ∃ m, q = m + 2 := ⟨q - 2, by omega⟩
    have hi : i = a.size := by omega
    simp only [ferruleref11_Less.l0]
    rw [if_neg (show ¬ (i : Int) < a.size by omega)]
    simp only [ferruleref11_Less.j1]
    rw [List.drop_eq_nil_of_le (by rw [toList_len]; omega)]
    rcases Nat.lt_or_ge i b.size with hb | hb
    · obtain ⟨y, _, hy⟩ := bt_get b i hb
      rw [hy]
      simp [Op.bytesLess]; omega
    · rw [List.drop_eq_nil_of_le (by rw [toList_len]; omega)]
      simp [Op.bytesLess]; omega
  | succ d ih =>
    intro i hd h1 h2 q hq
    obtain ⟨q, rfl⟩ : ∃ m, q = m + 2 := ⟨q - 2, by omega⟩
    have hi : i < a.size := by omega
    obtain ⟨x, hx1, hx2⟩ := bt_get a i hi
    simp only [ferruleref11_Less.l0]
    rw [if_pos (show (i : Int) < a.size by omega)]
    simp only [ferruleref11_Less.j1]
    rcases Nat.lt_or_ge i b.size with hb | hb
    · obtain ⟨y, hy1, hy2⟩ := bt_get b i hb
      rw [if_pos (by simp; omega), if_pos (show (0 : Int) ≤ i by omega), if_pos (show (i : Int) < a.size by omega), if_pos (show (i : Int) < b.size by omega), hx1, hy1, hx2, hy2, show wrap64 ((i : Int) + 1) = ((i + 1 : Nat) : Int) by unfold wrap64; omega]
      by_cases he : (x.toNat : Int) = y.toNat
      · rw [if_pos he, ih (i + 1) (by omega) (by omega) (by omega) q (by omega)]
        have hxy : x = y := UInt8.toNat_inj.1 (by omega)
        subst hxy
        simp [Op.bytesLess]
      · rw [if_neg he]
        have hxy : ¬ x = y := fun e => he (by rw [e])
        simp only [Op.bytesLess, Option.some.injEq]
        rw [show (x == y) = false by simpa using hxy, Bool.false_and, Bool.or_false]
        by_cases hl : x.toNat < y.toNat
        · rw [decide_eq_true (by omega), eq_comm, decide_eq_true_eq]; exact UInt8.lt_iff_toNat_lt.2 hl
        · rw [decide_eq_false (by omega), eq_comm, decide_eq_false_iff_not]; exact fun h => hl (UInt8.lt_iff_toNat_lt.1 h)
    · rw [if_neg (by simp; omega), hx2, show b.toList.drop i = [] from List.drop_eq_nil_of_le (by rw [toList_len]; omega)]
      simp [Op.bytesLess]; omega
theorem Less_ev (a b : ByteArray) (ha : a.size ≤ 9223372036854775806) : Ev (fun k => ferruleref11_Less.f k a b) (Op.bytesLess a.toList b.toList) :=
  ⟨2 * a.size + 3, fun k hk => by
    have := Less_l0 a b ha a.size 0 (by omega) (by omega) (by omega) k (by omega)
    simpa [ferruleref11_Less.f] using this⟩
theorem findI_at {α : Type} [Inhabited α] (p : α → Bool) (l : List α) (i : Nat) (hi : i < l.length) (hp : p (l[i]!) = true) (hno : ∀ k, k < i → p (l[k]!) = false) : findI p l = i := by
  have h : l.findIdx p = i := by
    rw [List.findIdx_eq hi]
    refine ⟨by rw [← getElem!_pos l i hi]; exact hp, fun j hj => ?_⟩
    rw [← getElem!_pos l j (by omega)]; exact hno j hj
  unfold findI
  rw [h, if_pos hi]
theorem findI_no {α : Type} [Inhabited α] (p : α → Bool) (l : List α) (hno : ∀ k, k < l.length → p (l[k]!) = false) : findI p l = -1 := by
  have h : ¬ l.findIdx p < l.length := by
    intro h
    have := List.findIdx_getElem (w := h)
    rw [← getElem!_pos l _ h, hno _ h] at this
    exact Bool.noConfusion this
  unfold findI
  rw [if_neg h]
theorem less_flip : ∀ (a b : List UInt8), Op.bytesLess a b = (!Op.bytesLess b a && !b == a)
  | [], [] => rfl
  | [], b :: y => by simp [Op.bytesLess]
  | a :: x, [] => by simp [Op.bytesLess]
  | a :: x, b :: y => by
    simp only [Op.bytesLess]
    rw [less_flip x y]
    by_cases h : a = b
    · subst h
      simp
    · have h1 : (a == b) = false := by simpa using h
      have h2 : (b == a) = false := by simpa using fun e => h e.symm
      rw [h1, h2]
      simp only [Bool.false_and, Bool.or_false]
      have h3 : ((b :: y) == (a :: x)) = false := by simp [h2]
      rw [h3]
      simp only [Bool.not_false, Bool.and_true]
      rw [Bool.eq_iff_iff]
      simp only [decide_eq_true_eq, Bool.not_eq_true', decide_eq_false_iff_not]
      constructor
      · exact fun h4 h5 => h (UInt8.toNat_inj.1 (by have := UInt8.lt_iff_toNat_lt.1 h4; have := UInt8.lt_iff_toNat_lt.1 h5; omega))
      · intro h4
        have h5 : a.toNat ≠ b.toNat := fun e => h (UInt8.toNat_inj.1 e)
        rw [UInt8.lt_iff_toNat_lt] at h4 ⊢
        omega
end Go.Proofs.Ythfkbfahpgdnfaa.PAll
end
section
-- Printed by this session's pr.sh (the kit's print.py, several laws in one namespace). Not trusted: Lean checks it.
namespace Go.Proofs.Ythfkbfahpgdnfaa.PAll
open Go.RowKit Go.Proofs.YthfkbfahpgdnfaaW.PrintWords Go.Proofs.YthfkbfahpgdnfaaW.PrintLast Go.Proofs.YthfkbfahpgdnfaaW.PrintMore
attribute [local go_sem] max2_int min2_int max_two min_two max_three min_three max_four min_four   -- for this text's walks alone
set_option linter.unusedVariables false
set_option linter.unusedSimpArgs false

/-! ### ferruleref01_Size: function 82 -/
def ferruleref01_Size.f (a0 : Int) : Option (Int) := if a0 < 64 then (some 1) else (if a0 < 16384 then (some 2) else (if a0 < 1073741824 then (some 4) else (if a0 < 4611686018427387904 then (some 8) else (some 0))))
set_option maxHeartbeats 8000000 in
set_option maxRecDepth 100000 in
theorem ferruleref01_Size.calls (a0 : Int) (r : Int) (w : World) (h : ferruleref01_Size.f a0 = some r) :
    Calls Try.prog 82 #[.int .u64 a0] w fun e w' => e = .returned (.int .i64 r) ∧ Drawn0 w w' := by
  have H : (if a0 < 64 then (some 1) else (if a0 < 16384 then (some 2) else (if a0 < 1073741824 then (some 4) else (if a0 < 4611686018427387904 then (some 8) else (some 0))))) = some r := h
  clear h
  by_cases c2 : a0 < 64
  · rw [if_pos c2] at H
    have c2b0 : decide (a0 < 64) = true := decide_eq_true c2
    clear c2
    obtain rfl := Option.some.inj H
    go_enter Try.func82, Try.ntmps82
    go_wp2
    go_ret
    exact ⟨by first | rfl | (simp; done) | (simp [*]; done), by repeat (first | exact Drawn0.refl _ | apply Drawn0.step)⟩
  · rw [if_neg c2] at H
    have c2b0 : decide (a0 < 64) = false := decide_eq_false c2
    clear c2
    by_cases c3 : a0 < 16384
    · rw [if_pos c3] at H
      have c3b0 : decide (a0 < 16384) = true := decide_eq_true c3
      clear c3
      obtain rfl := Option.some.inj H
      go_enter Try.func82, Try.ntmps82
      go_wp2
      go_ret
      exact ⟨by first | rfl | (simp; done) | (simp [*]; done), by repeat (first | exact Drawn0.refl _ | apply Drawn0.step)⟩
    · rw [if_neg c3] at H
      have c3b0 : decide (a0 < 16384) = false := decide_eq_false c3
      clear c3
      by_cases c4 : a0 < 1073741824
      · rw [if_pos c4] at H
        have c4b0 : decide (a0 < 1073741824) = true := decide_eq_true c4
        clear c4
        obtain rfl := Option.some.inj H
        go_enter Try.func82, Try.ntmps82
        go_wp2
        go_ret
        exact ⟨by first | rfl | (simp; done) | (simp [*]; done), by repeat (first | exact Drawn0.refl _ | apply Drawn0.step)⟩
      · rw [if_neg c4] at H
        have c4b0 : decide (a0 < 1073741824) = false := decide_eq_false c4
        clear c4
        by_cases c5 : a0 < 4611686018427387904
        · rw [if_pos c5] at H
          have c5b0 : decide (a0 < 4611686018427387904) = true := decide_eq_true c5
          clear c5
          obtain rfl := Option.some.inj H
          go_enter Try.func82, Try.ntmps82
          go_wp2
          go_ret
          exact ⟨by first | rfl | (simp; done) | (simp [*]; done), by repeat (first | exact Drawn0.refl _ | apply Drawn0.step)⟩
        · rw [if_neg c5] at H
          have c5b0 : decide (a0 < 4611686018427387904) = false := decide_eq_false c5
          clear c5
          obtain rfl := Option.some.inj H
          go_enter Try.func82, Try.ntmps82
          go_wp2
          go_ret
          exact ⟨by first | rfl | (simp; done) | (simp [*]; done), by repeat (first | exact Drawn0.refl _ | apply Drawn0.step)⟩

end Go.Proofs.Ythfkbfahpgdnfaa.PAll
end
