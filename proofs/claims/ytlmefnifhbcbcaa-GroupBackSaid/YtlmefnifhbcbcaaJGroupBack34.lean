/- Joined texts of the claim GroupBack (part 34): contracts of functions and plain laws. -/
import Derived.Outline
import Derived.Test.YtlmefnifhbcbcaaJGroupBack23
import Derived.Test.YtlmefnifhbcbcaaJGroupBack24
import Derived.Test.YtlmefnifhbcbcaaJGroupBack26
import Derived.Test.YtlmefnifhbcbcaaJGroupBack31
import Derived.Test.YtlmefnifhbcbcaaJGroupBack33
section
/- The document's example of chapter 06 holds, whenever it is asked. -/
namespace Go.Proofs.Ytlmefnifhbcbcaa.PAll
open Go.RowKit Go.Proofs.YtlmefnifhbcbcaaW.PrintWords Go.Proofs.YtlmefnifhbcbcaaW.PrintMore Go.Proofs.Ytlmefnifhbcbcaa
set_option linter.unusedVariables false
theorem C_ints {W : World} {b t : Nat} {l : List Int} (h : W.heap[b]? = some (.cells (l.map (Value.int .u64)).toArray t (0, 0))) (hl : l.length ≤ 100) : Kd.C (Kd.int .u64) W (some ⟨b, 0, none⟩) l.length l := by
  refine ⟨rfl, by omega, fun _ => ⟨_, rfl, fun j p hj => ⟨[.int .u64 p], rfl, rfl, fun i u hu => ?_⟩⟩⟩
  have hi0 : i = 0 := by have := (List.getElem?_eq_some_iff.1 hu).1; simp at this; omega
  subst hi0
  obtain rfl : Value.int .u64 p = u := by simpa using hu
  rw [Addr.add_lit, cell_row h]
  show (l.map (Value.int .u64))[0 + (j * 1 + 0)]? = _
  rw [show 0 + (j * 1 + 0) = j by omega, List.getElem?_map, hj]
  rfl
theorem next_shown : ∃ k, group_Next.f k [1, 2, 3] [] 3 3 = some ([1, 2], [], 0) := ⟨40, by kernel_rfl⟩
set_option maxHeartbeats 2000000 in
set_option maxRecDepth 100000 in
theorem shown6 (w : World) : Calls Try.prog 26 #[] w fun e w' => e = .returned (.bool true) ∧ Below w.heap.size w w' := by
  obtain ⟨kn, hkn⟩ := next_shown
  obtain ⟨W0, hW0⟩ : ∃ W0, W0 = ((w.alloc (.cells #[.int .u64 1, .int .u64 2, .int .u64 3] 22)).alloc (.cells #[.slice (some ⟨w.heap.size, 0, none⟩) 3 3, .slice none 0 0] 28)).alloc (.cells #[.int .u64 1, .int .u64 5, .int .u64 2, .int .u64 9, .int .u64 3, .int .u64 7] 39) := ⟨_, rfl⟩
  have hB0 : Below w.heap.size w W0 := by rw [hW0]; exact (((Below.refl _ w).alloc (Nat.le_refl _) _).alloc (by simp) _).alloc (by simp; omega) _
  have hx1 : W0.heap[w.heap.size]? = some (.cells #[.int .u64 1, .int .u64 2, .int .u64 3] 22 (0, 0)) := by
    rw [hW0, Below.heap_alloc _ _ _ (by simp; omega), Below.heap_alloc _ _ _ (by simp)]; exact heap_alloc_new w _
  have hx2 : W0.heap[w.heap.size + 1]? = some (.cells #[.slice (some ⟨w.heap.size, 0, none⟩) 3 3, .slice none 0 0] 28 (0, 0)) := by
    rw [hW0, Below.heap_alloc _ _ _ (by simp)]
    have := heap_alloc_new (w.alloc (.cells #[.int .u64 1, .int .u64 2, .int .u64 3] 22)) (.cells #[.slice (some ⟨w.heap.size, 0, none⟩) 3 3, .slice none 0 0] 28)
    rw [World.size_alloc] at this
    exact this
  have hx3 : W0.heap[w.heap.size + 1 + 1]? = some (.cells #[.int .u64 1, .int .u64 5, .int .u64 2, .int .u64 9, .int .u64 3, .int .u64 7] 39 (0, 0)) := by
    rw [hW0]
    have := heap_alloc_new ((w.alloc (.cells #[.int .u64 1, .int .u64 2, .int .u64 3] 22)).alloc (.cells #[.slice (some ⟨w.heap.size, 0, none⟩) 3 3, .slice none 0 0] 28)) (.cells #[.int .u64 1, .int .u64 5, .int .u64 2, .int .u64 9, .int .u64 3, .int .u64 7] 39)
    rw [World.size_alloc, World.size_alloc] at this
    exact this
  have hV : Kd.C (Kd.int .u64) W0 (some ⟨w.heap.size, 0, none⟩) 3 [1, 2, 3] := C_ints (l := [1, 2, 3]) hx1 (by decide)
  have hM : Kd.C k39 W0 (some ⟨w.heap.size + 1 + 1, 0, none⟩) 3 [⟨1, 5⟩, ⟨2, 9⟩, ⟨3, 7⟩] := by
    refine ⟨rfl, by decide, fun _ => ⟨_, rfl, fun j p hj => ⟨enc39 p, rfl, flat39.kk _ _, fun i u hu => ?_⟩⟩⟩
    rw [Addr.add_lit, cell_row (cs := [.int .u64 1, .int .u64 5, .int .u64 2, .int .u64 9, .int .u64 3, .int .u64 7]) hx3]
    have hj3 : j < 3 := (List.getElem?_eq_some_iff.1 hj).1
    have hi2 : i < 2 := (List.getElem?_eq_some_iff.1 hu).1
    have hjc : j = 0 ∨ j = 1 ∨ j = 2 := by omega
    have hic : i = 0 ∨ i = 1 := by omega
    rcases hjc with rfl | rfl | rfl <;> cases hj <;> rcases hic with rfl | rfl <;> cases hu <;> rfl
  have HW0 := Aside0.mk hW0
  have HB0 := Aside0.mk hB0
  have HX2 := Aside0.mk hx2
  have HV := Aside0.mk hV
  have HM := Aside0.mk hM
  clear hW0 hB0 hx1 hx2 hx3 hV hM
  have HA : Aside0 (group_Agreed.f [1, 2, 3] [] [⟨1, 5⟩, ⟨2, 9⟩, ⟨3, 7⟩] = some 7) := ⟨by kernel_rfl⟩
  have HN := Aside0.mk hkn
  have HY : Aside0 (group_May.f [1, 2, 3] [] = some true) := ⟨by kernel_rfl⟩
  have HD : Aside0 (group_Need.f [1, 2, 3] [] = some 2) := ⟨by kernel_rfl⟩
  have HD2 : Aside0 (group_Need.f [1, 2] [] = some 2) := ⟨by kernel_rfl⟩
  clear hkn
  go_enter Try.func26, Try.ntmps26
  go_wp2_with (fail)
  rw [← HW0.out]
  refine (group_Agreed.calls (some ⟨w.heap.size, 0, none⟩) 3 [1, 2, 3] none 0 [] (some ⟨w.heap.size + 1 + 1, 0, none⟩) 3 [⟨1, 5⟩, ⟨2, 9⟩, ⟨3, 7⟩] 7 W0 HV.out (by decide) (Kd.C_nil _ _) (by decide) HM.out (by decide) HA.out).mono ?_
  rintro e w1 ⟨rfl, hb1⟩
  have HX2b := Aside0.mk ((hb1.block _ (Array.getElem?_eq_some_iff.1 HX2.out).1).trans HX2.out)
  have hc0 : w1.cell? ⟨w.heap.size + 1, 0, none⟩ = some (.slice (some ⟨w.heap.size, 0, none⟩) 3 3) := cell_row (cs := [.slice (some ⟨w.heap.size, 0, none⟩) 3 3, .slice none 0 0]) HX2b.out 0
  have hc1 : w1.cell? ⟨w.heap.size + 1, 1, none⟩ = some (.slice none 0 0) := cell_row (cs := [.slice (some ⟨w.heap.size, 0, none⟩) 3 3, .slice none 0 0]) HX2b.out 1
  have HB1 := Aside0.mk hb1
  clear hb1
  go_wp2_with (fail)
  refine (group_Next.calls kn (some ⟨w.heap.size, 0, none⟩) 3 [1, 2, 3] none 0 [] 3 3 [1, 2] [] 0 w1 (Kd.C_below HV.out HB1.out) (by decide) (Kd.C_nil _ _) (by decide) HN.out).mono ?_
  rintro e w2 ⟨v0, v1, rfl, ho0, ho1, hb2⟩
  have HX2c := Aside0.mk ((hb2.block _ (Array.getElem?_eq_some_iff.1 HX2b.out).1).trans HX2b.out)
  have hc2 : w2.cell? ⟨w.heap.size + 1, 0, none⟩ = some (.slice (some ⟨w.heap.size, 0, none⟩) 3 3) := cell_row (cs := [.slice (some ⟨w.heap.size, 0, none⟩) 3 3, .slice none 0 0]) HX2c.out 0
  have hc3 : w2.cell? ⟨w.heap.size + 1, 1, none⟩ = some (.slice none 0 0) := cell_row (cs := [.slice (some ⟨w.heap.size, 0, none⟩) 3 3, .slice none 0 0]) HX2c.out 1
  have HB2 := Aside0.mk hb2
  obtain ⟨A0, cc0, rfl, hcc0, hC0⟩ := Sl.of_R ho0
  obtain ⟨A1, cc1, rfl, hcc1, hC1⟩ := Sl.of_R ho1
  have HC0 := Aside0.mk hC0
  have HC1 := Aside0.mk hC1
  have HV2 := Aside0.mk (Kd.C_below (Kd.C_below HV.out HB1.out) hb2)
  have HAL := Aside0.mk ((Below.refl w2.heap.size w2).alloc (Nat.le_refl _) (.cells #[.slice A0 2 cc0, .slice A1 0 cc1] 28))
  have hc4 : (w2.alloc (.cells #[.slice A0 2 cc0, .slice A1 0 cc1] 28)).cell? ⟨w.heap.size + 1, 0, none⟩ = some (.slice (some ⟨w.heap.size, 0, none⟩) 3 3) := (HAL.out.cell (World.block_lt_of_cell? _ _ hc2)).trans hc2
  have hc5 : (w2.alloc (.cells #[.slice A0 2 cc0, .slice A1 0 cc1] 28)).cell? ⟨w.heap.size + 1, 1, none⟩ = some (.slice none 0 0) := (HAL.out.cell (World.block_lt_of_cell? _ _ hc3)).trans hc3
  have HBX := Aside0.mk (heap_alloc_new w2 (.cells #[.slice A0 2 cc0, .slice A1 0 cc1] 28))
  clear hb2 ho0 ho1 hC0 hC1
  go_wp2_with (fail)
  refine (group_May.calls (some ⟨w.heap.size, 0, none⟩) 3 [1, 2, 3] none 0 [] true _ (Kd.C_below HV2.out HAL.out) (by decide) (Kd.C_nil _ _) (by decide) HY.out).mono ?_
  rintro e w3 ⟨rfl, hb3⟩
  have hd0 : w3.cell? ⟨w.heap.size + 1, 0, none⟩ = some (.slice (some ⟨w.heap.size, 0, none⟩) 3 3) := (hb3.cell (World.block_lt_of_cell? _ _ hc4)).trans hc4
  have hd1 : w3.cell? ⟨w.heap.size + 1, 1, none⟩ = some (.slice none 0 0) := (hb3.cell (World.block_lt_of_cell? _ _ hc5)).trans hc5
  have HBY := Aside0.mk ((hb3.block _ (Array.getElem?_eq_some_iff.1 HBX.out).1).trans HBX.out)
  have HB3 := Aside0.mk hb3
  clear hb3
  go_wp2_with (fail)
  refine (group_Need.calls (some ⟨w.heap.size, 0, none⟩) 3 [1, 2, 3] none 0 [] 2 _ (Kd.C_below (Kd.C_below HV2.out HAL.out) HB3.out) (by decide) (Kd.C_nil _ _) (by decide) HD.out).mono ?_
  rintro e w4 ⟨rfl, hb4⟩
  have HBZ := Aside0.mk ((hb4.block _ (Array.getElem?_eq_some_iff.1 HBY.out).1).trans HBY.out)
  have he0 : w4.cell? ⟨w2.heap.size, 0, none⟩ = some (.slice A0 2 cc0) := cell_row (cs := [.slice A0 2 cc0, .slice A1 0 cc1]) HBZ.out 0
  have he1 : w4.cell? ⟨w2.heap.size, 1, none⟩ = some (.slice A1 0 cc1) := cell_row (cs := [.slice A0 2 cc0, .slice A1 0 cc1]) HBZ.out 1
  have HB4 := Aside0.mk hb4
  clear hb4
  go_wp2_with (fail)
  refine (group_Need.calls A0 cc0 [1, 2] A1 cc1 [] 2 _ (Kd.C_below (Kd.C_below (Kd.C_below HC0.out HAL.out) HB3.out) HB4.out) hcc0 (Kd.C_below (Kd.C_below (Kd.C_below HC1.out HAL.out) HB3.out) HB4.out) hcc1 HD2.out).mono ?_
  rintro e w5 ⟨rfl, hb5⟩
  have HB5 := Aside0.mk hb5
  clear hb5
  go_wp2_with (fail)
  go_ret
  have s1 := HB0.out.size
  have s2 := HB1.out.size
  have s3 := HB2.out.size
  have s4 := HAL.out.size
  have s5 := HB3.out.size
  have s6 := HB4.out.size
  exact ⟨rfl, HB0.out.trans ((HB1.out.mono s1).trans ((HB2.out.mono (by omega)).trans ((HAL.out.mono (by omega)).trans ((HB3.out.mono (by omega)).trans ((HB4.out.mono (by omega)).trans (HB5.out.mono (by omega)))))))⟩
def ferrulelaw06_shown.f : Option Bool := some true
theorem ferrulelaw06_shown.calls (r : Bool) (w : World) (h : ferrulelaw06_shown.f = some r) : Calls Try.prog 26 #[] w fun e w' => e = .returned (.bool r) ∧ Below w.heap.size w w' := by
  obtain rfl := Option.some.inj h
  exact shown6 w
end Go.Proofs.Ytlmefnifhbcbcaa.PAll
end
