/- Joined texts of the claim LeaseMost (part 42): contracts of functions and plain laws. -/
import Derived.Outline
import Derived.Test.YtlmefnifhbcbcaaJLeaseMost41
section
/- The document's example of chapter 10 holds, whenever it is asked. -/
namespace Go.Proofs.Ytlmefnifhbcbcaa.PAll
open Go.RowKit Go.Proofs.YtlmefnifhbcbcaaW.PrintWords Go.Proofs.YtlmefnifhbcbcaaW.PrintMore Go.Proofs.Ytlmefnifhbcbcaa
set_option linter.unusedVariables false
theorem C_ints {W : World} {b t : Nat} {l : List Int} (h : W.heap[b]? = some (.cells (l.map (Value.int .u64)).toArray t (0, 0))) (hl : l.length ≤ 100) : Kd.C (Kd.int .u64) W (some ⟨b, 0, none⟩) l.length l := by
  refine ⟨rfl, by omega, fun _ => ⟨_, rfl, fun j p hj => ⟨[.int .u64 p], rfl, rfl, fun i u hu => ?_⟩⟩⟩
  have hi0 : i = 0 := by have := (List.getElem?_eq_some_iff.1 hu).1; simp at this; omega
  subst hi0
  obtain rfl : Value.int .u64 p = u := by simpa using hu
  rw [Addr.add_lit, cell_row h]
  show (l.map (Value.int .u64))[0 + (j * 1 + 0)]? = _
  rw [show 0 + (j * 1 + 0) = j by omega, List.getElem?_map, hj]
  rfl
set_option maxHeartbeats 2000000 in
set_option maxRecDepth 100000 in
theorem shown10 (w : World) : Calls Try.prog 17 #[] w fun e w' => e = .returned (.bool true) ∧ Below w.heap.size w w' := by
  obtain ⟨W0, hW0⟩ : ∃ W0, W0 = ((w.alloc (.cells #[.int .u64 1, .int .u64 2, .int .u64 3] 22)).alloc (.cells #[.slice (some ⟨w.heap.size, 0, none⟩) 3 3, .slice none 0 0] 28)).alloc (.cells #[.int .u64 2, .int .u64 15, .int .u64 3, .int .u64 12] 39) := ⟨_, rfl⟩
  have hB0 : Below w.heap.size w W0 := by rw [hW0]; exact (((Below.refl _ w).alloc (Nat.le_refl _) _).alloc (by simp) _).alloc (by simp; omega) _
  have hx1 : W0.heap[w.heap.size]? = some (.cells #[.int .u64 1, .int .u64 2, .int .u64 3] 22 (0, 0)) := by
    rw [hW0, Below.heap_alloc _ _ _ (by simp; omega), Below.heap_alloc _ _ _ (by simp)]; exact heap_alloc_new w _
  have hx2 : W0.heap[w.heap.size + 1]? = some (.cells #[.slice (some ⟨w.heap.size, 0, none⟩) 3 3, .slice none 0 0] 28 (0, 0)) := by
    rw [hW0, Below.heap_alloc _ _ _ (by simp)]
    have := heap_alloc_new (w.alloc (.cells #[.int .u64 1, .int .u64 2, .int .u64 3] 22)) (.cells #[.slice (some ⟨w.heap.size, 0, none⟩) 3 3, .slice none 0 0] 28)
    rw [World.size_alloc] at this
    exact this
  have hx3 : W0.heap[w.heap.size + 1 + 1]? = some (.cells #[.int .u64 2, .int .u64 15, .int .u64 3, .int .u64 12] 39 (0, 0)) := by
    rw [hW0]
    have := heap_alloc_new ((w.alloc (.cells #[.int .u64 1, .int .u64 2, .int .u64 3] 22)).alloc (.cells #[.slice (some ⟨w.heap.size, 0, none⟩) 3 3, .slice none 0 0] 28)) (.cells #[.int .u64 2, .int .u64 15, .int .u64 3, .int .u64 12] 39)
    rw [World.size_alloc, World.size_alloc] at this
    exact this
  have hV : Kd.C (Kd.int .u64) W0 (some ⟨w.heap.size, 0, none⟩) 3 [1, 2, 3] := C_ints (l := [1, 2, 3]) hx1 (by decide)
  have hM : Kd.C k39 W0 (some ⟨w.heap.size + 1 + 1, 0, none⟩) 2 [⟨2, 15⟩, ⟨3, 12⟩] := by
    refine ⟨rfl, by decide, fun _ => ⟨_, rfl, fun j p hj => ⟨enc39 p, rfl, flat39.kk _ _, fun i u hu => ?_⟩⟩⟩
    rw [Addr.add_lit, cell_row (cs := [.int .u64 2, .int .u64 15, .int .u64 3, .int .u64 12]) hx3]
    have hj3 : j < 2 := (List.getElem?_eq_some_iff.1 hj).1
    have hi2 : i < 2 := (List.getElem?_eq_some_iff.1 hu).1
    have hjc : j = 0 ∨ j = 1 := by omega
    have hic : i = 0 ∨ i = 1 := by omega
    rcases hjc with rfl | rfl <;> cases hj <;> rcases hic with rfl | rfl <;> cases hu <;> rfl
  have HU := Aside0.mk (fun W (hW : Below W0.heap.size W0 W) => lease_Until.calls (some ⟨w.heap.size, 0, none⟩) 3 [1, 2, 3] none 0 [] 1 20 (some ⟨w.heap.size + 1 + 1, 0, none⟩) 2 [⟨2, 15⟩, ⟨3, 12⟩] 10 10 23 W (Kd.C_below hV hW) (by decide) (Kd.C_nil _ _) (by decide) (Kd.C_below hM hW) (by decide) (by kernel_rfl))
  have HB := Aside0.mk (fun W => lease_Bound.calls 10 10 8 W (by kernel_rfl))
  have HH1 := Aside0.mk (fun W (hW : Below W0.heap.size W0 W) => lease_Holds.calls (some ⟨w.heap.size, 0, none⟩) 3 [1, 2, 3] none 0 [] 1 20 (some ⟨w.heap.size + 1 + 1, 0, none⟩) 2 [⟨2, 15⟩, ⟨3, 12⟩] 10 10 true W (Kd.C_below hV hW) (by decide) (Kd.C_nil _ _) (by decide) (Kd.C_below hM hW) (by decide) (by kernel_rfl))
  have HH2 := Aside0.mk (fun W (hW : Below W0.heap.size W0 W) => lease_Holds.calls (some ⟨w.heap.size, 0, none⟩) 3 [1, 2, 3] none 0 [] 1 23 (some ⟨w.heap.size + 1 + 1, 0, none⟩) 2 [⟨2, 15⟩, ⟨3, 12⟩] 10 10 false W (Kd.C_below hV hW) (by decide) (Kd.C_nil _ _) (by decide) (Kd.C_below hM hW) (by decide) (by kernel_rfl))
  have HC2 : Aside0 (∀ W, Below W0.heap.size W0 W → W.cell? ⟨w.heap.size + 1, 0, none⟩ = some (.slice (some ⟨w.heap.size, 0, none⟩) 3 3) ∧ W.cell? ⟨w.heap.size + 1, 1, none⟩ = some (.slice none 0 0)) := ⟨fun W hW => by
    have h2 := (hW.block _ (Array.getElem?_eq_some_iff.1 hx2).1).trans hx2
    exact ⟨cell_row (cs := [.slice (some ⟨w.heap.size, 0, none⟩) 3 3, .slice none 0 0]) h2 0, cell_row (cs := [.slice (some ⟨w.heap.size, 0, none⟩) 3 3, .slice none 0 0]) h2 1⟩⟩
  have HW0 := Aside0.mk hW0
  have HB0 := Aside0.mk hB0
  clear hW0 hB0 hx1 hx2 hx3 hV hM
  go_enter Try.func17, Try.ntmps17
  go_wp2_with (fail)
  rw [← HW0.out]
  refine (HU.out W0 (Below.refl _ _)).mono ?_
  rintro e w1 ⟨rfl, hb1⟩
  obtain ⟨hc0, hc1⟩ := HC2.out _ hb1
  have HB1 := Aside0.mk hb1
  clear hb1
  go_wp2_with (fail)
  refine (HB.out _).mono ?_
  rintro e w2 ⟨rfl, hb2⟩
  have HB2 := Aside0.mk (HB1.out.trans (hb2.mono HB1.out.size))
  obtain ⟨hc2, hc3⟩ := HC2.out _ HB2.out
  clear hb2
  go_wp2_with (fail)
  refine (HH1.out _ HB2.out).mono ?_
  rintro e w3 ⟨rfl, hb3⟩
  have HB3 := Aside0.mk (HB2.out.trans (hb3.mono HB2.out.size))
  obtain ⟨hc4, hc5⟩ := HC2.out _ HB3.out
  clear hb3
  go_wp2_with (fail)
  refine (HH2.out _ HB3.out).mono ?_
  rintro e w4 ⟨rfl, hb4⟩
  have HB4 := Aside0.mk (HB3.out.trans (hb4.mono HB3.out.size))
  clear hb4
  go_wp2_with (fail)
  go_ret
  exact ⟨rfl, HB0.out.trans (HB4.out.mono HB0.out.size)⟩
def ferrulelaw10_shown.f : Option Bool := some true
theorem ferrulelaw10_shown.calls (r : Bool) (w : World) (h : ferrulelaw10_shown.f = some r) : Calls Try.prog 17 #[] w fun e w' => e = .returned (.bool r) ∧ Below w.heap.size w w' := by
  obtain rfl := Option.some.inj h
  exact shown10 w
end Go.Proofs.Ytlmefnifhbcbcaa.PAll
end
