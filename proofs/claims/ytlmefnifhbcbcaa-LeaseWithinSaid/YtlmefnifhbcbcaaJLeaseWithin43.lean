/- Joined texts of the claim LeaseWithin (part 43): contracts of functions and plain laws. -/
import Derived.BigQuiet
import Derived.Deep.QuietTactic
import Derived.Deep.RegionHeld3
import Derived.Outline
import Derived.Test.YtlmefnifhbcbcaaJLeaseWithin10
import Derived.Test.YtlmefnifhbcbcaaJLeaseWithin13
import Derived.Test.YtlmefnifhbcbcaaJLeaseWithin18
section
/- lease.Within, as the printed texts call it. -/
namespace Go.Proofs.Ytlmefnifhbcbcaa.PAll
open Go.RowKit Go.Proofs.YtlmefnifhbcbcaaW.PrintWords Go.Proofs.YtlmefnifhbcbcaaW.PrintMore Go.Proofs.Ytlmefnifhbcbcaa
set_option linter.unusedVariables false
set_option linter.unusedSimpArgs false
theorem C_u64 (x : Int) (h : 0 ≤ x ∧ x < 18446744073709551616) : ∃ n : Nat, x = n ∧ n < 18446744073709551616 := ⟨x.toNat, by omega, by omega⟩
def mulH (x y : Int) : Int := x * y / 18446744073709551616
def mulL (x y : Int) : Int := x * y % 18446744073709551616
theorem times_int (x y : Int) (hx : 0 ≤ x ∧ x < 18446744073709551616) (hy : 0 ≤ y ∧ y < 18446744073709551616) (w : World) :
    Calls Try.prog 48 #[.int .u64 x, .int .u64 y] w fun e w' => e = .returned (.agg #[.int .u64 (mulH x y), .int .u64 (mulL x y)]) ∧ Below w.heap.size w w' := by
  obtain ⟨a, rfl, ha⟩ := C_u64 x hx
  obtain ⟨b, rfl, hb⟩ := C_u64 y hy
  have := times_calls a b ha hb w
  rw [show ((a * b / 18446744073709551616 : Nat) : Int) = mulH a b by unfold mulH; simp, show ((a * b % 18446744073709551616 : Nat) : Int) = mulL a b by unfold mulL; simp] at this
  exact this
/-- Is a clock within the drift? -/
def inV (real loc d : Int) : Bool := if d < 2 then false else mostW (mulH real (d - 1)) (mulL real (d - 1)) (mulH loc d) (mulL loc d) && mostW (mulH loc d) (mulL loc d) (IntKind.u64.wrap (mulH real d + (mulL real d + real) / 18446744073709551616)) ((mulL real d + real) % 18446744073709551616)
def lease_Within.f (a0 a1 a2 : Int) : Option Bool := if (0 ≤ a0 ∧ a0 < 18446744073709551616) ∧ (0 ≤ a1 ∧ a1 < 18446744073709551616) ∧ (0 ≤ a2 ∧ a2 < 18446744073709551616) then some (inV a0 a1 a2) else none
theorem keepX {n : Nat} {r1 r2 : Int} {w W w' : World} (h : W.cell? ⟨n, 0, none⟩ = some (.int .u64 r1) ∧ W.cell? ⟨n, 1, none⟩ = some (.int .u64 r2) ∧ Below w.heap.size w W) (hb : Below W.heap.size W w') : w'.cell? ⟨n, 0, none⟩ = some (.int .u64 r1) ∧ w'.cell? ⟨n, 1, none⟩ = some (.int .u64 r2) ∧ Below w.heap.size w w' :=
  ⟨(hb.cell (World.block_lt_of_cell? _ _ h.1)).trans h.1, (hb.cell (World.block_lt_of_cell? _ _ h.2.1)).trans h.2.1, h.2.2.trans (hb.mono h.2.2.size)⟩
set_option maxHeartbeats 2000000 in
set_option maxRecDepth 100000 in
theorem lease_Within.calls (a0 a1 a2 : Int) (r : Bool) (w : World) (h : lease_Within.f a0 a1 a2 = some r) : Calls Try.prog 24 #[.int .u64 a0, .int .u64 a1, .int .u64 a2] w fun e w' => e = .returned (.bool r) ∧ Below w.heap.size w w' := by
  unfold lease_Within.f at h
  split at h
  case isFalse => cases h
  rename_i hg
  obtain ⟨h0, h1, h2⟩ := hg
  obtain rfl := Option.some.inj h
  clear h
  by_cases c : a2 < 2
  · have HV : Aside0 (inV a0 a1 a2 = false) := ⟨by unfold inV; rw [if_pos c]⟩
    go_enter Try.func24, Try.ntmps24
    go_wp2
    go_ret
    exact ⟨ret_b3 HV.out.symm, Below.refl _ _⟩
  · have hw : IntKind.u64.wrap (a2 - 1) = a2 - 1 := by rw [IntKind.wrap_u64]; omega
    have HT1 := Aside0.mk (fun W => times_int a1 a2 h1 h2 W)
    have HT2 := Aside0.mk (fun W => times_int a0 (a2 - 1) h0 (by omega) W)
    have HT3 := Aside0.mk (fun W => times_int a0 a2 h0 h2 W)
    have HM1 := Aside0.mk (fun W => most_calls (mulH a0 (a2 - 1)) (mulL a0 (a2 - 1)) (mulH a1 a2) (mulL a1 a2) W)
    have HM2 := Aside0.mk (fun W => most_calls (mulH a1 a2) (mulL a1 a2) (IntKind.u64.wrap (mulH a0 a2 + (mulL a0 a2 + a0) / 18446744073709551616)) ((mulL a0 a2 + a0) % 18446744073709551616) W)
    have HMO := Aside0.mk (fun W => more_calls (mulH a0 a2) (mulL a0 a2) a0 (by unfold mulL; omega) h0.1 W)
    have HV : Aside0 (inV a0 a1 a2 = (mostW (mulH a0 (a2 - 1)) (mulL a0 (a2 - 1)) (mulH a1 a2) (mulL a1 a2) && mostW (mulH a1 a2) (mulL a1 a2) (IntKind.u64.wrap (mulH a0 a2 + (mulL a0 a2 + a0) / 18446744073709551616)) ((mulL a0 a2 + a0) % 18446744073709551616))) := ⟨by unfold inV; rw [if_neg c]⟩
    generalize mostW (mulH a0 (a2 - 1)) (mulL a0 (a2 - 1)) (mulH a1 a2) (mulL a1 a2) = b1 at *
    generalize mostW (mulH a1 a2) (mulL a1 a2) (IntKind.u64.wrap (mulH a0 a2 + (mulL a0 a2 + a0) / 18446744073709551616)) ((mulL a0 a2 + a0) % 18446744073709551616) = b2 at *
    generalize IntKind.u64.wrap (mulH a0 a2 + (mulL a0 a2 + a0) / 18446744073709551616) = m1 at *
    generalize (mulL a0 a2 + a0) % 18446744073709551616 = m2 at *
    generalize mulH a0 (a2 - 1) = p1 at *
    generalize mulL a0 (a2 - 1) = p2 at *
    generalize mulH a0 a2 = q1 at *
    generalize mulL a0 a2 = q2 at *
    generalize mulH a1 a2 = r1 at *
    generalize mulL a1 a2 = r2 at *
    cases b1
    · go_enter Try.func24, Try.ntmps24
      go_wp2_with (go_at_call 48; refine (HT1.out _).mono ?_; rintro e w1 ⟨rfl, hb1⟩; have HB1 := Aside0.mk hb1; clear hb1)
      have hS0 : (w1.alloc (.cells #[.int .u64 r1, .int .u64 r2] 79)).cell? ⟨w1.heap.size, 0, none⟩ = some (.int .u64 r1) ∧ (w1.alloc (.cells #[.int .u64 r1, .int .u64 r2] 79)).cell? ⟨w1.heap.size, 1, none⟩ = some (.int .u64 r2) ∧ Below w.heap.size w (w1.alloc (.cells #[.int .u64 r1, .int .u64 r2] 79)) := ⟨cell_row (cs := [.int .u64 r1, .int .u64 r2]) (heap_alloc_new w1 _) 0, cell_row (cs := [.int .u64 r1, .int .u64 r2]) (heap_alloc_new w1 _) 1, HB1.out.alloc HB1.out.size _⟩
      generalize w1.alloc (.cells #[.int .u64 r1, .int .u64 r2] 79) = W1 at *
      refine wp_region_noPanic ?_
      refine wp_region_held_drew (S := (fun w' => w'.cell? ⟨w1.heap.size, 0, none⟩ = some (.int .u64 r1) ∧ w'.cell? ⟨w1.heap.size, 1, none⟩ = some (.int .u64 r2) ∧ Below w.heap.size w w')) (by kernel_rfl) ?_ (fun hHeld => ?_)
      · exact keepX hS0 ((Below.refl _ _).drew)
      refine wpAnyH_take (i := 0) (oi := _) (v := .int .u64 a0) rfl (by kernel_rfl) (by kernel_rfl) (by kernel_rfl) (fun _ _ _ h => h) (Or.inl ⟨by rfl, ?_⟩) (by assumption) ?_
      · intro w hSw; (try dsimp only at hSw); go_simp
      try simp only [Act.put, List.setIfInBounds_toArray, List.set_cons_zero, List.set_cons_succ]
      refine wpAnyH_take (i := 1) (oi := _) (v := .int .u64 a2) rfl (by kernel_rfl) (by kernel_rfl) (by kernel_rfl) (fun _ _ _ h => h) (Or.inl ⟨by rfl, ?_⟩) (by assumption) ?_
      · intro w hSw; (try dsimp only at hSw); go_simp
      try simp only [Act.put, List.setIfInBounds_toArray, List.set_cons_zero, List.set_cons_succ]
      refine wpAnyH_take (i := 2) (oi := _) (v := .int .u64 (a2 - 1)) rfl (by kernel_rfl) (by kernel_rfl) (by kernel_rfl) (fun _ _ _ h => h) (Or.inl ⟨by rfl, ?_⟩) (by assumption) ?_
      · intro w hSw; (try dsimp only at hSw); go_simp
      try simp only [Act.put, List.setIfInBounds_toArray, List.set_cons_zero, List.set_cons_succ]
      refine wpAnyH_take (i := 4) (oi := _) (v := .agg #[.int .u64 r1, .int .u64 r2]) rfl (by kernel_rfl) (by kernel_rfl) (by kernel_rfl) (fun _ _ _ h => h) (Or.inl ⟨by rfl, ?_⟩) (by assumption) ?_
      · intro w hSw; (try dsimp only at hSw); go_simp
      try simp only [Act.put, List.setIfInBounds_toArray, List.set_cons_zero, List.set_cons_succ]
      refine wpAnyH_ready (rs := [3]) (by kernel_rfl) (by simp) ?_
      refine AllReadyH.cons (o := _) rfl (fun K hK => ?_) AllReadyH.nil
      go_simp; go_at_call 48; with_reducible refine (HT2.out _).mono ?_; rintro e w' ⟨rfl, hb⟩; go_simp
      refine hK.out _ _ ?_ (fun hHeld3 => ?_)
      · exact keepX (by assumption) (by assumption)
      clear hK K
      try simp only [Act.put, List.setIfInBounds_toArray, List.set_cons_zero, List.set_cons_succ]
      refine wpAnyH_ready (rs := [5]) (by kernel_rfl) (by simp) ?_
      refine AllReadyH.cons (o := _) rfl (fun K hK => ?_) AllReadyH.nil
      go_simp; go_at_call 57; with_reducible refine (HM1.out _).mono ?_; rintro e w' ⟨rfl, hb⟩; go_simp
      refine hK.out _ _ ?_ (fun hHeld5 => ?_)
      · exact keepX (by assumption) (by assumption)
      clear hK K
      try simp only [Act.put, List.setIfInBounds_toArray, List.set_cons_zero, List.set_cons_succ]
      refine wpAnyH_take (i := 6) (oi := _) (v := .bool false) rfl (by kernel_rfl) (by kernel_rfl) (by kernel_rfl) (fun _ _ _ h => h) (Or.inl ⟨by rfl, ?_⟩) (by assumption) ?_
      · intro w hSw; (try dsimp only at hSw); go_simp
      try simp only [Act.put, List.setIfInBounds_toArray, List.set_cons_zero, List.set_cons_succ]
      refine wpAnyH_take (i := 7) (oi := _) (v := undef) rfl (by kernel_rfl) (by kernel_rfl) (by kernel_rfl) (fun _ _ _ h => h) (Or.inr ⟨by rfl, rfl⟩) (by assumption) ?_
      try simp only [Act.put, List.setIfInBounds_toArray, List.set_cons_zero, List.set_cons_succ]
      refine wpAnyH_take (i := 8) (oi := _) (v := undef) rfl (by kernel_rfl) (by kernel_rfl) (by kernel_rfl) (fun _ _ _ h => h) (Or.inr ⟨by rfl, rfl⟩) (by assumption) ?_
      try simp only [Act.put, List.setIfInBounds_toArray, List.set_cons_zero, List.set_cons_succ]
      refine wpAnyH_take (i := 9) (oi := _) (v := undef) rfl (by kernel_rfl) (by kernel_rfl) (by kernel_rfl) (fun _ _ _ h => h) (Or.inr ⟨by rfl, rfl⟩) (by assumption) ?_
      try simp only [Act.put, List.setIfInBounds_toArray, List.set_cons_zero, List.set_cons_succ]
      refine wpAnyH_take (i := 11) (oi := _) (v := undef) rfl (by kernel_rfl) (by kernel_rfl) (by kernel_rfl) (fun _ _ _ h => h) (Or.inr ⟨by rfl, rfl⟩) (by assumption) ?_
      try simp only [Act.put, List.setIfInBounds_toArray, List.set_cons_zero, List.set_cons_succ]
      refine wpAnyH_take (i := 10) (oi := _) (v := undef) rfl (by kernel_rfl) (by kernel_rfl) (by kernel_rfl) (fun _ _ _ h => h) (Or.inr ⟨by rfl, rfl⟩) (by assumption) ?_
      try simp only [Act.put, List.setIfInBounds_toArray, List.set_cons_zero, List.set_cons_succ]
      refine wpAnyH_take (i := 12) (oi := _) (v := undef) rfl (by kernel_rfl) (by kernel_rfl) (by kernel_rfl) (fun _ _ _ h => h) (Or.inr ⟨by rfl, rfl⟩) (by assumption) ?_
      try simp only [Act.put, List.setIfInBounds_toArray, List.set_cons_zero, List.set_cons_succ]
      refine wpAnyH_take (i := 13) (oi := _) (v := undef) rfl (by kernel_rfl) (by kernel_rfl) (by kernel_rfl) (fun _ _ _ h => h) (Or.inr ⟨by rfl, rfl⟩) (by assumption) ?_
      try simp only [Act.put, List.setIfInBounds_toArray, List.set_cons_zero, List.set_cons_succ]
      refine wpAnyH_ready (rs := [14]) (by kernel_rfl) (by simp) ?_
      refine AllReadyH.cons (o := _) rfl (fun K hK => ?_) AllReadyH.nil
      go_simp
      refine hK.out _ _ (by assumption) (fun hHeld14 => ?_)
      clear hK K
      try simp only [Act.put, List.setIfInBounds_toArray, List.set_cons_zero, List.set_cons_succ]
      refine wpAnyH_ready (rs := [15]) (by kernel_rfl) (by simp) ?_
      refine AllReadyH.cons (o := _) rfl (fun K hK => ?_) AllReadyH.nil
      go_simp
      refine hK.out _ _ (by assumption) (fun hHeld15 => ?_)
      clear hK K
      try simp only [Act.put, List.setIfInBounds_toArray, List.set_cons_zero, List.set_cons_succ]
      refine wpAnyH_done (by kernel_rfl) ?_ _
      refine NoPanic.normal ?_
      go_wp2
      go_ret
      exact ⟨ret_b3 (by rw [HV.out]; rfl), (by assumption : _ ∧ _ ∧ Below w.heap.size w _).2.2⟩
    · go_enter Try.func24, Try.ntmps24
      go_wp2_with (go_at_call 48; refine (HT1.out _).mono ?_; rintro e w1 ⟨rfl, hb1⟩; have HB1 := Aside0.mk hb1; clear hb1)
      have hS0 : (w1.alloc (.cells #[.int .u64 r1, .int .u64 r2] 79)).cell? ⟨w1.heap.size, 0, none⟩ = some (.int .u64 r1) ∧ (w1.alloc (.cells #[.int .u64 r1, .int .u64 r2] 79)).cell? ⟨w1.heap.size, 1, none⟩ = some (.int .u64 r2) ∧ Below w.heap.size w (w1.alloc (.cells #[.int .u64 r1, .int .u64 r2] 79)) := ⟨cell_row (cs := [.int .u64 r1, .int .u64 r2]) (heap_alloc_new w1 _) 0, cell_row (cs := [.int .u64 r1, .int .u64 r2]) (heap_alloc_new w1 _) 1, HB1.out.alloc HB1.out.size _⟩
      generalize w1.alloc (.cells #[.int .u64 r1, .int .u64 r2] 79) = W1 at *
      go_region_held3 (fun w' => w'.cell? ⟨w1.heap.size, 0, none⟩ = some (.int .u64 r1) ∧ w'.cell? ⟨w1.heap.size, 1, none⟩ = some (.int .u64 r2) ∧ Below w.heap.size w w') (first | exact keepX (by assumption) (by assumption) | exact keepX (by assumption) ((Below.refl _ _).drew))
        (first
          | (go_at_call 48; with_reducible refine (HT2.out _).mono ?_; rintro e w' ⟨rfl, hb⟩)
          | (go_at_call 48; with_reducible refine (HT3.out _).mono ?_; rintro e w' ⟨rfl, hb⟩)
          | (go_at_call 58; with_reducible refine (HMO.out _).mono ?_; rintro e w' ⟨rfl, hb⟩)
          | (go_at_call 57; with_reducible refine (HM2.out _).mono ?_; rintro e w' ⟨rfl, hb⟩)
          | (go_at_call 57; with_reducible refine (HM1.out _).mono ?_; rintro e w' ⟨rfl, hb⟩))
      go_wp2
      go_ret
      exact ⟨ret_b3 (by rw [HV.out]; rfl), (by assumption : _ ∧ _ ∧ Below w.heap.size w _).2.2⟩
end Go.Proofs.Ytlmefnifhbcbcaa.PAll
end
