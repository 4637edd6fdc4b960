/- Joined texts of the claim LeaseMost (part 38): contracts of functions and plain laws. -/
import Derived.BigQuiet
import Derived.Deep.QuietTactic
import Derived.Laws.Externs
import Derived.Outline
import Derived.Test.YtlmefnifhbcbcaaJLeaseMost19
import Derived.Test.YtlmefnifhbcbcaaJLeaseMost27
import Derived.Test.YtlmefnifhbcbcaaJLeaseMost28
import Derived.Test.YtlmefnifhbcbcaaJLeaseMost29
section
/- Groups: May, as the printed texts call it. -/
namespace Go.Proofs.Ytlmefnifhbcbcaa.PAll
open Go.RowKit Go.Proofs.YtlmefnifhbcbcaaW.PrintWords Go.Proofs.YtlmefnifhbcbcaaW.PrintMore Go.Proofs.Ytlmefnifhbcbcaa
set_option linter.unusedVariables false
theorem ret_b {a b : Bool} (h : a = b) : Ending.returned (.bool a) = .returned (.bool b) := by rw [h]
theorem rises_calls (A : Option Addr) (c : Nat) (l : List Int) (w : World) (hr : Kd.C (Kd.int .u64) w A l.length l) (hc : l.length ≤ c) (hl : l.length ≤ 9223372036854775806) : Calls Try.prog 69 #[.slice A l.length c] w fun e w' => e = .returned (.bool (risesB l)) ∧ ∃ m, w' = w.drewN m := by
  obtain ⟨k, hk⟩ := (rises_ev l hl).rounds
  exact (group_rises.calls k A c l _ w hr hc hk).mono fun e w' ⟨he, hd⟩ => ⟨he, hd.out⟩
theorem contains_calls (A : Option Addr) (c : Nat) (l : List Int) (x : Int) (w : World) (hr : Kd.C (Kd.int .u64) w A l.length l) (hc : l.length ≤ c) (hl : l.length ≤ 9223372036854775806) : Calls Try.prog 55 #[.slice A l.length c, .int .u64 x] w fun e w' => e = .returned (.bool (hasI l x)) ∧ ∃ m, w' = w.drewN m := by
  obtain ⟨k, hk⟩ := (Contains_ev l x hl).rounds
  exact (slices_Contains_uint64_uint64.calls k A c l x _ w hr hc hk).mono fun e w' ⟨he, hd⟩ => ⟨he, hd.out⟩
theorem groupMay1 (B : Nat) (A : Option Addr) (c : Nat) (l : List Int) (x : Int) (W : World) (hB : W.cell? ⟨B, 0, none⟩ = some (.slice A l.length c)) (hr : Kd.C (Kd.int .u64) W A l.length l) (hc : l.length ≤ c) (hl : l.length ≤ 9223372036854775806) :
    Calls Try.prog 71 #[.int .u64 x, .pointer (some ⟨B, 0, none⟩)] W fun e W' => e = .returned (.bool (hasI l x)) ∧ Below W.heap.size W W' := by
  have HR := Aside0.mk hr
  have HC := Aside0.mk hc
  have HL := Aside0.mk hl
  clear hr hc hl
  go_enter Try.func71, Try.ntmps71
  go_wp2_with (go_at_call 55; refine (contains_calls A c l x _ HR.out HC.out HL.out).mono ?_; rintro e w2 ⟨rfl, n, rfl⟩)
  go_ret
  exact ⟨rfl, pw_below_drewN (Below.refl _ _) _⟩
def group_May.f (l0_0 l0_1 : List Int) : Option Bool := if l0_0.length ≤ 9223372036854775806 ∧ l0_1.length ≤ 9223372036854775806 then some (mayV l0_0 l0_1) else none
set_option maxHeartbeats 2000000 in
set_option maxRecDepth 100000 in
theorem group_May.calls (A0_0 : Option Addr) (c0_0 : Nat) (l0_0 : List Int) (A0_1 : Option Addr) (c0_1 : Nat) (l0_1 : List Int) (r : Bool) (w : World) (hr0_0 : Kd.C (Kd.int .u64) w A0_0 l0_0.length l0_0) (hc0_0 : l0_0.length ≤ c0_0) (hr0_1 : Kd.C (Kd.int .u64) w A0_1 l0_1.length l0_1) (hc0_1 : l0_1.length ≤ c0_1) (h : group_May.f l0_0 l0_1 = some r) :
    Calls Try.prog 37 #[.agg #[.slice A0_0 l0_0.length c0_0, .slice A0_1 l0_1.length c0_1]] w fun e w' => e = .returned (.bool r) ∧ Below w.heap.size w w' := by
  unfold group_May.f at h
  split at h
  case isFalse => cases h
  rename_i hlen
  obtain ⟨hl0, hl1⟩ := hlen
  obtain rfl := Option.some.inj h
  have HB0 := Aside0.mk ((Below.refl w.heap.size w).alloc (Nat.le_refl _) (.cells #[.slice A0_0 l0_0.length c0_0, .slice A0_1 l0_1.length c0_1] 28))
  have hbx := heap_alloc_new w (.cells #[.slice A0_0 l0_0.length c0_0, .slice A0_1 l0_1.length c0_1] 28)
  have HX := Aside0.mk hbx
  have HR0 := Aside0.mk (Kd.C_below hr0_0 HB0.out)
  have HR1 := Aside0.mk (Kd.C_below hr0_1 HB0.out)
  have HC0 := Aside0.mk hc0_0
  have HC1 := Aside0.mk hc0_1
  have HL0 := Aside0.mk hl0
  have HL1 := Aside0.mk hl1
  have R0 : Aside0 (∀ W, Below (w.alloc (.cells #[.slice A0_0 l0_0.length c0_0, .slice A0_1 l0_1.length c0_1] 28)).heap.size (w.alloc (.cells #[.slice A0_0 l0_0.length c0_0, .slice A0_1 l0_1.length c0_1] 28)) W → Calls Try.prog 69 #[.slice A0_0 l0_0.length c0_0] W fun e w' => e = .returned (.bool (risesB l0_0)) ∧ ∃ m, w' = W.drewN m) := ⟨fun W hW => rises_calls A0_0 c0_0 l0_0 W (Kd.C_below HR0.out hW) hc0_0 hl0⟩
  have R1 : Aside0 (∀ W, Below (w.alloc (.cells #[.slice A0_0 l0_0.length c0_0, .slice A0_1 l0_1.length c0_1] 28)).heap.size (w.alloc (.cells #[.slice A0_0 l0_0.length c0_0, .slice A0_1 l0_1.length c0_1] 28)) W → Calls Try.prog 69 #[.slice A0_1 l0_1.length c0_1] W fun e w' => e = .returned (.bool (risesB l0_1)) ∧ ∃ m, w' = W.drewN m) := ⟨fun W hW => rises_calls A0_1 c0_1 l0_1 W (Kd.C_below HR1.out hW) hc0_1 hl1⟩
  have HP : Aside0 (∀ W, Below (w.alloc (.cells #[.slice A0_0 l0_0.length c0_0, .slice A0_1 l0_1.length c0_1] 28)).heap.size (w.alloc (.cells #[.slice A0_0 l0_0.length c0_0, .slice A0_1 l0_1.length c0_1] 28)) W → Calls Try.prog 70 #[.slice A0_1 l0_1.length c0_1, .func (.func 71) #[] #[.pointer (some ⟨w.heap.size, 0, none⟩)]] W fun e w' => e = .returned (.bool (l0_1.any (fun x => hasI l0_0 x))) ∧ Below W.heap.size W w') := ⟨fun W hW => ContainsFuncu64 (Kd.int .u64) rfl (fun x => hasI l0_0 x) 71 #[.pointer (some ⟨w.heap.size, 0, none⟩)] (enters_of Try.func71 (by kernel_rfl) rfl) (.slice A0_1 l0_1.length c0_1) l0_1 W ⟨A0_1, c0_1, rfl, hc0_1, Kd.C_below HR1.out hW⟩ (fun W' x cs hb _ hK => by
    obtain rfl : cs = [.int .u64 x] := hK
    have hW' := hW.trans (hb.mono hW.size)
    have hcell := cell_row (cs := [.slice A0_0 l0_0.length c0_0, .slice A0_1 l0_1.length c0_1]) hbx 0
    exact groupMay1 w.heap.size A0_0 c0_0 l0_0 x W' ((hW'.cell (World.block_lt_of_cell? _ _ hcell)).trans hcell) (Kd.C_below HR0.out hW') hc0_0 hl0)⟩
  clear h hr0_0 hr0_1 hc0_0 hc0_1 hl0 hl1 hbx
  have HV : Aside0 (mayV l0_0 l0_1 = (decide (1 ≤ l0_0.length) && decide (l0_0.length ≤ 7) && decide (l0_1.length ≤ 3) && risesB l0_0 && risesB l0_1 && l0_1.all (fun x => !hasI l0_0 x))) := ⟨rfl⟩
  generalize risesB l0_0 = b0 at *
  generalize risesB l0_1 = b1 at *
  by_cases c1 : l0_0.length < 1
  · have e1 : decide ((l0_0.length : Int) < 1) = true := decide_eq_true (by omega)
    have e1b : decide (l0_0.length < 1) = true := decide_eq_true c1
    rw [HV.out, decide_eq_false (show ¬ 1 ≤ l0_0.length by omega)]
    clear c1
    go_enter Try.func37, Try.ntmps37
    go_wp2
    go_ret
    exact ⟨rfl, HB0.out⟩
  · have e1 : decide ((l0_0.length : Int) < 1) = false := decide_eq_false (by omega)
    have e1b : decide (l0_0.length < 1) = false := decide_eq_false c1
    have v1 := decide_eq_true (show 1 ≤ l0_0.length by omega)
    by_cases c2 : 7 < l0_0.length
    · have e2 : decide ((7 : Int) < (l0_0.length : Int)) = true := decide_eq_true (by omega)
      have e2b : decide (7 < l0_0.length) = true := decide_eq_true c2
      rw [HV.out, v1, decide_eq_false (show ¬ l0_0.length ≤ 7 by omega)]
      clear c1 c2 v1
      go_enter Try.func37, Try.ntmps37
      go_wp2
      go_ret
      exact ⟨rfl, HB0.out⟩
    · have e2 : decide ((7 : Int) < (l0_0.length : Int)) = false := decide_eq_false (by omega)
      have e2b : decide (7 < l0_0.length) = false := decide_eq_false c2
      have v2 := decide_eq_true (show l0_0.length ≤ 7 by omega)
      by_cases c3 : 3 < l0_1.length
      · have e3 : decide ((3 : Int) < (l0_1.length : Int)) = true := decide_eq_true (by omega)
        have e3b : decide (3 < l0_1.length) = true := decide_eq_true c3
        rw [HV.out, v1, v2, decide_eq_false (show ¬ l0_1.length ≤ 3 by omega)]
        clear c1 c2 v1 v2 c3
        go_enter Try.func37, Try.ntmps37
        go_wp2
        go_ret
        exact ⟨rfl, HB0.out⟩
      · have e3 : decide ((3 : Int) < (l0_1.length : Int)) = false := decide_eq_false (by omega)
        have e3b : decide (3 < l0_1.length) = false := decide_eq_false c3
        have v3 := decide_eq_true (show l0_1.length ≤ 3 by omega)
        rw [HV.out, v1, v2, v3]
        clear c1 c2 c3 v1 v2 v3
        cases b0 with
        | false =>
          go_enter Try.func37, Try.ntmps37
          go_wp2_with (go_at_call 69; ((with_reducible refine (R0.out _ (by first | exact Below.refl _ _ | exact pw_below_drewN (Below.refl _ _) _)).mono ?_); rintro e w2 ⟨rfl, n, rfl⟩))
          go_ret
          exact ⟨rfl, by first | exact pw_below_drewN HB0.out _ | exact HB0.out⟩
        | true =>
          cases b1 with
          | false =>
            go_enter Try.func37, Try.ntmps37
            go_wp2_with (first | (go_at_call 69; ((with_reducible refine (R0.out _ (by first | exact Below.refl _ _ | exact pw_below_drewN (Below.refl _ _) _)).mono ?_); rintro e w2 ⟨rfl, n, rfl⟩)) | (go_at_call 69; ((with_reducible refine (R1.out _ (by first | exact Below.refl _ _ | exact pw_below_drewN (Below.refl _ _) _)).mono ?_); rintro e w2 ⟨rfl, n, rfl⟩)))
            go_ret
            exact ⟨rfl, by first | exact pw_below_drewN (pw_below_drewN HB0.out _) _ | exact pw_below_drewN HB0.out _ | exact HB0.out⟩
          | true =>
            go_enter Try.func37, Try.ntmps37
            go_wp2_with (first | (go_at_call 69; ((with_reducible refine (R0.out _ (by first | exact Below.refl _ _ | exact pw_below_drewN (Below.refl _ _) _)).mono ?_); rintro e w2 ⟨rfl, n, rfl⟩)) | (go_at_call 69; ((with_reducible refine (R1.out _ (by first | exact Below.refl _ _ | exact pw_below_drewN (Below.refl _ _) _)).mono ?_); rintro e w2 ⟨rfl, n, rfl⟩)) | (go_at_call 70; refine (HP.out _ (by first | exact Below.refl _ _ | exact pw_below_drewN (Below.refl _ _) _)).mono ?_; rintro e w3 ⟨rfl, hb3⟩))
            go_ret
            exact ⟨ret_b (by rw [List.not_any_eq_all_not]; simp), by have hs := HB0.out.size; first | exact (pw_below_drewN HB0.out _).trans (hb3.mono hs) | exact (pw_below_drewN (pw_below_drewN HB0.out _) _).trans (hb3.mono hs)⟩
/-! less -/
end Go.Proofs.Ytlmefnifhbcbcaa.PAll
end
