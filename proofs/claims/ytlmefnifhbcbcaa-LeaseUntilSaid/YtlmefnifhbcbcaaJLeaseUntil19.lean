/- Joined texts of the claim LeaseUntil (part 19): contracts of functions and plain laws. -/
import Derived.BigQuiet
import Derived.Deep.QuietTactic
import Derived.Deep.RegionHeld3
import Derived.Outline
import Derived.Test.YtlmefnifhbcbcaaJLeaseUntil11
import Derived.Test.YtlmefnifhbcbcaaJLeaseUntil13
import Derived.Test.YtlmefnifhbcbcaaJLeaseUntil17
section
/- The document's products in four quarters, walked. -/
namespace Go.Proofs.Ytlmefnifhbcbcaa.PAll
open Go.RowKit Go.Proofs.YtlmefnifhbcbcaaW.PrintWords Go.Proofs.YtlmefnifhbcbcaaW.PrintMore Go.Proofs.Ytlmefnifhbcbcaa
set_option linter.unusedVariables false
theorem heap_two (w : World) (o1 o2 : Obj) : ((w.alloc o1).alloc o2).heap[w.heap.size]? = some o1 := by
  have := (Below.refl (w.alloc o1).heap.size (w.alloc o1)).alloc (Nat.le_refl _) o2
  exact (this.block w.heap.size (by simp)).trans (heap_alloc_new w o1)
theorem heap_snd (w : World) (o1 o2 : Obj) : ((w.alloc o1).alloc o2).heap[w.heap.size + 1]? = some o2 := by
  have := heap_alloc_new (w.alloc o1) o2
  rwa [World.size_alloc] at this
def half4 (a b c d : Int) : Value := .agg #[.int .u64 a, .int .u64 b, .int .u64 c, .int .u64 d]
set_option maxHeartbeats 2000000 in
set_option maxRecDepth 100000 in
theorem rtimes_calls (x y : Nat) (hx : x < 18446744073709551616) (hy : y < 18446744073709551616) (w : World) :
    Calls Try.prog 50 #[.int .u64 x, .int .u64 y] w fun e w' => (∃ h0 h1 h2 h3 : Nat, h0 < 4294967296 ∧ h1 < 4294967296 ∧ h2 < 4294967296 ∧ h3 < 4294967296 ∧ val4 h0 h1 h2 h3 = x * y ∧ e = .returned (half4 h0 h1 h2 h3)) ∧ Below w.heap.size w w' := by
  have HC := Aside0.mk (times_clean x y hx hy)
  have hX : (0 : Int) ≤ (x : Int) := by omega
  have hY : (0 : Int) ≤ (y : Int) := by omega
  clear hx hy
  generalize (x : Int) = X at *
  generalize (y : Int) = Y at *
  go_enter Try.func50, Try.ntmps50
  go_wp2
  refine bodyPost_ret (results_c1 rfl _ _ w.heap.size 84 #[.int .u64 ((tP X Y).tmod 4294967296), .int .u64 ((tS X Y).tmod 4294967296), .int .u64 ((tV X Y).tmod 4294967296), .int .u64 (tH3 X Y)] (0, 0) _ rfl (heap_two w _ _) Try.underlying84 rfl (by kernel_rfl)) rfl ?_
  obtain ⟨h0, h1, h2, h3, b0, b1, b2, b3, hv, e0, e1, e2, e3⟩ := HC.out
  exact ⟨⟨h0, h1, h2, h3, b0, b1, b2, b3, hv, by rw [e0, e1, e2, e3]; rfl⟩, ((Below.refl w.heap.size w).alloc (Nat.le_refl _) _).alloc (by simp) _⟩
set_option maxHeartbeats 2000000 in
set_option maxRecDepth 100000 in
theorem rmore_calls (h0 h1 h2 h3 a : Nat) (b0 : h0 < 4294967296) (b1 : h1 < 4294967296) (b2 : h2 < 4294967296) (b3 : h3 < 4294967296) (ha : a < 18446744073709551616) (hv : val4 h0 h1 h2 h3 + a < 340282366920938463463374607431768211456) (w : World) :
    Calls Try.prog 52 #[half4 h0 h1 h2 h3, .int .u64 a] w fun e w' => (∃ g0 g1 g2 g3 : Nat, g0 < 4294967296 ∧ g1 < 4294967296 ∧ g2 < 4294967296 ∧ g3 < 4294967296 ∧ val4 g0 g1 g2 g3 = val4 h0 h1 h2 h3 + a ∧ e = .returned (half4 g0 g1 g2 g3)) ∧ Below w.heap.size w w' := by
  have HC := Aside0.mk (more_clean h0 h1 h2 h3 a b0 b1 b2 b3 ha hv)
  have hX : (0 : Int) ≤ (a : Int) := by omega
  clear b0 b1 b2 b3 ha hv
  unfold half4
  generalize (a : Int) = X at *
  generalize (h0 : Int) = H0 at *
  generalize (h1 : Int) = H1 at *
  generalize (h2 : Int) = H2 at *
  generalize (h3 : Int) = H3 at *
  go_enter Try.func52, Try.ntmps52
  go_wp2
  refine bodyPost_ret (results_c1 rfl _ _ (w.heap.size + 1) 84 #[.int .u64 ((mS H0 X).tmod 4294967296), .int .u64 ((mT H0 H1 X).tmod 4294967296), .int .u64 ((mU H0 H1 H2 X).tmod 4294967296), .int .u64 (mH3 H0 H1 H2 H3 X)] (0, 0) _ rfl (heap_snd w _ _) Try.underlying84 rfl (by kernel_rfl)) rfl ?_
  obtain ⟨g0, g1, g2, g3, c0, c1, c2, c3, hv, e0, e1, e2, e3⟩ := HC.out
  exact ⟨⟨g0, g1, g2, g3, c0, c1, c2, c3, hv, by rw [e0, e1, e2, e3]⟩, ((Below.refl w.heap.size w).alloc (Nat.le_refl _) _).alloc (by simp) _⟩
def most4 (a0 a1 a2 a3 b0 b1 b2 b3 : Int) : Bool := if a3 ≠ b3 then decide (a3 < b3) else if a2 ≠ b2 then decide (a2 < b2) else if a1 ≠ b1 then decide (a1 < b1) else if a0 ≠ b0 then decide (a0 < b0) else true
def eqs4 (a0 a1 a2 a3 b0 b1 b2 b3 : Int) (k : Nat) : Prop := (1 ≤ k → a3 = b3) ∧ (2 ≤ k → a2 = b2) ∧ (3 ≤ k → a1 = b1) ∧ (4 ≤ k → a0 = b0)
set_option maxHeartbeats 4000000 in
set_option maxRecDepth 100000 in
theorem rmost_calls (a0 a1 a2 a3 b0 b1 b2 b3 : Int) (w : World) :
    Calls Try.prog 51 #[half4 a0 a1 a2 a3, half4 b0 b1 b2 b3] w fun e w' => e = .returned (.bool (most4 a0 a1 a2 a3 b0 b1 b2 b3)) ∧ Below w.heap.size w w' := by
  unfold half4
  go_enter Try.func51, Try.ntmps51
  go_wp2
  have hA := heap_two w (.cells #[.int .u64 a0, .int .u64 a1, .int .u64 a2, .int .u64 a3] 84) (.cells #[.int .u64 b0, .int .u64 b1, .int .u64 b2, .int .u64 b3] 84)
  have hB := heap_snd w (.cells #[.int .u64 a0, .int .u64 a1, .int .u64 a2, .int .u64 a3] 84) (.cells #[.int .u64 b0, .int .u64 b1, .int .u64 b2, .int .u64 b3] 84)
  have HW := Aside0.mk (((Below.refl w.heap.size w).alloc (Nat.le_refl _) (.cells #[.int .u64 a0, .int .u64 a1, .int .u64 a2, .int .u64 a3] 84)).alloc (by simp) (.cells #[.int .u64 b0, .int .u64 b1, .int .u64 b2, .int .u64 b3] 84))
  have hsz : w.heap.size + 1 < ((w.alloc (.cells #[.int .u64 a0, .int .u64 a1, .int .u64 a2, .int .u64 a3] 84)).alloc (.cells #[.int .u64 b0, .int .u64 b1, .int .u64 b2, .int .u64 b3] 84)).heap.size := by simp
  generalize (w.alloc (.cells #[.int .u64 a0, .int .u64 a1, .int .u64 a2, .int .u64 a3] 84)).alloc (.cells #[.int .u64 b0, .int .u64 b1, .int .u64 b2, .int .u64 b3] 84) = W0 at *
  have HHA := Aside0.mk hA
  have HHB := Aside0.mk hB
  have HSZ := Aside0.mk hsz
  clear hA hB hsz
  go_loopg [5] 5 (fun gg s5 wr => ∃ kk : Nat, kk ≤ 4 ∧ 5 - kk ≤ gg ∧ s5 = .int .i64 (3 - (kk : Int)) ∧ Aside0 (eqs4 a0 a1 a2 a3 b0 b1 b2 b3 kk) ∧ Aside0 (Below W0.heap.size W0 wr))
  case atStart => exact ⟨0, by omega, by omega, rfl, ⟨by unfold eqs4; omega⟩, ⟨Below.refl _ _⟩⟩
  case round =>
    obtain ⟨kk, hkk, hg, rfl, HE, BW⟩ := hrel
    have hA := (BW.out.block w.heap.size (by have := HSZ.out; omega)).trans HHA.out
    have hB := (BW.out.block (w.heap.size + 1) HSZ.out).trans HHB.out
    have c0 : wr.cell? ⟨w.heap.size, 0, none⟩ = some (.int .u64 a0) := cell_row (cs := [.int .u64 a0, .int .u64 a1, .int .u64 a2, .int .u64 a3]) hA 0
    have c1 : wr.cell? ⟨w.heap.size, 1, none⟩ = some (.int .u64 a1) := cell_row (cs := [.int .u64 a0, .int .u64 a1, .int .u64 a2, .int .u64 a3]) hA 1
    have c2 : wr.cell? ⟨w.heap.size, 2, none⟩ = some (.int .u64 a2) := cell_row (cs := [.int .u64 a0, .int .u64 a1, .int .u64 a2, .int .u64 a3]) hA 2
    have c3 : wr.cell? ⟨w.heap.size, 3, none⟩ = some (.int .u64 a3) := cell_row (cs := [.int .u64 a0, .int .u64 a1, .int .u64 a2, .int .u64 a3]) hA 3
    have d0 : wr.cell? ⟨w.heap.size + 1, 0, none⟩ = some (.int .u64 b0) := cell_row (cs := [.int .u64 b0, .int .u64 b1, .int .u64 b2, .int .u64 b3]) hB 0
    have d1 : wr.cell? ⟨w.heap.size + 1, 1, none⟩ = some (.int .u64 b1) := cell_row (cs := [.int .u64 b0, .int .u64 b1, .int .u64 b2, .int .u64 b3]) hB 1
    have d2 : wr.cell? ⟨w.heap.size + 1, 2, none⟩ = some (.int .u64 b2) := cell_row (cs := [.int .u64 b0, .int .u64 b1, .int .u64 b2, .int .u64 b3]) hB 2
    have d3 : wr.cell? ⟨w.heap.size + 1, 3, none⟩ = some (.int .u64 b3) := cell_row (cs := [.int .u64 b0, .int .u64 b1, .int .u64 b2, .int .u64 b3]) hB 3
    have HHkk := Aside0.mk hkk
    have HHg := Aside0.mk hg
    clear hA hB hkk hg
    obtain rfl | rfl | rfl | rfl | rfl : kk = 0 ∨ kk = 1 ∨ kk = 2 ∨ kk = 3 ∨ kk = 4 := by have := HHkk.out; omega
    · rw [show (3 - ((0 : Nat) : Int)) = 3 from rfl]
      by_cases c : a3 = b3
      · have HC := Aside0.mk c
        subst c
        go_wp2
        go_quiet (fail)
        go_wp2
        go_roundg (5 - 1)
        case measure => have := HHg.out; omega
        case rel => exact ⟨1, by omega, by omega, rfl, ⟨by have := HE.out; unfold eqs4 at *; omega⟩, ⟨BW.out.trans (pw_below_drewN (Below.refl _ _) _)⟩⟩
      · have HM : Aside0 (most4 a0 a1 a2 a3 b0 b1 b2 b3 = decide (a3 < b3)) := ⟨by have h := HE.out; unfold eqs4 at h; unfold most4;  rw [if_pos c]⟩
        go_wp2
        go_quiet (fail)
        go_wp2
        go_quiet (fail)
        go_wp2
        go_ret
        exact ⟨ret_b3 HM.out.symm, HW.out.trans ((BW.out.trans (pw_below_drewN (pw_below_drewN (Below.refl _ _) _) _)).mono HW.out.size)⟩
    · rw [show (3 - ((1 : Nat) : Int)) = 2 from rfl]
      by_cases c : a2 = b2
      · have HC := Aside0.mk c
        subst c
        go_wp2
        go_quiet (fail)
        go_wp2
        go_roundg (5 - 2)
        case measure => have := HHg.out; omega
        case rel => exact ⟨2, by omega, by omega, rfl, ⟨by have := HE.out; unfold eqs4 at *; omega⟩, ⟨BW.out.trans (pw_below_drewN (Below.refl _ _) _)⟩⟩
      · have HM : Aside0 (most4 a0 a1 a2 a3 b0 b1 b2 b3 = decide (a2 < b2)) := ⟨by have h := HE.out; unfold eqs4 at h; unfold most4; rw [if_neg (fun hn => hn (h.1 (by omega)))]; rw [if_pos c]⟩
        go_wp2
        go_quiet (fail)
        go_wp2
        go_quiet (fail)
        go_wp2
        go_ret
        exact ⟨ret_b3 HM.out.symm, HW.out.trans ((BW.out.trans (pw_below_drewN (pw_below_drewN (Below.refl _ _) _) _)).mono HW.out.size)⟩
    · rw [show (3 - ((2 : Nat) : Int)) = 1 from rfl]
      by_cases c : a1 = b1
      · have HC := Aside0.mk c
        subst c
        go_wp2
        go_quiet (fail)
        go_wp2
        go_roundg (5 - 3)
        case measure => have := HHg.out; omega
        case rel => exact ⟨3, by omega, by omega, rfl, ⟨by have := HE.out; unfold eqs4 at *; omega⟩, ⟨BW.out.trans (pw_below_drewN (Below.refl _ _) _)⟩⟩
      · have HM : Aside0 (most4 a0 a1 a2 a3 b0 b1 b2 b3 = decide (a1 < b1)) := ⟨by have h := HE.out; unfold eqs4 at h; unfold most4; rw [if_neg (fun hn => hn (h.1 (by omega)))]; rw [if_neg (fun hn => hn (h.2.1 (by omega)))]; rw [if_pos c]⟩
        go_wp2
        go_quiet (fail)
        go_wp2
        go_quiet (fail)
        go_wp2
        go_ret
        exact ⟨ret_b3 HM.out.symm, HW.out.trans ((BW.out.trans (pw_below_drewN (pw_below_drewN (Below.refl _ _) _) _)).mono HW.out.size)⟩
    · rw [show (3 - ((3 : Nat) : Int)) = 0 from rfl]
      by_cases c : a0 = b0
      · have HC := Aside0.mk c
        subst c
        go_wp2
        go_quiet (fail)
        go_wp2
        go_roundg (5 - 4)
        case measure => have := HHg.out; omega
        case rel => exact ⟨4, by omega, by omega, rfl, ⟨by have := HE.out; unfold eqs4 at *; omega⟩, ⟨BW.out.trans (pw_below_drewN (Below.refl _ _) _)⟩⟩
      · have HM : Aside0 (most4 a0 a1 a2 a3 b0 b1 b2 b3 = decide (a0 < b0)) := ⟨by have h := HE.out; unfold eqs4 at h; unfold most4; rw [if_neg (fun hn => hn (h.1 (by omega)))]; rw [if_neg (fun hn => hn (h.2.1 (by omega)))]; rw [if_neg (fun hn => hn (h.2.2.1 (by omega)))]; rw [if_pos c]⟩
        go_wp2
        go_quiet (fail)
        go_wp2
        go_quiet (fail)
        go_wp2
        go_ret
        exact ⟨ret_b3 HM.out.symm, HW.out.trans ((BW.out.trans (pw_below_drewN (pw_below_drewN (Below.refl _ _) _) _)).mono HW.out.size)⟩
    · rw [show (3 - ((4 : Nat) : Int)) = -1 from rfl]
      have HM : Aside0 (most4 a0 a1 a2 a3 b0 b1 b2 b3 = true) := ⟨by have h := HE.out; unfold eqs4 at h; unfold most4; rw [if_neg (fun hn => hn (h.1 (by omega))), if_neg (fun hn => hn (h.2.1 (by omega))), if_neg (fun hn => hn (h.2.2.1 (by omega))), if_neg (fun hn => hn (h.2.2.2 (by omega)))]⟩
      go_wp2
      go_ret
      exact ⟨ret_b3 HM.out.symm, HW.out.trans (BW.out.mono HW.out.size)⟩
end Go.Proofs.Ytlmefnifhbcbcaa.PAll
end
