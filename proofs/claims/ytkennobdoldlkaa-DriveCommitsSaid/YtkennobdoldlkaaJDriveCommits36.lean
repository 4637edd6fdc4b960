/- Joined texts of the claim DriveCommits (part 36): contracts of functions and plain laws. -/
import Derived.BigQuiet
import Derived.Deep.QuietTactic
import Derived.Test.YtkennobdoldlkaaJDriveCommits32
import Derived.Test.YtkennobdoldlkaaJDriveCommits35
section
/- drive.May: which plans may be. -/
namespace Go.Proofs.Ytkennobdoldlkaa.PAll
open Go.RowKit Go.Proofs.YtkennobdoldlkaaW.PrintWords Go.Proofs.Ytkennobdoldlkaa
set_option linter.unusedVariables false
set_option linter.unusedSimpArgs false
def mayV (ta ti : Int) (st : List S53) : Bool := decide (1 ≤ st.length) && decide (st.length ≤ 12) && decide ((partsV st).length ≤ 8) && decide (ta ≤ 4611686018427387903) && decide (ti ≤ 4611686018427387903) && !(st.any (fun s => !mayB s)) && !((partsV st).any (fun g => fitsV (putsV st g) != 0))
theorem may1 (x : S53) (W : World) :
    Calls Try.prog 40 #[.agg (enc53 x).toArray] W fun e W' => e = .returned (.bool (!mayB x)) ∧ Below W.heap.size W W' := by
  unfold enc53
  have hx := heap_alloc_new W (.cells #[.int .u64 x.f0, .string x.f1, .string x.f2, .bool x.f3, .bool x.f4] 53)
  have HB0 := Aside0.mk ((Below.refl W.heap.size W).alloc (Nat.le_refl _) (.cells #[.int .u64 x.f0, .string x.f1, .string x.f2, .bool x.f3, .bool x.f4] 53))
  go_enter Try.func40, Try.ntmps40
  go_wp2_with (go_at_call 41; refine (may_step x _).mono ?_; rintro e w2 ⟨rfl, hb2⟩)
  go_ret
  exact ⟨rfl, HB0.out.trans (hb2.mono HB0.out.size)⟩
theorem may2 (B : Nat) (ta ti : Int) (A : Option Addr) (c : Nat) (st : List S53) (g : Int) (W : World) (hB : W.heap[B]? = some (.cells #[.int .u64 ta, .int .u64 ti, .slice A st.length c] 27 (0, 0))) (hr : Kd.C k53 W A st.length st) (hc : st.length ≤ c) (hl : st.length ≤ 3000000000000) :
    Calls Try.prog 42 #[.int .u64 g, .pointer (some ⟨B, 0, none⟩)] W fun e W' => e = .returned (.bool (fitsV (putsV st g) != 0)) ∧ Below W.heap.size W W' := by
  obtain ⟨h0, h1, h2⟩ := cells3 hB
  have HPU := Aside0.mk (puts_walk ta ti A c st g W hr hc hl)
  clear hr hB
  go_enter Try.func42, Try.ntmps42
  go_wp2_with (first
    | (go_at_call 21; refine (HPU.out).mono ?_; rintro e w2 ⟨v2, rfl, hR2, hb2⟩; obtain ⟨A2, c2, rfl, hc2, hC2⟩ := Sl.of_R hR2; have HB2 := Aside0.mk hb2; clear hR2 hb2 h0 h1 h2)
    | (go_at_call 43; refine (rows_Fits.calls A2 c2 (putsV st g) _ _ hC2 hc2 rfl).mono ?_; rintro e w3 ⟨rfl, hb3⟩))
  go_ret
  exact ⟨rfl, HB2.out.trans (hb3.mono HB2.out.size)⟩
set_option maxHeartbeats 1000000 in
set_option maxRecDepth 100000 in
theorem may_calls (ta ti : Int) (A : Option Addr) (c : Nat) (st : List S53) (w : World) (hr : Kd.C k53 w A st.length st) (hc : st.length ≤ c) (hl : st.length ≤ 3000000000000) (hg : ∀ x ∈ st, 0 ≤ x.f0 ∧ x.f0 ≤ 18446744073709551615) :
    Calls Try.prog 26 #[.agg #[.int .u64 ta, .int .u64 ti, .slice A st.length c]] w fun e w' => e = .returned (.bool (mayV ta ti st)) ∧ Below w.heap.size w w' := by
  have HR := Aside0.mk hr
  have HG := Aside0.mk hg
  have hx := heap_alloc_new w (.cells #[.int .u64 ta, .int .u64 ti, .slice A st.length c] 27)
  have HB0 := Aside0.mk ((Below.refl w.heap.size w).alloc (Nat.le_refl _) (.cells #[.int .u64 ta, .int .u64 ti, .slice A st.length c] 27))
  clear hr hg
  go_enter Try.func26, Try.ntmps26
  have HX := Aside0.mk hx
  clear hx
  go_upto_region 1 with (fail)
  change Code.wp _ _ _ _ (w.alloc (.cells #[.int .u64 ta, .int .u64 ti, .slice A st.length c] 27))
  generalize w.alloc (.cells #[.int .u64 ta, .int .u64 ti, .slice A st.length c] 27) = w1 at *
  obtain ⟨h0, h1, h2⟩ := cells3 HX.out
  have HPW := Aside0.mk (parts_walk ta ti A c st w1 (Kd.C_below HR.out HB0.out) hc (by omega) HG.out)
  go_upto_region 2 with (go_at_call 17; refine (HPW.out).mono ?_; rintro e w2 ⟨v2, rfl, hR2, hb2⟩; obtain ⟨A2, c2, rfl, hc2, hC2⟩ := Sl.of_R hR2; have HC2 := Aside0.mk hC2; have HB2 := Aside0.mk hb2; clear hR2 hb2 hC2)
  have HX2 := Aside0.mk (stay20 HB2.out HX.out)
  have HB3 := Aside0.mk (HB0.out.trans (HB2.out.mono HB0.out.size))
  clear h0 h1 h2
  obtain ⟨h0, h1, h2⟩ := cells3 HX2.out
  have HPL := Aside0.mk HC2.out.2.1
  go_cut [32] from 8 to 32 (fun v32 wx => v32 = .bool (!(decide (1 ≤ st.length) && decide (st.length ≤ 12) && decide ((partsV st).length ≤ 8) && decide (ta ≤ 4611686018427387903) && decide (ti ≤ 4611686018427387903))) ∧ ∃ n, wx = w2.drewN n)
  case first =>
    have hpl := HPL.out
    by_cases h3 : (st.length : Int) < 1
    · go_wp2
      go_meet
      exact ⟨congrArg Value.bool (by rw [decide_eq_false (show ¬ 1 ≤ st.length by omega)]; rfl), 0, rfl⟩
    · by_cases h4 : (12 : Int) < (st.length : Int)
      · go_wp2
        go_meet
        exact ⟨congrArg Value.bool (by simp; omega), 0, rfl⟩
      · by_cases h5 : (8 : Int) < ((partsV st).length : Int)
        · go_wp2
          go_meet
          exact ⟨congrArg Value.bool (by simp; omega), 0, rfl⟩
        · by_cases h6 : (4611686018427387903 : Int) < max ta ti
          · have HK6 : Aside0 ((4611686018427387903 : Int) < ta ∨ (4611686018427387903 : Int) < ti) := ⟨by omega⟩
            go_wp2
            go_meet
            exact ⟨congrArg Value.bool (by have hk6 := HK6.out; simp; omega), 0, rfl⟩
          · go_wp2
            go_meet
            exact ⟨congrArg Value.bool (by rw [decide_eq_true (show 1 ≤ st.length by omega), decide_eq_true (show st.length ≤ 12 by omega), decide_eq_true (show (partsV st).length ≤ 8 by omega), decide_eq_true (show ta ≤ 4611686018427387903 by omega), decide_eq_true (show ti ≤ 4611686018427387903 by omega)]; rfl), 0, rfl⟩
  case rest =>
    clear h0 h1 h2
    obtain ⟨rfl, n2, rfl⟩ := hcut
    have HX3 := Aside0.mk (blk_drewN HX2.out n2)
    have HB4 := Aside0.mk (pw_below_drewN HB3.out n2)
    have HC3 := Aside0.mk (Kd.C_below HC2.out (pw_below_drewN (Below.refl _ _) n2))
    generalize World.drewN w2 n2 = w3 at *
    obtain ⟨h0, h1, h2⟩ := cells3 HX3.out
    have hmv : mayV ta ti st = ((decide (1 ≤ st.length) && decide (st.length ≤ 12) && decide ((partsV st).length ≤ 8) && decide (ta ≤ 4611686018427387903) && decide (ti ≤ 4611686018427387903)) && !(st.any (fun s => !mayB s)) && !((partsV st).any (fun g => fitsV (putsV st g) != 0))) := rfl
    have HMV := Aside0.mk hmv
    clear hmv
    generalize (decide (1 ≤ st.length) && decide (st.length ≤ 12) && decide ((partsV st).length ≤ 8) && decide (ta ≤ 4611686018427387903) && decide (ti ≤ 4611686018427387903)) = bb at *
    cases bb with
    | false =>
      go_wp2
      go_ret
      rw [HMV.out]
      exact ⟨rfl, HB4.out⟩
    | true =>
      have HCS := Aside0.mk (ContainsFuncStep k53 rfl (fun s => !mayB s) 40 #[] (enters_of Try.func40 (by kernel_rfl) rfl) (.slice A st.length c) st w3 ⟨A, c, rfl, hc, Kd.C_below HR.out HB4.out⟩ (fun W x cs hb _ hK => by
        obtain rfl := flat53.openK _ _ _ hK
        rw [Array.append_empty]
        exact may1 x W))
      generalize st.any (fun s => !mayB s) = b1 at *
      cases b1 with
      | true =>
        go_wp2_with (go_at_call 44; refine (HCS.out).mono ?_; rintro e w5 ⟨rfl, hb5⟩; have HB5 := Aside0.mk hb5; clear hb5 h0 h1 h2)
        go_ret
        rw [HMV.out]
        exact ⟨rfl, HB4.out.trans (HB5.out.mono HB4.out.size)⟩
      | false =>
        have HCU := Aside0.mk (fun (W : World) (h : Below w3.heap.size w3 W) => ContainsFuncu64 (Kd.int .u64) rfl (fun g => fitsV (putsV st g) != 0) 42 #[.pointer (some ⟨w.heap.size, 0, none⟩)] (enters_of Try.func42 (by kernel_rfl) rfl) (.slice A2 (partsV st).length c2) (partsV st) W ⟨A2, c2, rfl, hc2, Kd.C_below HC3.out h⟩ (fun W2 x cs hb _ hK => by
          obtain rfl : cs = [.int .u64 x] := hK
          exact may2 w.heap.size ta ti A c st x W2 (stay20 (h.trans (hb.mono h.size)) HX3.out) (Kd.C_below HR.out (HB4.out.trans ((h.trans (hb.mono h.size)).mono HB4.out.size))) hc hl))
        generalize (partsV st).any (fun g => fitsV (putsV st g) != 0) = b2 at *
        go_wp2_with (first
          | (go_at_call 44; refine (HCS.out).mono ?_; rintro e w5 ⟨rfl, hb5⟩; have HB5 := Aside0.mk hb5; clear hb5 h0 h1 h2)
          | (go_at_call 45; refine (HCU.out _ HB5.out).mono ?_; rintro e w6 ⟨rfl, hb6⟩; have HB6 := Aside0.mk hb6; clear hb6))
        go_ret
        rw [HMV.out]
        exact ⟨rfl, (HB4.out.trans (HB5.out.mono HB4.out.size)).trans (HB6.out.mono (HB4.out.trans (HB5.out.mono HB4.out.size)).size)⟩
end Go.Proofs.Ytkennobdoldlkaa.PAll
end
