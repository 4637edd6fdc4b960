/- Joined texts of the claim GroupAgrees (part 22): contracts of functions and plain laws. -/
import Derived.Test.YtlmefnifhbcbcaaJGroupAgrees8
import Derived.Test.YtlmefnifhbcbcaaJGroupAgrees12
import Derived.Test.YtlmefnifhbcbcaaJGroupAgrees5
import Derived.Deep.QuietTactic
import Derived.BigQuiet
import Derived.Outline
section
/- ferruleref06.Most, as the printed texts call it. -/
namespace Go.Proofs.Ytlmefnifhbcbcaa.PAll
open Go.RowKit Go.Proofs.YtlmefnifhbcbcaaW.PrintWords Go.Proofs.YtlmefnifhbcbcaaW.PrintMore Go.Proofs.Ytlmefnifhbcbcaa
set_option linter.unusedVariables false
def rcnt (v ids : List Int) : Nat → Nat → Int
  | 0, _ => 0
  | d + 1, j => (if hasI ids v[j]! && !hasI (v.take j) v[j]! then 1 else 0) + rcnt v ids d (j + 1)
theorem rcnt_le (v ids : List Int) : ∀ (d j : Nat), 0 ≤ rcnt v ids d j ∧ rcnt v ids d j ≤ d
  | 0, j => by simp [rcnt]
  | d + 1, j => by
    have := rcnt_le v ids d (j + 1)
    unfold rcnt
    split <;> omega
def rmostV (v ids : List Int) : Bool := decide (rcnt v ids v.length 0 ≥ (v.length : Int) / 2 + 1)
def ferruleref06_Most.f (l0_0 l0_1 l1 : List Int) : Option Bool := if l0_0.length ≤ 4611686018427387904 ∧ l1.length ≤ 4611686018427387904 then some (rmostV l0_0 l1) else none
theorem has_calls (A : Option Addr) (c : Nat) (l : List Int) (x : Int) (w : World) (hr : Kd.C (Kd.int .u64) w A l.length l) (hc : l.length ≤ c) (hl : l.length ≤ 9223372036854775806) : Calls Try.prog 56 #[.slice A l.length c, .int .u64 x] w fun e w' => e = .returned (.bool (hasI l x)) ∧ ∃ m, w' = w.drewN m := by
  obtain ⟨k, hk⟩ := (Has_ev l x hl).rounds
  exact (ferruleref06_Has.calls k A c l x _ w hr hc hk).mono fun e w' ⟨he, hd⟩ => ⟨he, hd.out⟩
theorem C_take {w : World} {b o : Nat} {l : List Int} (h : Kd.C (Kd.int .u64) w (some ⟨b, o, none⟩) l.length l) (j : Nat) (hj : j ≤ l.length) : Kd.C (Kd.int .u64) w (some ⟨b, o, none⟩) (l.take j).length (l.take j) := by
  refine ⟨rfl, by have := h.2.1; rw [List.length_take]; omega, fun hn => ?_⟩
  obtain ⟨ad, e, hcell⟩ := h.2.2 (by rw [List.length_take] at hn; omega)
  refine ⟨ad, e, fun i p hi => ?_⟩
  rw [List.getElem?_take] at hi
  split at hi
  · exact hcell i p hi
  · cases hi
set_option maxHeartbeats 2000000 in
set_option maxRecDepth 100000 in
theorem ferruleref06_Most.calls (A0_0 : Option Addr) (c0_0 : Nat) (l0_0 : List Int) (A0_1 : Option Addr) (c0_1 : Nat) (l0_1 : List Int) (A1 : Option Addr) (c1 : Nat) (l1 : List Int) (r : Bool) (w : World) (hr0_0 : Kd.C (Kd.int .u64) w A0_0 l0_0.length l0_0) (hc0_0 : l0_0.length ≤ c0_0) (hr0_1 : Kd.C (Kd.int .u64) w A0_1 l0_1.length l0_1) (hc0_1 : l0_1.length ≤ c0_1) (hr1 : Kd.C (Kd.int .u64) w A1 l1.length l1) (hc1 : l1.length ≤ c1) (h : ferruleref06_Most.f l0_0 l0_1 l1 = some r) :
    Calls Try.prog 41 #[.agg #[.slice A0_0 l0_0.length c0_0, .slice A0_1 l0_1.length c0_1], .slice A1 l1.length c1] w fun e w' => e = .returned (.bool r) ∧ Below w.heap.size w w' := by
  unfold ferruleref06_Most.f at h
  split at h
  case isFalse => cases h
  rename_i hg
  obtain ⟨hl0, hl1⟩ := hg
  obtain rfl := Option.some.inj h
  have HR0 := Aside0.mk hr0_0
  have HR1 := Aside0.mk hr1
  have HC0 := Aside0.mk hc0_0
  have HC1 := Aside0.mk hc1
  clear h hr0_0 hr0_1 hr1 hc0_1 hc1
  go_enter Try.func41, Try.ntmps41
  have hbx := Aside0.mk (heap_alloc_new w (.cells #[.slice A0_0 l0_0.length c0_0, .slice A0_1 l0_1.length c0_1] 28))
  go_wp2
  go_loopg [5, 6] l0_0.length (fun gg s5 s6 wr => ∃ (jj : Nat) (cnt : Int), jj ≤ l0_0.length ∧ l0_0.length - jj ≤ gg ∧ s6 = .int .i64 jj ∧ s5 = .int .i64 cnt ∧ 0 ≤ cnt ∧ cnt ≤ jj ∧ Aside0 (cnt + rcnt l0_0 l1 (l0_0.length - jj) jj = rcnt l0_0 l1 l0_0.length 0) ∧ Aside0 (Below w.heap.size w wr) ∧ Aside0 (wr.heap[w.heap.size]? = some (.cells #[.slice A0_0 l0_0.length c0_0, .slice A0_1 l0_1.length c0_1] 28 (0, 0))))
  case atStart => exact ⟨0, 0, Nat.zero_le _, by omega, rfl, rfl, by omega, by omega, ⟨by rw [Nat.sub_zero]; omega⟩, ⟨(Below.refl _ _).alloc (Nat.le_refl _) _⟩, hbx⟩
  case round =>
    obtain ⟨jj, cnt, hjj, hgk, rfl, rfl, hc0, hc1, HS, BW, BX⟩ := hrel
    have hb0_ : wr.cell? ⟨w.heap.size, 0, none⟩ = some (.slice A0_0 l0_0.length c0_0) := cell_row (cs := [.slice A0_0 l0_0.length c0_0, .slice A0_1 l0_1.length c0_1]) BX.out 0
    by_cases hlt : jj < l0_0.length
    · have hltz : (jj : Int) < (l0_0.length : Int) := by omega
      obtain ⟨b, o, rfl, hc0_⟩ := cell_ofI (Kd.C_below HR0.out BW.out) jj hlt
      have HH1 := Aside0.mk (fun n => has_calls (some ⟨b, o, none⟩) c0_0 (l0_0.take jj) (l0_0[jj]!) (wr.drewN n) (C_take (Kd.C_below HR0.out (pw_below_drewN BW.out n)) jj hjj) (by rw [List.length_take]; omega) (by rw [List.length_take]; omega))
      have HH2 := Aside0.mk (fun W hW => has_calls A1 c1 l1 (l0_0[jj]!) W (Kd.C_below HR1.out (BW.out.trans ((hW : Below wr.heap.size wr W).mono BW.out.size))) HC1.out (by omega))
      have htk : (l0_0.take jj).length = jj := by rw [List.length_take]; omega
      rw [htk] at HH1
      have hST : rcnt l0_0 l1 (l0_0.length - jj) jj = (if hasI l1 l0_0[jj]! && !hasI (l0_0.take jj) l0_0[jj]! then 1 else 0) + rcnt l0_0 l1 (l0_0.length - (jj + 1)) (jj + 1) := by
        rw [show l0_0.length - jj = (l0_0.length - (jj + 1)) + 1 by omega]
        rfl
      have HST := Aside0.mk hST
      have hcap : (jj : Int) ≤ (c0_0 : Int) := by have := HC0.out; omega
      have hcap2 : jj ≤ c0_0 := by have := HC0.out; omega
      clear hST htk
      generalize hasI (l0_0.take jj) l0_0[jj]! = b1 at *
      generalize hasI l1 l0_0[jj]! = b2 at *
      generalize l0_0[jj]! = x at *
      cases b1 <;> cases b2
      all_goals
        go_wp2
        go_quiet ((go_at_call 56; exact Calls.quiet_of (HH1.out _)))
        go_wp2_with (go_at_call 56; refine (HH2.out _ (pw_below_drewN (Below.refl _ _) _)).mono ?_; rintro e w2 ⟨rfl, m, rfl⟩)
        go_roundg (l0_0.length - (jj + 1))
        case measure => omega
        case rel =>
          have h := HS.out
          have h2 := HST.out
          first
            | exact ⟨jj + 1, cnt + 1, by omega, by omega, by go_num, by go_num, by omega, by omega, ⟨by rw [h2, if_pos (by decide)] at h; omega⟩, ⟨by first | exact pw_below_drewN BW.out _ | exact pw_below_drewN (pw_below_drewN BW.out _) _⟩, ⟨BX.out⟩⟩
            | exact ⟨jj + 1, cnt, by omega, by omega, by go_num, rfl, by omega, by omega, ⟨by rw [h2, if_neg (by decide)] at h; omega⟩, ⟨by first | exact pw_below_drewN BW.out _ | exact pw_below_drewN (pw_below_drewN BW.out _) _⟩, ⟨BX.out⟩⟩
    · have hltz : ¬ (jj : Int) < (l0_0.length : Int) := by omega
      obtain rfl : jj = l0_0.length := by omega
      have HC : Aside0 (cnt = rcnt l0_0 l1 l0_0.length 0) := ⟨by have h := HS.out; rw [Nat.sub_self] at h; simpa [rcnt] using h⟩
      have hw1 : wrap64 ((l0_0.length : Int) / 2) = (l0_0.length : Int) / 2 := by unfold wrap64; omega
      have hw2 : wrap64 ((l0_0.length : Int) / 2 + 1) = (l0_0.length : Int) / 2 + 1 := by unfold wrap64; omega
      clear hlt
      go_wp2
      go_ret
      exact ⟨ret_b2 (by unfold rmostV; rw [← HC.out]), BW.out⟩
end Go.Proofs.Ytlmefnifhbcbcaa.PAll
end
