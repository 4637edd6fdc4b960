/- Joined texts of the claim ShardRight (part 44): contracts of functions and plain laws. -/
import Derived.Deep.RegionHeld3
import Derived.Test.YtmcgcdpiceikeaaJShardRight41
section
/- ferruleref12.Right, whatever list there is. -/
namespace Go.Proofs.Ytmcgcdpiceikeaa.PAll
open Go.RowKit Go.Proofs.YtmcgcdpiceikeaaW.PrintWords Go.Proofs.YtmcgcdpiceikeaaW.PrintMore Go.Proofs.Ytmcgcdpiceikeaa
set_option linter.unusedVariables false
set_option linter.unusedSimpArgs false
def badH (l : List S75) (i k : Nat) : Bool := inWayB l[k]! (l[i]!).f1 (l[i]!).f0 (l[i]!).f2 || (decide (i ≠ k) && sameTx (l[i]!).f1 (l[k]!).f1 && ((l[i]!).f0.toList == (l[k]!).f0.toList))
def rl12V (l : List S75) : Bool := (List.range l.length).all fun i => (List.range l.length).all fun k => !badH l i k
theorem rl12_no {l : List S75} {i k : Nat} (hi : i < l.length) (hk : k < l.length) (h : badH l i k = true) : rl12V l = false := by
  cases hv : rl12V l with
  | false => rfl
  | true =>
    unfold rl12V at hv
    have h1 := List.all_eq_true.1 hv i (List.mem_range.2 hi)
    have h2 := List.all_eq_true.1 h1 k (List.mem_range.2 hk)
    rw [h] at h2
    cases h2
theorem rl12_yes {l : List S75} (h : ∀ i, i < l.length → ∀ k, k < l.length → badH l i k = false) : rl12V l = true := by
  unfold rl12V
  rw [List.all_eq_true]
  intro i hi
  rw [List.all_eq_true]
  intro k hk
  rw [h i (List.mem_range.1 hi) k (List.mem_range.1 hk)]
  rfl
set_option maxHeartbeats 2000000 in
set_option maxRecDepth 100000 in
theorem right12g_calls (A : Option Addr) (c : Nat) (l : List S75) (w : World) (hr : Kd.C k75 w A l.length l) (hc : l.length ≤ c) :
    Calls Try.prog 32 #[.slice A l.length c] w fun e w' => e = .returned (.bool (rl12V l)) ∧ Below w.heap.size w w' := by
  have hn : l.length ≤ 9223372036854775807 := hr.2.1
  have HR := Aside0.mk hr
  clear hr
  go_enter Try.func32, Try.ntmps32
  go_wp2
  go_loopg [3] l.length (fun gg s3 wv => ∃ kk : Nat, kk ≤ l.length ∧ l.length - kk ≤ gg ∧ s3 = .int .i64 kk ∧ Aside0 (Below w.heap.size w wv) ∧ Aside0 (∀ i, i < kk → ∀ k, k < l.length → badH l i k = false))
  case atStart => exact ⟨0, Nat.zero_le _, by omega, rfl, ⟨Below.refl _ _⟩, ⟨fun i h => absurd h (by omega)⟩⟩
  case round =>
    obtain ⟨kk, hkk, hgk, rfl, HBv, HI⟩ := hrel
    by_cases hlt : kk < l.length
    · have hltz : (kk : Int) < (l.length : Int) := by omega
      have hkz : (0 : Int) ≤ (kk : Int) := by omega
      go_wp2
      go_loopg [4] l.length (fun gg s4 wv => ∃ jj : Nat, jj ≤ l.length ∧ l.length - jj ≤ gg ∧ s4 = .int .i64 jj ∧ Aside0 (Below w.heap.size w wv) ∧ Aside0 (∀ k, k < jj → badH l kk k = false))
      case atStart => exact ⟨0, Nat.zero_le _, by omega, rfl, HBv, ⟨fun i h => absurd h (by omega)⟩⟩
      case round =>
        obtain ⟨jj, hjj, hgj, rfl, HBu, HJ⟩ := hrel
        by_cases hlt2 : jj < l.length
        · have hltz2 : (jj : Int) < (l.length : Int) := by omega
          have hjz : (0 : Int) ≤ (jj : Int) := by omega
          obtain ⟨lb, lo, hA, x0, x1, x2, x3⟩ := holdCells (Kd.C_below HR.out HBu.out) jj hlt2
          obtain ⟨lb', lo', hA', y0, y1, y2, y3⟩ := holdCells (Kd.C_below HR.out HBu.out) kk hlt
          subst hA
          cases hA'
          have HIN := Aside0.mk (rinWay_val l[jj]! (l[kk]!).f1 (l[kk]!).f0 (l[kk]!).f2)
          have HBD : Aside0 (badH l kk jj = (inWayB l[jj]! (l[kk]!).f1 (l[kk]!).f0 (l[kk]!).f2 || (decide (kk ≠ jj) && sameTx (l[kk]!).f1 (l[jj]!).f1 && ((l[kk]!).f0.toList == (l[jj]!).f0.toList)))) := ⟨rfl⟩
          generalize l[jj]! = x at *
          generalize l[kk]! = y at *
          obtain ⟨xk, ⟨xa, xi⟩, xw⟩ := x
          obtain ⟨yk, ⟨ya, yi⟩, yw⟩ := y
          dsimp only at *
          generalize inWayB ⟨xk, ⟨xa, xi⟩, xw⟩ ⟨ya, yi⟩ yk yw = bw at *
          have hS0 : RowH2 wr wr lb (lo + jj * 4) (lo + kk * 4) ⟨xk, ⟨xa, xi⟩, xw⟩ ⟨yk, ⟨ya, yi⟩, yw⟩ := ⟨x0, x1, x2, x3, y0, y1, y2, y3, Below.refl _ _⟩
          unfold RowH2 at hS0
          unfold sameTx at HBD
          dsimp only at HBD
          cases bw with
          | true =>
            go_wp2
            go_region_held3 (fun w' => w'.cell? ⟨lb, lo + jj * 4, none⟩ = some (.string xk) ∧ w'.cell? ⟨lb, lo + jj * 4 + 1, none⟩ = some (.int .u64 xa) ∧ w'.cell? ⟨lb, lo + jj * 4 + 2, none⟩ = some (.int .u64 xi) ∧ w'.cell? ⟨lb, lo + jj * 4 + 3, none⟩ = some (.bool xw) ∧ w'.cell? ⟨lb, lo + kk * 4, none⟩ = some (.string yk) ∧ w'.cell? ⟨lb, lo + kk * 4 + 1, none⟩ = some (.int .u64 ya) ∧ w'.cell? ⟨lb, lo + kk * 4 + 2, none⟩ = some (.int .u64 yi) ∧ w'.cell? ⟨lb, lo + kk * 4 + 3, none⟩ = some (.bool yw) ∧ Below wr.heap.size wr w') (first | exact RowH2.keep (x := ⟨xk, ⟨xa, xi⟩, xw⟩) (y := ⟨yk, ⟨ya, yi⟩, yw⟩) (by assumption) (by assumption) | exact RowH2.keep (x := ⟨xk, ⟨xa, xi⟩, xw⟩) (y := ⟨yk, ⟨ya, yi⟩, yw⟩) (by assumption) ((Below.refl _ _).drew)) ((go_at_call 71; with_reducible refine (ferruleref12_inWay.calls _ _ _ _ _ _ _ _ _ _ HIN.out).mono ?_; rintro e w' ⟨rfl, hb⟩))
            have hK9 := RowH2.keep (x := ⟨xk, ⟨xa, xi⟩, xw⟩) (y := ⟨yk, ⟨ya, yi⟩, yw⟩) (RowH2.keep (x := ⟨xk, ⟨xa, xi⟩, xw⟩) (y := ⟨yk, ⟨ya, yi⟩, yw⟩) hS0 ((Below.refl _ _).drew)) hb
            clear hS0 x0 x1 x2 x3 y0 y1 y2 y3 HIN
            obtain ⟨x0, x1, x2, x3, y0, y1, y2, y3, hB9⟩ := hK9
            have HB9 := Aside0.mk (HBu.out.trans (hB9.mono HBu.out.size))
            clear hb hB9
            have HCU := Aside0.mk (rl12_no hlt hlt2 (by rw [HBD.out]; rfl))
            clear HBD
            go_wp2
            go_quiet (fail)
            go_wp2
            go_ret
            exact ⟨by rw [HCU.out]; first | done | rfl, pw_below_drewN HB9.out _⟩
          | false =>
            go_wp2
            go_region_held3 (fun w' => w'.cell? ⟨lb, lo + jj * 4, none⟩ = some (.string xk) ∧ w'.cell? ⟨lb, lo + jj * 4 + 1, none⟩ = some (.int .u64 xa) ∧ w'.cell? ⟨lb, lo + jj * 4 + 2, none⟩ = some (.int .u64 xi) ∧ w'.cell? ⟨lb, lo + jj * 4 + 3, none⟩ = some (.bool xw) ∧ w'.cell? ⟨lb, lo + kk * 4, none⟩ = some (.string yk) ∧ w'.cell? ⟨lb, lo + kk * 4 + 1, none⟩ = some (.int .u64 ya) ∧ w'.cell? ⟨lb, lo + kk * 4 + 2, none⟩ = some (.int .u64 yi) ∧ w'.cell? ⟨lb, lo + kk * 4 + 3, none⟩ = some (.bool yw) ∧ Below wr.heap.size wr w') (first | exact RowH2.keep (x := ⟨xk, ⟨xa, xi⟩, xw⟩) (y := ⟨yk, ⟨ya, yi⟩, yw⟩) (by assumption) (by assumption) | exact RowH2.keep (x := ⟨xk, ⟨xa, xi⟩, xw⟩) (y := ⟨yk, ⟨ya, yi⟩, yw⟩) (by assumption) ((Below.refl _ _).drew)) ((go_at_call 71; with_reducible refine (ferruleref12_inWay.calls _ _ _ _ _ _ _ _ _ _ HIN.out).mono ?_; rintro e w' ⟨rfl, hb⟩))
            have hK9 := RowH2.keep (x := ⟨xk, ⟨xa, xi⟩, xw⟩) (y := ⟨yk, ⟨ya, yi⟩, yw⟩) (RowH2.keep (x := ⟨xk, ⟨xa, xi⟩, xw⟩) (y := ⟨yk, ⟨ya, yi⟩, yw⟩) hS0 ((Below.refl _ _).drew)) hb
            clear hS0 x0 x1 x2 x3 y0 y1 y2 y3 HIN
            obtain ⟨x0, x1, x2, x3, y0, y1, y2, y3, hB9⟩ := hK9
            have HB9 := Aside0.mk (HBu.out.trans (hB9.mono HBu.out.size))
            clear hb hB9
            rw [Bool.false_or] at HBD
            by_cases hij : kk = jj
            · subst hij
              have HCU : Aside0 (badH l kk kk = false) := ⟨by rw [HBD.out]; simp⟩
              clear HBD
              go_wp2
              go_quiet (fail)
              go_wp2
              go_roundg (l.length - (kk + 1))
              case measure => omega
              case rel => exact ⟨kk + 1, by omega, by omega, by go_num, ⟨pw_below_drewN HB9.out _⟩, ⟨fun k hk => by
                by_cases e : k = kk
                · rw [e]; exact HCU.out
                · exact HJ.out k (by omega)⟩⟩
            · have hijz : ¬ (kk : Int) = (jj : Int) := by omega
              have hijb : ((kk : Int) != (jj : Int)) = true := bne_iff_ne.2 hijz
              rw [decide_eq_true (show kk ≠ jj from hij), Bool.true_and] at HBD
              by_cases ha : ya = xa
              · subst ha
                by_cases hi : yi = xi
                · subst hi
                  cases hky3 : (yk.toList == xk.toList) with
                  | false =>
                    rw [hky3] at HBD
                    have hky : ¬ yk.toList = xk.toList := beq_eq_false_iff_ne.1 hky3
                    have hky2 : ¬ yk = xk := fun e => hky (by rw [e])
                    clear HR HBv
                    have HCU : Aside0 (badH l kk jj = false) := ⟨by rw [HBD.out]; simp⟩
                    clear HBD
                    go_wp2
                    go_quiet (fail)
                    go_wp2
                    go_roundg (l.length - (jj + 1))
                    case measure => omega
                    case rel => exact ⟨jj + 1, by omega, by omega, by go_num, ⟨pw_below_drewN HB9.out _⟩, ⟨fun k hk => by
                      by_cases e : k = jj
                      · rw [e]; exact HCU.out
                      · exact HJ.out k (by omega)⟩⟩
                  | true =>
                    rw [hky3] at HBD
                    have hky : yk.toList = xk.toList := beq_iff_eq.1 hky3
                    clear HR HBv
                    have HCU := Aside0.mk (rl12_no hlt hlt2 (by rw [HBD.out]; simp))
                    clear HBD
                    go_wp2
                    go_quiet (fail)
                    go_wp2
                    go_ret
                    exact ⟨by rw [HCU.out]; first | done | rfl, pw_below_drewN HB9.out _⟩
                · rw [beq_eq_false_iff_ne.2 hi] at HBD
                  have HCU : Aside0 (badH l kk jj = false) := ⟨by rw [HBD.out]; simp⟩
                  clear HBD
                  go_wp2
                  go_quiet (fail)
                  go_wp2
                  go_roundg (l.length - (jj + 1))
                  case measure => omega
                  case rel => exact ⟨jj + 1, by omega, by omega, by go_num, ⟨pw_below_drewN HB9.out _⟩, ⟨fun k hk => by
                    by_cases e : k = jj
                    · rw [e]; exact HCU.out
                    · exact HJ.out k (by omega)⟩⟩
              · rw [beq_eq_false_iff_ne.2 ha] at HBD
                have HCU : Aside0 (badH l kk jj = false) := ⟨by rw [HBD.out]; simp⟩
                clear HBD
                go_wp2
                go_quiet (fail)
                go_wp2
                go_roundg (l.length - (jj + 1))
                case measure => omega
                case rel => exact ⟨jj + 1, by omega, by omega, by go_num, ⟨pw_below_drewN HB9.out _⟩, ⟨fun k hk => by
                  by_cases e : k = jj
                  · rw [e]; exact HCU.out
                  · exact HJ.out k (by omega)⟩⟩
        · have hltz2 : ¬ (jj : Int) < (l.length : Int) := by omega
          go_wp2
          go_roundg (l.length - (kk + 1))
          case measure => omega
          case rel => exact ⟨kk + 1, by omega, by omega, by go_num, HBu, ⟨fun i hi k hk => by
            by_cases e : i = kk
            · rw [e]; exact HJ.out k (by omega)
            · exact HI.out i (by omega) k hk⟩⟩
    · have hltz : ¬ (kk : Int) < (l.length : Int) := by omega
      have HYE := Aside0.mk (rl12_yes (l := l) (fun i hi k hk => HI.out i (by omega) k hk))
      go_wp2
      go_ret
      exact ⟨by rw [HYE.out]; first | done | rfl, HBv.out⟩
end Go.Proofs.Ytmcgcdpiceikeaa.PAll
end
