/- bag.Right, as the printed texts call it. -/
import Derived.Test.YthfkbfahpgdnfaaG0
import Derived.Test.YthfkbfahpgdnfaaA2
import Derived.WalkLawsBesides
import Derived.Deep.QuietTactic
import Derived.BigQuiet
namespace Go.Proofs.Ythfkbfahpgdnfaa.PAll
open Go.RowKit Go.Proofs.YthfkbfahpgdnfaaW.PrintWords Go.Proofs.Ythfkbfahpgdnfaa
set_option linter.unusedVariables false
/-- Is the j-th letter as it must be? -/
def okB (l : List S79) (j : Nat) : Bool := decide (1 ≤ (l[j]!).f1) && decide ((l[j]!).f1 ≤ 1048576) && (decide (j = 0) || Op.bytesLess (l[j - 1]!).f0.toList (l[j]!).f0.toList)
def rightB (l : List S79) : Bool := (List.range l.length).all (okB l)
theorem rightB_no (l : List S79) (j : Nat) (hj : j < l.length) (h : okB l j = false) : rightB l = false := by
  unfold rightB
  rw [List.all_eq_false]
  exact ⟨j, List.mem_range.2 hj, by simp [h]⟩
theorem rightB_yes (l : List S79) (h : ∀ j, j < l.length → okB l j = true) : rightB l = true := by
  unfold rightB
  rw [List.all_eq_true]
  exact fun j hj => h j (List.mem_range.1 hj)
def bag_Right.f (l0 : List S79) : Option Bool := some (rightB l0)
set_option maxHeartbeats 1000000 in
set_option maxRecDepth 100000 in
theorem bag_Right.calls (A0 : Option Addr) (c0 : Nat) (l0 : List S79) (r : Bool) (w : World) (hr0 : Kd.C k79 w A0 l0.length l0) (hc0 : l0.length ≤ c0) (h : bag_Right.f l0 = some r) :
    Calls Try.prog 15 #[.slice A0 l0.length c0] w fun e w' => e = .returned (.bool r) ∧ Below w.heap.size w w' := by
  obtain rfl := Option.some.inj h
  have HR := Aside0.mk hr0
  have HM := hr0.2.1
  clear h hr0
  go_enter Try.func15, Try.ntmps15
  go_wp2
  go_loopg [7] l0.length (fun gg s7 wr => ∃ kk : Nat, kk ≤ l0.length ∧ l0.length - kk ≤ gg ∧ s7 = .int .i64 kk ∧ Aside0 (Below w.heap.size w wr) ∧ Aside0 (∀ j, j < kk → okB l0 j = true))
  case atStart => exact ⟨0, Nat.zero_le _, by omega, rfl, ⟨Below.refl _ w⟩, ⟨fun j hj => absurd hj (Nat.not_lt_zero _)⟩⟩
  case round =>
    obtain ⟨kk, hkk, hg, rfl, BW, NO⟩ := hrel
    by_cases hlt : kk < l0.length
    · have hltz : (kk : Int) < (l0.length : Int) := by omega
      obtain ⟨b, o, rfl, hrow⟩ := C_row (Kd.C_below HR.out BW.out) (by decide) (by omega)
      obtain ⟨cs, hcs, hK, hrg⟩ := hrow kk hlt
      obtain rfl := flat79.openK _ _ _ hK
      have hc0_ : wr.cell? ⟨b, o + kk * 2, none⟩ = some (.string (l0[kk]!).f0) := hrg 0 _ rfl
      have hc1_ : wr.cell? ⟨b, o + kk * 2 + 1, none⟩ = some (.int .i64 (l0[kk]!).f1) := hrg 1 _ rfl
      have hp : 0 < kk → wr.cell? ⟨b, o + (kk - 1) * 2, none⟩ = some (.string (l0[kk - 1]!).f0) := fun h0 => by
        obtain ⟨cs', _, hK', hrg'⟩ := hrow (kk - 1) (by omega)
        obtain rfl := flat79.openK _ _ _ hK'
        exact hrg' 0 _ rfl
      have hok : okB l0 kk = (decide (1 ≤ (l0[kk]!).f1) && decide ((l0[kk]!).f1 ≤ 1048576) && (decide (kk = 0) || Op.bytesLess (l0[kk - 1]!).f0.toList (l0[kk]!).f0.toList)) := rfl
      have HOK := Aside0.mk hok
      have HP := Aside0.mk hp
      clear hok hp hrow hrg hK hcs HR
      obtain ⟨x, hx⟩ : ∃ x, x = l0[kk]! := ⟨_, rfl⟩
      obtain ⟨y, hy⟩ : ∃ y, y = l0[kk - 1]! := ⟨_, rfl⟩
      rw [← hx] at hc0_ hc1_ HOK
      rw [← hy] at HP HOK
      clear hx hy
      have hbl := World.block_lt_of_cell? wr _ hc0_
      have HOK2 := Aside0.mk (rightB_no l0 kk hlt)
      by_cases c1 : x.f1 < 1
      · have hno : Aside0 (okB l0 kk = false) := ⟨by rw [HOK.out, show decide (1 ≤ x.f1) = false from decide_eq_false (by omega)]; rfl⟩
        have c1b : decide (x.f1 < 1) = true := decide_eq_true c1
        clear c1
        go_wp2
        go_quiet (fail)
        go_wp2
        go_ret
        exact ⟨by rw [HOK2.out hno.out]; rfl, (BW.out.alloc BW.out.size _).trans (by first | exact Below.refl _ _ | exact (Below.refl _ _).drew | exact (pw_below_drewN (Below.refl _ _) _))⟩
      · have c1b : decide (x.f1 < 1) = false := decide_eq_false c1
        have c1c := Aside0.mk (show decide (1 ≤ x.f1) = true from decide_eq_true (by omega))
        clear c1
        by_cases c2 : 1048576 < x.f1
        · have hno : Aside0 (okB l0 kk = false) := ⟨by rw [HOK.out, show decide (x.f1 ≤ 1048576) = false from decide_eq_false (by omega)]; simp⟩
          have c2b : decide (1048576 < x.f1) = true := decide_eq_true c2
          clear c2
          go_wp2
          go_quiet (fail)
          go_wp2
          go_ret
          exact ⟨by rw [HOK2.out hno.out]; rfl, (BW.out.alloc BW.out.size _).trans (by first | exact Below.refl _ _ | exact (Below.refl _ _).drew | exact (pw_below_drewN (Below.refl _ _) _))⟩
        · have c2b : decide (1048576 < x.f1) = false := decide_eq_false c2
          have c2c := Aside0.mk (show decide (x.f1 ≤ 1048576) = true from decide_eq_true (by omega))
          clear c2
          by_cases c3 : kk = 0
          · have hyes : Aside0 (okB l0 kk = true) := ⟨by rw [HOK.out, c1c.out, c2c.out, c3]; rfl⟩
            have c3b : decide (0 < kk) = false := decide_eq_false (by omega)
            clear c3
            go_wp2
            go_quiet (fail)
            go_wp2
            go_roundg (l0.length - (kk + 1))
            case measure => omega
            case rel => exact ⟨kk + 1, by omega, by omega, by go_num, ⟨(BW.out.alloc BW.out.size _).trans (by first | exact Below.refl _ _ | exact (Below.refl _ _).drew | exact (pw_below_drewN (Below.refl _ _) _))⟩, ⟨fun j hj => by by_cases e : j = kk; (subst e; exact hyes.out); exact NO.out j (by omega)⟩⟩
          · have c3b : decide (0 < kk) = true := decide_eq_true (by omega)
            have hc2_ := HP.out (by omega)
            have hz1 : IntKind.i64.wrap ((kk : Int) - 1) = (kk : Int) - 1 := by rw [IntKind.wrap_i64]; omega
            have hz2 : (0 : Int) ≤ (kk : Int) - 1 := by omega
            have hz3 : (kk : Int) - 1 < (l0.length : Int) := by omega
            have hz4 : ((kk : Int) - 1).toNat = kk - 1 := by omega
            have c3c := Aside0.mk (show decide (kk = 0) = false from decide_eq_false c3)
            clear c3 HP
            cases c4 : Op.bytesLess y.f0.toList x.f0.toList with
            | true =>
              have hyes : Aside0 (okB l0 kk = true) := ⟨by rw [HOK.out, c1c.out, c2c.out, c3c.out, c4]; rfl⟩
              go_wp2
              go_quiet (fail)
              go_wp2
              go_roundg (l0.length - (kk + 1))
              case measure => omega
              case rel => exact ⟨kk + 1, by omega, by omega, by go_num, ⟨(BW.out.alloc BW.out.size _).trans (by first | exact Below.refl _ _ | exact (Below.refl _ _).drew | exact (pw_below_drewN (Below.refl _ _) _))⟩, ⟨fun j hj => by by_cases e : j = kk; (subst e; exact hyes.out); exact NO.out j (by omega)⟩⟩
            | false =>
              have hno : Aside0 (okB l0 kk = false) := ⟨by rw [HOK.out, c3c.out, c4]; simp⟩
              go_wp2
              go_quiet (fail)
              go_wp2
              go_ret
              exact ⟨by rw [HOK2.out hno.out]; rfl, (BW.out.alloc BW.out.size _).trans (by first | exact Below.refl _ _ | exact (Below.refl _ _).drew | exact (pw_below_drewN (Below.refl _ _) _))⟩
    · have hltz : ¬ (kk : Int) < (l0.length : Int) := by omega
      have he : Aside0 (kk = l0.length) := ⟨by omega⟩
      have hy : Aside0 (rightB l0 = true) := ⟨rightB_yes l0 (he.out ▸ NO.out)⟩
      clear hkk hlt HR
      go_wp2
      go_ret
      exact ⟨by rw [hy.out]; rfl, BW.out⟩
end Go.Proofs.Ythfkbfahpgdnfaa.PAll
