/- Joined texts of the claim RowsKeeps (part 20): contracts of functions and plain laws. -/
import Derived.BigQuiet
import Derived.Deep.QuietTactic
import Derived.Test.YthfkbfahpgdnfaaJRowsKeeps16
import Derived.Test.YthfkbfahpgdnfaaJRowsKeeps18
import Derived.Test.YthfkbfahpgdnfaaJRowsKeeps19
import Derived.WalkLawsBesides
section
/- rows.Right, as the printed texts call it. -/
namespace Go.Proofs.Ythfkbfahpgdnfaa.PAll
open Go.RowKit Go.Proofs.YthfkbfahpgdnfaaW.PrintWords Go.Proofs.Ythfkbfahpgdnfaa
set_option linter.unusedVariables false
/-- Is the j-th row as it must be? -/
def okR (l : List S64) (j : Nat) : Bool := (decide (1 ≤ (l[j]!).f0.size) && decide ((l[j]!).f0.size ≤ 16)) && decide ((l[j]!).f1.size ≤ 32) && decide ((l[j]!).f2 ≤ 4611686018427387903) && (decide (j = 0) || Op.bytesLess (l[j - 1]!).f0.toList (l[j]!).f0.toList)
def rightR (l : List S64) : Bool := (List.range l.length).all (okR l) && decide (l.length ≤ 32)
theorem ok_snoc (l : List S64) (k : Nat) (h : okR l k = true) (no : ∀ j, j < k → okR l j = true) : ∀ j, j < k + 1 → okR l j = true := fun j hj => by
  by_cases e : j = k
  · rw [e]; exact h
  · exact no j (by omega)
theorem ret_bool {a b : Bool} (h : a = b) : Ending.returned (.bool a) = .returned (.bool b) := by rw [h]
theorem rightR_no (l : List S64) (j : Nat) (hj : j < l.length) (h : okR l j = false) : rightR l = false := by
  unfold rightR
  rw [Bool.and_eq_false_iff]
  left
  rw [List.all_eq_false]
  exact ⟨j, List.mem_range.2 hj, by simp [h]⟩
theorem rightR_yes (l : List S64) (h : ∀ j, j < l.length → okR l j = true) : rightR l = decide (l.length ≤ 32) := by
  unfold rightR
  rw [List.all_eq_true.2 (fun j hj => h j (List.mem_range.1 hj)), Bool.true_and]
def rows_Right.f (l0 : List S64) : Option Bool := some (rightR l0)
set_option maxHeartbeats 1000000 in
set_option maxRecDepth 100000 in
theorem named_calls (s : ByteArray) (w : World) : Calls Try.prog 56 #[.string s] w fun e w' => e = .returned (.bool (decide (1 ≤ s.size) && decide (s.size ≤ 16))) ∧ w' = w := by
  by_cases h1 : 1 ≤ s.size
  · have d1 : decide ((1 : Int) ≤ (s.size : Int)) = true := decide_eq_true (by omega)
    by_cases h2 : s.size ≤ 16
    · have d2 : decide ((s.size : Int) ≤ 16) = true := decide_eq_true (by omega)
      go_enter Try.func56, Try.ntmps56
      go_wp2
      go_ret
      exact ⟨by rw [decide_eq_true h1, decide_eq_true h2]; rfl, rfl⟩
    · have d2 : decide ((s.size : Int) ≤ 16) = false := decide_eq_false (by omega)
      go_enter Try.func56, Try.ntmps56
      go_wp2
      go_ret
      exact ⟨by rw [decide_eq_true h1, decide_eq_false h2]; rfl, rfl⟩
  · have d1 : decide ((1 : Int) ≤ (s.size : Int)) = false := decide_eq_false (by omega)
    go_enter Try.func56, Try.ntmps56
    go_wp2
    go_ret
    exact ⟨by rw [decide_eq_false h1]; rfl, rfl⟩
set_option maxHeartbeats 2000000 in
set_option maxRecDepth 100000 in
theorem rows_Right.calls (A0 : Option Addr) (c0 : Nat) (l0 : List S64) (r : Bool) (w : World) (hr0 : Kd.C k64 w A0 l0.length l0) (hc0 : l0.length ≤ c0) (h : rows_Right.f l0 = some r) :
    Calls Try.prog 40 #[.slice A0 l0.length c0] w fun e w' => e = .returned (.bool r) ∧ Below w.heap.size w w' := by
  obtain rfl := Option.some.inj h
  have HR := Aside0.mk hr0
  have HM := hr0.2.1
  clear h hr0
  go_enter Try.func40, Try.ntmps40
  go_wp2
  go_loopg [7] l0.length (fun gg s7 wr => ∃ kk : Nat, kk ≤ l0.length ∧ l0.length - kk ≤ gg ∧ s7 = .int .i64 kk ∧ Aside0 (Below w.heap.size w wr) ∧ Aside0 (∀ j, j < kk → okR l0 j = true))
  case atStart => exact ⟨0, Nat.zero_le _, by omega, rfl, ⟨Below.refl _ w⟩, ⟨fun j hj => absurd hj (Nat.not_lt_zero _)⟩⟩
  case round =>
    obtain ⟨kk, hkk, hg, rfl, BW, NO⟩ := hrel
    by_cases hlt : kk < l0.length
    · have hltz : (kk : Int) < (l0.length : Int) := by omega
      obtain ⟨b, o, rfl, hrow⟩ := C_row (Kd.C_below HR.out BW.out) (by decide) (by omega)
      obtain ⟨cs, hcs, hK, hrg⟩ := hrow kk hlt
      obtain rfl := flat64.openK _ _ _ hK
      have hc0_ : wr.cell? ⟨b, o + kk * 3, none⟩ = some (.string (l0[kk]!).f0) := hrg 0 _ rfl
      have hc1_ : wr.cell? ⟨b, o + kk * 3 + 1, none⟩ = some (.string (l0[kk]!).f1) := hrg 1 _ rfl
      have hc2_ : wr.cell? ⟨b, o + kk * 3 + 2, none⟩ = some (.int .u64 (l0[kk]!).f2) := hrg 2 _ rfl
      have hp : 0 < kk → wr.cell? ⟨b, o + (kk - 1) * 3, none⟩ = some (.string (l0[kk - 1]!).f0) := fun h0 => by
        obtain ⟨cs', _, hK', hrg'⟩ := hrow (kk - 1) (by omega)
        obtain rfl := flat64.openK _ _ _ hK'
        exact hrg' 0 _ rfl
      have HOK := Aside0.mk (show okR l0 kk = ((decide (1 ≤ (l0[kk]!).f0.size) && decide ((l0[kk]!).f0.size ≤ 16)) && decide ((l0[kk]!).f1.size ≤ 32) && decide ((l0[kk]!).f2 ≤ 4611686018427387903) && (decide (kk = 0) || Op.bytesLess (l0[kk - 1]!).f0.toList (l0[kk]!).f0.toList)) from rfl)
      have HP := Aside0.mk hp
      clear hp hrow hrg hK hcs HR
      obtain ⟨x, hx⟩ : ∃ x, x = l0[kk]! := ⟨_, rfl⟩
      obtain ⟨y, hy⟩ : ∃ y, y = l0[kk - 1]! := ⟨_, rfl⟩
      rw [← hx] at hc0_ hc1_ hc2_ HOK
      rw [← hy] at HP HOK
      clear hx hy
      have hbl := World.block_lt_of_cell? wr _ hc0_
      have HOK2 := Aside0.mk (rightR_no l0 kk hlt)
      have HNM := Aside0.mk (fun W => named_calls x.f0 W)
      obtain ⟨nb, hnb⟩ : ∃ nb, nb = (decide (1 ≤ x.f0.size) && decide (x.f0.size ≤ 16)) := ⟨_, rfl⟩
      rw [← hnb] at HOK HNM
      clear hnb
      cases nb with
      | false =>
        have hno : Aside0 (okR l0 kk = false) := ⟨by rw [HOK.out]; rfl⟩
        go_wp2
        go_quiet ((go_at_call 56; exact Calls.quiet_of_same (HNM.out _)))
        go_wp2
        go_ret
        exact ⟨by rw [HOK2.out hno.out]; rfl, (BW.out.alloc BW.out.size _).trans (by first | exact Below.refl _ _ | exact (Below.refl _ _).drew | exact (pw_below_drewN (Below.refl _ _) _))⟩
      | true =>
        by_cases c1 : (32 : Int) < x.f1.size
        · have hno : Aside0 (okR l0 kk = false) := ⟨by rw [HOK.out, show decide (x.f1.size ≤ 32) = false from decide_eq_false (by omega)]; rfl⟩
          have c1b : decide ((32 : Int) < x.f1.size) = true := decide_eq_true c1
          clear c1
          go_wp2
          go_quiet ((go_at_call 56; exact Calls.quiet_of_same (HNM.out _)))
          go_wp2
          go_ret
          exact ⟨by rw [HOK2.out hno.out]; rfl, (BW.out.alloc BW.out.size _).trans (by first | exact Below.refl _ _ | exact (Below.refl _ _).drew | exact (pw_below_drewN (Below.refl _ _) _))⟩
        · have c1b : decide ((32 : Int) < x.f1.size) = false := decide_eq_false c1
          have c1c := Aside0.mk (show decide (x.f1.size ≤ 32) = true from decide_eq_true (by omega))
          clear c1
          by_cases c2 : 4611686018427387903 < x.f2
          · have hno : Aside0 (okR l0 kk = false) := ⟨by rw [HOK.out, c1c.out, show decide (x.f2 ≤ 4611686018427387903) = false from decide_eq_false (by omega)]; rfl⟩
            have c2b : decide (4611686018427387903 < x.f2) = true := decide_eq_true c2
            clear c2
            go_wp2
            go_quiet ((go_at_call 56; exact Calls.quiet_of_same (HNM.out _)))
            go_wp2
            go_ret
            exact ⟨by rw [HOK2.out hno.out]; rfl, (BW.out.alloc BW.out.size _).trans (by first | exact Below.refl _ _ | exact (Below.refl _ _).drew | exact (pw_below_drewN (Below.refl _ _) _))⟩
          · have c2b : decide (4611686018427387903 < x.f2) = false := decide_eq_false c2
            have c2c := Aside0.mk (show decide (x.f2 ≤ 4611686018427387903) = true from decide_eq_true (by omega))
            clear c2
            by_cases c3 : kk = 0
            · have hyes : Aside0 (okR l0 kk = true) := ⟨by rw [HOK.out, c1c.out, c2c.out, c3]; rfl⟩
              have c3b : decide (0 < kk) = false := decide_eq_false (by omega)
              clear c3
              go_wp2
              go_quiet ((go_at_call 56; exact Calls.quiet_of_same (HNM.out _)))
              go_wp2
              go_roundg (l0.length - (kk + 1))
              case measure => omega
              case rel => exact ⟨kk + 1, by omega, by omega, by go_num, ⟨(BW.out.alloc BW.out.size _).trans (by first | exact Below.refl _ _ | exact (Below.refl _ _).drew | exact (pw_below_drewN (Below.refl _ _) _))⟩, ⟨ok_snoc l0 kk hyes.out NO.out⟩⟩
            · have c3b : decide (0 < kk) = true := decide_eq_true (by omega)
              have hc3_ := HP.out (by omega)
              have hz1 : IntKind.i64.wrap ((kk : Int) - 1) = (kk : Int) - 1 := by rw [IntKind.wrap_i64]; omega
              have hz2 : (0 : Int) ≤ (kk : Int) - 1 := by omega
              have hz3 : (kk : Int) - 1 < (l0.length : Int) := by omega
              have hz4 : ((kk : Int) - 1).toNat = kk - 1 := by omega
              have c3c := Aside0.mk (show decide (kk = 0) = false from decide_eq_false c3)
              clear c3 HP
              cases c4 : Op.bytesLess y.f0.toList x.f0.toList with
              | true =>
                have hyes : Aside0 (okR l0 kk = true) := ⟨by rw [HOK.out, c1c.out, c2c.out, c3c.out, c4]; rfl⟩
                go_wp2
                go_quiet ((go_at_call 56; exact Calls.quiet_of_same (HNM.out _)))
                go_wp2
                go_roundg (l0.length - (kk + 1))
                case measure => omega
                case rel => exact ⟨kk + 1, by omega, by omega, by go_num, ⟨(BW.out.alloc BW.out.size _).trans (by first | exact Below.refl _ _ | exact (Below.refl _ _).drew | exact (pw_below_drewN (Below.refl _ _) _))⟩, ⟨ok_snoc l0 kk hyes.out NO.out⟩⟩
              | false =>
                have hno : Aside0 (okR l0 kk = false) := ⟨by rw [HOK.out, c1c.out, c2c.out, c3c.out, c4]; rfl⟩
                go_wp2
                go_quiet ((go_at_call 56; exact Calls.quiet_of_same (HNM.out _)))
                go_wp2
                go_ret
                exact ⟨by rw [HOK2.out hno.out]; rfl, (BW.out.alloc BW.out.size _).trans (by first | exact Below.refl _ _ | exact (Below.refl _ _).drew | exact (pw_below_drewN (Below.refl _ _) _))⟩
    · have hltz : ¬ (kk : Int) < (l0.length : Int) := by omega
      have he : Aside0 (kk = l0.length) := ⟨by omega⟩
      have hy := Aside0.mk (rightR_yes l0 (he.out ▸ NO.out))
      clear hkk hlt HR
      go_wp2
      go_ret
      exact ⟨ret_bool (by rw [hy.out]; exact decide_eq_decide.2 (by omega)), BW.out⟩
end Go.Proofs.Ythfkbfahpgdnfaa.PAll
end
