/- Joined texts of the claim RowsKeeps (part 34): contracts of functions and plain laws. -/
import Derived.Test.YthfkbfahpgdnfaaJRowsKeeps33
section
/- pack.Text, as the printed texts call it. -/
namespace Go.Proofs.Ythfkbfahpgdnfaa.PAll
open Go.RowKit Go.Proofs.YthfkbfahpgdnfaaW.PrintWords Go.Proofs.Ythfkbfahpgdnfaa
set_option linter.unusedVariables false
theorem numV_size (v : Int) : (numV v).1.size ≤ 8 := by
  unfold numV
  repeat' split
  all_goals (first | decide | exact Nat.le_of_ble_eq_true rfl | (simp [strOfNums, ByteArray.size]; done))
def textV (t : ByteArray) : ByteArray × Int := if 4096 < t.size then (⟨#[]⟩, 4) else ((numV t.size).1 ++ t, (numV t.size).2)
def pack_Text.f (a0 : ByteArray) : Option (ByteArray × Int) := some (textV a0)
set_option maxHeartbeats 2000000 in
set_option maxRecDepth 100000 in
theorem pack_Text.calls (a0 : ByteArray) (r1 : ByteArray) (r2 : Int) (w : World) (h : pack_Text.f a0 = some (r1, r2)) :
    Calls Try.prog 66 #[.string a0] w fun e w' => e = .returned (.tuple #[.string r1, .int .i64 r2]) ∧ Below w.heap.size w w' := by
  have h := Option.some.inj h
  unfold textV at h
  by_cases hb : 4096 < a0.size
  · rw [if_pos hb] at h
    obtain ⟨rfl, rfl⟩ := Prod.mk.inj h
    have hbz : (4096 : Int) < (a0.size : Int) := by omega
    go_enter Try.func66, Try.ntmps66
    go_wp2
    go_ret2
    exact ⟨rfl, Below.refl _ _⟩
  · rw [if_neg hb] at h
    have h0 : (0 : Int) ≤ a0.size := by omega
    have h1 : (a0.size : Int) ≤ 18446744073709551615 := by omega
    have hbz : ¬ (4096 : Int) < (a0.size : Int) := by omega
    have hn : pack_Num.f (a0.size : Int) = some ((numV a0.size).1, (numV a0.size).2) := by unfold pack_Num.f; rw [if_pos ⟨h0, by omega⟩]
    have hs8 := numV_size (a0.size : Int)
    generalize (numV (a0.size : Int)).1 = s1 at *
    generalize (numV (a0.size : Int)).2 = s2 at *
    obtain ⟨rfl, rfl⟩ := Prod.mk.inj h
    go_enter Try.func66, Try.ntmps66
    go_wp2_with fail
    refine (pack_Num.calls (a0.size : Int) s1 s2 w hn).mono ?_
    rintro e w1 ⟨rfl, hb1⟩
    have hsum : (s1.size : Int) + a0.size ≤ 9223372036854775807 := by omega
    have hsum2 : s1.size + a0.size ≤ 9223372036854775807 := by omega
    clear hn
    go_wp2
    go_ret2
    exact ⟨rfl, hb1⟩
end Go.Proofs.Ythfkbfahpgdnfaa.PAll
end
