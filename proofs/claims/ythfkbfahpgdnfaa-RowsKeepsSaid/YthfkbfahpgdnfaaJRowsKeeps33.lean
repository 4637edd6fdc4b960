/- Joined texts of the claim RowsKeeps (part 33): contracts of functions and plain laws. -/
import Derived.Test.YthfkbfahpgdnfaaJRowsKeeps32
section
/- pack.Num: its contract. -/
namespace Go.Proofs.Ythfkbfahpgdnfaa.PAll
open Go.RowKit Go.Proofs.YthfkbfahpgdnfaaW.PrintWords Go.Proofs.Ythfkbfahpgdnfaa
set_option linter.unusedVariables false
theorem lenT_64 (t : Int) : (t < 64 → lenT t ≤ 6) ∧ (64 ≤ t → 6 < lenT t) ∧ 0 ≤ lenT t ∧ lenT t ≤ 8 ∧ (1 ≤ t → 1 ≤ lenT t) := by
  unfold lenT
  repeat' split
  all_goals omega
theorem len_ranges (v : Int) (h0 : 0 ≤ v) (h1 : v < 18446744073709551616) : (v < 64 ∧ len64 v ≤ 6) ∨ (64 ≤ v ∧ v < 16384 ∧ 6 < len64 v ∧ len64 v ≤ 14) ∨ (16384 ≤ v ∧ v < 1073741824 ∧ 14 < len64 v ∧ len64 v ≤ 30) ∨ (1073741824 ≤ v ∧ v < 4611686018427387904 ∧ 30 < len64 v ∧ len64 v ≤ 62) ∨ (4611686018427387904 ≤ v ∧ 62 < len64 v) := by
  unfold len64 len2 len3
  by_cases c1 : 4294967296 ≤ v
  · rw [if_pos c1]
    by_cases c2 : 65536 ≤ v / 4294967296
    · rw [if_pos c2]
      by_cases c3 : 256 ≤ v / 4294967296 / 65536
      · rw [if_pos c3]
        obtain ⟨a1, a2, a3, a4, a5⟩ := lenT_64 (v / 4294967296 / 65536 / 256)
        generalize lenT (v / 4294967296 / 65536 / 256) = z at *
        omega
      · rw [if_neg c3]
        obtain ⟨a1, a2, a3, a4, a5⟩ := lenT_64 (v / 4294967296 / 65536)
        generalize lenT (v / 4294967296 / 65536) = z at *
        omega
    · rw [if_neg c2]
      by_cases c3 : 256 ≤ v / 4294967296
      · rw [if_pos c3]
        obtain ⟨a1, a2, a3, a4, a5⟩ := lenT_64 (v / 4294967296 / 256)
        generalize lenT (v / 4294967296 / 256) = z at *
        omega
      · rw [if_neg c3]
        obtain ⟨a1, a2, a3, a4, a5⟩ := lenT_64 (v / 4294967296)
        generalize lenT (v / 4294967296) = z at *
        omega
  · rw [if_neg c1]
    by_cases c2 : 65536 ≤ v
    · rw [if_pos c2]
      by_cases c3 : 256 ≤ v / 65536
      · rw [if_pos c3]
        obtain ⟨a1, a2, a3, a4, a5⟩ := lenT_64 (v / 65536 / 256)
        generalize lenT (v / 65536 / 256) = z at *
        omega
      · rw [if_neg c3]
        obtain ⟨a1, a2, a3, a4, a5⟩ := lenT_64 (v / 65536)
        generalize lenT (v / 65536) = z at *
        omega
    · rw [if_neg c2]
      by_cases c3 : 256 ≤ v
      · rw [if_pos c3]
        obtain ⟨a1, a2, a3, a4, a5⟩ := lenT_64 (v / 256)
        generalize lenT (v / 256) = z at *
        omega
      · rw [if_neg c3]
        obtain ⟨a1, a2, a3, a4, a5⟩ := lenT_64 (v)
        generalize lenT (v) = z at *
        omega
theorem size_val (v : Int) (h0 : 0 ≤ v) (h1 : v < 18446744073709551616) : pack_Size.f v = some (if v < 64 then 1 else if v < 16384 then 2 else if v < 1073741824 then 4 else if v < 4611686018427387904 then 8 else 0) := by
  unfold pack_Size.f bits_Len64.f
  rw [if_pos ⟨h0, h1⟩]
  simp only [Option.bind_some]
  rcases len_ranges v h0 h1 with h | h | h | h | h
  · rw [if_neg (by omega), if_neg (by omega), if_neg (by omega), if_neg (by omega), if_pos (by omega)]
  · rw [if_neg (by omega), if_neg (by omega), if_neg (by omega), if_pos (by omega), if_neg (by omega), if_pos (by omega)]
  · rw [if_neg (by omega), if_neg (by omega), if_pos (by omega), if_neg (by omega), if_neg (by omega), if_pos (by omega)]
  · rw [if_neg (by omega), if_pos (by omega), if_neg (by omega), if_neg (by omega), if_neg (by omega), if_pos (by omega)]
  · rw [if_pos (by omega), if_neg (by omega), if_neg (by omega), if_neg (by omega), if_neg (by omega)]
set_option maxHeartbeats 2000000 in
set_option maxRecDepth 100000 in
theorem num0 (v : Int) (w : World) (hs : pack_Size.f v = some 0) :
    Calls Try.prog 64 #[.int .u64 v] w fun e w' => e = .returned (.tuple #[.string ⟨#[]⟩, .int .i64 4]) ∧ Below w.heap.size w w' := by
  go_enter Try.func64, Try.ntmps64
  go_wp2_with (go_at_call 79; refine (pack_Size.calls v 0 _ hs).mono ?_; rintro e w1 ⟨rfl, hb1⟩)
  go_ret2
  exact ⟨rfl, hb1⟩
def pack_Num.f (a0 : Int) : Option (ByteArray × Int) := if 0 ≤ a0 ∧ a0 < 18446744073709551616 then some (numV a0) else none
theorem pack_Num.calls (a0 : Int) (r1 : ByteArray) (r2 : Int) (w : World) (h : pack_Num.f a0 = some (r1, r2)) :
    Calls Try.prog 64 #[.int .u64 a0] w fun e w' => e = .returned (.tuple #[.string r1, .int .i64 r2]) ∧ Below w.heap.size w w' := by
  unfold pack_Num.f at h
  split at h
  · rename_i hb
    have hs := size_val a0 hb.1 hb.2
    have h := Option.some.inj h
    unfold numV at h
    by_cases h1 : a0 < 64
    · rw [if_pos h1] at h hs
      obtain ⟨rfl, rfl⟩ := Prod.mk.inj h
      exact num1 a0 w hb.1 h1 hs
    · rw [if_neg h1] at h hs
      by_cases h2 : a0 < 16384
      · rw [if_pos h2] at h hs
        obtain ⟨rfl, rfl⟩ := Prod.mk.inj h
        exact num2 a0 w (by omega) h2 hs
      · rw [if_neg h2] at h hs
        by_cases h3 : a0 < 1073741824
        · rw [if_pos h3] at h hs
          obtain ⟨rfl, rfl⟩ := Prod.mk.inj h
          exact num4 a0 w (by omega) h3 hs
        · rw [if_neg h3] at h hs
          by_cases h4 : a0 < 4611686018427387904
          · rw [if_pos h4] at h hs
            obtain ⟨rfl, rfl⟩ := Prod.mk.inj h
            exact num8 a0 w (by omega) h4 hs
          · rw [if_neg h4] at h hs
            obtain ⟨rfl, rfl⟩ := Prod.mk.inj h
            exact num0 a0 w hs
  · cases h
end Go.Proofs.Ythfkbfahpgdnfaa.PAll
end
