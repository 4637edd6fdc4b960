/- Joined texts of the claim DriveSteps (part 20): contracts of functions and plain laws. -/
import Derived.Test.YtkennobdoldlkaaProg
import Derived.WalkKit
import Derived.WalkLawsBesides
set_option linter.unusedVariables false
set_option linter.unusedSimpArgs false
section
namespace Go.Proofs.Ytkennobdoldlkaa.PAll
open Go.Proofs Go.RowKit
structure AsideL (p : Prop) : Prop where
  out : p
def lenT (t : Int) : Int := if 128 ≤ t then 8 else if 64 ≤ t then 7 else if 32 ≤ t then 6 else if 16 ≤ t then 5 else if 8 ≤ t then 4 else if 4 ≤ t then 3 else if 2 ≤ t then 2 else if 1 ≤ t then 1 else 0
def len3 (x n : Int) : Int := if 256 ≤ x then n + 8 + lenT (x / 256) else n + lenT x
def len2 (x n : Int) : Int := if 65536 ≤ x then len3 (x / 65536) (n + 16) else len3 x n
def len64 (x : Int) : Int := if 4294967296 ≤ x then len2 (x / 4294967296) 32 else len2 x 0
set_option maxRecDepth 100000 in
theorem tab_ok : ∀ t : Fin 256, ((((⟨#[0, 1, 2, 2, 3, 3, 3, 3, 4, 4, 4, 4, 4, 4, 4, 4, 5, 5, 5, 5, 5, 5, 5, 5, 5, 5, 5, 5, 5, 5, 5, 5, 6, 6, 6, 6, 6, 6, 6, 6, 6, 6, 6, 6, 6, 6, 6, 6, 6, 6, 6, 6, 6, 6, 6, 6, 6, 6, 6, 6, 6, 6, 6, 6, 7, 7, 7, 7, 7, 7, 7, 7, 7, 7, 7, 7, 7, 7, 7, 7, 7, 7, 7, 7, 7, 7, 7, 7, 7, 7, 7, 7, 7, 7, 7, 7, 7, 7, 7, 7, 7, 7, 7, 7, 7, 7, 7, 7, 7, 7, 7, 7, 7, 7, 7, 7, 7, 7, 7, 7, 7, 7, 7, 7, 7, 7, 7, 7, 8, 8, 8, 8, 8, 8, 8, 8, 8, 8, 8, 8, 8, 8, 8, 8, 8, 8, 8, 8, 8, 8, 8, 8, 8, 8, 8, 8, 8, 8, 8, 8, 8, 8, 8, 8, 8, 8, 8, 8, 8, 8, 8, 8, 8, 8, 8, 8, 8, 8, 8, 8, 8, 8, 8, 8, 8, 8, 8, 8, 8, 8, 8, 8, 8, 8, 8, 8, 8, 8, 8, 8, 8, 8, 8, 8, 8, 8, 8, 8, 8, 8, 8, 8, 8, 8, 8, 8, 8, 8, 8, 8, 8, 8, 8, 8, 8, 8, 8, 8, 8, 8, 8, 8, 8, 8, 8, 8, 8, 8, 8, 8, 8, 8, 8, 8, 8, 8, 8, 8, 8, 8, 8, 8, 8, 8, 8, 8]⟩ : ByteArray)[t.1]'(by show t.1 < 256; exact t.2)).toNat : Nat) : Int) = lenT (t.1 : Int) := by decide +kernel
theorem lenT_range (t : Int) : 0 ≤ lenT t ∧ lenT t ≤ 8 := by unfold lenT; repeat' split <;> omega
theorem fin_len (n : Int) (b : Int) (t : Int) (hb : b = lenT t) (hn : 0 ≤ n ∧ n ≤ 56) : wrap64 (n + wrap64 b) = n + lenT t := by
  have := lenT_range t
  subst hb
  unfold wrap64
  omega
theorem fin_len0 (b : Int) (t : Int) (hb : b = lenT t) : wrap64 (wrap64 b) = lenT t := by
  have := lenT_range t
  subst hb
  unfold wrap64
  omega
set_option maxHeartbeats 2000000 in
set_option maxRecDepth 100000 in
theorem Su.len64_calls (a0 : Int) (w : World) (hb0 : 0 ≤ a0) (hb1 : a0 ≤ 18446744073709551615) :
    Calls Try.prog 70 #[.int .u64 a0] w fun e w' => e = .returned (.int .i64 (len64 a0)) ∧ w' = w := by
  by_cases h1 : 4294967296 ≤ a0
  · by_cases h2 : 65536 ≤ a0 / 4294967296
    · by_cases h3 : 256 ≤ a0 / 4294967296 / 65536
      · have d1 : decide (4294967296 ≤ a0) = true := decide_eq_true h1
        have d2 : decide (65536 ≤ a0 / 4294967296) = true := decide_eq_true h2
        have d3 : decide (256 ≤ a0 / 4294967296 / 65536) = true := decide_eq_true h3
        have e : len64 a0 = 56 + lenT (a0 / 4294967296 / 65536 / 256) := by unfold len64 len2 len3; rw [if_pos h1, if_pos h2, if_pos h3]; try omega
        have ht : ((a0 / 4294967296 / 65536 / 256).toNat : Int) = a0 / 4294967296 / 65536 / 256 := by omega
        have hlt : (a0 / 4294967296 / 65536 / 256).toNat < 256 := by omega
        have hk := tab_ok ⟨(a0 / 4294967296 / 65536 / 256).toNat, hlt⟩
        dsimp only at hk
        rw [ht] at hk
        have HK := AsideL.mk hk
        have HE := AsideL.mk e
        clear hk e
        go_enter Try.func70, Try.ntmps70
        go_wp2
        go_ret
        refine ⟨congrArg (fun q => Ending.returned (Value.int .i64 q)) ?_, rfl⟩
        rw [HE.out]
        exact fin_len 56 _ _ HK.out (by omega)
      · have d1 : decide (4294967296 ≤ a0) = true := decide_eq_true h1
        have d2 : decide (65536 ≤ a0 / 4294967296) = true := decide_eq_true h2
        have d3 : decide (256 ≤ a0 / 4294967296 / 65536) = false := decide_eq_false h3
        have e : len64 a0 = 48 + lenT (a0 / 4294967296 / 65536) := by unfold len64 len2 len3; rw [if_pos h1, if_pos h2, if_neg h3]; try omega
        have ht : ((a0 / 4294967296 / 65536).toNat : Int) = a0 / 4294967296 / 65536 := by omega
        have hlt : (a0 / 4294967296 / 65536).toNat < 256 := by omega
        have hk := tab_ok ⟨(a0 / 4294967296 / 65536).toNat, hlt⟩
        dsimp only at hk
        rw [ht] at hk
        have HK := AsideL.mk hk
        have HE := AsideL.mk e
        clear hk e
        go_enter Try.func70, Try.ntmps70
        go_wp2
        go_ret
        refine ⟨congrArg (fun q => Ending.returned (Value.int .i64 q)) ?_, rfl⟩
        rw [HE.out]
        exact fin_len 48 _ _ HK.out (by omega)
    · by_cases h3 : 256 ≤ a0 / 4294967296
      · have d1 : decide (4294967296 ≤ a0) = true := decide_eq_true h1
        have d2 : decide (65536 ≤ a0 / 4294967296) = false := decide_eq_false h2
        have d3 : decide (256 ≤ a0 / 4294967296) = true := decide_eq_true h3
        have e : len64 a0 = 40 + lenT (a0 / 4294967296 / 256) := by unfold len64 len2 len3; rw [if_pos h1, if_neg h2, if_pos h3]; try omega
        have ht : ((a0 / 4294967296 / 256).toNat : Int) = a0 / 4294967296 / 256 := by omega
        have hlt : (a0 / 4294967296 / 256).toNat < 256 := by omega
        have hk := tab_ok ⟨(a0 / 4294967296 / 256).toNat, hlt⟩
        dsimp only at hk
        rw [ht] at hk
        have HK := AsideL.mk hk
        have HE := AsideL.mk e
        clear hk e
        go_enter Try.func70, Try.ntmps70
        go_wp2
        go_ret
        refine ⟨congrArg (fun q => Ending.returned (Value.int .i64 q)) ?_, rfl⟩
        rw [HE.out]
        exact fin_len 40 _ _ HK.out (by omega)
      · have d1 : decide (4294967296 ≤ a0) = true := decide_eq_true h1
        have d2 : decide (65536 ≤ a0 / 4294967296) = false := decide_eq_false h2
        have d3 : decide (256 ≤ a0 / 4294967296) = false := decide_eq_false h3
        have e : len64 a0 = 32 + lenT (a0 / 4294967296) := by unfold len64 len2 len3; rw [if_pos h1, if_neg h2, if_neg h3]; try omega
        have ht : ((a0 / 4294967296).toNat : Int) = a0 / 4294967296 := by omega
        have hlt : (a0 / 4294967296).toNat < 256 := by omega
        have hk := tab_ok ⟨(a0 / 4294967296).toNat, hlt⟩
        dsimp only at hk
        rw [ht] at hk
        have HK := AsideL.mk hk
        have HE := AsideL.mk e
        clear hk e
        go_enter Try.func70, Try.ntmps70
        go_wp2
        go_ret
        refine ⟨congrArg (fun q => Ending.returned (Value.int .i64 q)) ?_, rfl⟩
        rw [HE.out]
        exact fin_len 32 _ _ HK.out (by omega)
  · by_cases h2 : 65536 ≤ a0
    · by_cases h3 : 256 ≤ a0 / 65536
      · have d1 : decide (4294967296 ≤ a0) = false := decide_eq_false h1
        have d2 : decide (65536 ≤ a0) = true := decide_eq_true h2
        have d3 : decide (256 ≤ a0 / 65536) = true := decide_eq_true h3
        have e : len64 a0 = 24 + lenT (a0 / 65536 / 256) := by unfold len64 len2 len3; rw [if_neg h1, if_pos h2, if_pos h3]; try omega
        have ht : ((a0 / 65536 / 256).toNat : Int) = a0 / 65536 / 256 := by omega
        have hlt : (a0 / 65536 / 256).toNat < 256 := by omega
        have hk := tab_ok ⟨(a0 / 65536 / 256).toNat, hlt⟩
        dsimp only at hk
        rw [ht] at hk
        have HK := AsideL.mk hk
        have HE := AsideL.mk e
        clear hk e
        go_enter Try.func70, Try.ntmps70
        go_wp2
        go_ret
        refine ⟨congrArg (fun q => Ending.returned (Value.int .i64 q)) ?_, rfl⟩
        rw [HE.out]
        exact fin_len 24 _ _ HK.out (by omega)
      · have d1 : decide (4294967296 ≤ a0) = false := decide_eq_false h1
        have d2 : decide (65536 ≤ a0) = true := decide_eq_true h2
        have d3 : decide (256 ≤ a0 / 65536) = false := decide_eq_false h3
        have e : len64 a0 = 16 + lenT (a0 / 65536) := by unfold len64 len2 len3; rw [if_neg h1, if_pos h2, if_neg h3]; try omega
        have ht : ((a0 / 65536).toNat : Int) = a0 / 65536 := by omega
        have hlt : (a0 / 65536).toNat < 256 := by omega
        have hk := tab_ok ⟨(a0 / 65536).toNat, hlt⟩
        dsimp only at hk
        rw [ht] at hk
        have HK := AsideL.mk hk
        have HE := AsideL.mk e
        clear hk e
        go_enter Try.func70, Try.ntmps70
        go_wp2
        go_ret
        refine ⟨congrArg (fun q => Ending.returned (Value.int .i64 q)) ?_, rfl⟩
        rw [HE.out]
        exact fin_len 16 _ _ HK.out (by omega)
    · by_cases h3 : 256 ≤ a0
      · have d1 : decide (4294967296 ≤ a0) = false := decide_eq_false h1
        have d2 : decide (65536 ≤ a0) = false := decide_eq_false h2
        have d3 : decide (256 ≤ a0) = true := decide_eq_true h3
        have e : len64 a0 = 8 + lenT (a0 / 256) := by unfold len64 len2 len3; rw [if_neg h1, if_neg h2, if_pos h3]; try omega
        have ht : ((a0 / 256).toNat : Int) = a0 / 256 := by omega
        have hlt : (a0 / 256).toNat < 256 := by omega
        have hk := tab_ok ⟨(a0 / 256).toNat, hlt⟩
        dsimp only at hk
        rw [ht] at hk
        have HK := AsideL.mk hk
        have HE := AsideL.mk e
        clear hk e
        go_enter Try.func70, Try.ntmps70
        go_wp2
        go_ret
        refine ⟨congrArg (fun q => Ending.returned (Value.int .i64 q)) ?_, rfl⟩
        rw [HE.out]
        exact fin_len 8 _ _ HK.out (by omega)
      · have d1 : decide (4294967296 ≤ a0) = false := decide_eq_false h1
        have d2 : decide (65536 ≤ a0) = false := decide_eq_false h2
        have d3 : decide (256 ≤ a0) = false := decide_eq_false h3
        have e : len64 a0 = 0 + lenT (a0) := by unfold len64 len2 len3; rw [if_neg h1, if_neg h2, if_neg h3]; try omega
        have ht : ((a0).toNat : Int) = a0 := by omega
        have hlt : (a0).toNat < 256 := by omega
        have hk := tab_ok ⟨(a0).toNat, hlt⟩
        dsimp only at hk
        rw [ht] at hk
        have HK := AsideL.mk hk
        have HE := AsideL.mk e
        clear hk e
        go_enter Try.func70, Try.ntmps70
        go_wp2
        go_ret
        refine ⟨congrArg (fun q => Ending.returned (Value.int .i64 q)) ?_, rfl⟩
        rw [HE.out]
        rw [Int.zero_add]; exact fin_len0 _ _ HK.out
end Go.Proofs.Ytkennobdoldlkaa.PAll
end
