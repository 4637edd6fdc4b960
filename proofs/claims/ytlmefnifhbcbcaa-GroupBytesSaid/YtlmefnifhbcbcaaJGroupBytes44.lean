/- Joined texts of the claim GroupBytes (part 44): contracts of functions and plain laws. -/
import Derived.Laws.BitsLemmas
import Derived.Test.YtlmefnifhbcbcaaJGroupBytes1
import Derived.Test.YtlmefnifhbcbcaaJGroupBytes35
import Derived.Test.YtlmefnifhbcbcaaJGroupBytes36
import Derived.Test.YtlmefnifhbcbcaaJGroupBytes41
import Derived.Test.YtlmefnifhbcbcaaJGroupBytes42
import Derived.Test.YtlmefnifhbcbcaaJGroupBytes43
section
/- Numbers in bytes: the code and the document agree; a number is taken from its bytes as it was. -/
namespace Go.Proofs.Ytlmefnifhbcbcaa.PAll
open Go.RowKit Go.Proofs.YtlmefnifhbcbcaaW.PrintWords Go.Proofs.YtlmefnifhbcbcaaW.PrintMore Go.Proofs.Ytlmefnifhbcbcaa
set_option linter.unusedVariables false
theorem wrap_up (j : Nat) (h : j < 9223372036854775807) : wrap64 ((j : Int) + 1) = ((j + 1 : Nat) : Int) := by unfold wrap64; omega
theorem toList_len (s : ByteArray) : s.toList.length = s.size := by rw [ByteArray.toList_eq, Array.length_toList]; rfl
theorem w64 (n : Int) (h0 : 0 ≤ n) (h1 : n < 18446744073709551616) : IntKind.u64.wrap n = n := by
  simp [IntKind.wrap, IntKind.bits, IntKind.signed]
  omega
theorem wraps_u64 (n : Int) (h0 : 0 ≤ n) (h1 : n < 2 ^ 64) : IntKind.u64.wrap n = n := w64 n h0 h1
theorem or_comm_ (k : IntKind) (x y : Int) : bits .or k x y = bits .or k y x := by
  unfold bits
  simp only []
  rw [BitVec.or_comm]
theorem or_low (x t : Int) (ht : t = 0 ∨ t = 64 ∨ t = 128 ∨ t = 192) (h0 : 0 ≤ x) (h1 : x < 64) : bits .or .u8 x t = x + t := by
  rw [or_comm_, bits_join .u8 8 (by decide) wraps_u8 6 t x (by omega) (by omega) (by omega) h0 (by omega) (by omega), Int.add_comm]
/-! what a number's bytes begin with -/
def nLen (b : Int) : Nat := if b < 64 then 1 else if b < 128 then 2 else if b < 192 then 4 else 8
theorem nLen_cases (b : Int) : nLen b = 1 ∨ nLen b = 2 ∨ nLen b = 4 ∨ nLen b = 8 := by
  unfold nLen
  repeat' split
  all_goals simp
def foldB (s : ByteArray) : Nat → Int → Nat → Int
  | 0, v, _ => v
  | d + 1, v, i => foldB s d (v * 256 + bt s i) (i + 1)
def sizeV (v : Int) : Int := if v < 64 then 1 else if v < 16384 then 2 else if v < 1073741824 then 4 else if v < 4611686018427387904 then 8 else 0
def finV (s : ByteArray) (n : Nat) (v : Int) : Int × ByteArray × Int := if sizeV v = n then (v, s.extract n s.size, 0) else (0, ⟨#[]⟩, 3)
def takeV (s : ByteArray) : Int × ByteArray × Int :=
  if s.size = 0 then (0, ⟨#[]⟩, 2) else
  if s.size < nLen (bt s 0) then (0, ⟨#[]⟩, 2) else
  finV s (nLen (bt s 0)) (foldB s (nLen (bt s 0) - 1) (bt s 0 % 64) 1)
theorem shl_nLen (b : Int) (h0 : 0 ≤ b) (h1 : b ≤ 255) : shl .i64 1 (b / 64) = (nLen b : Int) := by
  unfold nLen
  have h : b / 64 = 0 ∨ b / 64 = 1 ∨ b / 64 = 2 ∨ b / 64 = 3 := by omega
  rcases h with h | h | h | h
  · rw [h, if_pos (by omega)]; decide
  · rw [h, if_neg (by omega), if_pos (by omega)]; decide
  · rw [h, if_neg (by omega), if_neg (by omega), if_pos (by omega)]; decide
  · rw [h, if_neg (by omega), if_neg (by omega), if_neg (by omega)]; decide
theorem grow_bound {B d : Nat} (h : B * 256 ^ (d + 1) ≤ 4611686018427387904) : B * 256 * 256 ^ d ≤ 4611686018427387904 ∧ B * 256 ≤ 4611686018427387904 := by
  rw [Nat.pow_succ, Nat.mul_comm (256 ^ d) 256, ← Nat.mul_assoc] at h
  exact ⟨h, Nat.le_trans (Nat.le_mul_of_pos_right _ (Nat.pow_pos (by decide))) h⟩
theorem fold_range (s : ByteArray) : ∀ (d : Nat) (v : Int) (i B : Nat), 0 ≤ v → v < B → B * 256 ^ d ≤ 4611686018427387904 → 0 ≤ foldB s d v i ∧ foldB s d v i < 4611686018427387904
  | 0, v, i, B, h0, h1, h2 => by
    rw [Nat.pow_zero, Nat.mul_one] at h2
    exact ⟨h0, show v < _ by omega⟩
  | d + 1, v, i, B, h0, h1, h2 => by
    obtain ⟨h3, h4⟩ := grow_bound h2
    obtain ⟨h5, h6⟩ := bt_range s i
    exact fold_range s d _ (i + 1) (B * 256) (by omega) (by omega) h3
theorem TakeNum_l0 (s : ByteArray) (n : Nat) (hn : n ≤ s.size) (hn8 : n ≤ 8) : ∀ (d i : Nat) (v : Int) (B : Nat), d = n - i → i ≤ n → 0 ≤ v → v < B → B * 256 ^ d ≤ 4611686018427387904 → Ev (fun q => pack_TakeNum.l0 q s (n : Int) v (i : Int)) (finV s n (foldB s d v i)) := by
  intro d
  induction d with
  | zero =>
    intro i v B hd hi h0 h1 h2
    rw [Nat.pow_zero, Nat.mul_one] at h2
    refine Ev.step (f := fun _ => some _) (fun q => ?_) (Ev.now _)
    simp only [pack_TakeNum.l0]
    have hs : pack_Size.f v = some (sizeV v) := by rw [size_val v h0 (by omega)]; rfl
    rw [if_neg (show ¬ (i : Int) < n by omega), hs]
    rw [show foldB s 0 v i = v from rfl]
    simp only [Option.bind_some]
    unfold finV
    by_cases c : sizeV v = (n : Int)
    · rw [if_pos c, if_pos c, if_pos (show (0 : Int) ≤ n by omega), if_pos (show (n : Int) ≤ s.size by omega)]; rfl
    · rw [if_neg c, if_neg c]
  | succ d ih =>
    intro i v B hd hi h0 h1 h2
    obtain ⟨h3, h4⟩ := grow_bound h2
    obtain ⟨h5, h6⟩ := bt_range s i
    refine Ev.step (fun q => ?_) (ih (i + 1) (v * 256 + bt s i) (B * 256) (by omega) (by omega) (by omega) (by omega) h3)
    simp only [pack_TakeNum.l0]
    rw [if_pos (show (i : Int) < n by omega), if_pos (show (0 : Int) ≤ i by omega), if_pos (show (i : Int) < s.size by omega), wrap_up i (by omega), w64 (v * 256) (by omega) (by omega), w64 (bt s i) h5 (by omega), bits_join .u64 64 (by decide) wraps_u64 8 (v * 256) (bt s i) (by omega) (by omega) (by omega) h5 (by omega) (by omega)]
theorem len_range (b : Int) : 64 * 256 ^ (nLen b - 1) ≤ 4611686018427387904 := by
  rcases nLen_cases b with h | h | h | h <;> rw [h] <;> decide
theorem TakeNum_ev (s : ByteArray) : Ev (fun q => pack_TakeNum.f q s) (takeV s) := by
  unfold pack_TakeNum.f takeV
  have hl := toList_len s
  by_cases h0 : s.size = 0
  · rw [if_pos h0]
    exact Ev.congr (fun q => if_pos (List.eq_nil_of_length_eq_zero (by omega))) (Ev.now _)
  · rw [if_neg h0]
    obtain ⟨h5, h6⟩ := bt_range s 0
    refine Ev.congr (fun q => (if_neg (fun h => h0 (by rw [h] at hl; simpa using hl.symm))).trans ((if_pos (by omega)).trans (if_pos (by omega)))) ?_
    rw [shl_nLen _ h5 h6]
    have hn := nLen_cases (bt s 0)
    by_cases h1 : s.size < nLen (bt s 0)
    · rw [if_pos h1]
      exact Ev.congr (fun q => if_pos (by omega)) (Ev.now _)
    · rw [if_neg h1]
      refine Ev.congr (fun q => if_neg (by omega)) ?_
      rw [u8_and63 _ h5 (by omega), w64 _ (by omega) (by omega)]
      exact TakeNum_l0 s (nLen (bt s 0)) (by omega) (by omega) (nLen (bt s 0) - 1) 1 (bt s 0 % 64) 64 rfl (by omega) (by omega) (by omega) (len_range _)
theorem rTakeNum_l1 (s : ByteArray) (n : Nat) (hn : n ≤ s.size) (hn8 : n ≤ 8) : ∀ (d i : Nat) (v : Int) (B : Nat), d = n - i → i ≤ n → 0 ≤ v → v < B → B * 256 ^ d ≤ 4611686018427387904 → Ev (fun q => ferruleref01_TakeNum.l1 q s (n : Int) v (i : Int)) (finV s n (foldB s d v i)) := by
  intro d
  induction d with
  | zero =>
    intro i v B hd hi h0 h1 h2
    rw [Nat.pow_zero, Nat.mul_one] at h2
    refine Ev.step (f := fun _ => some _) (fun q => ?_) (Ev.now _)
    simp only [ferruleref01_TakeNum.l1]
    rw [if_neg (show ¬ (i : Int) < n by omega)]
    have hs : ferruleref01_Size.f v = some (sizeV v) := by
      unfold ferruleref01_Size.f sizeV
      repeat' split
      all_goals rfl
    rw [hs]
    rw [show foldB s 0 v i = v from rfl]
    simp only [Option.bind_some]
    unfold finV
    by_cases c : sizeV v = (n : Int)
    · rw [if_pos c, if_pos c, if_pos (show (0 : Int) ≤ n by omega), if_pos (show (n : Int) ≤ s.size by omega)]; rfl
    · rw [if_neg c, if_neg c]
  | succ d ih =>
    intro i v B hd hi h0 h1 h2
    obtain ⟨h3, h4⟩ := grow_bound h2
    obtain ⟨h5, h6⟩ := bt_range s i
    refine Ev.step (fun q => ?_) (ih (i + 1) (v * 256 + bt s i) (B * 256) (by omega) (by omega) (by omega) (by omega) h3)
    simp only [ferruleref01_TakeNum.l1]
    rw [if_pos (show (i : Int) < n by omega), if_pos (show (0 : Int) ≤ i by omega), if_pos (show (i : Int) < s.size by omega), wrap_up i (by omega), w64 (v * 256) (by omega) (by omega), w64 (bt s i) h5 (by omega), w64 (v * 256 + bt s i) (by omega) (by omega)]
theorem rTakeNum_ev (s : ByteArray) : Ev (fun q => ferruleref01_TakeNum.f q s) (takeV s) := by
  unfold ferruleref01_TakeNum.f takeV
  by_cases h0 : s.size = 0
  · rw [if_pos h0]
    exact Ev.congr (fun q => if_pos (by omega)) (Ev.now _)
  · rw [if_neg h0]
    refine Ev.congr (fun q => if_neg (by omega)) ?_
    obtain ⟨h5, h6⟩ := bt_range s 0
    have hc : (Int.tdiv (bt s 0) 64) % 256 = bt s 0 / 64 := by rw [Int.tdiv_eq_ediv_of_nonneg h5]; omega
    have hz : (0 : Int) < s.size := by omega
    have hup : ∀ n i q, i < bt s 0 / 64 → ferruleref01_TakeNum.l0 (q + 1) s n i = ferruleref01_TakeNum.l0 q s (wrap64 (n * 2)) ((i + 1) % 256) := fun n i q hi => by
      simp only [ferruleref01_TakeNum.l0]
      rw [if_pos hz, hc, if_pos hi]
    have hend : ∀ n i q, ¬ i < bt s 0 / 64 → ferruleref01_TakeNum.l0 (q + 1) s n i = if (s.size : Int) < n then some (0, ⟨#[]⟩, 2) else ferruleref01_TakeNum.l1 q s n (bt s 0 % 64) ((1 : Nat) : Int) := fun n i q hi => by
      simp only [ferruleref01_TakeNum.l0]
      rw [if_pos hz, hc, if_neg hi, Int.tmod_eq_emod_of_nonneg h5, w64 _ (by omega) (by omega)]
      rfl
    have fin : ∀ n : Nat, n = nLen (bt s 0) → Ev (fun q => if (s.size : Int) < (n : Int) then some ((0 : Int), (⟨#[]⟩ : ByteArray), (2 : Int)) else ferruleref01_TakeNum.l1 q s (n : Int) (bt s 0 % 64) ((1 : Nat) : Int)) (if s.size < nLen (bt s 0) then (0, ⟨#[]⟩, 2) else finV s (nLen (bt s 0)) (foldB s (nLen (bt s 0) - 1) (bt s 0 % 64) 1)) := fun n hn => by
      subst hn
      have hn := nLen_cases (bt s 0)
      by_cases h1 : s.size < nLen (bt s 0)
      · rw [if_pos h1]
        exact Ev.congr (fun q => if_pos (by omega)) (Ev.now _)
      · rw [if_neg h1]
        refine Ev.congr (fun q => if_neg (by omega)) ?_
        exact rTakeNum_l1 s (nLen (bt s 0)) (by omega) (by omega) (nLen (bt s 0) - 1) 1 (bt s 0 % 64) 64 rfl (by omega) (by omega) (by omega) (len_range _)
    have h : bt s 0 / 64 = 0 ∨ bt s 0 / 64 = 1 ∨ bt s 0 / 64 = 2 ∨ bt s 0 / 64 = 3 := by omega
    have e1 : wrap64 (1 * 2) = 2 := by unfold wrap64; omega
    have e2 : wrap64 (2 * 2) = 4 := by unfold wrap64; omega
    have e4 : wrap64 (4 * 2) = 8 := by unfold wrap64; omega
    rcases h with h | h | h | h
    · exact Ev.step (fun q => hend 1 0 q (by omega)) (fin 1 (by unfold nLen; rw [if_pos (by omega)]))
    · refine Ev.step (fun q => hup 1 0 q (by omega)) ?_
      rw [e1]
      exact Ev.step (fun q => hend 2 1 q (by omega)) (fin 2 (by unfold nLen; rw [if_neg (by omega), if_pos (by omega)]))
    · refine Ev.step (fun q => hup 1 0 q (by omega)) ?_
      rw [e1]
      refine Ev.step (fun q => hup 2 1 q (by omega)) ?_
      rw [e2]
      exact Ev.step (fun q => hend 4 2 q (by omega)) (fin 4 (by unfold nLen; rw [if_neg (by omega), if_neg (by omega), if_pos (by omega)]))
    · refine Ev.step (fun q => hup 1 0 q (by omega)) ?_
      rw [e1]
      refine Ev.step (fun q => hup 2 1 q (by omega)) ?_
      rw [e2]
      refine Ev.step (fun q => hup 4 2 q (by omega)) ?_
      rw [e4]
      exact Ev.step (fun q => hend 8 3 q (by omega)) (fin 8 (by unfold nLen; rw [if_neg (by omega), if_neg (by omega), if_neg (by omega)]))
/-! a number's bytes -/
theorem strOfNums_append (xs ys : List Int) : strOfNums xs ++ strOfNums ys = strOfNums (xs ++ ys) := by
  unfold strOfNums
  apply ByteArray.ext
  simp [ByteArray.data_append]
def beL : Nat → Int → List Int
  | 0, _ => []
  | d + 1, x => beL d (x / 256) ++ [x % 256]
theorem rNum_l0 (n : Nat) (hn : n ≤ 8) : ∀ (d i : Nat) (x : Int) (acc : List Int), d = n - i → i ≤ n → 0 ≤ x → x < 18446744073709551616 → acc.length ≤ i → Ev (fun q => ferruleref01_Num.l0 q x (n : Int) (strOfNums acc) (i : Int)) (strOfNums (beL d x ++ acc), 0) := by
  intro d
  induction d with
  | zero =>
    intro i x acc hd hi h0 h1 ha
    refine Ev.step (f := fun _ => some _) (fun q => ?_) (Ev.now _)
    simp only [ferruleref01_Num.l0]
    rw [if_neg (show ¬ (i : Int) < n by omega)]
    rfl
  | succ d ih =>
    intro i x acc hd hi h0 h1 ha
    have e1 : (Int.tmod x 256) % 256 = x % 256 := by rw [Int.tmod_eq_emod_of_nonneg h0]; omega
    have e2 : IntKind.u64.wrap (Int.tdiv x 256) = x / 256 := by rw [Int.tdiv_eq_ediv_of_nonneg h0]; exact w64 _ (by omega) (by omega)
    refine Ev.step (fun q => ?_) (by rw [beL, List.append_assoc]; exact ih (i + 1) (x / 256) ([x % 256] ++ acc) (by omega) (by omega) (by omega) (by omega) (by simp; omega))
    simp only [ferruleref01_Num.l0, Option.bind_some]
    rw [if_pos (show (i : Int) < n by omega), e1, e2, if_pos (by rw [strOfNums_size, strOfNums_size]; simp; omega), wrap_up i (by omega), strOfNums_append]
theorem rNum_ev (v : Int) (h0 : 0 ≤ v) (h1 : v < 18446744073709551616) : Ev (fun q => ferruleref01_Num.f q v) (numV v) := by
  unfold ferruleref01_Num.f
  have hs : ferruleref01_Size.f v = some (sizeV v) := by
    unfold ferruleref01_Size.f sizeV
    repeat' split
    all_goals rfl
  refine Ev.bind (show Ev (fun _ => ferruleref01_Size.f v) (sizeV v) from ⟨0, fun _ _ => hs⟩) ?_
  have he : (⟨#[]⟩ : ByteArray) = strOfNums [] := rfl
  have key : ∀ (n : Nat) (tag : Int), n ≤ 8 → 0 ≤ tag → v + tag < 18446744073709551616 → Ev (fun q => ferruleref01_Num.j2 q v (n : Int) tag) (strOfNums (beL n (v + tag)), 0) := fun n tag hn ht hb => by
    refine Ev.step (fun q => ?_) (by have := rNum_l0 n hn n 0 (v + tag) [] (by omega) (by omega) (by omega) hb (by simp); rw [List.append_nil] at this; exact this)
    simp only [ferruleref01_Num.j2]
    rw [w64 _ (by omega) hb]
    rfl
  unfold sizeV numV
  by_cases c1 : v < 64
  · rw [if_pos c1, if_pos c1]
    refine Ev.congr (fun q => (if_neg (by decide)).trans (if_neg (by decide))) ?_
    refine Ev.step (f := fun q => ferruleref01_Num.j1 q v 1 0) (fun q => by simp only [ferruleref01_Num.j0]; rw [if_neg (by decide)]) ?_
    refine Ev.step (f := fun q => ferruleref01_Num.j2 q v 1 0) (fun q => by simp only [ferruleref01_Num.j1]; rw [if_neg (by decide)]) ?_
    have e : strOfNums [bits .or .u8 v 0] = strOfNums (beL 1 (v + 0)) := congrArg strOfNums (by rw [or_low v 0 (by omega) h0 c1]; simp only [beL, List.nil_append]; congr 1; omega)
    rw [e]
    exact key 1 0 (by omega) (by omega) (by omega)
  · rw [if_neg c1, if_neg c1]
    by_cases c2 : v < 16384
    · rw [if_pos c2, if_pos c2]
      refine Ev.congr (fun q => (if_neg (by decide)).trans (if_pos rfl)) ?_
      refine Ev.step (f := fun q => ferruleref01_Num.j1 q v 2 16384) (fun q => by simp only [ferruleref01_Num.j0]; rw [if_neg (by decide)]) ?_
      refine Ev.step (f := fun q => ferruleref01_Num.j2 q v 2 16384) (fun q => by simp only [ferruleref01_Num.j1]; rw [if_neg (by decide)]) ?_
      have e : strOfNums [bits .or .u8 (v / 256) 64, v % 256] = strOfNums (beL 2 (v + 16384)) := congrArg strOfNums (by rw [or_low (v / 256) 64 (by omega) (by omega) (by omega)]; simp only [beL, List.nil_append, List.cons_append]; congr 1 <;> (try congr 1) <;> omega)
      rw [e]
      exact key 2 16384 (by omega) (by omega) (by omega)
    · rw [if_neg c2, if_neg c2]
      by_cases c3 : v < 1073741824
      · rw [if_pos c3, if_pos c3]
        refine Ev.congr (fun q => (if_neg (by decide)).trans (if_neg (by decide))) ?_
        refine Ev.step (f := fun q => ferruleref01_Num.j1 q v 4 2147483648) (fun q => by simp only [ferruleref01_Num.j0]; rw [if_pos trivial]) ?_
        refine Ev.step (f := fun q => ferruleref01_Num.j2 q v 4 2147483648) (fun q => by simp only [ferruleref01_Num.j1]; rw [if_neg (by decide)]) ?_
        have e : strOfNums [bits .or .u8 (v / 16777216) 128, v / 65536 % 256, v / 256 % 256, v % 256] = strOfNums (beL 4 (v + 2147483648)) := congrArg strOfNums (by
          rw [or_low (v / 16777216) 128 (by omega) (by omega) (by omega)]
          simp only [beL, List.nil_append, List.cons_append]
          rw [show v / 16777216 + 128 = (v + 2147483648) / 256 / 256 / 256 % 256 by omega, show v / 65536 % 256 = (v + 2147483648) / 256 / 256 % 256 by omega, show v / 256 % 256 = (v + 2147483648) / 256 % 256 by omega, show v % 256 = (v + 2147483648) % 256 by omega])
        rw [e]
        exact key 4 2147483648 (by omega) (by omega) (by omega)
      · rw [if_neg c3, if_neg c3]
        by_cases c4 : v < 4611686018427387904
        · rw [if_pos c4, if_pos c4]
          refine Ev.congr (fun q => (if_neg (by decide)).trans (if_neg (by decide))) ?_
          refine Ev.step (f := fun q => ferruleref01_Num.j1 q v 8 0) (fun q => by simp only [ferruleref01_Num.j0]; rw [if_neg (by decide)]) ?_
          refine Ev.step (f := fun q => ferruleref01_Num.j2 q v 8 13835058055282163712) (fun q => by simp only [ferruleref01_Num.j1]; rw [if_pos trivial]) ?_
          have e : strOfNums [bits .or .u8 (v / 72057594037927936) 192, v / 281474976710656 % 256, v / 1099511627776 % 256, v / 4294967296 % 256, v / 16777216 % 256, v / 65536 % 256, v / 256 % 256, v % 256] = strOfNums (beL 8 (v + 13835058055282163712)) := congrArg strOfNums (by
            rw [or_low (v / 72057594037927936) 192 (by omega) (by omega) (by omega)]
            simp only [beL, List.nil_append, List.cons_append]
            rw [show v / 72057594037927936 + 192 = (v + 13835058055282163712) / 256 / 256 / 256 / 256 / 256 / 256 / 256 % 256 by omega, show v / 281474976710656 % 256 = (v + 13835058055282163712) / 256 / 256 / 256 / 256 / 256 / 256 % 256 by omega, show v / 1099511627776 % 256 = (v + 13835058055282163712) / 256 / 256 / 256 / 256 / 256 % 256 by omega, show v / 4294967296 % 256 = (v + 13835058055282163712) / 256 / 256 / 256 / 256 % 256 by omega, show v / 16777216 % 256 = (v + 13835058055282163712) / 256 / 256 / 256 % 256 by omega, show v / 65536 % 256 = (v + 13835058055282163712) / 256 / 256 % 256 by omega, show v / 256 % 256 = (v + 13835058055282163712) / 256 % 256 by omega, show v % 256 = (v + 13835058055282163712) % 256 by omega])
          rw [e]
          exact key 8 13835058055282163712 (by omega) (by omega) (by omega)
        · rw [if_neg c4, if_neg c4]
          exact Ev.congr (fun q => if_pos rfl) (Ev.now _)
theorem takeV_range (s : ByteArray) : 0 ≤ (takeV s).1 ∧ (takeV s).1 < 4611686018427387904 ∧ (takeV s).2.1.size ≤ s.size := by
  unfold takeV finV
  obtain ⟨h5, h6⟩ := bt_range s 0
  obtain ⟨h7, h8⟩ := fold_range s (nLen (bt s 0) - 1) (bt s 0 % 64) 1 64 (by omega) (by omega) (len_range _)
  repeat' split
  · exact ⟨by decide, by decide, Nat.zero_le _⟩
  · exact ⟨by decide, by decide, Nat.zero_le _⟩
  · refine ⟨h7, h8, ?_⟩
    simp only [ByteArray.size_extract]
    omega
  · exact ⟨by decide, by decide, Nat.zero_le _⟩
end Go.Proofs.Ytlmefnifhbcbcaa.PAll
end
