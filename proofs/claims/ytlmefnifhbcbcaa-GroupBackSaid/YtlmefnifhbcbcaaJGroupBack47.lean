/- Joined texts of the claim GroupBack (part 47): contracts of functions and plain laws. -/
import Derived.Laws.BitsLemmas
import Derived.Test.YtlmefnifhbcbcaaJGroupBack14
import Derived.Test.YtlmefnifhbcbcaaJGroupBack2
import Derived.Test.YtlmefnifhbcbcaaJGroupBack45
import Derived.Test.YtlmefnifhbcbcaaJGroupBack46
section
/- Numbers in bytes: the code and the document agree; a number is taken from its bytes as it was. -/
namespace Go.Proofs.Ytlmefnifhbcbcaa.PAll
open Go.RowKit Go.Proofs.YtlmefnifhbcbcaaW.PrintWords Go.Proofs.YtlmefnifhbcbcaaW.PrintMore Go.Proofs.Ytlmefnifhbcbcaa
set_option linter.unusedVariables false
theorem wrap_up (j : Nat) (h : j < 9223372036854775807) : wrap64 ((j : Int) + 1) = ((j + 1 : Nat) : Int) := by unfold wrap64; omega
theorem toList_len (s : ByteArray) : s.toList.length = s.size := by rw [ByteArray.toList_eq, Array.length_toList]; rfl
theorem w64 (n : Int) (h0 : 0 ≤ n) (h1 : n < 18446744073709551616) : IntKind.u64.wrap n = n := by
  simp [IntKind.wrap, IntKind.bits, IntKind.signed]
  omega
theorem wraps_u64 (n : Int) (h0 : 0 ≤ n) (h1 : n < 2 ^ 64) : IntKind.u64.wrap n = n := w64 n h0 h1
theorem or_comm_ (k : IntKind) (x y : Int) : bits .or k x y = bits .or k y x := by
  unfold bits
  simp only []
  rw [BitVec.or_comm]
theorem or_low (x t : Int) (ht : t = 0 ∨ t = 64 ∨ t = 128 ∨ t = 192) (h0 : 0 ≤ x) (h1 : x < 64) : bits .or .u8 x t = x + t := by
  rw [or_comm_, bits_join .u8 8 (by decide) wraps_u8 6 t x (by omega) (by omega) (by omega) h0 (by omega) (by omega), Int.add_comm]
/-! what a number's bytes begin with -/
def nLen (b : Int) : Nat := if b < 64 then 1 else if b < 128 then 2 else if b < 192 then 4 else 8
theorem nLen_cases (b : Int) : nLen b = 1 ∨ nLen b = 2 ∨ nLen b = 4 ∨ nLen b = 8 := by
  unfold nLen
  repeat' split
  all_goals simp
def foldB (s : ByteArray) : Nat → Int → Nat → Int
  | 0, v, _ => v
  | d + 1, v, i => foldB s d (v * 256 + bt s i) (i + 1)
def sizeV (v : Int) : Int := if v < 64 then 1 else if v < 16384 then 2 else if v < 1073741824 then 4 else if v < 4611686018427387904 then 8 else 0
def finV (s : ByteArray) (n : Nat) (v : Int) : Int × ByteArray × Int := if sizeV v = n then (v, s.extract n s.size, 0) else (0, ⟨#[]⟩, 3)
def takeV (s : ByteArray) : Int × ByteArray × Int :=
  if s.size = 0 then (0, ⟨#[]⟩, 2) else
  if s.size < nLen (bt s 0) then (0, ⟨#[]⟩, 2) else
  finV s (nLen (bt s 0)) (foldB s (nLen (bt s 0) - 1) (bt s 0 % 64) 1)
theorem shl_nLen (b : Int) (h0 : 0 ≤ b) (h1 : b ≤ 255) : shl .i64 1 (b / 64) = (nLen b : Int) := by
  unfold nLen
  have h : b / 64 = 0 ∨ b / 64 = 1 ∨ b / 64 = 2 ∨ b / 64 = 3 := by omega
  rcases h with h | h | h | h
  · rw [h, if_pos (by omega)]; decide
  · rw [h, if_neg (by omega), if_pos (by omega)]; decide
  · rw [h, if_neg (by omega), if_neg (by omega), if_pos (by omega)]; decide
  · rw [h, if_neg (by omega), if_neg (by omega), if_neg (by omega)]; decide
theorem grow_bound {B d : Nat} (h : B * 256 ^ (d + 1) ≤ 4611686018427387904) : B * 256 * 256 ^ d ≤ 4611686018427387904 ∧ B * 256 ≤ 4611686018427387904 := by
  rw [Nat.pow_succ, Nat.mul_comm (256 ^ d) 256, ← Nat.mul_assoc] at h
  exact ⟨h, Nat.le_trans (Nat.le_mul_of_pos_right _ (Nat.pow_pos (by decide))) h⟩
theorem fold_range (s : ByteArray) : ∀ (d : Nat) (v : Int) (i B : Nat), 0 ≤ v → v < B → B * 256 ^ d ≤ 4611686018427387904 → 0 ≤ foldB s d v i ∧ foldB s d v i < 4611686018427387904
  | 0, v, i, B, h0, h1, h2 => by
    rw [Nat.pow_zero, Nat.mul_one] at h2
    exact ⟨h0, show v < _ by omega⟩
  | d + 1, v, i, B, h0, h1, h2 => by
    obtain ⟨h3, h4⟩ := grow_bound h2
    obtain ⟨h5, h6⟩ := bt_range s i
    exact fold_range s d _ (i + 1) (B * 256) (by omega) (by omega) h3
theorem TakeNum_l0 (s : ByteArray) (n : Nat) (hn : n ≤ s.size) (hn8 : n ≤ 8) : ∀ (d i : Nat) (v : Int) (B : Nat), d = n - i → i ≤ n → 0 ≤ v → v < B → B * 256 ^ d ≤ 4611686018427387904 → Ev (fun q => pack_TakeNum.l0 q s (n : Int) v (i : Int)) (finV s n (foldB s d v i)) := by
  intro d
  induction d with
  | zero =>
    intro i v B hd hi h0 h1 h2
    rw [Nat.pow_zero, Nat.mul_one] at h2
    refine Ev.step (f := fun _ => some _) (fun q => ?_) (Ev.now _)
    simp only [pack_TakeNum.l0]
    have hs : pack_Size.f v = some (sizeV v) := by rw [size_val v h0 (by omega)]; rfl
    rw [if_neg (show ¬ (i : Int) < n by omega), hs]
    rw [show foldB s 0 v i = v from rfl]
    simp only [Option.bind_some]
    unfold finV
    by_cases c : sizeV v = (n : Int)
    · rw [if_pos c, if_pos c, if_pos (show (0 : Int) ≤ n by omega), if_pos (show (n : Int) ≤ s.size by omega)]; rfl
    · rw [if_neg c, if_neg c]
  | succ d ih =>
    intro i v B hd hi h0 h1 h2
    obtain ⟨h3, h4⟩ := grow_bound h2
    obtain ⟨h5, h6⟩ := bt_range s i
    refine Ev.step (fun q => ?_) (ih (i + 1) (v * 256 + bt s i) (B * 256) (by omega) (by omega) (by omega) (by omega) h3)
    simp only [pack_TakeNum.l0]
    rw [if_pos (show (i : Int) < n by omega), if_pos (show (0 : Int) ≤ i by omega), if_pos (show (i : Int) < s.size by omega), wrap_up i (by omega), w64 (v * 256) (by omega) (by omega), w64 (bt s i) h5 (by omega), bits_join .u64 64 (by decide) wraps_u64 8 (v * 256) (bt s i) (by omega) (by omega) (by omega) h5 (by omega) (by omega)]
theorem len_range (b : Int) : 64 * 256 ^ (nLen b - 1) ≤ 4611686018427387904 := by
  rcases nLen_cases b with h | h | h | h <;> rw [h] <;> decide
theorem TakeNum_ev (s : ByteArray) : Ev (fun q => pack_TakeNum.f q s) (takeV s) := by
  unfold pack_TakeNum.f takeV
  have hl := toList_len s
  by_cases h0 : s.size = 0
  · rw [if_pos h0]
    exact Ev.congr (fun q => if_pos (List.eq_nil_of_length_eq_zero (by omega))) (Ev.now _)
  · rw [if_neg h0]
    obtain ⟨h5, h6⟩ := bt_range s 0
    refine Ev.congr (fun q => (if_neg (fun h => h0 (by rw [h] at hl; simpa using hl.symm))).trans ((if_pos (by omega)).trans (if_pos (by omega)))) ?_
    rw [shl_nLen _ h5 h6]
    have hn := nLen_cases (bt s 0)
    by_cases h1 : s.size < nLen (bt s 0)
    · rw [if_pos h1]
      exact Ev.congr (fun q => if_pos (by omega)) (Ev.now _)
    · rw [if_neg h1]
      refine Ev.congr (fun q => if_neg (by omega)) ?_
      rw [u8_and63 _ h5 (by omega), w64 _ (by omega) (by omega)]
      exact TakeNum_l0 s (nLen (bt s 0)) (by omega) (by omega) (nLen (bt s 0) - 1) 1 (bt s 0 % 64) 64 rfl (by omega) (by omega) (by omega) (len_range _)
/-! a number's bytes -/
theorem takeV_range (s : ByteArray) : 0 ≤ (takeV s).1 ∧ (takeV s).1 < 4611686018427387904 ∧ (takeV s).2.1.size ≤ s.size := by
  unfold takeV finV
  obtain ⟨h5, h6⟩ := bt_range s 0
  obtain ⟨h7, h8⟩ := fold_range s (nLen (bt s 0) - 1) (bt s 0 % 64) 1 64 (by omega) (by omega) (len_range _)
  repeat' split
  · exact ⟨by decide, by decide, Nat.zero_le _⟩
  · exact ⟨by decide, by decide, Nat.zero_le _⟩
  · refine ⟨h7, h8, ?_⟩
    simp only [ByteArray.size_extract]
    omega
  · exact ⟨by decide, by decide, Nat.zero_le _⟩
theorem bt_nums (xs : List Int) (r : ByteArray) (i : Nat) (x : Int) (hx : xs[i]? = some x) (h0 : 0 ≤ x) (h1 : x ≤ 255) : bt (strOfNums xs ++ r) (i : Int) = x := by
  have hi : i < xs.length := (List.getElem?_eq_some_iff.1 hx).1
  have hs := strOfNums_size xs
  have hlt : i < (strOfNums xs ++ r).size := by rw [ByteArray.size_append]; omega
  have e : (strOfNums xs ++ r)[i]'hlt = UInt8.ofNat x.toNat := by
    rw [ByteArray.getElem_append_left (by omega)]
    have : (strOfNums xs)[i]'(by omega) = (strOfNums xs).data.toList[i]'(by rw [strOfNums_data]; simpa using hi) := rfl
    rw [this]
    simp only [strOfNums_data, List.getElem_map]
    rw [(List.getElem?_eq_some_iff.1 hx).2]
  unfold bt
  rw [dif_pos (show ((i : Int)).toNat < (strOfNums xs ++ r).size by omega)]
  have e2 : (strOfNums xs ++ r)[((i : Int)).toNat]'(by omega) = (strOfNums xs ++ r)[i]'hlt := rfl
  rw [e2, e, UInt8.toNat_ofNat']
  omega
theorem extract_tail (a b : ByteArray) : (a ++ b).extract a.size (a ++ b).size = b := by
  apply ByteArray.ext
  rw [ByteArray.data_extract, ByteArray.data_append]
  show (a.data ++ b.data).extract a.data.size (a ++ b).data.size = b.data
  rw [ByteArray.data_append, Array.size_append]
  generalize a.data = x
  generalize b.data = y
  simp
theorem takeV_nums (xs : List Int) (r : ByteArray) (n : Nat) (x0 v : Int) (hl : xs.length = n) (h0 : xs[0]? = some x0) (hx : 0 ≤ x0 ∧ x0 ≤ 255) (hn : nLen x0 = n) (hv : foldB (strOfNums xs ++ r) (n - 1) (x0 % 64) 1 = v) (hs : sizeV v = n) : takeV (strOfNums xs ++ r) = (v, r, 0) := by
  have hb := bt_nums xs r 0 x0 h0 hx.1 hx.2
  have hz := strOfNums_size xs
  have hn1 := nLen_cases x0
  unfold takeV
  rw [show (((0 : Nat) : Int)) = 0 from rfl] at hb
  rw [hb, hn, if_neg (by rw [ByteArray.size_append]; omega), if_neg (by rw [ByteArray.size_append]; omega), hv]
  unfold finV
  rw [if_pos hs]
  have : n = (strOfNums xs).size := by rw [hz, hl]
  rw [this, extract_tail]
theorem takeV_num (v : Int) (h0 : 0 ≤ v) (h1 : v < 4611686018427387904) (r : ByteArray) : takeV ((numV v).1 ++ r) = (v, r, 0) := by
  unfold numV
  by_cases c1 : v < 64
  · rw [if_pos c1]
    have e := or_low v 0 (by omega) h0 c1
    rw [e, Int.add_zero]
    refine takeV_nums _ r 1 v v rfl rfl (by omega) (by unfold nLen; rw [if_pos (by omega)]) ?_ (by unfold sizeV; rw [if_pos c1]; rfl)
    show v % 64 = v
    omega
  · rw [if_neg c1]
    by_cases c2 : v < 16384
    · rw [if_pos c2, or_low (v / 256) 64 (by omega) (by omega) (by omega)]
      have b1 := bt_nums [v / 256 + 64, v % 256] r 1 _ rfl (by omega) (by omega)
      refine takeV_nums _ r 2 _ v rfl rfl (by omega) (by unfold nLen; rw [if_neg (by omega), if_pos (by omega)]) ?_ (by unfold sizeV; rw [if_neg c1, if_pos c2]; rfl)
      simp only [foldB]
      rw [b1]
      omega
    · rw [if_neg c2]
      by_cases c3 : v < 1073741824
      · rw [if_pos c3, or_low (v / 16777216) 128 (by omega) (by omega) (by omega)]
        have b1 := bt_nums [v / 16777216 + 128, v / 65536 % 256, v / 256 % 256, v % 256] r 1 _ rfl (by omega) (by omega)
        have b2 := bt_nums [v / 16777216 + 128, v / 65536 % 256, v / 256 % 256, v % 256] r 2 _ rfl (by omega) (by omega)
        have b3 := bt_nums [v / 16777216 + 128, v / 65536 % 256, v / 256 % 256, v % 256] r 3 _ rfl (by omega) (by omega)
        refine takeV_nums _ r 4 _ v rfl rfl (by omega) (by unfold nLen; rw [if_neg (by omega), if_neg (by omega), if_pos (by omega)]) ?_ (by unfold sizeV; rw [if_neg c1, if_neg c2, if_pos c3]; rfl)
        simp only [foldB]
        rw [b1, b2, b3]
        omega
      · rw [if_neg c3, if_pos h1, or_low (v / 72057594037927936) 192 (by omega) (by omega) (by omega)]
        generalize hxs : [v / 72057594037927936 + 192, v / 281474976710656 % 256, v / 1099511627776 % 256, v / 4294967296 % 256, v / 16777216 % 256, v / 65536 % 256, v / 256 % 256, v % 256] = xs
        have b1 := bt_nums xs r 1 (v / 281474976710656 % 256) (by rw [← hxs]; rfl) (by omega) (by omega)
        have b2 := bt_nums xs r 2 (v / 1099511627776 % 256) (by rw [← hxs]; rfl) (by omega) (by omega)
        have b3 := bt_nums xs r 3 (v / 4294967296 % 256) (by rw [← hxs]; rfl) (by omega) (by omega)
        have b4 := bt_nums xs r 4 (v / 16777216 % 256) (by rw [← hxs]; rfl) (by omega) (by omega)
        have b5 := bt_nums xs r 5 (v / 65536 % 256) (by rw [← hxs]; rfl) (by omega) (by omega)
        have b6 := bt_nums xs r 6 (v / 256 % 256) (by rw [← hxs]; rfl) (by omega) (by omega)
        have b7 := bt_nums xs r 7 (v % 256) (by rw [← hxs]; rfl) (by omega) (by omega)
        refine takeV_nums xs r 8 (v / 72057594037927936 + 192) v (by rw [← hxs]; rfl) (by rw [← hxs]; rfl) (by omega) (by unfold nLen; rw [if_neg (by omega), if_neg (by omega), if_neg (by omega)]) ?_ (by unfold sizeV; rw [if_neg c1, if_neg c2, if_neg c3, if_pos h1]; rfl)
        simp only [foldB]
        rw [b1, b2, b3, b4, b5, b6, b7]
        omega
end Go.Proofs.Ytlmefnifhbcbcaa.PAll
end
