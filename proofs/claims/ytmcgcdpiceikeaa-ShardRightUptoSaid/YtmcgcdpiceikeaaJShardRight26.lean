/- Joined texts of the claim ShardRight (part 26): contracts of functions and plain laws. -/
import Derived.Test.YtmcgcdpiceikeaaJShardRight1
import Derived.Test.YtmcgcdpiceikeaaJShardRight25
import Derived.BigQuiet
import Derived.Deep.QuietTactic
import Derived.Test.YtmcgcdpiceikeaaJShardRight14
import Derived.Test.YtmcgcdpiceikeaaJShardRight16
import Derived.WalkLawsBesides
section
/- Plain tools: reading of lists and texts as the printed functions do it; the order of texts. -/
namespace Go.Proofs.Ytmcgcdpiceikeaa.PAll
open Go.RowKit Go.Proofs.YtmcgcdpiceikeaaW.PrintWords Go.Proofs.YtmcgcdpiceikeaaW.PrintMore Go.Proofs.Ytmcgcdpiceikeaa
set_option linter.unusedVariables false
theorem wrap_up (j : Nat) (h : j < 9223372036854775807) : wrap64 ((j : Int) + 1) = ((j + 1 : Nat) : Int) := by unfold wrap64; omega
theorem wrap_down (j : Nat) (h : 0 < j) (h2 : j < 9223372036854775807) : wrap64 ((j : Int) - 1) = ((j - 1 : Nat) : Int) := by unfold wrap64; omega
theorem get_mem {α : Type} [Inhabited α] (l : List α) (j : Nat) (hj : j < l.length) : l[j]! ∈ l := by rw [getElem!_pos l j hj]; exact List.getElem_mem hj
theorem drop_get {α : Type} [Inhabited α] (l : List α) (j : Nat) (hj : j < l.length) : l.drop j = l[j]! :: l.drop (j + 1) := by rw [List.drop_eq_getElem_cons hj, getElem!_pos l j hj]
theorem bt_get (s : ByteArray) (j : Nat) (hj : j < s.size) : ∃ b : UInt8, bt s (j : Int) = (b.toNat : Int) ∧ s.toList.drop j = b :: s.toList.drop (j + 1) := by
  have hl : s.toList.length = s.size := by rw [ByteArray.toList_eq, Array.length_toList]; rfl
  refine ⟨s[j], by simp [bt, hj], ?_⟩
  rw [List.drop_eq_getElem_cons (by omega)]
  congr 1
  simp only [ByteArray.toList_eq]
  rfl
theorem toList_len (s : ByteArray) : s.toList.length = s.size := by rw [ByteArray.toList_eq, Array.length_toList]; rfl
theorem Less_l0 (a b : ByteArray) (ha : a.size ≤ 9223372036854775806) : ∀ (d i : Nat), d = a.size - i → i ≤ a.size → i ≤ b.size → ∀ q, 2 * d + 2 < q → ferruleref11_Less.l0 q a b i = some (Op.bytesLess (a.toList.drop i) (b.toList.drop i)) := by
  intro d
  induction d with
  | zero =>
    intro i hd h1 h2 q hq
    obtain ⟨q, rfl⟩ : ∃ m, q = m + 2 := ⟨q - 2, by omega⟩
    have hi : i = a.size := by omega
    simp only [ferruleref11_Less.l0]
    rw [if_neg (show ¬ (i : Int) < a.size by omega)]
    simp only [ferruleref11_Less.j1]
    rw [List.drop_eq_nil_of_le (by rw [toList_len]; omega)]
    rcases Nat.lt_or_ge i b.size with hb | hb
    · obtain ⟨y, _, hy⟩ := bt_get b i hb
      rw [hy]
      simp [Op.bytesLess]; omega
    · rw [List.drop_eq_nil_of_le (by rw [toList_len]; omega)]
      simp [Op.bytesLess]; omega
  | succ d ih =>
    intro i hd h1 h2 q hq
    obtain ⟨q, rfl⟩ : ∃ m, q = m + 2 := ⟨q - 2, by omega⟩
    have hi : i < a.size := by omega
    obtain ⟨x, hx1, hx2⟩ := bt_get a i hi
    simp only [ferruleref11_Less.l0]
    rw [if_pos (show (i : Int) < a.size by omega)]
    simp only [ferruleref11_Less.j1]
    rcases Nat.lt_or_ge i b.size with hb | hb
    · obtain ⟨y, hy1, hy2⟩ := bt_get b i hb
      rw [if_pos (by simp; omega), if_pos (show (0 : Int) ≤ i by omega), if_pos (show (i : Int) < a.size by omega), if_pos (show (i : Int) < b.size by omega), hx1, hy1, hx2, hy2, show wrap64 ((i : Int) + 1) = ((i + 1 : Nat) : Int) by unfold wrap64; omega]
      by_cases he : (x.toNat : Int) = y.toNat
      · rw [if_pos he, ih (i + 1) (by omega) (by omega) (by omega) q (by omega)]
        have hxy : x = y := UInt8.toNat_inj.1 (by omega)
        subst hxy
        simp [Op.bytesLess]
      · rw [if_neg he]
        have hxy : ¬ x = y := fun e => he (by rw [e])
        simp only [Op.bytesLess, Option.some.injEq]
        rw [show (x == y) = false by simpa using hxy, Bool.false_and, Bool.or_false]
        by_cases hl : x.toNat < y.toNat
        · rw [decide_eq_true (by omega), eq_comm, decide_eq_true_eq]; exact UInt8.lt_iff_toNat_lt.2 hl
        · rw [decide_eq_false (by omega), eq_comm, decide_eq_false_iff_not]; exact fun h => hl (UInt8.lt_iff_toNat_lt.1 h)
    · rw [if_neg (by simp; omega), hx2, show b.toList.drop i = [] from List.drop_eq_nil_of_le (by rw [toList_len]; omega)]
      simp [Op.bytesLess]; omega
theorem Less_ev (a b : ByteArray) (ha : a.size ≤ 9223372036854775806) : Ev (fun k => ferruleref11_Less.f k a b) (Op.bytesLess a.toList b.toList) :=
  ⟨2 * a.size + 3, fun k hk => by
    have := Less_l0 a b ha a.size 0 (by omega) (by omega) (by omega) k (by omega)
    simpa [ferruleref11_Less.f] using this⟩
theorem less_flip : ∀ (a b : List UInt8), Op.bytesLess a b = (!Op.bytesLess b a && !b == a)
  | [], [] => rfl
  | [], b :: y => by simp [Op.bytesLess]
  | a :: x, [] => by simp [Op.bytesLess]
  | a :: x, b :: y => by
    simp only [Op.bytesLess]
    rw [less_flip x y]
    by_cases h : a = b
    · subst h
      simp
    · have h1 : (a == b) = false := by simpa using h
      have h2 : (b == a) = false := by simpa using fun e => h e.symm
      rw [h1, h2]
      simp only [Bool.false_and, Bool.or_false]
      have h3 : ((b :: y) == (a :: x)) = false := by simp [h2]
      rw [h3]
      simp only [Bool.not_false, Bool.and_true]
      rw [Bool.eq_iff_iff]
      simp only [decide_eq_true_eq, Bool.not_eq_true', decide_eq_false_iff_not]
      constructor
      · exact fun h4 h5 => h (UInt8.toNat_inj.1 (by have := UInt8.lt_iff_toNat_lt.1 h4; have := UInt8.lt_iff_toNat_lt.1 h5; omega))
      · intro h4
        have h5 : a.toNat ≠ b.toNat := fun e => h (UInt8.toNat_inj.1 e)
        rw [UInt8.lt_iff_toNat_lt] at h4 ⊢
        omega
end Go.Proofs.Ytmcgcdpiceikeaa.PAll
end
section
/- rows.Right, as the printed texts call it. -/
namespace Go.Proofs.Ytmcgcdpiceikeaa.PAll
open Go.RowKit Go.Proofs.YtmcgcdpiceikeaaW.PrintWords Go.Proofs.Ytmcgcdpiceikeaa
set_option linter.unusedVariables false
/-- Is the j-th row as it must be? -/
def okR (l : List S50) (j : Nat) : Bool := (decide (1 ≤ (l[j]!).f0.size) && decide ((l[j]!).f0.size ≤ 16)) && decide ((l[j]!).f1.size ≤ 32) && decide ((l[j]!).f2 ≤ 4611686018427387903) && (decide (j = 0) || Op.bytesLess (l[j - 1]!).f0.toList (l[j]!).f0.toList)
def rightR (l : List S50) : Bool := (List.range l.length).all (okR l) && decide (l.length ≤ 32)
theorem ok_snoc (l : List S50) (k : Nat) (h : okR l k = true) (no : ∀ j, j < k → okR l j = true) : ∀ j, j < k + 1 → okR l j = true := fun j hj => by
  by_cases e : j = k
  · rw [e]; exact h
  · exact no j (by omega)
theorem ret_bool {a b : Bool} (h : a = b) : Ending.returned (.bool a) = .returned (.bool b) := by rw [h]
theorem rightR_no (l : List S50) (j : Nat) (hj : j < l.length) (h : okR l j = false) : rightR l = false := by
  unfold rightR
  rw [Bool.and_eq_false_iff]
  left
  rw [List.all_eq_false]
  exact ⟨j, List.mem_range.2 hj, by simp [h]⟩
theorem rightR_yes (l : List S50) (h : ∀ j, j < l.length → okR l j = true) : rightR l = decide (l.length ≤ 32) := by
  unfold rightR
  rw [List.all_eq_true.2 (fun j hj => h j (List.mem_range.1 hj)), Bool.true_and]
def rows_Right.f (l0 : List S50) : Option Bool := some (rightR l0)
set_option maxHeartbeats 1000000 in
set_option maxRecDepth 100000 in
theorem named_calls (s : ByteArray) (w : World) : Calls Try.prog 73 #[.string s] w fun e w' => e = .returned (.bool (decide (1 ≤ s.size) && decide (s.size ≤ 16))) ∧ w' = w := by
  by_cases h1 : 1 ≤ s.size
  · have d1 : decide ((1 : Int) ≤ (s.size : Int)) = true := decide_eq_true (by omega)
    by_cases h2 : s.size ≤ 16
    · have d2 : decide ((s.size : Int) ≤ 16) = true := decide_eq_true (by omega)
      go_enter Try.func73, Try.ntmps73
      go_wp2
      go_ret
      exact ⟨by rw [decide_eq_true h1, decide_eq_true h2]; rfl, rfl⟩
    · have d2 : decide ((s.size : Int) ≤ 16) = false := decide_eq_false (by omega)
      go_enter Try.func73, Try.ntmps73
      go_wp2
      go_ret
      exact ⟨by rw [decide_eq_true h1, decide_eq_false h2]; rfl, rfl⟩
  · have d1 : decide ((1 : Int) ≤ (s.size : Int)) = false := decide_eq_false (by omega)
    go_enter Try.func73, Try.ntmps73
    go_wp2
    go_ret
    exact ⟨by rw [decide_eq_false h1]; rfl, rfl⟩
set_option maxHeartbeats 2000000 in
set_option maxRecDepth 100000 in
theorem rows_Right.calls (A0 : Option Addr) (c0 : Nat) (l0 : List S50) (r : Bool) (w : World) (hr0 : Kd.C k50 w A0 l0.length l0) (hc0 : l0.length ≤ c0) (h : rows_Right.f l0 = some r) :
    Calls Try.prog 38 #[.slice A0 l0.length c0] w fun e w' => e = .returned (.bool r) ∧ Below w.heap.size w w' := by
  obtain rfl := Option.some.inj h
  have HR := Aside0.mk hr0
  have HM := hr0.2.1
  clear h hr0
  go_enter Try.func38, Try.ntmps38
  go_wp2
  go_loopg [7] l0.length (fun gg s7 wr => ∃ kk : Nat, kk ≤ l0.length ∧ l0.length - kk ≤ gg ∧ s7 = .int .i64 kk ∧ Aside0 (Below w.heap.size w wr) ∧ Aside0 (∀ j, j < kk → okR l0 j = true))
  case atStart => exact ⟨0, Nat.zero_le _, by omega, rfl, ⟨Below.refl _ w⟩, ⟨fun j hj => absurd hj (Nat.not_lt_zero _)⟩⟩
  case round =>
    obtain ⟨kk, hkk, hg, rfl, BW, NO⟩ := hrel
    by_cases hlt : kk < l0.length
    · have hltz : (kk : Int) < (l0.length : Int) := by omega
      obtain ⟨b, o, rfl, hrow⟩ := C_row (Kd.C_below HR.out BW.out) (by decide) (by omega)
      obtain ⟨cs, hcs, hK, hrg⟩ := hrow kk hlt
      obtain rfl := flat50.openK _ _ _ hK
      have hc0_ : wr.cell? ⟨b, o + kk * 3, none⟩ = some (.string (l0[kk]!).f0) := hrg 0 _ rfl
      have hc1_ : wr.cell? ⟨b, o + kk * 3 + 1, none⟩ = some (.string (l0[kk]!).f1) := hrg 1 _ rfl
      have hc2_ : wr.cell? ⟨b, o + kk * 3 + 2, none⟩ = some (.int .u64 (l0[kk]!).f2) := hrg 2 _ rfl
      have hp : 0 < kk → wr.cell? ⟨b, o + (kk - 1) * 3, none⟩ = some (.string (l0[kk - 1]!).f0) := fun h0 => by
        obtain ⟨cs', _, hK', hrg'⟩ := hrow (kk - 1) (by omega)
        obtain rfl := flat50.openK _ _ _ hK'
        exact hrg' 0 _ rfl
      have HOK := Aside0.mk (show okR l0 kk = ((decide (1 ≤ (l0[kk]!).f0.size) && decide ((l0[kk]!).f0.size ≤ 16)) && decide ((l0[kk]!).f1.size ≤ 32) && decide ((l0[kk]!).f2 ≤ 4611686018427387903) && (decide (kk = 0) || Op.bytesLess (l0[kk - 1]!).f0.toList (l0[kk]!).f0.toList)) from rfl)
      have HP := Aside0.mk hp
      clear hp hrow hrg hK hcs HR
      obtain ⟨x, hx⟩ : ∃ x, x = l0[kk]! := ⟨_, rfl⟩
      obtain ⟨y, hy⟩ : ∃ y, y = l0[kk - 1]! := ⟨_, rfl⟩
      rw [← hx] at hc0_ hc1_ hc2_ HOK
      rw [← hy] at HP HOK
      clear hx hy
      have hbl := World.block_lt_of_cell? wr _ hc0_
      have HOK2 := Aside0.mk (rightR_no l0 kk hlt)
      have HNM := Aside0.mk (fun W => named_calls x.f0 W)
      obtain ⟨nb, hnb⟩ : ∃ nb, nb = (decide (1 ≤ x.f0.size) && decide (x.f0.size ≤ 16)) := ⟨_, rfl⟩
      rw [← hnb] at HOK HNM
      clear hnb
      cases nb with
      | false =>
        have hno : Aside0 (okR l0 kk = false) := ⟨by rw [HOK.out]; rfl⟩
        go_wp2
        go_quiet ((go_at_call 73; exact Calls.quiet_of_same (HNM.out _)))
        go_wp2
        go_ret
        exact ⟨by rw [HOK2.out hno.out]; rfl, (BW.out.alloc BW.out.size _).trans (by first | exact Below.refl _ _ | exact (Below.refl _ _).drew | exact (pw_below_drewN (Below.refl _ _) _))⟩
      | true =>
        by_cases c1 : (32 : Int) < x.f1.size
        · have hno : Aside0 (okR l0 kk = false) := ⟨by rw [HOK.out, show decide (x.f1.size ≤ 32) = false from decide_eq_false (by omega)]; rfl⟩
          have c1b : decide ((32 : Int) < x.f1.size) = true := decide_eq_true c1
          clear c1
          go_wp2
          go_quiet ((go_at_call 73; exact Calls.quiet_of_same (HNM.out _)))
          go_wp2
          go_ret
          exact ⟨by rw [HOK2.out hno.out]; rfl, (BW.out.alloc BW.out.size _).trans (by first | exact Below.refl _ _ | exact (Below.refl _ _).drew | exact (pw_below_drewN (Below.refl _ _) _))⟩
        · have c1b : decide ((32 : Int) < x.f1.size) = false := decide_eq_false c1
          have c1c := Aside0.mk (show decide (x.f1.size ≤ 32) = true from decide_eq_true (by omega))
          clear c1
          by_cases c2 : 4611686018427387903 < x.f2
          · have hno : Aside0 (okR l0 kk = false) := ⟨by rw [HOK.out, c1c.out, show decide (x.f2 ≤ 4611686018427387903) = false from decide_eq_false (by omega)]; rfl⟩
            have c2b : decide (4611686018427387903 < x.f2) = true := decide_eq_true c2
            clear c2
            go_wp2
            go_quiet ((go_at_call 73; exact Calls.quiet_of_same (HNM.out _)))
            go_wp2
            go_ret
            exact ⟨by rw [HOK2.out hno.out]; rfl, (BW.out.alloc BW.out.size _).trans (by first | exact Below.refl _ _ | exact (Below.refl _ _).drew | exact (pw_below_drewN (Below.refl _ _) _))⟩
          · have c2b : decide (4611686018427387903 < x.f2) = false := decide_eq_false c2
            have c2c := Aside0.mk (show decide (x.f2 ≤ 4611686018427387903) = true from decide_eq_true (by omega))
            clear c2
            by_cases c3 : kk = 0
            · have hyes : Aside0 (okR l0 kk = true) := ⟨by rw [HOK.out, c1c.out, c2c.out, c3]; rfl⟩
              have c3b : decide (0 < kk) = false := decide_eq_false (by omega)
              clear c3
              go_wp2
              go_quiet ((go_at_call 73; exact Calls.quiet_of_same (HNM.out _)))
              go_wp2
              go_roundg (l0.length - (kk + 1))
              case measure => omega
              case rel => exact ⟨kk + 1, by omega, by omega, by go_num, ⟨(BW.out.alloc BW.out.size _).trans (by first | exact Below.refl _ _ | exact (Below.refl _ _).drew | exact (pw_below_drewN (Below.refl _ _) _))⟩, ⟨ok_snoc l0 kk hyes.out NO.out⟩⟩
            · have c3b : decide (0 < kk) = true := decide_eq_true (by omega)
              have hc3_ := HP.out (by omega)
              have hz1 : IntKind.i64.wrap ((kk : Int) - 1) = (kk : Int) - 1 := by rw [IntKind.wrap_i64]; omega
              have hz2 : (0 : Int) ≤ (kk : Int) - 1 := by omega
              have hz3 : (kk : Int) - 1 < (l0.length : Int) := by omega
              have hz4 : ((kk : Int) - 1).toNat = kk - 1 := by omega
              have c3c := Aside0.mk (show decide (kk = 0) = false from decide_eq_false c3)
              clear c3 HP
              cases c4 : Op.bytesLess y.f0.toList x.f0.toList with
              | true =>
                have hyes : Aside0 (okR l0 kk = true) := ⟨by rw [HOK.out, c1c.out, c2c.out, c3c.out, c4]; rfl⟩
                go_wp2
                go_quiet ((go_at_call 73; exact Calls.quiet_of_same (HNM.out _)))
                go_wp2
                go_roundg (l0.length - (kk + 1))
                case measure => omega
                case rel => exact ⟨kk + 1, by omega, by omega, by go_num, ⟨(BW.out.alloc BW.out.size _).trans (by first | exact Below.refl _ _ | exact (Below.refl _ _).drew | exact (pw_below_drewN (Below.refl _ _) _))⟩, ⟨ok_snoc l0 kk hyes.out NO.out⟩⟩
              | false =>
                have hno : Aside0 (okR l0 kk = false) := ⟨by rw [HOK.out, c1c.out, c2c.out, c3c.out, c4]; rfl⟩
                go_wp2
                go_quiet ((go_at_call 73; exact Calls.quiet_of_same (HNM.out _)))
                go_wp2
                go_ret
                exact ⟨by rw [HOK2.out hno.out]; rfl, (BW.out.alloc BW.out.size _).trans (by first | exact Below.refl _ _ | exact (Below.refl _ _).drew | exact (pw_below_drewN (Below.refl _ _) _))⟩
    · have hltz : ¬ (kk : Int) < (l0.length : Int) := by omega
      have he : Aside0 (kk = l0.length) := ⟨by omega⟩
      have hy := Aside0.mk (rightR_yes l0 (he.out ▸ NO.out))
      clear hkk hlt HR
      go_wp2
      go_ret
      exact ⟨ret_bool (by rw [hy.out]; exact decide_eq_decide.2 (by omega)), BW.out⟩
end Go.Proofs.Ytmcgcdpiceikeaa.PAll
end
section
/- Contracts of slices.Clone, slices.IndexFunc at rows, and of rows.at, as the printed texts call them; the closures of rows.at and rows.Do. -/
namespace Go.Proofs.Ytmcgcdpiceikeaa.PAll
open Go.RowKit Go.Proofs.YtmcgcdpiceikeaaW.PrintWords Go.Proofs.Ytmcgcdpiceikeaa
set_option linter.unusedVariables false
def api_Row_91.f (l0 : List S50) : Option (List S50) := if l0.length < 3518437208883 then some l0 else none
theorem api_Row_91.calls (A0 : Option Addr) (c0 : Nat) (l0 : List S50) (r : List S50) (w : World) (hr0 : Kd.C k50 w A0 l0.length l0) (hc0 : l0.length ≤ c0) (h : api_Row_91.f l0 = some r) :
    Calls Try.prog 91 #[.slice A0 l0.length c0] w fun e w' => ∃ v0_ : Value, e = .returned (v0_) ∧ Kd.R k50 50 w' w.heap.size (fun _ => True) v0_ r ∧ Below w.heap.size w w' := by
  unfold api_Row_91.f at h
  split at h
  · obtain rfl := Option.some.inj h
    refine (CloneRow _ (l0.map enc50) w (flat50.sl ⟨A0, c0, rfl, hc0, hr0⟩) (by rw [List.length_map]; omega)).mono ?_
    rintro e w' ⟨v, he, ho, hb⟩
    exact ⟨v, he, flat50.R ho (fun _ _ => trivial), hb⟩
  · cases h
theorem rowsAt1 (B : Nat) (text : ByteArray) (x : S50) (W : World) (hB : W.cell? ⟨B, 0, none⟩ = some (.string text)) :
    Calls Try.prog 99 #[.agg (enc50 x).toArray, .pointer (some ⟨B, 0, none⟩)] W fun e W' => e = .returned (.bool (x.f0.toList == text.toList)) ∧ Below W.heap.size W W' := by
  unfold enc50
  have hlt := World.block_lt_of_cell? W _ hB
  have hc : (W.alloc (.cells #[.string x.f0, .string x.f1, .int .u64 x.f2] 50)).cell? ⟨B, 0, none⟩ = some (.string text) := (Below.cell ((Below.refl _ W).alloc (Nat.le_refl _) _) hlt).trans hB
  go_enter Try.func99, Try.ntmps99
  go_wp2
  go_ret
  exact ⟨rfl, (Below.refl _ W).alloc (Nat.le_refl _) _⟩
theorem rowsDo1 (B : Nat) (text : ByteArray) (x : S50) (W : World) (hB : W.cell? ⟨B, 0, none⟩ = some (.string text)) :
    Calls Try.prog 101 #[.agg (enc50 x).toArray, .pointer (some ⟨B, 0, none⟩)] W fun e W' => e = .returned (.bool (x.f0.toList == text.toList)) ∧ Below W.heap.size W W' := by
  unfold enc50
  have hlt := World.block_lt_of_cell? W _ hB
  have hc : (W.alloc (.cells #[.string x.f0, .string x.f1, .int .u64 x.f2] 50)).cell? ⟨B, 0, none⟩ = some (.string text) := (Below.cell ((Below.refl _ W).alloc (Nat.le_refl _) _) hlt).trans hB
  go_enter Try.func101, Try.ntmps101
  go_wp2
  go_ret
  exact ⟨rfl, (Below.refl _ W).alloc (Nat.le_refl _) _⟩
theorem rowsDo2 (B : Nat) (text : ByteArray) (x : S50) (W : World) (hB : W.cell? ⟨B, 0, none⟩ = some (.string text)) :
    Calls Try.prog 102 #[.agg (enc50 x).toArray, .pointer (some ⟨B, 0, none⟩)] W fun e W' => e = .returned (.bool (!Op.bytesLess x.f0.toList text.toList && !x.f0.toList == text.toList)) ∧ Below W.heap.size W W' := by
  unfold enc50
  have hlt := World.block_lt_of_cell? W _ hB
  have hc : (W.alloc (.cells #[.string x.f0, .string x.f1, .int .u64 x.f2] 50)).cell? ⟨B, 0, none⟩ = some (.string text) := (Below.cell ((Below.refl _ W).alloc (Nat.le_refl _) _) hlt).trans hB
  go_enter Try.func102, Try.ntmps102
  go_wp2
  go_ret
  exact ⟨rfl, (Below.refl _ W).alloc (Nat.le_refl _) _⟩
def rows_at.f (l0 : List S50) (a1 : ByteArray) : Option Int := some (findI (fun x : S50 => x.f0.toList == a1.toList) l0)
theorem rows_at_sl (v : Value) (l0 : List S50) (a1 : ByteArray) (w : World) (hv : Sl k50 w v l0) :
    Calls Try.prog 90 #[v, .string a1] w fun e w' => e = .returned (.int .i64 (findI (fun x : S50 => x.f0.toList == a1.toList) l0)) ∧ Below w.heap.size w w' := by
  have HV := Aside0.mk hv
  clear hv
  go_enter Try.func90, Try.ntmps90
  have hcell : (w.alloc (.cells #[.string a1] 9)).cell? ⟨w.heap.size, 0, none⟩ = some (.string a1) := cell_row (cs := [.string a1]) (heap_alloc_new w _) 0
  have HP := Aside0.mk (show Pred Try.prog 99 #[.pointer (some ⟨w.heap.size, 0, none⟩)] (fun cs => .agg cs.toArray) k50 (w.alloc (.cells #[.string a1] 9)) l0 (fun x => x.f0.toList == a1.toList) from fun W x cs hb _ hK => by
    obtain rfl := flat50.openK _ _ _ hK
    exact rowsAt1 w.heap.size a1 x W ((hb.cell (World.block_lt_of_cell? _ _ hcell)).trans hcell))
  clear hcell
  go_wp2_with (go_at_call 98; refine (IndexFuncRow k50 rfl (fun x => x.f0.toList == a1.toList) 99 #[.pointer (some ⟨w.heap.size, 0, none⟩)] (enters_of Try.func99 (by kernel_rfl) rfl) v l0 _ (HV.out.below ((Below.refl _ w).alloc (Nat.le_refl _) _)) HP.out).mono ?_; rintro e w2 ⟨rfl, hb2⟩)
  go_ret
  exact ⟨rfl, ((Below.refl _ w).alloc (Nat.le_refl _) _).trans (hb2.mono (by simp))⟩
theorem rows_at.calls (A0 : Option Addr) (c0 : Nat) (l0 : List S50) (a1 : ByteArray) (r : Int) (w : World) (hr0 : Kd.C k50 w A0 l0.length l0) (hc0 : l0.length ≤ c0) (h : rows_at.f l0 a1 = some r) :
    Calls Try.prog 90 #[.slice A0 l0.length c0, .string a1] w fun e w' => e = .returned (.int .i64 r) ∧ Below w.heap.size w w' := by
  obtain rfl := Option.some.inj h
  exact rows_at_sl _ l0 a1 w ⟨A0, c0, rfl, hc0, hr0⟩
end Go.Proofs.Ytmcgcdpiceikeaa.PAll
end
