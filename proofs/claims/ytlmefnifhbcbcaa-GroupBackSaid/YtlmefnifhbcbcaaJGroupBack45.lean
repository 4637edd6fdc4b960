/- Joined texts of the claim GroupBack (part 45): contracts of functions and plain laws. -/
import Derived.Outline
import Derived.Test.YtlmefnifhbcbcaaJGroupBack14
import Derived.Test.YtlmefnifhbcbcaaJGroupBack23
import Derived.Test.YtlmefnifhbcbcaaJGroupBack42
import Derived.Test.YtlmefnifhbcbcaaJGroupBack44
section
/- pack.Nums, as the printed texts call it. -/
namespace Go.Proofs.Ytlmefnifhbcbcaa.PAll
open Go.RowKit Go.Proofs.YtlmefnifhbcbcaaW.PrintWords Go.Proofs.YtlmefnifhbcbcaaW.PrintMore Go.Proofs.Ytlmefnifhbcbcaa
set_option linter.unusedVariables false
def numsD (L : List Int) (k : Nat) : List UInt8 := ((L.take k).map (fun x => (numV x).1.data.toList)).flatten
def lenL (l : List Int) : List Int := (l.length : Int) :: l
def numsV (l : List Int) : ByteArray := ⟨(numsD (lenL l) (lenL l).length).toArray⟩
def goodN (l : List Int) : Bool := l.all (fun x => decide (0 ≤ x) && decide (x < 4611686018427387904))
def pack_Nums.f (l0 : List Int) : Option (ByteArray × Int) := if goodN l0 = true ∧ l0.length ≤ 1000 then some (numsV l0, 0) else none
theorem numV_size (v : Int) : (numV v).1.size ≤ 8 := by
  unfold numV
  repeat' split
  all_goals (first | decide | exact Nat.le_of_ble_eq_true rfl | (simp [strOfNums, ByteArray.size]; done))
theorem numV_pos (v : Int) (h : v < 4611686018427387904) : (numV v).1.data.toList ≠ [] := by
  unfold numV
  repeat' split
  all_goals (first | omega | (intro hh; cases hh))
theorem numV_ok (v : Int) (h : v < 4611686018427387904) : (numV v).2 = 0 := by
  unfold numV
  repeat' split
  all_goals (first | omega | rfl)
theorem good_at {l : List Int} (h : goodN l = true) (hl : l.length ≤ 1000) (j : Nat) (hj : j < (lenL l).length) : 0 ≤ (lenL l)[j]! ∧ (lenL l)[j]! < 4611686018427387904 := by
  have hm := getMem (lenL l) j hj
  unfold lenL at *
  rcases List.mem_cons.1 hm with e | hm
  · rw [e]; omega
  · have := List.all_eq_true.1 h _ hm
    simp only [Bool.and_eq_true, decide_eq_true_eq] at this
    exact this
theorem numsD_step (L : List Int) (k : Nat) (h : k < L.length) : numsD L (k + 1) = numsD L k ++ (numV L[k]!).1.data.toList := by
  unfold numsD
  rw [takeGet L k h, List.map_append, List.flatten_append]
  simp
theorem numsD_cells (L : List Int) (k : Nat) (h : k < L.length) : Lib.byteCells (numsD L (k + 1)) = Lib.byteCells (numsD L k) ++ Lib.strCells (numV L[k]!).1 := by
  rw [numsD_step L k h, Lib.strCells_eq]
  simp [Lib.byteCells]
theorem numsD_ne (l : List Int) (h : l.length ≤ 1000) : numsD (lenL l) (lenL l).length ≠ [] := by
  unfold numsD lenL
  rw [List.take_length, List.map_cons, List.flatten_cons]
  intro e
  exact numV_pos (l.length : Int) (by omega) (List.append_eq_nil_iff.1 e).1
set_option maxHeartbeats 2000000 in
set_option maxRecDepth 100000 in
theorem pack_Nums.calls (A0 : Option Addr) (c0 : Nat) (l0 : List Int) (r1 : ByteArray) (r2 : Int) (w : World) (hr0 : Kd.C (Kd.int .u64) w A0 l0.length l0) (hc0 : l0.length ≤ c0) (h : pack_Nums.f l0 = some (r1, r2)) :
    Calls Try.prog 73 #[.slice A0 l0.length c0] w fun e w' => e = .returned (.tuple #[.string r1, .int .i64 r2]) ∧ Below w.heap.size w w' := by
  have HR := Aside0.mk hr0
  have HC := Aside0.mk hc0
  have HM := hr0.2.1
  unfold pack_Nums.f at h
  split at h
  case isFalse => cases h
  rename_i hg
  obtain ⟨hgood, hlen⟩ := hg
  obtain ⟨rfl, rfl⟩ := Prod.mk.inj (Option.some.inj h)
  have HG := Aside0.mk (good_at hgood hlen)
  have HNE := Aside0.mk (numsD_ne l0 hlen)
  have HLL : Aside0 ((lenL l0).length = l0.length + 1) := ⟨by unfold lenL; simp⟩
  have hz0 : (0 : Int) ≤ (l0.length : Int) := by omega
  have hz1 : (l0.length : Int) ≤ 18446744073709551615 := by omega
  clear h hr0 hc0 hgood
  go_enter Try.func73, Try.ntmps73
  go_wp2_with (first
    | ((with_reducible refine gate_dst (N := 12) rfl ?_); refine Kd.R_lit (Kd.int .u64) _ 22 ?hg (N := 12) ?hd (xs := ([(l0.length : Int)] : List Int)) (inner := [.int .u64 (l0.length : Int)]) (ok := fun _ => True) (okp := fun _ => True) ?hr ?hp (fun _ hk => hk) trivial (Below.refl _ _) (Nat.le_refl _) (by simp) ?_; (case hd => rfl); (case hg => rfl); (case hr => first | (go_simp; done) | (go_simp; rfl)); (case hp => exact (Reps.one (show Kd.M (Kd.int .u64) _ _ _ (l0.length : Int) [.int .u64 (l0.length : Int)] from rfl) (Reps.none _ _))); intro v5 w5 ho5 hb5 hg5 hn5)
    | (at_builtin; refine Kd.R_append_rows (Kd.int .u64) (w0 := w.alloc (.cells #[.pointer none, .slice none 0 0] 123)) (w.alloc (.cells #[.pointer none, .slice none 0 0] 123)).heap.size rfl (.tmp 12) (.tmp 13) 26 22 (.int .u64 0) 8 rfl Try.underlying26 info22 rfl (by decide) (by omega) v5 [(l0.length : Int)] l0 A0 l0.length c0 (fun _ => True) (fun _ => False) rfl rfl ho5 (Kd.C_below HR.out (((Below.refl w.heap.size w).alloc (Nat.le_refl _) _).trans (hb5.mono (by simp)))) (fun _ _ h => h) (fun _ h => h.elim) (fun _ _ => trivial) hb5 hb5.size ?aL ?_; (case aL => simp; omega); intro v7 w7 ho7 hb7 hg7 hn7; obtain ⟨g7, c7, rfl, hbg7, hlg7, cl7, hty7⟩ := Kd.R_form ho7 (by simp); obtain ⟨_, hle7, hC7⟩ := Kd.R_reads' ho7))
  have HC7 : Aside0 (Kd.C (Kd.int .u64) w7 (some ⟨g7, 0, none⟩) (lenL l0).length (lenL l0)) := ⟨hC7⟩
  have HCC : Aside0 (l0.length + 1 ≤ c7) := ⟨by simpa using hle7⟩
  have HB0 : Aside0 (Below w.heap.size w w7) := ⟨((Below.refl w.heap.size w).alloc (Nat.le_refl _) _).trans (hb7.mono (by simp))⟩
  have HI0 : Aside0 (Lib.IsBuilder 123 5 w.heap.size w.heap.size (Lib.byteCells (numsD (lenL l0) 0)) w7) := ⟨by have := builder_kept (builder_new w) hb7; exact this⟩
  have HTY := Aside0.mk hty7
  have HG7 : Aside0 (w.heap.size < g7 ∧ g7 < w7.heap.size) := ⟨⟨by simp at hbg7; omega, hlg7⟩⟩
  clear ho7 hg7 hn7 hle7 hC7 hty7 hbg7 hlg7 ho5 hb5 hg5 hn5 hb7 HR
  go_loopg [16] (l0.length + 1) (fun gg s16 wr => ∃ kk : Nat, kk ≤ l0.length + 1 ∧ l0.length + 1 - kk ≤ gg ∧ s16 = .int .i64 kk ∧ Aside0 (Below w.heap.size w wr) ∧ Aside0 (wr.heap[g7]? = w7.heap[g7]? ∧ w7.heap.size ≤ wr.heap.size) ∧ Aside0 (Lib.IsBuilder 123 5 w.heap.size w.heap.size (Lib.byteCells (numsD (lenL l0) kk)) wr) ∧ Aside0 ((numsD (lenL l0) kk).length ≤ 8 * kk))
  case atStart => exact ⟨0, Nat.zero_le _, by omega, rfl, HB0, ⟨⟨rfl, Nat.le_refl _⟩⟩, HI0, ⟨by unfold numsD; simp⟩⟩
  case round =>
    obtain ⟨kk, hkk, hg, rfl, BW, B7, IS, LS⟩ := hrel
    by_cases hlt : kk < l0.length + 1
    · have hltz : (kk : Int) < (l0.length : Int) + 1 := by omega
      have hlt' : kk < (lenL l0).length := by rw [HLL.out]; exact hlt
      obtain ⟨b, o, hbo, hc0w⟩ := cell_ofI HC7.out kk hlt'
      obtain ⟨rfl, rfl⟩ : g7 = b ∧ 0 = o := by injection hbo with h1; injection h1 with h2 h3 _; exact ⟨h2, h3⟩
      have hc0_ : wr.cell? ⟨g7, kk, none⟩ = some (.int .u64 (lenL l0)[kk]!) := (cell_same B7.out.1).trans (by rw [Nat.zero_add] at hc0w; exact hc0w)
      clear hbo hc0w
      obtain ⟨z0, z1⟩ := HG.out kk hlt'
      have HST := Aside0.mk (numsD_cells (lenL l0) kk hlt')
      have HST2 := Aside0.mk (numsD_step (lenL l0) kk hlt')
      clear HC7
      generalize (lenL l0)[kk]! = x at *
      have HNS := Aside0.mk (numV_size x)
      have HN2 := Aside0.mk (show pack_Num.f x = some ((numV x).1, 0) by unfold pack_Num.f; rw [if_pos ⟨z0, by omega⟩, ← numV_ok x z1])
      generalize (numV x).1 = s1 at *
      go_wp2_with (first
        | (go_at_call 88; ((with_reducible refine (pack_Num.calls x s1 0 _ HN2.out).mono ?_); rintro e w4 ⟨rfl, hb4⟩; have HB4 := Aside0.mk hb4; clear hb4))
        | (go_at_call 89; refine (WriteString3 w.heap.size w.heap.size (Lib.byteCells (numsD (lenL l0) kk)) s1 _ (builder_kept IS.out HB4.out) (by have := LS.out; have h2 := HNS.out; rw [Lib.byteCells_length]; omega) (by have a := BW.out.size; have b := HB4.out.size; omega)).mono ?_; rintro e w5 ⟨rfl, ⟨hI, hb5⟩, hk5⟩; have HK5 := Aside0.mk hk5; clear hk5; have HB5 := Aside0.mk hb5; have HI := Aside0.mk hI; clear hb5 hI))
      go_roundg (l0.length + 1 - (kk + 1))
      case measure => omega
      case rel =>
        refine ⟨kk + 1, by omega, by omega, by go_num, ⟨BW.out.trans ((HB4.out.mono BW.out.size).trans HB5.out)⟩, ⟨?_⟩, ⟨.inr ?_⟩, ⟨?_⟩⟩
        · have e1 := HB4.out.block g7 (Nat.lt_of_lt_of_le HG7.out.2 B7.out.2)
          have e2 := HK5.out.1 g7 (Nat.lt_of_lt_of_le HG7.out.2 (Nat.le_trans B7.out.2 HB4.out.size)) (by have := HG7.out.1; omega) (fun cur e => by
            have h3 := (e1.trans B7.out.1).trans HTY.out
            rw [e] at h3
            have h4 := Option.some.inj h3
            injection h4 with _ h5 _
            exact absurd h5 (by decide))
          exact ⟨e2.trans (e1.trans B7.out.1), Nat.le_trans B7.out.2 (Nat.le_trans HB4.out.size HK5.out.2)⟩
        · have h := HI.out
          rw [HST.out]
          exact h
        · have h2 := HNS.out
          have h3 := LS.out
          rw [HST2.out, List.length_append]
          have : s1.data.toList.length = s1.size := by rw [Array.length_toList]; rfl
          omega
    · have hltz : ¬ (kk : Int) < (l0.length : Int) + 1 := by omega
      obtain rfl : kk = l0.length + 1 := by omega
      have IS2 : Aside0 (Lib.IsBuilder 123 5 w.heap.size w.heap.size (Lib.byteCells (numsD (lenL l0) (lenL l0).length)) wr) := ⟨by rw [HLL.out]; exact IS.out⟩
      go_wp2_with (go_at_call 90; refine (BuilderString w.heap.size w.heap.size (numsD (lenL l0) (lenL l0).length) _ IS2.out HNE.out).mono ?_; rintro e w8 ⟨rfl, hb8⟩; have HB8 := Aside0.mk hb8; clear hb8)
      go_ret2
      exact ⟨rfl, BW.out.trans HB8.out⟩
end Go.Proofs.Ytlmefnifhbcbcaa.PAll
end
