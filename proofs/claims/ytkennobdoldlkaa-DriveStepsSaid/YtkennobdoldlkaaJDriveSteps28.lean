/- Joined texts of the claim DriveSteps (part 28): contracts of functions and plain laws. -/
import Derived.Maps.Keyed
import Derived.Maps.OwnSet
import Derived.Maps.Views
import Derived.RangeFuncBound
import Derived.Test.YtkennobdoldlkaaJDriveSteps15
import Derived.Test.YtkennobdoldlkaaJDriveSteps17
import Derived.Test.YtkennobdoldlkaaJDriveSteps27
set_option linter.unusedVariables false
set_option linter.unusedSimpArgs false
section
namespace Go.Proofs.Ytkennobdoldlkaa.PAll
open Go.RowKit Go.WideMaps Go.Maps Go.Proofs.YtkennobdoldlkaaW.PrintWords Go.Proofs.Ytkennobdoldlkaa
def insU : List Int → Int → List Int
  | [], g => [g]
  | a :: r, g => if a < g then a :: insU r g else if a = g then a :: r else g :: a :: r
def qz20 (l : List S53) : List Int := (l.map (fun x => x.f0)).foldl insU []
theorem mem_insU (x g : Int) : ∀ l : List Int, x ∈ insU l g ↔ x ∈ l ∨ x = g
  | [] => by simp [insU]
  | a :: r => by
    unfold insU
    split
    · rw [List.mem_cons, mem_insU x g r, List.mem_cons, or_assoc]
    · split
      · rename_i h; subst h; rw [List.mem_cons]; constructor
        · intro h; exact Or.inl h
        · rintro (h | h)
          · exact h
          · exact Or.inl h
      · rw [List.mem_cons]; constructor
        · rintro (h | h)
          · exact Or.inr h
          · exact Or.inl h
        · rintro (h | h)
          · exact Or.inr h
          · exact Or.inl h
theorem insU_lt (g : Int) : ∀ {l : List Int}, l.Pairwise (· < ·) → (insU l g).Pairwise (· < ·)
  | [], _ => by simp [insU]
  | a :: r, h => by
    obtain ⟨h1, h2⟩ := List.pairwise_cons.1 h
    unfold insU
    split
    · rename_i hag
      refine List.pairwise_cons.2 ⟨fun b hb => ?_, insU_lt g h2⟩
      rcases (mem_insU b g r).1 hb with hb | rfl
      · exact h1 b hb
      · exact hag
    · split
      · exact h
      · refine List.pairwise_cons.2 ⟨fun b hb => ?_, h⟩
        rcases List.mem_cons.1 hb with rfl | hb
        · omega
        · have := h1 b hb; omega
theorem foldl_insU : ∀ (gs l : List Int), l.Pairwise (· < ·) → (gs.foldl insU l).Pairwise (· < ·) ∧ ∀ x, x ∈ gs.foldl insU l ↔ x ∈ l ∨ x ∈ gs
  | [], l, h => ⟨h, fun x => by simp⟩
  | g :: r, l, h => by
    obtain ⟨h1, h2⟩ := foldl_insU r (insU l g) (insU_lt g h)
    refine ⟨h1, fun x => ?_⟩
    rw [List.foldl_cons, h2, mem_insU, List.mem_cons, or_assoc]
theorem partsV_lt (l : List S53) : (qz20 l).Pairwise (· < ·) := (foldl_insU _ [] List.Pairwise.nil).1
theorem mem_partsV (l : List S53) (x : Int) : x ∈ qz20 l ↔ ∃ s ∈ l, s.f0 = x := by
  rw [qz20, (foldl_insU _ [] List.Pairwise.nil).2, List.mem_map]
  simp
theorem sort_parts {L ss : List Int} (h : L.Pairwise (· < ·)) (hp : ss.Perm L) : ss.mergeSort (fun x y => decide (x ≤ y)) = L := by
  have tr : ∀ a b c : Int, decide (a ≤ b) = true → decide (b ≤ c) = true → decide (a ≤ c) = true := fun a b c h1 h2 => by simp only [decide_eq_true_eq] at *; exact Int.le_trans h1 h2
  have tt : ∀ a b : Int, (decide (a ≤ b) || decide (b ≤ a)) = true := fun a b => by simp only [Bool.or_eq_true, decide_eq_true_eq]; exact Int.le_total a b
  refine List.Perm.eq_of_pairwise (le := fun a b => decide (a ≤ b) = true) (fun a b _ _ h1 h2 => ?_) (List.pairwise_mergeSort tr tt ss) (h.imp fun {a b} hab => decide_eq_true (Int.le_of_lt hab)) ((List.mergeSort_perm ss _).trans hp)
  simp only [decide_eq_true_eq] at h1 h2
  exact Int.le_antisymm h1 h2
theorem keys_parts {H : Type} {P : Program} {k : TypeId} {R : Value → Option (DataW H × List MemPlace)} {w : World} {b n : Nat} {D0 : DataW H} (hown : w.ownsMap P k R b n D0) (K : Keyed P k) (hk : P.underlying k = some (.int .u64)) {L : List Int} (hn : L.Nodup) (hm : ∀ x, x ∈ L ↔ has D0 (.int .u64 x) = true) : L.Perm (u64Keys D0) := by
  obtain ⟨es, hD, hpw, _⟩ := hown.entries K
  obtain ⟨es', hD', hko⟩ := hown.keysOf
  obtain rfl : es = es' := by rw [hD] at hD'; simpa using hD'
  subst hD
  exact perm_u64Keys hpw (fun p hp => by obtain ⟨v, hv⟩ := hko p hp; obtain ⟨x, _, hx, _⟩ := keyOf_u64 hk hv; exact ⟨x, hx⟩) hn hm
theorem sorted_calls {H : Type} (Bm b nn : Nat) (D0 : DataW H) {R : Value → Option (DataW H × List MemPlace)} (w : World) (hBm : Bm < w.heap.size) (hm : w.cell? ⟨Bm, 0, none⟩ = some (.map (some b))) (hown : w.ownsMap Try.prog 22 R b nn D0) (hN : Maps.size D0 ≤ maxLen) (hNb : Maps.size D0 * 8 ≤ 140737488355328) :
    Calls Try.prog 36 #[.func (.func 53) #[] #[.pointer (some ⟨Bm, 0, none⟩)]] w fun e w' => ∃ (v : Value) (ss : List Int), e = .returned v ∧ ss.Perm (u64Keys D0) ∧
      w'.ownsRow w.heap.size 22 1 v ss.length ((ss.mergeSort (fun x y => decide (x ≤ y))).map encU8) ∧ Below w.heap.size w w' := by
  have hseq := Uk.keys_gives Fence.wide 1 trivial rfl (by omega) Bm b nn D0 w hBm hm hown
  have hC := qza.mk (callsIn_wide.1 (Uk.collect_in Fence.wide 3 trivial trivial rfl (by omega) 53 #[.pointer (some ⟨Bm, 0, none⟩)] trivial (enters_of Try.func53 (by kernel_rfl) rfl) _ _ hN hNb w (SeqGives.bounded hseq)))
  clear hseq hown hm
  go_enter Try.func36, Try.ntmps36
  go_wp2_with (go_at_call 51; refine hC.out.mono ?_; rintro e W ⟨v, ss, rfl, ⟨hS, hlen⟩, hrow, hnil, hb⟩)
  rcases hrow.2 with ⟨rfl, hz⟩ | ⟨gb, cap, cur, rfl, hbase, hgb, r1, r2, r3, r4⟩
  · have hss : ss = [] := List.eq_nil_of_length_eq_zero hz
    subst hss
    go_wp2_with (go_at_call 52; refine (Su.Sort_int_nil none 0 W).mono ?_; rintro e w' ⟨rfl, rfl⟩)
    go_ret
    exact ⟨.slice none 0 0, [], rfl, hS, by simpa using hrow, hb⟩
  · have hH : Go.Sort.Holds encU8 W gb 0 ss.toArray := holds_of_block_u hgb (by simpa using r4)
    have hgl : gb < W.heap.size := (Array.getElem?_eq_some_iff.1 hgb).1
    have hsz : ss.length < 4611686018427387904 := by omega
    have cS := Su.slices_Sort_int gb 0 cap ss W hH hgl hsz
    go_wp2_with (go_at_call 52; refine cS.mono ?_; rintro e w' ⟨rfl, nn, os, rfl⟩)
    go_ret
    exact ⟨_, ss, rfl, hS, ownsRow_sorted_u (by simp) hbase hgb r1 r2 r3, hb.grown (grownBy_sorted_u _) hb.size (fun j hj => by cases hj; exact hbase)⟩
theorem stepRow {W : World} {l : List S53} {A : Option Addr} (h : Kd.C k53 W A l.length l) (j : Nat) (hj : j < l.length) : ∃ b o, A = some ⟨b, o, none⟩ ∧ W.cell? ⟨b, o + j * 5, none⟩ = some (.int .u64 (l[j]!).f0) ∧ W.cell? ⟨b, o + j * 5 + 1, none⟩ = some (.string (l[j]!).f1) ∧ W.cell? ⟨b, o + j * 5 + 2, none⟩ = some (.string (l[j]!).f2) ∧ W.cell? ⟨b, o + j * 5 + 3, none⟩ = some (.bool (l[j]!).f3) ∧ W.cell? ⟨b, o + j * 5 + 4, none⟩ = some (.bool (l[j]!).f4) := by
  obtain ⟨b, o, rfl, hrow⟩ := C_row h (by decide) (by omega)
  obtain ⟨cs, hcs, hK, hrg⟩ := hrow j hj
  obtain rfl := flat53.openK _ _ _ hK
  exact ⟨b, o, rfl, hrg 0 _ rfl, hrg 1 _ rfl, hrg 2 _ rfl, hrg 3 _ rfl, hrg 4 _ rfl⟩
theorem cells3 {w : World} {b : Nat} {t : TypeId} {a0 a1 a2 : Value} (h : w.heap[b]? = some (.cells #[a0, a1, a2] t (0, 0))) : w.cell? ⟨b, 0, none⟩ = some a0 ∧ w.cell? ⟨b, 1, none⟩ = some a1 ∧ w.cell? ⟨b, 2, none⟩ = some a2 :=
  ⟨qz30 (cs := [a0, a1, a2]) h 0, qz30 (cs := [a0, a1, a2]) h 1, qz30 (cs := [a0, a1, a2]) h 2⟩
theorem u64_key (x : Int) (h0 : 0 ≤ x) (h1 : x ≤ 18446744073709551615) : keyOf Try.prog 22 (.int .u64 x) = some (Lit.int .u64 x) := keyOf_int_mk Try.underlying22 (by
  show (decide (IntKind.u64.min ≤ x) && decide (x ≤ IntKind.u64.max)) = true
  have e0 : IntKind.u64.min = 0 := by decide
  have e1 : IntKind.u64.max = 18446744073709551615 := by decide
  rw [e0, e1, decide_eq_true h0, decide_eq_true h1]
  rfl)
theorem u64_inj (x y : Int) (h : Lit.int .u64 x = Lit.int .u64 y) : x = y := by cases h; rfl
set_option maxHeartbeats 2000000 in
set_option maxRecDepth 100000 in
theorem parts_walk (ta ti : Int) (A : Option Addr) (c : Nat) (l : List S53) (w : World) (hr : Kd.C k53 w A l.length l) (hc : l.length ≤ c) (hl : l.length ≤ 4000000000000) (hg : ∀ x ∈ l, 0 ≤ x.f0 ∧ x.f0 ≤ 18446744073709551615) :
    Calls Try.prog 17 #[.agg #[.int .u64 ta, .int .u64 ti, .slice A l.length c]] w fun e w' => ∃ v0_ : Value, e = .returned v0_ ∧ Kd.R (Kd.int .u64) 22 w' w.heap.size (fun _ => True) v0_ (qz20 l) ∧ Below w.heap.size w w' := by
  have HR := qza.mk hr
  have HG := qza.mk hg
  clear hr hg
  have hmm := @run_makeMap Try.prog
  go_enter Try.func17, Try.ntmps17
  go_wp2
  go_loopg [10] l.length (fun gg s10 wr => ∃ (jj : Nat) (D : DataW Nat), jj ≤ l.length ∧ l.length - jj ≤ gg ∧ s10 = .int .i64 jj ∧ qza (Below w.heap.size w wr) ∧ qza (wr.ownsMap Try.prog 22 (plainElem Try.prog 4) (w.heap.size + 1) jj D) ∧ qza (∀ x, has D (.int .u64 x) = true ↔ ∃ i, i < jj ∧ (l[i]!).f0 = x))
  case atStart => exact ⟨0, .map [], Nat.zero_le _, by omega, rfl, ⟨((Below.refl _ _).alloc (Nat.le_refl _) _).alloc (by simp) _⟩, ⟨by have := World.ownsMap_made (H := Nat) (P := Try.prog) (k := 22) (R := plainElem Try.prog 4) (w.alloc (.cells #[.int .u64 ta, .int .u64 ti, .slice A l.length c] 27)); rw [World.size_alloc] at this; exact this⟩, ⟨fun x => by simp [has_eq]⟩⟩
  case round =>
    obtain ⟨jj, D, hjj, hgk, rfl, BW, BM, BS⟩ := hrel
    by_cases hlt : jj < l.length
    · have hltz : (jj : Int) < (l.length : Int) := by omega
      have hjz : (0 : Int) ≤ (jj : Int) := by omega
      obtain ⟨b, o, rfl, hx0, hx1, hx2, hx3, hx4⟩ := stepRow (Kd.C_below HR.out BW.out) jj hlt
      have HX := qza.mk (HG.out l[jj]! (by rw [getElem!_pos l jj hlt]; exact List.getElem_mem hlt))
      generalize hxe : l[jj]! = x at *
      have HXE := qza.mk hxe
      clear hxe
      obtain ⟨xa, xb, xc, xd, xe⟩ := x
      dsimp only at *
      go_wp2_with (at_mapUpdate; refine wpList_mapUpdate_own _ rfl _ _ _ 68 rfl 22 4 (int_keyed Try.underlying22) Try.underlying68 _ _ _ D rfl (BM.out.alloc _) (by unfold maxLen; omega) (.int .u64 xa) (.bool true) (.int .u64 xa) rfl rfl (u64_key _ HX.out.1 HX.out.2) (.lit (.bool true)) [] (plainElem_bool Try.underlying4 true) ?_; intro w2 hM2 hg2; have HM2 := qza.mk hM2; have HG2 := qza.mk hg2; clear hM2 hg2)
      go_roundg (l.length - (jj + 1))
      case measure => omega
      case rel =>
        refine ⟨jj + 1, _, by omega, by omega, by go_num, ⟨(BW.out.alloc BW.out.size _).grown HG2.out (by have := BW.out.size; simp; omega) (fun k e => by cases e; omega)⟩, HM2, ⟨fun x => ?_⟩⟩
        have hxe := HXE.out
        by_cases e : x = xa
        · subst e
          rw [has_put_same BM.out.isMap (show WideAt.IsKeyLit (Lit.int .u64 x) from trivial)]
          exact ⟨fun _ => ⟨jj, by omega, by rw [hxe]⟩, fun _ => rfl⟩
        · rw [has_put_other (fun h => e (u64_inj _ _ h)), BS.out]
          constructor
          · rintro ⟨i, hi, he⟩
            exact ⟨i, by omega, he⟩
          · rintro ⟨i, hi, he⟩
            refine ⟨i, ?_, he⟩
            by_cases h : i = jj
            · subst h; rw [hxe] at he; exact absurd he.symm e
            · omega
    · have hltz : ¬ (jj : Int) < (l.length : Int) := by omega
      have hjl : jj = l.length := by omega
      subst hjl
      have hsz := BM.out.size_le
      go_wp2_with (first
        | (go_at_call 37; refine (callsIn_wide.1 (Uk.keys_in Fence.wide 0 trivial rfl (some (w.heap.size + 1)) _)).mono ?_; rintro e w3 ⟨rfl, rfl⟩)
        | (go_at_call 36; refine (sorted_calls wr.heap.size (w.heap.size + 1) l.length D _ (by simp) (qz30 (cs := [.map (some (w.heap.size + 1))]) (heap_alloc_new wr _) 0) (BM.out.alloc _) (by unfold maxLen; omega) (by omega)).mono ?_; rintro e w4 ⟨v, ss, rfl, hp, ho, hb⟩))
      go_ret
      have hperm : (qz20 l).Perm (u64Keys D) := keys_parts BM.out (int_keyed Try.underlying22) Try.underlying22 ((partsV_lt l).imp fun h => Int.ne_of_lt h) (fun x => by
        rw [mem_partsV, BS.out]
        constructor
        · rintro ⟨s, hs, he⟩
          obtain ⟨i, hi, e⟩ := List.mem_iff_getElem.1 hs
          exact ⟨i, hi, by rw [getElem!_pos l i hi, e]; exact he⟩
        · rintro ⟨i, hi, he⟩
          exact ⟨_, List.getElem_mem hi, by rw [getElem!_pos l i hi] at he; exact he⟩)
      rw [sort_parts (partsV_lt l) (hp.trans hperm.symm), (hp.trans hperm.symm).length_eq] at ho
      have hb4 : Below w.heap.size w w4 := (BW.out.alloc BW.out.size _).trans (hb.mono (by have := BW.out.size; simp; omega))
      refine ⟨v, rfl, flatu64.R ⟨fun c hc => ?_, ?_⟩ (fun _ _ => trivial), hb4⟩
      · obtain ⟨x, _, rfl⟩ := List.mem_map.1 hc
        exact ⟨rfl, fun u hu => by simp [encu64] at hu; subst hu; rfl⟩
      · have : ((qz20 l).map encu64).flatten = (qz20 l).map encU8 := by
          induction qz20 l with
          | nil => rfl
          | cons a r ih => simp [encu64, ih]
        rw [this, List.length_map]
        exact own_weaken ho (by have := BW.out.size; simp; omega)
end Go.Proofs.Ytkennobdoldlkaa.PAll
end
