/- Joined texts of the claim RowsBack (part 9): contracts of functions and plain laws. -/
import Derived.Test.YthfkbfahpgdnfaaJRowsBack5
import Derived.RegionTactic
import Derived.ChangeAlike
import Derived.Deep.QuietTactic
import Derived.BigQuiet
import Derived.Test.YthfkbfahpgdnfaaJRowsBack2
section
/- ferruleref11.Fits, as the printed texts call it. -/
namespace Go.Proofs.Ythfkbfahpgdnfaa.PAll
open Go.RowKit Go.Proofs.YthfkbfahpgdnfaaW.PrintWords Go.Proofs.Ythfkbfahpgdnfaa
set_option linter.unusedVariables false
def ferruleref11_Fits.f (l0 : List S52) : Option Int := some (fitsV l0)
theorem size_pos (s : ByteArray) : ((0 : Int) < s.size) = (¬ s.toList = []) := propext (by
  have : s.toList.length = s.size := by rw [ByteArray.toList_eq, Array.length_toList]; rfl
  constructor
  · intro h e; rw [e] at this; simp at this; omega
  · intro h
    cases hl : s.toList with
    | nil => exact absurd hl h
    | cons a r => rw [hl] at this; simp at this; omega)
theorem bad_iff (x : S52) : badPut x = true ↔ ((x.f0.size : Int) < 1 ∨ (16 : Int) < x.f0.size ∨ (32 : Int) < x.f1.size ∨ (x.f2 = true ∧ (0 : Int) < x.f1.size)) := by
  have e32 : ((32 : Int) < (x.f1.size : Int)) = (32 < x.f1.size) := propext (by omega)
  have e16 : ((16 : Int) < (x.f0.size : Int)) = (16 < x.f0.size) := propext (by omega)
  have e1 : ((x.f0.size : Int) < 1) = (¬ 1 ≤ x.f0.size) := propext (by omega)
  unfold badPut
  rw [e32, e16, e1, size_pos]
  by_cases h1 : 1 ≤ x.f0.size <;> by_cases h2 : x.f0.size ≤ 16 <;> simp [h1, h2] <;> omega
/-- The first j puts have no such key. -/
theorem hasKey_take (l : List S52) (s : ByteArray) (k : Nat) (hk : k < l.length) : hasKey (l.take (k + 1)) s = (hasKey (l.take k) s || (l[k]!).f0.toList == s.toList) := by
  rw [List.take_succ_eq_append_getElem hk]
  unfold hasKey
  rw [List.any_append, getElem!_pos l k hk]
  simp
theorem hasKey_mono (l : List S52) (s : ByteArray) (k j : Nat) (hkj : k ≤ j) (h : hasKey (l.take k) s = true) : hasKey (l.take j) s = true := by
  unfold hasKey at h ⊢
  rw [List.any_eq_true] at h ⊢
  obtain ⟨x, hx, h⟩ := h
  have : l.take k = (l.take j).take k := by rw [List.take_take, Nat.min_eq_left hkj]
  rw [this] at hx
  exact ⟨x, List.mem_of_mem_take hx, h⟩
set_option maxRecDepth 100000 in
set_option maxHeartbeats 4000000 in
theorem ferruleref11_Fits.calls (A0 : Option Addr) (c0 : Nat) (l0 : List S52) (r : Int) (w : World) (hr0 : Kd.C k52 w A0 l0.length l0) (hc0 : l0.length ≤ c0) (h : ferruleref11_Fits.f l0 = some r) :
    Calls Try.prog 32 #[.slice A0 l0.length c0] w fun e w' => e = .returned (.int .i64 r) ∧ Below w.heap.size w w' := by
  obtain rfl := Option.some.inj h
  have HR := Aside0.mk hr0
  clear h hr0
  by_cases hbig : 8 < l0.length
  · have hv : fitsV l0 = 4 := by unfold fitsV; rw [if_pos hbig]
    rw [hv]
    have hbigz : (8 : Int) < (l0.length : Int) := by omega
    go_enter Try.func32, Try.ntmps32
    go_wp2
    go_ret
    exact ⟨rfl, Below.refl _ _⟩
  · have hv : fitsV l0 = fitsGo (l0.drop 0) (l0.take 0) := by unfold fitsV; rw [if_neg hbig, List.drop_zero, List.take_zero]
    rw [hv]
    have hbigz : ¬ (8 : Int) < (l0.length : Int) := by omega
    generalize hr : fitsGo (l0.drop 0) (l0.take 0) = r
    go_enter Try.func32, Try.ntmps32
    go_wp2
    go_loopw [3] (fun i wr => ∃ j : Nat, j ≤ l0.length ∧ i = .int .i64 j ∧ Aside0 (fitsGo (l0.drop j) (l0.take j) = r) ∧ Aside0 (Below w.heap.size w wr)) (fun i _ => l0.length - (intOf i).toNat)
    case atStart => exact ⟨0, Nat.zero_le _, rfl, ⟨hr⟩, ⟨Below.refl _ _⟩⟩
    case round =>
      obtain ⟨j, hj, rfl, HF, HB⟩ := hrel
      obtain ⟨wo, hwo⟩ : ∃ wo, wo = wr := ⟨wr, rfl⟩
      subst hwo
      by_cases hlt : j < l0.length
      · have hltz : (j : Int) < (l0.length : Int) := by omega
        obtain ⟨b, o, rfl, hrow⟩ := C_row HR.out (by decide) (by omega)
        have hkey : ∀ k, k < l0.length → ∀ W, Below w.heap.size w W → W.cell? ⟨b, o + k * 3, none⟩ = some (.string (l0[k]!).f0) ∧ W.cell? ⟨b, o + k * 3 + 1, none⟩ = some (.string (l0[k]!).f1) ∧ W.cell? ⟨b, o + k * 3 + 2, none⟩ = some (.bool (l0[k]!).f2) := fun k hk W hW => by
          obtain ⟨cs, hcs, hK, hrg⟩ := hrow k hk
          obtain rfl := flat52.openK _ _ _ hK
          have h0 : w.cell? ⟨b, o + k * 3, none⟩ = some (.string (l0[k]!).f0) := hrg 0 _ rfl
          have hbl := World.block_lt_of_cell? w _ h0
          exact ⟨(hW.cell (p := ⟨b, o + k * 3, none⟩) hbl).trans h0, (hW.cell (p := ⟨b, o + k * 3 + 1, none⟩) hbl).trans (hrg 1 _ rfl), (hW.cell (p := ⟨b, o + k * 3 + 2, none⟩) hbl).trans (hrg 2 _ rfl)⟩
        obtain ⟨hc0_, hc1_, hc2_⟩ := hkey j hlt wo HB.out
        have HKEY := Aside0.mk hkey
        have HS := Aside0.mk (fitsGo_step l0 j hlt)
        clear hrow hkey
        generalize hxx : l0[j]! = x at *
        have HBAD := Aside0.mk (bad_iff x)
        have HX := Aside0.mk ((MapKept.heap_alloc wo (.cells #[.string x.f0, .string x.f1, .bool x.f2] 52)).1)
        go_wp2
        all_goals first
          | (have hb : badPut x = true := HBAD.out.2 (by first | (exact .inl (by omega)) | (exact .inr (.inl (by omega))) | (exact .inr (.inr (.inl (by omega)))) | (exact .inr (.inr (.inr ⟨by assumption, by omega⟩))))
             have e : r = 1 := by rw [← HF.out, HS.out, hb]; rfl
             subst e
             go_ret
             exact ⟨rfl, HB.out.alloc HB.out.size _⟩)
          | (have hnb : Aside0 (badPut x = false) := ⟨by
               rw [Bool.eq_false_iff]
               intro hb
               rcases HBAD.out.1 hb with h | h | h | ⟨h1, h2⟩
               · omega
               · omega
               · omega
               · first | omega | exact absurd h1 (by assumption)⟩
             clear HX
             go_loopw [5] (fun kv wr2 => ∃ k : Nat, k ≤ j ∧ kv = .int .i64 k ∧ Aside0 (hasKey (l0.take k) x.f0 = false) ∧ Aside0 (Below w.heap.size w wr2) ∧ wo.heap.size < wr2.heap.size ∧ Aside0 (∃ g, wr2.heap[wo.heap.size]? = some (.cells #[.string x.f0, .string x.f1, g] 52))) (fun kv _ => j - (intOf kv).toNat)
             case atStart => exact ⟨0, Nat.zero_le _, rfl, ⟨by simp [hasKey]⟩, ⟨HB.out.alloc HB.out.size _⟩, by simp, ⟨_, (MapKept.heap_alloc wo _).1⟩⟩
             case round =>
               obtain ⟨k, hk, rfl, HH, HB2, hs2, HG⟩ := hrel
               by_cases hkl : k < j
               · have hklz : (k : Int) < (j : Int) := by omega
                 obtain ⟨g, hg⟩ := HG.out
                 have hx0 : wr.cell? ⟨wo.heap.size, 0, none⟩ = some (.string x.f0) := cell_at hg rfl
                 obtain ⟨hk0, _, _⟩ := HKEY.out k (by omega) wr HB2.out
                 have HT := Aside0.mk (hasKey_take l0 x.f0 k (by omega))
                 generalize (l0[k]!).f0 = y at *
                 clear hg
                 go_wp2
                 go_region
                 all_goals go_wp2
                 all_goals first
                   | (have hy : (y.toList == x.f0.toList) = true := by assumption
                      have h1 : hasKey (l0.take j) x.f0 = true := hasKey_mono _ _ (k + 1) j (by omega) (by rw [HT.out, hy, Bool.or_true])
                      have e : r = 1 := by rw [← HF.out, HS.out, h1, Bool.or_true]; rfl
                      subst e
                      go_ret
                      exact ⟨rfl, HB2.out.drew⟩)
                   | (have hy : (y.toList == x.f0.toList) = false := by assumption
                      exact ⟨⟨k + 1, by omega, by simp, ⟨by rw [HT.out, HH.out, hy]; rfl⟩, ⟨HB2.out.drew⟩, by simpa using hs2, ⟨HG.out⟩⟩, by simp [intOf]; omega⟩)
               · obtain rfl : k = j := by omega
                 go_wp2
                 go_roundw
                 case rel => exact ⟨k + 1, by omega, by simp, ⟨by rw [← HF.out, HS.out, hnb.out, HH.out]; rfl⟩, ⟨HB2.out⟩⟩
                 case measure => simp [intOf]; omega)
      · obtain rfl : j = l0.length := by omega
        go_wp2
        go_ret
        have hf := HF.out
        rw [List.drop_length] at hf
        have h0 : (0 : Int) = r := hf
        subst h0
        exact ⟨rfl, HB.out⟩
end Go.Proofs.Ythfkbfahpgdnfaa.PAll
end
section
-- Printed by this session's pr.sh (the kit's print.py, several laws in one namespace). Not trusted: Lean checks it.
namespace Go.Proofs.Ythfkbfahpgdnfaa.PAll
open Go.RowKit Go.Proofs.YthfkbfahpgdnfaaW.PrintWords Go.Proofs.YthfkbfahpgdnfaaW.PrintLast Go.Proofs.YthfkbfahpgdnfaaW.PrintMore
attribute [local go_sem] max2_int min2_int max_two min_two max_three min_three max_four min_four   -- for this text's walks alone
set_option linter.unusedVariables false
set_option linter.unusedSimpArgs false

/-! ### ferruleref11_Get: function 39 -/
def ferruleref11_Get.l0 : Nat → List (S64) → ByteArray → Int → Option (ByteArray × ByteArray × Int × Bool)
  | 0, _, _, _ => none
  | k + 1, x0, x1, x6 => if x6 < (x0.length : Int) then (if 0 ≤ x6 then (if ((rd_T64 x0 x6).f0).toList = x1.toList then (some ((rd_T64 x0 x6).f0, (rd_T64 x0 x6).f1, (rd_T64 x0 x6).f2, true)) else (ferruleref11_Get.l0 k x0 x1 (wrap64 (x6 + 1)))) else (none)) else (some ((⟨#[]⟩ : ByteArray), (⟨#[]⟩ : ByteArray), 0, false))
def ferruleref11_Get.f (k : Nat) (l0 : List (S64)) (a1 : ByteArray) : Option (ByteArray × ByteArray × Int × Bool) := ferruleref11_Get.l0 k l0 a1 0
theorem ferruleref11_Get.mono_l : ∀ k, (∀ y0 y1 y2, LeO (ferruleref11_Get.l0 k y0 y1 y2) (ferruleref11_Get.l0 (k + 1) y0 y1 y2))
  | 0 => fun _ _ _ r h => by simp [ferruleref11_Get.l0] at h
  | k + 1 => by
    have ih0 := ferruleref11_Get.mono_l k
    · intro y0 y1 y2
      unfold ferruleref11_Get.l0
      repeat' first
      | (with_reducible exact ih0 _ _ _)
      | (with_reducible exact LeO.refl _)
      | (with_reducible exact LeO.none _)
      | (with_reducible refine LeO.ite ?_ ?_)
      | (with_reducible refine LeO.bind ?_ (fun _ => ?_))
      | exact ih0 _ _ _
      | exact LeO.none _
      | refine LeO.ite ?_ ?_
      | refine LeO.bind ?_ (fun _ => ?_)
theorem ferruleref11_Get.mono : ∀ a0 a1 k, LeO (ferruleref11_Get.f k a0 a1) (ferruleref11_Get.f (k + 1) a0 a1) := by
  intro a0 a1 k
  have ih0 := ferruleref11_Get.mono_l k
  unfold ferruleref11_Get.f
  repeat' first
      | (with_reducible exact ih0 _ _ _)
      | (with_reducible exact LeO.refl _)
      | (with_reducible exact LeO.none _)
      | (with_reducible refine LeO.ite ?_ ?_)
      | (with_reducible refine LeO.bind ?_ (fun _ => ?_))
      | exact ih0 _ _ _
      | exact LeO.none _
      | refine LeO.ite ?_ ?_
      | refine LeO.bind ?_ (fun _ => ?_)
set_option maxHeartbeats 8000000 in
set_option maxRecDepth 100000 in
theorem ferruleref11_Get.calls (k : Nat) (A0 : Option Addr) (c0 : Nat) (l0 : List (S64)) (a1 : ByteArray) (r1 : ByteArray) (r2 : ByteArray) (r3 : Int) (r4 : Bool) (w : World) (hr0 : Kd.C k64 w A0 l0.length l0) (hc0 : l0.length ≤ c0) (h : ferruleref11_Get.f k l0 a1 = some (r1, r2, r3, r4)) :
    Calls Try.prog 39 #[.slice A0 l0.length c0, .string a1] w fun e w' => e = .returned (.tuple #[.agg #[.string r1, .string r2, .int .u64 r3], .bool r4]) ∧ Below w.heap.size w w' := by
  have hu64 := Try.underlying64
  have HR0 := Aside0.mk hr0
  have HC0 := Aside0.mk hc0
  clear hr0 hc0
  have HB := Aside0.mk (Below.refl w.heap.size w)
  have H : (ferruleref11_Get.l0 k l0 a1 0) = some (r1, r2, r3, r4) := h
  clear h
  have H' := Aside0.mk H
  clear H
  go_enter Try.func39, Try.ntmps39
  go_wp2_with (first | ((with_reducible refine gate_dst (N := 4) rfl ?_); refine box_event ?hg (N := 4) ?hd (cs := #[.string (⟨#[]⟩ : ByteArray), .string (⟨#[]⟩ : ByteArray), .int .u64 0]) (t := 64) ?hr ?_; (case hd => rfl); (case hg => rfl); (case hr => first | (go_simp; done) | (go_simp; rfl)); intro gb311 hg w3 hbox hb; have n0_ := Aside0.mk (below_step (by repeat (first | (with_reducible first | exact HB.out | apply below_alloc | apply pw_below_drewN | apply below_drew1) | exact HB.out)) hb); have n1_ := Aside0.mk (hbox); have n2_ := Aside0.mk ((by rw [hg]; exact (below_size (by repeat (first | (with_reducible first | exact HB.out | apply below_alloc | apply pw_below_drewN | apply below_drew1) | exact HB.out))) : w.heap.size ≤ gb311)); have n3_ := Aside0.mk ((by rw [hg]; exact (below_size (by repeat (first | (with_reducible first | exact HB.out | apply below_alloc | apply pw_below_drewN | apply below_drew1) | exact HB.out))) : w.heap.size ≤ gb311)); clear HB; have HB := n0_; have BK311 := n1_; have GW311 := n2_; have GE311 := n3_; clear n0_ n1_ n2_ n3_; clear hb hbox hg))
  go_loopg [6] k (fun kq v6 w' => ∃ (x6_1 : Int) (x312000_1 : ByteArray) (x312001_1 : ByteArray) (x312002_1 : Int), v6 = .int .i64 x6_1 ∧ Aside0 (ferruleref11_Get.l0 kq l0 a1 x6_1 = some (r1, r2, r3, r4)) ∧ Aside0 (kq ≤ k) ∧ Aside0 (w'.heap[gb311]? = some (.cells #[.string x312000_1, .string x312001_1, .int .u64 x312002_1] 64 (0, 0))) ∧ Aside0 (Below w.heap.size w w'))
  case atStart => exact ⟨(0), ((⟨#[]⟩ : ByteArray)), ((⟨#[]⟩ : ByteArray)), (0), (by first | rfl | (simp; done) | (simp [*]; done)), H', ⟨Nat.le_refl _⟩, ⟨by (with_reducible repeat (first | refine blk_drewN ?_ _ | refine blk_drew ?_ | refine blk_alloc ?_ _)); exact BK311.out⟩, ⟨by repeat (first | (with_reducible first | exact HB.out | apply below_alloc | apply pw_below_drewN | apply below_drew1 | refine below_set ?_ GE311.out) | exact HB.out)⟩⟩
  case round =>
    clear H'
    try clear p2
    try clear c3
    obtain ⟨x6_1, x312000_1, x312001_1, x312002_1, rfl, HA, HK1, BK311, HB⟩ := hrel
    cases gk with
    | zero => exact absurd HA.out (by simp [ferruleref11_Get.l0])
    | succ k1 =>
      have H := HA.out
      clear HA
      simp only [ferruleref11_Get.l0] at H
      by_cases c4 : x6_1 < (l0.length : Int)
      · rw [if_pos c4] at H
        have c4b0 : decide (x6_1 < (l0.length : Int)) = true := decide_eq_true c4
        clear c4
        by_cases c5 : 0 ≤ x6_1
        · rw [if_pos c5] at H
          have c5b0 : decide (0 ≤ x6_1) = true := decide_eq_true c5
          clear c5
          by_cases c6 : ((rd_T64 l0 x6_1).f0).toList = a1.toList
          · rw [if_pos c6] at H
            have c6b0 : (((rd_T64 l0 x6_1).f0).toList == a1.toList) = true := beq_iff_eq.mpr c6
            have c6b1 : (((rd_T64 l0 x6_1).f0).toList != a1.toList) = false := bne_eq_false_iff_eq.mpr c6
            clear c6
            simp only [Option.some.injEq, Prod.mk.injEq] at H
            obtain ⟨rfl, rfl, rfl, rfl⟩ := H
            have p312 : 0 ≤ (x6_1 : Int) := of_decide_eq_true (by first | (with_reducible assumption) | assumption)
            have q312 : x6_1 < (l0.length : Int) := of_decide_eq_true (by first | (with_reducible assumption) | assumption)
            obtain ⟨ad312, e312, hx312_0, hx312_1, hx312_2⟩ := at_T64 HR0.out x6_1 p312 q312
            cases e312
            replace hx312_0 := (HB.out.cell (World.block_lt_of_cell? w _ hx312_0)).trans hx312_0
            replace hx312_1 := (HB.out.cell (World.block_lt_of_cell? w _ hx312_1)).trans hx312_1
            replace hx312_2 := (HB.out.cell (World.block_lt_of_cell? w _ hx312_2)).trans hx312_2
            replace p312 := eq_true p312
            replace q312 := eq_true q312
            have p313 : 0 ≤ (x6_1 : Int) := of_decide_eq_true (by first | (with_reducible assumption) | assumption)
            have q313 : x6_1 < (l0.length : Int) := of_decide_eq_true (by first | (with_reducible assumption) | assumption)
            obtain ⟨ad313, e313, hx313_0, hx313_1, hx313_2⟩ := at_T64 HR0.out x6_1 p313 q313
            obtain rfl : ad312 = ad313 := (by injection e313)
            replace hx313_0 := (HB.out.cell (World.block_lt_of_cell? w _ hx313_0)).trans hx313_0
            replace hx313_1 := (HB.out.cell (World.block_lt_of_cell? w _ hx313_1)).trans hx313_1
            replace hx313_2 := (HB.out.cell (World.block_lt_of_cell? w _ hx313_2)).trans hx313_2
            replace p313 := eq_true p313
            replace q313 := eq_true q313
            have hcz7_0 : wr.cell? ⟨gb311, 0, none⟩ = some (.string x312000_1) := (blk_cell BK311.out 0).trans rfl
            have hcz7_1 : wr.cell? ⟨gb311, 1, none⟩ = some (.string x312001_1) := (blk_cell BK311.out 1).trans rfl
            have hcz7_2 : wr.cell? ⟨gb311, 2, none⟩ = some (.int .u64 x312002_1) := (blk_cell BK311.out 2).trans rfl
            have hfz7_0 := blk_frozen BK311.out 0
            have hfz7_1 := blk_frozen BK311.out 1
            have hfz7_2 := blk_frozen BK311.out 2
            go_wp2
            refine bodyPost_ret (results_ct rfl _ _ gb311 64 #[.string ((rd_T64 l0 x6_1).f0), .string ((rd_T64 l0 x6_1).f1), .int .u64 ((rd_T64 l0 x6_1).f2)] (0, 0) _ rfl (by (with_reducible repeat (first | refine blk_drewN ?_ _ | refine blk_drew ?_ | refine blk_alloc ?_ _)); refine blk_put (cs := #[.string ((rd_T64 l0 x6_1).f0), .string ((rd_T64 l0 x6_1).f1), .int .u64 x312002_1]) ?_ 2 _ rfl; (with_reducible repeat (first | refine blk_drewN ?_ _ | refine blk_drew ?_ | refine blk_alloc ?_ _)); refine blk_put (cs := #[.string ((rd_T64 l0 x6_1).f0), .string x312001_1, .int .u64 x312002_1]) ?_ 1 _ rfl; (with_reducible repeat (first | refine blk_drewN ?_ _ | refine blk_drew ?_ | refine blk_alloc ?_ _)); refine blk_put (cs := #[.string x312000_1, .string x312001_1, .int .u64 x312002_1]) ?_ 0 _ rfl; (with_reducible repeat (first | refine blk_drewN ?_ _ | refine blk_drew ?_ | refine blk_alloc ?_ _)); exact BK311.out) Try.underlying64 rfl (by kernel_rfl)) rfl ?_
            exact ⟨by first | rfl | (simp [errW_none, errW_some] <;> rfl) | (simp [*, errW_none, errW_some] <;> rfl), by repeat (first | (with_reducible first | exact HB.out | apply below_alloc | apply pw_below_drewN | apply below_drew1 | refine below_set ?_ GE311.out) | exact HB.out)⟩
          · rw [if_neg c6] at H
            have c6b0 : (((rd_T64 l0 x6_1).f0).toList == a1.toList) = false := beq_eq_false_iff_ne.mpr c6
            have c6b1 : (((rd_T64 l0 x6_1).f0).toList != a1.toList) = true := bne_iff_ne.mpr c6
            have H' := Aside0.mk H
            clear H
            have p312 : 0 ≤ (x6_1 : Int) := of_decide_eq_true (by first | (with_reducible assumption) | assumption)
            have q312 : x6_1 < (l0.length : Int) := of_decide_eq_true (by first | (with_reducible assumption) | assumption)
            obtain ⟨ad312, e312, hx312_0, hx312_1, hx312_2⟩ := at_T64 HR0.out x6_1 p312 q312
            cases e312
            replace hx312_0 := (HB.out.cell (World.block_lt_of_cell? w _ hx312_0)).trans hx312_0
            replace hx312_1 := (HB.out.cell (World.block_lt_of_cell? w _ hx312_1)).trans hx312_1
            replace hx312_2 := (HB.out.cell (World.block_lt_of_cell? w _ hx312_2)).trans hx312_2
            replace p312 := eq_true p312
            replace q312 := eq_true q312
            go_wp2
            go_roundg k1
            case measure => have := HK1.out; omega
            case rel => exact ⟨(wrap64 (x6_1 + 1)), (x312000_1), (x312001_1), (x312002_1), (by first | rfl | (simp; done) | (simp [*]; done)), H', ⟨by have := HK1.out; omega⟩, ⟨by (with_reducible repeat (first | refine blk_drewN ?_ _ | refine blk_drew ?_ | refine blk_alloc ?_ _)); exact BK311.out⟩, ⟨by repeat (first | (with_reducible first | exact HB.out | apply below_alloc | apply pw_below_drewN | apply below_drew1 | refine below_set ?_ GE311.out) | exact HB.out)⟩⟩
        · rw [if_neg c5] at H
          exact absurd H (by simp)
      · rw [if_neg c4] at H
        have c4b0 : decide (x6_1 < (l0.length : Int)) = false := decide_eq_false c4
        clear c4
        simp only [Option.some.injEq, Prod.mk.injEq] at H
        obtain ⟨rfl, rfl, rfl, rfl⟩ := H
        have hcz8_0 : wr.cell? ⟨gb311, 0, none⟩ = some (.string x312000_1) := (blk_cell BK311.out 0).trans rfl
        have hcz8_1 : wr.cell? ⟨gb311, 1, none⟩ = some (.string x312001_1) := (blk_cell BK311.out 1).trans rfl
        have hcz8_2 : wr.cell? ⟨gb311, 2, none⟩ = some (.int .u64 x312002_1) := (blk_cell BK311.out 2).trans rfl
        have hfz8_0 := blk_frozen BK311.out 0
        have hfz8_1 := blk_frozen BK311.out 1
        have hfz8_2 := blk_frozen BK311.out 2
        go_wp2
        refine bodyPost_ret (results_ct rfl _ _ gb311 64 #[.string (⟨#[]⟩ : ByteArray), .string (⟨#[]⟩ : ByteArray), .int .u64 0] (0, 0) _ rfl (by (with_reducible repeat (first | refine blk_drewN ?_ _ | refine blk_drew ?_ | refine blk_alloc ?_ _)); refine blk_put (cs := #[.string (⟨#[]⟩ : ByteArray), .string (⟨#[]⟩ : ByteArray), .int .u64 x312002_1]) ?_ 2 _ rfl; (with_reducible repeat (first | refine blk_drewN ?_ _ | refine blk_drew ?_ | refine blk_alloc ?_ _)); refine blk_put (cs := #[.string (⟨#[]⟩ : ByteArray), .string x312001_1, .int .u64 x312002_1]) ?_ 1 _ rfl; (with_reducible repeat (first | refine blk_drewN ?_ _ | refine blk_drew ?_ | refine blk_alloc ?_ _)); refine blk_put (cs := #[.string x312000_1, .string x312001_1, .int .u64 x312002_1]) ?_ 0 _ rfl; (with_reducible repeat (first | refine blk_drewN ?_ _ | refine blk_drew ?_ | refine blk_alloc ?_ _)); exact BK311.out) Try.underlying64 rfl (by kernel_rfl)) rfl ?_
        exact ⟨by first | rfl | (simp [errW_none, errW_some] <;> rfl) | (simp [*, errW_none, errW_some] <;> rfl), by repeat (first | (with_reducible first | exact HB.out | apply below_alloc | apply pw_below_drewN | apply below_drew1 | refine below_set ?_ GE311.out) | exact HB.out)⟩

end Go.Proofs.Ythfkbfahpgdnfaa.PAll
end
