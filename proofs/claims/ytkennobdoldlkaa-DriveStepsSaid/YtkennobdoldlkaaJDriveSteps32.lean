/- Joined texts of the claim DriveSteps (part 32): contracts of functions and plain laws. -/
import Derived.Test.YtkennobdoldlkaaJDriveSteps30
set_option linter.unusedVariables false
set_option linter.unusedSimpArgs false
section
namespace Go.Proofs.Ytkennobdoldlkaa.PAll
open Go.RowKit Go.Proofs.YtkennobdoldlkaaW.PrintWords Go.Proofs.Ytkennobdoldlkaa
def partV (st : List S53) (ap : Int) : Int × Bool := if ap < 0 ∨ ((qz20 st).length : Int) ≤ ap then (0, false) else ((qz20 st)[ap.toNat]!, true)
structure Drv where
  ta : Int
  ti : Int
  st : List S53
  ph : Int
  ap : Int
  fa : Bool
  og : Bool
  cm : Bool
  sw : List S51
def dagg (d : Drv) (vs vw : Value) : Value := .agg #[.int .u64 d.ta, .int .u64 d.ti, vs, .int .i64 d.ph, .int .i64 d.ap, .bool d.fa, .bool d.og, .bool d.cm, vw]
def toV (d : Drv) (ph : Int) (f : Bool) : Drv := { d with ph := ph, ap := 0, fa := d.fa || f }
def onV (d : Drv) (ph : Int) : Drv := if (partV d.st (wrap64 (d.ap + 1))).2 = true then { d with ap := wrap64 (d.ap + 1) } else toV { d with ap := wrap64 (d.ap + 1) } ph false
set_option maxHeartbeats 1000000 in
set_option maxRecDepth 100000 in
theorem part_calls (ta ti : Int) (A : Option Addr) (c : Nat) (st : List S53) (ph ap : Int) (fa og cm : Bool) (B : Option Addr) (e9 : Nat) (sw : List S51) (w : World) (hr : Kd.C k53 w A st.length st) (hc : st.length ≤ c) (hq : Kd.C k51 w B sw.length sw) (hqc : sw.length ≤ e9) (hl : st.length ≤ 3000000000000) (hg : ∀ x ∈ st, 0 ≤ x.f0 ∧ x.f0 ≤ 18446744073709551615) :
    Calls Try.prog 49 #[.agg #[.int .u64 ta, .int .u64 ti, .slice A st.length c, .int .i64 ph, .int .i64 ap, .bool fa, .bool og, .bool cm, .slice B sw.length e9]] w fun e w' => e = .returned (.tuple #[.int .u64 (partV st ap).1, .bool (partV st ap).2]) ∧ Below w.heap.size w w' := by
  have HR := qza.mk hr
  have HG := qza.mk hg
  have hx := heap_alloc_new w (.cells #[.int .u64 ta, .int .u64 ti, .slice A st.length c, .int .i64 ph, .int .i64 ap, .bool fa, .bool og, .bool cm, .slice B sw.length e9] 30)
  have HB0 := qza.mk ((Below.refl w.heap.size w).alloc (Nat.le_refl _) (.cells #[.int .u64 ta, .int .u64 ti, .slice A st.length c, .int .i64 ph, .int .i64 ap, .bool fa, .bool og, .bool cm, .slice B sw.length e9] 30))
  have HP := qza.mk (fun (W : World) (h : Below w.heap.size w W) => parts_walk ta ti A c st W (Kd.C_below HR.out h) hc (by omega) HG.out)
  clear hr hg hq
  go_enter Try.func49, Try.ntmps49
  have HX := qza.mk hx
  clear hx
  obtain ⟨hd0, hd1, hd2, hd3, hd4, hd5, hd6, hd7, hd8⟩ := qz13 HX.out
  go_upto_region 2 with (go_at_call 17; refine (HP.out _ HB0.out).mono ?_; rintro e w2 ⟨v2, rfl, hR2, hb2⟩; have HR2 := qza.mk hR2; have HB2 := qza.mk hb2; clear hR2 hb2)
  have HX2 := qza.mk (qz16 HB2.out HX.out)
  clear hd0 hd1 hd2 hd3 hd4 hd5 hd6 hd7 hd8
  obtain ⟨hd0, hd1, hd2, hd3, hd4, hd5, hd6, hd7, hd8⟩ := qz13 HX2.out
  have HB3 := qza.mk (HB0.out.trans (HB2.out.mono HB0.out.size))
  obtain ⟨A2, c2, rfl, hc2, hC2⟩ := Sl.of_R HR2.out
  have hpl : (qz20 st).length ≤ 9223372036854775807 := hC2.2.1
  by_cases h1 : ap < 0
  · have he : partV st ap = (0, false) := by unfold partV; rw [if_pos (Or.inl h1)]
    have HE := qza.mk he
    clear he hC2
    go_wp2
    go_ret2
    rw [HE.out]
    exact ⟨rfl, HB3.out⟩
  · by_cases h2 : ((qz20 st).length : Int) ≤ ap
    · have he : partV st ap = (0, false) := by unfold partV; rw [if_pos (Or.inr h2)]
      have HE := qza.mk he
      clear he hC2
      go_wp2
      go_ret2
      rw [HE.out]
      exact ⟨rfl, HB3.out⟩
    · have he : partV st ap = ((qz20 st)[ap.toNat]!, true) := by unfold partV; rw [if_neg (by omega)]
      obtain ⟨n, rfl⟩ : ∃ n : Nat, ap = (n : Int) := ⟨ap.toNat, by omega⟩
      have hn : n < (qz20 st).length := by omega
      rw [Int.toNat_natCast] at he
      have HE := qza.mk he
      obtain ⟨pb, po, rfl, hpc⟩ := cell_ofI20 hC2 n hn
      clear he hC2
      generalize (qz20 st)[n]! = g at *
      go_wp2
      go_ret2
      rw [HE.out]
      exact ⟨rfl, HB3.out⟩
set_option maxHeartbeats 2000000 in
set_option maxRecDepth 100000 in
theorem to_calls (ta ti : Int) (A : Option Addr) (c : Nat) (st : List S53) (ph ap : Int) (fa og cm : Bool) (B : Option Addr) (e9 : Nat) (sw : List S51) (ph' : Int) (f : Bool) (w : World) (hr : Kd.C k53 w A st.length st) (hc : st.length ≤ c) (hq : Kd.C k51 w B sw.length sw) (hqc : sw.length ≤ e9) :
    Calls Try.prog 33 #[.agg #[.int .u64 ta, .int .u64 ti, .slice A st.length c, .int .i64 ph, .int .i64 ap, .bool fa, .bool og, .bool cm, .slice B sw.length e9], .int .i64 ph', .bool f] w fun e w' => e = .returned (dagg (toV ⟨ta, ti, st, ph, ap, fa, og, cm, sw⟩ ph' f) (.slice A st.length c) (.slice B sw.length e9)) ∧ Below w.heap.size w w' := by
  have HR := qza.mk hr
  have HQ := qza.mk hq
  have hx := qz14 (heap_alloc_new w (.cells #[.int .u64 ta, .int .u64 ti, .slice A st.length c, .int .i64 ph, .int .i64 ap, .bool fa, .bool og, .bool cm, .slice B sw.length e9] 30)) (.cells #[.int .u64 0, .int .u64 0, .slice none 0 0, .int .i64 0, .int .i64 0, .bool false, .bool false, .bool false, .slice none 0 0] 30)
  have hz := heap_alloc_new (w.alloc (.cells #[.int .u64 ta, .int .u64 ti, .slice A st.length c, .int .i64 ph, .int .i64 ap, .bool fa, .bool og, .bool cm, .slice B sw.length e9] 30)) (.cells #[.int .u64 0, .int .u64 0, .slice none 0 0, .int .i64 0, .int .i64 0, .bool false, .bool false, .bool false, .slice none 0 0] 30)
  rw [World.size_alloc] at hz
  have HB0 := qza.mk (((Below.refl w.heap.size w).alloc (Nat.le_refl _) (.cells #[.int .u64 ta, .int .u64 ti, .slice A st.length c, .int .i64 ph, .int .i64 ap, .bool fa, .bool og, .bool cm, .slice B sw.length e9] 30)).alloc (by simp) (.cells #[.int .u64 0, .int .u64 0, .slice none 0 0, .int .i64 0, .int .i64 0, .bool false, .bool false, .bool false, .slice none 0 0] 30))
  have HSZ : qza (w.heap.size + 2 ≤ ((w.alloc (.cells #[.int .u64 ta, .int .u64 ti, .slice A st.length c, .int .i64 ph, .int .i64 ap, .bool fa, .bool og, .bool cm, .slice B sw.length e9] 30)).alloc (.cells #[.int .u64 0, .int .u64 0, .slice none 0 0, .int .i64 0, .int .i64 0, .bool false, .bool false, .bool false, .slice none 0 0] 30)).heap.size) := ⟨by simp⟩
  clear hr hq
  go_enter Try.func33, Try.ntmps33
  have HX := qza.mk hx
  have HZ := qza.mk hz
  clear hx hz
  go_upto_region 1 with (fail)
  generalize (w.alloc (.cells #[.int .u64 ta, .int .u64 ti, .slice A st.length c, .int .i64 ph, .int .i64 ap, .bool fa, .bool og, .bool cm, .slice B sw.length e9] 30)).alloc (.cells #[.int .u64 0, .int .u64 0, .slice none 0 0, .int .i64 0, .int .i64 0, .bool false, .bool false, .bool false, .slice none 0 0] 30) = w1 at *
  obtain ⟨hd0, hd1, hd2, hd3, hd4, hd5, hd6, hd7, hd8⟩ := qz13 HX.out
  obtain ⟨hf0, hf1, hf2, hf3, hf4, hf5, hf6, hf7, hf8⟩ := qz17 HX.out
  cases fa
  · have HP1 := qza.mk (RowKit.Below.setCell (p := ⟨w.heap.size, 5, none⟩) (RowKit.Below.setCell (p := ⟨w.heap.size, 4, none⟩) (RowKit.Below.setCell (p := ⟨w.heap.size, 3, none⟩) HB0.out (Nat.le_refl _) (.int .i64 ph')) (Nat.le_refl _) (.int .i64 0)) (Nat.le_refl _) (.bool f))
    have HX1 : qza ((((w1.setCell ⟨w.heap.size, 3, none⟩ (.int .i64 ph')).setCell ⟨w.heap.size, 4, none⟩ (.int .i64 0)).setCell ⟨w.heap.size, 5, none⟩ (.bool f)).heap[w.heap.size]? = some (.cells #[.int .u64 ta, .int .u64 ti, .slice A st.length c, .int .i64 ph', .int .i64 0, .bool f, .bool og, .bool cm, .slice B sw.length e9] 30 (0, 0))) := ⟨qz12 (cs := #[.int .u64 ta, .int .u64 ti, .slice A st.length c, .int .i64 ph', .int .i64 0, .bool false, .bool og, .bool cm, .slice B sw.length e9]) (qz12 (cs := #[.int .u64 ta, .int .u64 ti, .slice A st.length c, .int .i64 ph', .int .i64 ap, .bool false, .bool og, .bool cm, .slice B sw.length e9]) (qz12 (cs := #[.int .u64 ta, .int .u64 ti, .slice A st.length c, .int .i64 ph, .int .i64 ap, .bool false, .bool og, .bool cm, .slice B sw.length e9]) HX.out 3 (.int .i64 ph') rfl) 4 (.int .i64 0) rfl) 5 (.bool f) rfl⟩
    have HZ1 := qza.mk (((RowKit.Below.heap_setCell ((w1.setCell ⟨w.heap.size, 3, none⟩ (.int .i64 ph')).setCell ⟨w.heap.size, 4, none⟩ (.int .i64 0)) ⟨w.heap.size, 5, none⟩ (.bool f) (w.heap.size + 1) (by simp)).trans ((RowKit.Below.heap_setCell (w1.setCell ⟨w.heap.size, 3, none⟩ (.int .i64 ph')) ⟨w.heap.size, 4, none⟩ (.int .i64 0) (w.heap.size + 1) (by simp)).trans (RowKit.Below.heap_setCell w1 ⟨w.heap.size, 3, none⟩ (.int .i64 ph') (w.heap.size + 1) (by simp)))).trans HZ.out)
    go_upto_region 2 with (fail)
    change Code.wp _ _ _ _ (((w1.setCell ⟨w.heap.size, 3, none⟩ (.int .i64 ph')).setCell ⟨w.heap.size, 4, none⟩ (.int .i64 0)).setCell ⟨w.heap.size, 5, none⟩ (.bool f))
    generalize (((w1.setCell ⟨w.heap.size, 3, none⟩ (.int .i64 ph')).setCell ⟨w.heap.size, 4, none⟩ (.int .i64 0)).setCell ⟨w.heap.size, 5, none⟩ (.bool f)) = w2 at *
    clear hd0 hd1 hd2 hd3 hd4 hd5 hd6 hd7 hd8 hf0 hf1 hf2 hf3 hf4 hf5 hf6 hf7 hf8 HX HZ
    obtain ⟨hd0, hd1, hd2, hd3, hd4, hd5, hd6, hd7, hd8⟩ := qz13 HX1.out
    obtain ⟨hz0, hz1, hz2, hz3, hz4, hz5, hz6, hz7, hz8⟩ := qz13 HZ1.out
    obtain ⟨hf0, hf1, hf2, hf3, hf4, hf5, hf6, hf7, hf8⟩ := qz17 HZ1.out
    go_wp2
    refine ret9 (g := w.heap.size + 1) rfl rfl rfl (qz34 HZ1.out (.int .u64 ta) (.int .u64 ti) (.slice A st.length c) (.int .i64 ph') (.int .i64 0) (.bool f) (.bool og) (.bool cm) (.slice B sw.length e9)) ?_
    exact ⟨rfl, qz23 HP1.out (by omega) (.int .u64 ta) (.int .u64 ti) (.slice A st.length c) (.int .i64 ph') (.int .i64 0) (.bool f) (.bool og) (.bool cm) (.slice B sw.length e9)⟩
  · have HP1 := qza.mk (RowKit.Below.setCell (p := ⟨w.heap.size, 5, none⟩) (RowKit.Below.setCell (p := ⟨w.heap.size, 4, none⟩) (RowKit.Below.setCell (p := ⟨w.heap.size, 3, none⟩) HB0.out (Nat.le_refl _) (.int .i64 ph')) (Nat.le_refl _) (.int .i64 0)) (Nat.le_refl _) (.bool true))
    have HX1 : qza ((((w1.setCell ⟨w.heap.size, 3, none⟩ (.int .i64 ph')).setCell ⟨w.heap.size, 4, none⟩ (.int .i64 0)).setCell ⟨w.heap.size, 5, none⟩ (.bool true)).heap[w.heap.size]? = some (.cells #[.int .u64 ta, .int .u64 ti, .slice A st.length c, .int .i64 ph', .int .i64 0, .bool true, .bool og, .bool cm, .slice B sw.length e9] 30 (0, 0))) := ⟨qz12 (cs := #[.int .u64 ta, .int .u64 ti, .slice A st.length c, .int .i64 ph', .int .i64 0, .bool true, .bool og, .bool cm, .slice B sw.length e9]) (qz12 (cs := #[.int .u64 ta, .int .u64 ti, .slice A st.length c, .int .i64 ph', .int .i64 ap, .bool true, .bool og, .bool cm, .slice B sw.length e9]) (qz12 (cs := #[.int .u64 ta, .int .u64 ti, .slice A st.length c, .int .i64 ph, .int .i64 ap, .bool true, .bool og, .bool cm, .slice B sw.length e9]) HX.out 3 (.int .i64 ph') rfl) 4 (.int .i64 0) rfl) 5 (.bool true) rfl⟩
    have HZ1 := qza.mk (((RowKit.Below.heap_setCell ((w1.setCell ⟨w.heap.size, 3, none⟩ (.int .i64 ph')).setCell ⟨w.heap.size, 4, none⟩ (.int .i64 0)) ⟨w.heap.size, 5, none⟩ (.bool true) (w.heap.size + 1) (by simp)).trans ((RowKit.Below.heap_setCell (w1.setCell ⟨w.heap.size, 3, none⟩ (.int .i64 ph')) ⟨w.heap.size, 4, none⟩ (.int .i64 0) (w.heap.size + 1) (by simp)).trans (RowKit.Below.heap_setCell w1 ⟨w.heap.size, 3, none⟩ (.int .i64 ph') (w.heap.size + 1) (by simp)))).trans HZ.out)
    go_upto_region 2 with (fail)
    change Code.wp _ _ _ _ (((w1.setCell ⟨w.heap.size, 3, none⟩ (.int .i64 ph')).setCell ⟨w.heap.size, 4, none⟩ (.int .i64 0)).setCell ⟨w.heap.size, 5, none⟩ (.bool true))
    generalize (((w1.setCell ⟨w.heap.size, 3, none⟩ (.int .i64 ph')).setCell ⟨w.heap.size, 4, none⟩ (.int .i64 0)).setCell ⟨w.heap.size, 5, none⟩ (.bool true)) = w2 at *
    clear hd0 hd1 hd2 hd3 hd4 hd5 hd6 hd7 hd8 hf0 hf1 hf2 hf3 hf4 hf5 hf6 hf7 hf8 HX HZ
    obtain ⟨hd0, hd1, hd2, hd3, hd4, hd5, hd6, hd7, hd8⟩ := qz13 HX1.out
    obtain ⟨hz0, hz1, hz2, hz3, hz4, hz5, hz6, hz7, hz8⟩ := qz13 HZ1.out
    obtain ⟨hf0, hf1, hf2, hf3, hf4, hf5, hf6, hf7, hf8⟩ := qz17 HZ1.out
    go_wp2
    refine ret9 (g := w.heap.size + 1) rfl rfl rfl (qz34 HZ1.out (.int .u64 ta) (.int .u64 ti) (.slice A st.length c) (.int .i64 ph') (.int .i64 0) (.bool true) (.bool og) (.bool cm) (.slice B sw.length e9)) ?_
    exact ⟨rfl, qz23 HP1.out (by omega) (.int .u64 ta) (.int .u64 ti) (.slice A st.length c) (.int .i64 ph') (.int .i64 0) (.bool true) (.bool og) (.bool cm) (.slice B sw.length e9)⟩
set_option maxHeartbeats 2000000 in
set_option maxRecDepth 100000 in
theorem on_calls (ta ti : Int) (A : Option Addr) (c : Nat) (st : List S53) (ph ap : Int) (fa og cm : Bool) (B : Option Addr) (e9 : Nat) (sw : List S51) (ph' : Int) (w : World) (hr : Kd.C k53 w A st.length st) (hc : st.length ≤ c) (hq : Kd.C k51 w B sw.length sw) (hqc : sw.length ≤ e9) (hl : st.length ≤ 3000000000000) (hg : ∀ x ∈ st, 0 ≤ x.f0 ∧ x.f0 ≤ 18446744073709551615) :
    Calls Try.prog 34 #[.agg #[.int .u64 ta, .int .u64 ti, .slice A st.length c, .int .i64 ph, .int .i64 ap, .bool fa, .bool og, .bool cm, .slice B sw.length e9], .int .i64 ph'] w fun e w' => e = .returned (dagg (onV ⟨ta, ti, st, ph, ap, fa, og, cm, sw⟩ ph') (.slice A st.length c) (.slice B sw.length e9)) ∧ Below w.heap.size w w' := by
  have HR := qza.mk hr
  have HQ := qza.mk hq
  have HG := qza.mk hg
  have hx := qz14 (heap_alloc_new w (.cells #[.int .u64 ta, .int .u64 ti, .slice A st.length c, .int .i64 ph, .int .i64 ap, .bool fa, .bool og, .bool cm, .slice B sw.length e9] 30)) (.cells #[.int .u64 0, .int .u64 0, .slice none 0 0, .int .i64 0, .int .i64 0, .bool false, .bool false, .bool false, .slice none 0 0] 30)
  have hz := heap_alloc_new (w.alloc (.cells #[.int .u64 ta, .int .u64 ti, .slice A st.length c, .int .i64 ph, .int .i64 ap, .bool fa, .bool og, .bool cm, .slice B sw.length e9] 30)) (.cells #[.int .u64 0, .int .u64 0, .slice none 0 0, .int .i64 0, .int .i64 0, .bool false, .bool false, .bool false, .slice none 0 0] 30)
  rw [World.size_alloc] at hz
  have HB0 := qza.mk (((Below.refl w.heap.size w).alloc (Nat.le_refl _) (.cells #[.int .u64 ta, .int .u64 ti, .slice A st.length c, .int .i64 ph, .int .i64 ap, .bool fa, .bool og, .bool cm, .slice B sw.length e9] 30)).alloc (by simp) (.cells #[.int .u64 0, .int .u64 0, .slice none 0 0, .int .i64 0, .int .i64 0, .bool false, .bool false, .bool false, .slice none 0 0] 30))
  have HPA := qza.mk (fun (W : World) (h : Below w.heap.size w W) => part_calls ta ti A c st ph (wrap64 (ap + 1)) fa og cm B e9 sw W (Kd.C_below HR.out h) hc (Kd.C_below HQ.out h) hqc hl HG.out)
  have HTO := qza.mk (fun (W : World) (h : Below w.heap.size w W) => to_calls ta ti A c st ph (wrap64 (ap + 1)) fa og cm B e9 sw ph' false W (Kd.C_below HR.out h) hc (Kd.C_below HQ.out h) hqc)
  have hON : onV ⟨ta, ti, st, ph, ap, fa, og, cm, sw⟩ ph' = if (partV st (wrap64 (ap + 1))).2 = true then ⟨ta, ti, st, ph, wrap64 (ap + 1), fa, og, cm, sw⟩ else toV ⟨ta, ti, st, ph, wrap64 (ap + 1), fa, og, cm, sw⟩ ph' false := rfl
  have HON := qza.mk hON
  clear hr hq hg hON
  go_enter Try.func34, Try.ntmps34
  have HX := qza.mk hx
  have HZ := qza.mk hz
  clear hx hz
  go_upto_region 1 with (fail)
  generalize (w.alloc (.cells #[.int .u64 ta, .int .u64 ti, .slice A st.length c, .int .i64 ph, .int .i64 ap, .bool fa, .bool og, .bool cm, .slice B sw.length e9] 30)).alloc (.cells #[.int .u64 0, .int .u64 0, .slice none 0 0, .int .i64 0, .int .i64 0, .bool false, .bool false, .bool false, .slice none 0 0] 30) = w1 at *
  obtain ⟨hd0, hd1, hd2, hd3, hd4, hd5, hd6, hd7, hd8⟩ := qz13 HX.out
  obtain ⟨hf0, hf1, hf2, hf3, hf4, hf5, hf6, hf7, hf8⟩ := qz17 HX.out
  go_upto_region 2 with (fail)
  generalize wrap64 (ap + 1) = a1 at *
  have HP1 := qza.mk (RowKit.Below.setCell (p := ⟨w.heap.size, 4, none⟩) HB0.out (Nat.le_refl _) (.int .i64 a1))
  have HX1 : qza ((w1.setCell ⟨w.heap.size, 4, none⟩ (.int .i64 a1)).heap[w.heap.size]? = some (.cells #[.int .u64 ta, .int .u64 ti, .slice A st.length c, .int .i64 ph, .int .i64 a1, .bool fa, .bool og, .bool cm, .slice B sw.length e9] 30 (0, 0))) := ⟨qz12 (cs := #[.int .u64 ta, .int .u64 ti, .slice A st.length c, .int .i64 ph, .int .i64 ap, .bool fa, .bool og, .bool cm, .slice B sw.length e9]) HX.out 4 (.int .i64 a1) rfl⟩
  have HZ1 := qza.mk ((RowKit.Below.heap_setCell w1 ⟨w.heap.size, 4, none⟩ (.int .i64 a1) (w.heap.size + 1) (by simp)).trans HZ.out)
  change Code.wp _ _ _ _ (w1.setCell ⟨w.heap.size, 4, none⟩ (.int .i64 a1))
  generalize w1.setCell ⟨w.heap.size, 4, none⟩ (.int .i64 a1) = w2 at *
  clear hd0 hd1 hd2 hd3 hd4 hd5 hd6 hd7 hd8 hf0 hf1 hf2 hf3 hf4 hf5 hf6 hf7 hf8 HX HZ HB0
  obtain ⟨hd0, hd1, hd2, hd3, hd4, hd5, hd6, hd7, hd8⟩ := qz13 HX1.out
  have HPC := qza.mk (HPA.out w2 HP1.out)
  clear HPA
  generalize partV st a1 = pv at *
  obtain ⟨pg, pis⟩ := pv
  dsimp only at *
  go_upto_region 3 with (go_at_call 49; refine (HPC.out).mono ?_; rintro e w3 ⟨rfl, hb3⟩; have HB3 := qza.mk hb3; clear hb3)
  have HP3 := qza.mk (HP1.out.trans (HB3.out.mono HP1.out.size))
  have HX3 := qza.mk (qz16 HB3.out HX1.out)
  have HZ3 := qza.mk (qz16 HB3.out HZ1.out)
  clear hd0 hd1 hd2 hd3 hd4 hd5 hd6 hd7 hd8 HX1 HZ1 HP1 HB3 HPC
  obtain ⟨hd0, hd1, hd2, hd3, hd4, hd5, hd6, hd7, hd8⟩ := qz13 HX3.out
  cases pis with
  | false =>
    rw [if_neg (by simp)] at HON
    have HTC := qza.mk (HTO.out w3 HP3.out)
    clear HTO
    go_wp2_with (go_at_call 33; refine (HTC.out).mono ?_; rintro e w4 ⟨rfl, hb4⟩; have HZ4 := qza.mk (qz16 hb4 HZ3.out); have HP4 := qza.mk (HP3.out.trans (hb4.mono HP3.out.size)); clear hb4 hd0 hd1 hd2 hd3 hd4 hd5 hd6 hd7 hd8; obtain ⟨hz0, hz1, hz2, hz3, hz4, hz5, hz6, hz7, hz8⟩ := qz13 HZ4.out; obtain ⟨hf0, hf1, hf2, hf3, hf4, hf5, hf6, hf7, hf8⟩ := qz17 HZ4.out; unfold dagg toV; dsimp only)
    refine ret9 (g := w.heap.size + 1) rfl rfl rfl (qz34 HZ4.out _ _ _ _ _ _ _ _ _) ?_
    rw [HON.out]
    exact ⟨by unfold dagg toV; simp, qz23 HP4.out (by omega) _ _ _ _ _ _ _ _ _⟩
  | true =>
    rw [if_pos rfl] at HON
    obtain ⟨hz0, hz1, hz2, hz3, hz4, hz5, hz6, hz7, hz8⟩ := qz13 HZ3.out
    obtain ⟨hf0, hf1, hf2, hf3, hf4, hf5, hf6, hf7, hf8⟩ := qz17 HZ3.out
    go_wp2
    refine ret9 (g := w.heap.size + 1) rfl rfl rfl (qz34 HZ3.out _ _ _ _ _ _ _ _ _) ?_
    rw [HON.out]
    exact ⟨rfl, qz23 HP3.out (by omega) _ _ _ _ _ _ _ _ _⟩
end Go.Proofs.Ytkennobdoldlkaa.PAll
end
