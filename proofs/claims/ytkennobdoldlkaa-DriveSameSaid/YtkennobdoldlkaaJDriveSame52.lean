/- Joined texts of the claim DriveSame (part 52): contracts of functions and plain laws. -/
import Derived.BigQuiet
import Derived.BigRegion
import Derived.Deep.CutRange
import Derived.Deep.DeepCutAuto
import Derived.Deep.QuietTactic
import Derived.Deep.RegionHeld3
import Derived.Deep.RegionWith
import Derived.Test.YtkennobdoldlkaaJDriveSame3
import Derived.Test.YtkennobdoldlkaaJDriveSame44
import Derived.Test.YtkennobdoldlkaaJDriveSame50
import Derived.Test.YtkennobdoldlkaaJDriveSame51
section
/- The law DriveSame, walked. -/
namespace Go.Proofs.Ytkennobdoldlkaa.PAll
open Go.RowKit Go.Proofs.YtkennobdoldlkaaW.PrintWords Go.Proofs.YtkennobdoldlkaaW.PrintLast Go.Proofs.Ytkennobdoldlkaa
set_option linter.unusedVariables false
set_option linter.unusedSimpArgs false
set_option maxHeartbeats 4000000 in
set_option maxRecDepth 100000 in
theorem DriveSame_walk {w : World} (cs0 : Array Value) (x0 : S30) (hx0 : k30.K w x0 cs0.toList) (hs0 : ok30 x0) (cs1 : Array Value) (x1 : S30) (hx1 : k30.K w x1 cs1.toList) (hs1 : ok30 x1) :
    Calls Try.prog 8 #[.agg cs0, .agg cs1] w fun e w' => e = .returned (.bool true) ∧ Below w.heap.size w w' := by
  obtain ⟨p, A, c, B, e9, rfl, hRp⟩ := drvArg hx0 hs0
  obtain ⟨q, A2, c2, B2, e2, rfl, hRq⟩ := drvArg hx1 hs1
  have HRP := Aside0.mk hRp.1
  have HRQ := Aside0.mk hRq.1
  obtain ⟨_, hpl, hps, _⟩ := hRp
  clear hRq
  have hpl' : p.st.length ≤ 9223372036854775800 := by omega
  have hps' : p.sw.length ≤ 9223372036854775800 := by omega
  have hx := stayA20 (heap_alloc_new w (.cells #[.int .u64 p.ta, .int .u64 p.ti, .slice A p.st.length c, .int .i64 p.ph, .int .i64 p.ap, .bool p.fa, .bool p.og, .bool p.cm, .slice B p.sw.length e9] 30)) (.cells #[.int .u64 q.ta, .int .u64 q.ti, .slice A2 q.st.length c2, .int .i64 q.ph, .int .i64 q.ap, .bool q.fa, .bool q.og, .bool q.cm, .slice B2 q.sw.length e2] 30)
  have hy := heap_alloc_new (w.alloc (.cells #[.int .u64 p.ta, .int .u64 p.ti, .slice A p.st.length c, .int .i64 p.ph, .int .i64 p.ap, .bool p.fa, .bool p.og, .bool p.cm, .slice B p.sw.length e9] 30)) (.cells #[.int .u64 q.ta, .int .u64 q.ti, .slice A2 q.st.length c2, .int .i64 q.ph, .int .i64 q.ap, .bool q.fa, .bool q.og, .bool q.cm, .slice B2 q.sw.length e2] 30)
  rw [World.size_alloc] at hy
  have HB0 := Aside0.mk (((Below.refl w.heap.size w).alloc (Nat.le_refl _) (.cells #[.int .u64 p.ta, .int .u64 p.ti, .slice A p.st.length c, .int .i64 p.ph, .int .i64 p.ap, .bool p.fa, .bool p.og, .bool p.cm, .slice B p.sw.length e9] 30)).alloc (by simp) (.cells #[.int .u64 q.ta, .int .u64 q.ti, .slice A2 q.st.length c2, .int .i64 q.ph, .int .i64 q.ap, .bool q.fa, .bool q.og, .bool q.cm, .slice B2 q.sw.length e2] 30))
  clear hx0 hx1 hs0 hs1
  go_enter Try.func8, Try.ntmps8
  have HX := Aside0.mk hx
  have HY := Aside0.mk hy
  clear hx hy
  go_upto_region 1 with (fail)
  change Code.wp _ _ _ _ ((w.alloc (.cells #[.int .u64 p.ta, .int .u64 p.ti, .slice A p.st.length c, .int .i64 p.ph, .int .i64 p.ap, .bool p.fa, .bool p.og, .bool p.cm, .slice B p.sw.length e9] 30)).alloc (.cells #[.int .u64 q.ta, .int .u64 q.ti, .slice A2 q.st.length c2, .int .i64 q.ph, .int .i64 q.ap, .bool q.fa, .bool q.og, .bool q.cm, .slice B2 q.sw.length e2] 30))
  generalize (w.alloc (.cells #[.int .u64 p.ta, .int .u64 p.ti, .slice A p.st.length c, .int .i64 p.ph, .int .i64 p.ap, .bool p.fa, .bool p.og, .bool p.cm, .slice B p.sw.length e9] 30)).alloc (.cells #[.int .u64 q.ta, .int .u64 q.ti, .slice A2 q.st.length c2, .int .i64 q.ph, .int .i64 q.ap, .bool q.fa, .bool q.og, .bool q.cm, .slice B2 q.sw.length e2] 30) = w1 at *
  go_upto_region 2 with (go_at_call 9; refine (shown20 _).mono ?_; rintro e wB ⟨rfl, hb2⟩; have HB2a := Aside0.mk hb2; clear hb2)
  have HX2 := Aside0.mk (stay20 HB2a.out HX.out)
  have HY2 := Aside0.mk (stay20 HB2a.out HY.out)
  have HB2 := Aside0.mk (HB0.out.trans (HB2a.out.mono HB0.out.size))
  clear HX HY HB0 HB2a
  refine wp_region_noPanic ?_
  refine wp_region_last_drew (ds := []) (S := (fun wz => Below wB.heap.size wB wz)) (by kernel_rfl) ((Below.refl _ _).drew) (fun hHeld => ?_)
  refine wpAnyLast_take (i := 0) (oi := _) (v := .bool true) rfl (by kernel_rfl) (by kernel_rfl) (by kernel_rfl) (by kernel_rfl) (by kernel_rfl) (fun _ _ _ h => h) (Or.inl ⟨by kernel_rfl, ?_⟩) (by assumption) ?_
  · intro wz hSw; (try dsimp only at hSw); go_simp
  try simp only [Act.put, List.setIfInBounds_toArray, List.set_cons_zero, List.set_cons_succ, List.getElem_toArray, List.getElem_cons_succ, List.getElem_cons_zero]
  refine wpAnyLast_take (i := 1) (oi := _) (v := .bool true) rfl (by kernel_rfl) (by kernel_rfl) (by kernel_rfl) (by kernel_rfl) (by kernel_rfl) (fun _ _ _ h => h) (Or.inl ⟨by kernel_rfl, ?_⟩) (by assumption) ?_
  · intro wz hSw; (try dsimp only at hSw); go_simp
  try simp only [Act.put, List.setIfInBounds_toArray, List.set_cons_zero, List.set_cons_succ, List.getElem_toArray, List.getElem_cons_succ, List.getElem_cons_zero]
  refine wpAnyLast_take (i := 2) (oi := _) (v := .agg #[.int .u64 p.ta, .int .u64 p.ti, .slice A p.st.length c, .int .i64 p.ph, .int .i64 p.ap, .bool p.fa, .bool p.og, .bool p.cm, .slice B p.sw.length e9]) rfl (by kernel_rfl) (by kernel_rfl) (by kernel_rfl) (by kernel_rfl) (by kernel_rfl) (fun _ _ _ h => h) (Or.inl ⟨by kernel_rfl, ?_⟩) (by assumption) ?_
  · intro wz hSw; (try dsimp only at hSw); obtain ⟨hd0, hd1, hd2, hd3, hd4, hd5, hd6, hd7, hd8⟩ := cellsB9 (stay20 hSw HX2.out); go_simp
  try simp only [Act.put, List.setIfInBounds_toArray, List.set_cons_zero, List.set_cons_succ, List.getElem_toArray, List.getElem_cons_succ, List.getElem_cons_zero]
  refine wpAnyLast_take (i := 3) (oi := _) (v := .agg #[.int .u64 q.ta, .int .u64 q.ti, .slice A2 q.st.length c2, .int .i64 q.ph, .int .i64 q.ap, .bool q.fa, .bool q.og, .bool q.cm, .slice B2 q.sw.length e2]) rfl (by kernel_rfl) (by kernel_rfl) (by kernel_rfl) (by kernel_rfl) (by kernel_rfl) (fun _ _ _ h => h) (Or.inl ⟨by kernel_rfl, ?_⟩) (by assumption) ?_
  · intro wz hSw; (try dsimp only at hSw); obtain ⟨hd0, hd1, hd2, hd3, hd4, hd5, hd6, hd7, hd8⟩ := cellsB9 (stay20 hSw HY2.out); go_simp
  try simp only [Act.put, List.setIfInBounds_toArray, List.set_cons_zero, List.set_cons_succ, List.getElem_toArray, List.getElem_cons_succ, List.getElem_cons_zero]
  refine wpAnyLast_take (i := 5) (oi := _) (v := .agg #[.int .u64 p.ta, .int .u64 p.ti, .slice A p.st.length c, .int .i64 p.ph, .int .i64 p.ap, .bool p.fa, .bool p.og, .bool p.cm, .slice B p.sw.length e9]) rfl (by kernel_rfl) (by kernel_rfl) (by kernel_rfl) (by kernel_rfl) (by kernel_rfl) (fun _ _ _ h => h) (Or.inl ⟨by kernel_rfl, ?_⟩) (by assumption) ?_
  · intro wz hSw; (try dsimp only at hSw); obtain ⟨hd0, hd1, hd2, hd3, hd4, hd5, hd6, hd7, hd8⟩ := cellsB9 (stay20 hSw HX2.out); go_simp
  try simp only [Act.put, List.setIfInBounds_toArray, List.set_cons_zero, List.set_cons_succ, List.getElem_toArray, List.getElem_cons_succ, List.getElem_cons_zero]
  refine wpAnyLast_take (i := 6) (oi := _) (v := .agg #[.int .u64 q.ta, .int .u64 q.ti, .slice A2 q.st.length c2, .int .i64 q.ph, .int .i64 q.ap, .bool q.fa, .bool q.og, .bool q.cm, .slice B2 q.sw.length e2]) rfl (by kernel_rfl) (by kernel_rfl) (by kernel_rfl) (by kernel_rfl) (by kernel_rfl) (fun _ _ _ h => h) (Or.inl ⟨by kernel_rfl, ?_⟩) (by assumption) ?_
  · intro wz hSw; (try dsimp only at hSw); obtain ⟨hd0, hd1, hd2, hd3, hd4, hd5, hd6, hd7, hd8⟩ := cellsB9 (stay20 hSw HY2.out); go_simp
  try simp only [Act.put, List.setIfInBounds_toArray, List.set_cons_zero, List.set_cons_succ, List.getElem_toArray, List.getElem_cons_succ, List.getElem_cons_zero]
  refine wpAnyLast_ready (rs := [4]) (by kernel_rfl) (by simp) ?_
  refine AllReadyL.cons (o := _) rfl (by decide) (fun K hK => ?_) AllReadyL.nil
  go_simp; go_at_call 28; refine (codSame_calls (HRP.out.below (HB2.out.trans (((Below.refl wB.heap.size wB).drew).mono HB2.out.size))) (HRQ.out.below (HB2.out.trans (((Below.refl wB.heap.size wB).drew).mono HB2.out.size))) hpl' hps').mono ?_; rintro e w4 ⟨rfl, hb4⟩; go_simp
  have HB4 := Aside0.mk ((((Below.refl wB.heap.size wB).drew)).trans (hb4.mono (((Below.refl wB.heap.size wB).drew)).size) : Below wB.heap.size wB w4)
  clear hb4
  refine hK.out _ _ HB4.out (fun hHeld4 => ?_)
  clear hK K
  try simp only [Act.put, List.setIfInBounds_toArray, List.set_cons_zero, List.set_cons_succ, List.getElem_toArray, List.getElem_cons_succ, List.getElem_cons_zero]
  refine wpAnyLast_ready (rs := [7]) (by kernel_rfl) (by simp) ?_
  refine AllReadyL.cons (o := _) rfl (by decide) (fun K hK => ?_) AllReadyL.nil
  go_simp; go_at_call 13; refine (refSame_calls (HRP.out.below (HB2.out.trans (HB4.out.mono HB2.out.size))) (HRQ.out.below (HB2.out.trans (HB4.out.mono HB2.out.size))) hpl' hps').mono ?_; rintro e w5 ⟨rfl, hb5⟩; go_simp
  have HB5 := Aside0.mk ((HB4.out).trans (hb5.mono (HB4.out).size) : Below wB.heap.size wB w5)
  clear hb5
  refine hK.out _ _ HB5.out (fun hHeld5 => ?_)
  clear hK K
  try simp only [Act.put, List.setIfInBounds_toArray, List.set_cons_zero, List.set_cons_succ, List.getElem_toArray, List.getElem_cons_succ, List.getElem_cons_zero]
  refine wpAnyLast_take (i := 8) (oi := _) (v := .bool true) rfl (by kernel_rfl) (by kernel_rfl) (by kernel_rfl) (by kernel_rfl) (by kernel_rfl) (fun _ _ _ h => h) (Or.inl ⟨by kernel_rfl, ?_⟩) (by assumption) ?_
  · intro wz hSw; (try dsimp only at hSw); go_simp
  try simp only [Act.put, List.setIfInBounds_toArray, List.set_cons_zero, List.set_cons_succ, List.getElem_toArray, List.getElem_cons_succ, List.getElem_cons_zero]
  refine wpAnyLast_take (i := 9) (oi := _) (v := .bool true) rfl (by kernel_rfl) (by kernel_rfl) (by kernel_rfl) (by kernel_rfl) (by kernel_rfl) (fun _ _ _ h => h) (Or.inl ⟨by kernel_rfl, ?_⟩) (by assumption) ?_
  · intro wz hSw; (try dsimp only at hSw); go_simp
  try simp only [Act.put, List.setIfInBounds_toArray, List.set_cons_zero, List.set_cons_succ, List.getElem_toArray, List.getElem_cons_succ, List.getElem_cons_zero]
  refine wpAnyLast_take (i := 10) (oi := _) (v := .bool true) rfl (by kernel_rfl) (by kernel_rfl) (by kernel_rfl) (by kernel_rfl) (by kernel_rfl) (fun _ _ _ h => h) (Or.inl ⟨by kernel_rfl, ?_⟩) (by assumption) ?_
  · intro wz hSw; (try dsimp only at hSw); go_simp
  try simp only [Act.put, List.setIfInBounds_toArray, List.set_cons_zero, List.set_cons_succ, List.getElem_toArray, List.getElem_cons_succ, List.getElem_cons_zero]
  refine wpAnyLast_take (i := 11) (oi := _) (v := .agg #[.int .u64 p.ta, .int .u64 p.ti, .slice A p.st.length c, .int .i64 p.ph, .int .i64 p.ap, .bool p.fa, .bool p.og, .bool p.cm, .slice B p.sw.length e9]) rfl (by kernel_rfl) (by kernel_rfl) (by kernel_rfl) (by kernel_rfl) (by kernel_rfl) (fun _ _ _ h => h) (Or.inl ⟨by kernel_rfl, ?_⟩) (by assumption) ?_
  · intro wz hSw; (try dsimp only at hSw); obtain ⟨hd0, hd1, hd2, hd3, hd4, hd5, hd6, hd7, hd8⟩ := cellsB9 (stay20 hSw HX2.out); go_simp
  try simp only [Act.put, List.setIfInBounds_toArray, List.set_cons_zero, List.set_cons_succ, List.getElem_toArray, List.getElem_cons_succ, List.getElem_cons_zero]
  refine wpAnyLast_take (i := 12) (oi := _) (v := .agg #[.int .u64 p.ta, .int .u64 p.ti, .slice A p.st.length c, .int .i64 p.ph, .int .i64 p.ap, .bool p.fa, .bool p.og, .bool p.cm, .slice B p.sw.length e9]) rfl (by kernel_rfl) (by kernel_rfl) (by kernel_rfl) (by kernel_rfl) (by kernel_rfl) (fun _ _ _ h => h) (Or.inl ⟨by kernel_rfl, ?_⟩) (by assumption) ?_
  · intro wz hSw; (try dsimp only at hSw); obtain ⟨hd0, hd1, hd2, hd3, hd4, hd5, hd6, hd7, hd8⟩ := cellsB9 (stay20 hSw HX2.out); go_simp
  try simp only [Act.put, List.setIfInBounds_toArray, List.set_cons_zero, List.set_cons_succ, List.getElem_toArray, List.getElem_cons_succ, List.getElem_cons_zero]
  refine wpAnyLast_ready (rs := [13]) (by kernel_rfl) (by simp) ?_
  refine AllReadyL.cons (o := _) rfl (by decide) (fun K hK => ?_) AllReadyL.nil
  go_simp; go_at_call 28; refine (codSame_calls (HRP.out.below (HB2.out.trans (HB5.out.mono HB2.out.size))) (HRP.out.below (HB2.out.trans (HB5.out.mono HB2.out.size))) hpl' hps').mono ?_; rw [sameD_self]; rintro e w6 ⟨rfl, hb6⟩; go_simp
  have HB6 := Aside0.mk ((HB5.out).trans (hb6.mono (HB5.out).size) : Below wB.heap.size wB w6)
  clear hb6
  refine hK.out _ _ HB6.out (fun hHeld6 => ?_)
  clear hK K
  try simp only [Act.put, List.setIfInBounds_toArray, List.set_cons_zero, List.set_cons_succ, List.getElem_toArray, List.getElem_cons_succ, List.getElem_cons_zero]
  refine wpAnyLast_take (i := 14) (oi := _) (v := .bool true) rfl (by kernel_rfl) (by kernel_rfl) (by kernel_rfl) (by kernel_rfl) (by kernel_rfl) (fun _ _ _ h => h) (Or.inl ⟨by kernel_rfl, ?_⟩) (by assumption) ?_
  · intro wz hSw; (try dsimp only at hSw); go_simp
  try simp only [Act.put, List.setIfInBounds_toArray, List.set_cons_zero, List.set_cons_succ, List.getElem_toArray, List.getElem_cons_succ, List.getElem_cons_zero]
  refine wpAnyLast_take (i := 15) (oi := _) (v := .bool true) rfl (by kernel_rfl) (by kernel_rfl) (by kernel_rfl) (by kernel_rfl) (by kernel_rfl) (fun _ _ _ h => h) (Or.inl ⟨by kernel_rfl, ?_⟩) (by assumption) ?_
  · intro wz hSw; (try dsimp only at hSw); go_simp
  try simp only [Act.put, List.setIfInBounds_toArray, List.set_cons_zero, List.set_cons_succ, List.getElem_toArray, List.getElem_cons_succ, List.getElem_cons_zero]
  refine wpAnyLast_done (by kernel_rfl) ?_ _
  refine NoPanic.normal ?_
  go_wp2
  go_ret
  exact ⟨rfl, HB2.out.trans (HB6.out.mono HB2.out.size)⟩
end Go.Proofs.Ytkennobdoldlkaa.PAll
end
