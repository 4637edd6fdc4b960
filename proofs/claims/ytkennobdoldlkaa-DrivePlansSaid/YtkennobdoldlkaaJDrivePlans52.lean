/- Joined texts of the claim DrivePlans (part 52): contracts of functions and plain laws. -/
import Derived.BigQuiet
import Derived.BigRegion
import Derived.Deep.CutRange
import Derived.Deep.DeepCutAuto
import Derived.Deep.QuietTactic
import Derived.Deep.RegionHeld3
import Derived.Deep.RegionWith
import Derived.Test.YtkennobdoldlkaaJDrivePlans3
import Derived.Test.YtkennobdoldlkaaJDrivePlans39
import Derived.Test.YtkennobdoldlkaaJDrivePlans51
section
/- The law DrivePlans, walked. -/
namespace Go.Proofs.Ytkennobdoldlkaa.PAll
open Go.RowKit Go.Proofs.YtkennobdoldlkaaW.PrintWords Go.Proofs.YtkennobdoldlkaaW.PrintLast Go.Proofs.Ytkennobdoldlkaa
set_option linter.unusedVariables false
set_option linter.unusedSimpArgs false
set_option maxHeartbeats 4000000 in
set_option maxRecDepth 100000 in
theorem DrivePlans_walk {w : World} (cs : Array Value) (x : S27) (hx : k27.K w x cs.toList) (hsx : ok27 x) (group : Int) (hgw : (Lit.int .u64 group).wf = true) :
    Calls Try.prog 6 #[.agg cs, .int .u64 group] w fun e w' => e = .returned (.bool true) ∧ Below w.heap.size w w' := by
  obtain ⟨hl3, hg3⟩ := planOk hsx
  obtain ⟨A, c, rfl, hc3, hC3⟩ := planArg hx
  obtain ⟨⟨ta, ti⟩, st⟩ := x
  dsimp only at *
  have HST := Aside0.mk hC3
  clear hx hsx hC3
  have hx0 := heap_alloc_new w (.cells #[.int .u64 ta, .int .u64 ti, .slice A st.length c] 27)
  have HB0 := Aside0.mk ((Below.refl w.heap.size w).alloc (Nat.le_refl _) (.cells #[.int .u64 ta, .int .u64 ti, .slice A st.length c] 27))
  go_enter Try.func6, Try.ntmps6
  have HP0 := Aside0.mk hx0
  clear hx0
  go_upto_region 1 with (fail)
  change Code.wp _ _ _ _ (w.alloc (.cells #[.int .u64 ta, .int .u64 ti, .slice A st.length c] 27))
  generalize w.alloc (.cells #[.int .u64 ta, .int .u64 ti, .slice A st.length c] 27) = w1 at *
  go_upto_region 2 with (go_at_call 9; refine (shown20 _).mono ?_; rintro e w2 ⟨rfl, hb2⟩; have HB2a := Aside0.mk hb2; clear hb2)
  have HP2 := Aside0.mk (stay20 HB2a.out HP0.out)
  have HB2 := Aside0.mk (HB0.out.trans (HB2a.out.mono HB0.out.size))
  obtain ⟨hp0, hp1, hp2⟩ := cellsB3 HP2.out
  clear HP0 HB0 HB2a
  clear hp0 hp1 hp2
  refine wp_region_noPanic ?_
  refine wp_region_last_drew (ds := []) (S := (fun wz => Below w2.heap.size w2 wz)) (by kernel_rfl) ((Below.refl _ _).drew) (fun hHeld => ?_)
  refine wpAnyLast_take (i := 0) (oi := _) (v := .agg #[.int .u64 ta, .int .u64 ti, .slice A st.length c]) rfl (by kernel_rfl) (by kernel_rfl) (by kernel_rfl) (by kernel_rfl) (by kernel_rfl) (fun _ _ _ h => h) (Or.inl ⟨by kernel_rfl, ?_⟩) (by assumption) ?_
  · intro wz hSw; (try dsimp only at hSw); obtain ⟨hp0, hp1, hp2⟩ := cellsB3 (stay20 hSw HP2.out); go_simp
  try simp only [Act.put, List.setIfInBounds_toArray, List.set_cons_zero, List.set_cons_succ, List.getElem_toArray, List.getElem_cons_succ, List.getElem_cons_zero]
  refine wpAnyLast_take (i := 2) (oi := _) (v := .agg #[.int .u64 ta, .int .u64 ti, .slice A st.length c]) rfl (by kernel_rfl) (by kernel_rfl) (by kernel_rfl) (by kernel_rfl) (by kernel_rfl) (fun _ _ _ h => h) (Or.inl ⟨by kernel_rfl, ?_⟩) (by assumption) ?_
  · intro wz hSw; (try dsimp only at hSw); obtain ⟨hp0, hp1, hp2⟩ := cellsB3 (stay20 hSw HP2.out); go_simp
  try simp only [Act.put, List.setIfInBounds_toArray, List.set_cons_zero, List.set_cons_succ, List.getElem_toArray, List.getElem_cons_succ, List.getElem_cons_zero]
  refine wpAnyLast_ready (rs := [1]) (by kernel_rfl) (by simp) ?_
  refine AllReadyL.cons (o := _) rfl (by decide) (fun K hK => ?_) AllReadyL.nil
  go_simp; go_at_call 17; refine (parts_walk ta ti A c st w2.drew (Kd.C_below HST.out (HB2.out.trans ((((Below.refl w2.heap.size w2).drew)).mono HB2.out.size))) hc3 (by omega) hg3).mono ?_; rintro e wa ⟨va, rfl, hRa, hba⟩; obtain ⟨Aa, ca, rfl, hca, hCa⟩ := Sl.of_R hRa; clear hRa; have HCa := Aside0.mk hCa; clear hCa; go_simp
  have HBa := Aside0.mk ((((Below.refl w2.heap.size w2).drew)).trans (hba.mono (((Below.refl w2.heap.size w2).drew)).size) : Below w2.heap.size w2 wa)
  clear hba
  refine hK.out _ _ HBa.out (fun hHelda => ?_)
  clear hK K
  try simp only [Act.put, List.setIfInBounds_toArray, List.set_cons_zero, List.set_cons_succ, List.getElem_toArray, List.getElem_cons_succ, List.getElem_cons_zero]
  refine wpAnyLast_ready (rs := [3]) (by kernel_rfl) (by simp) ?_
  refine AllReadyL.cons (o := _) rfl (by decide) (fun K hK => ?_) AllReadyL.nil
  go_simp; go_at_call 19; refine (refParts_calls ta ti A c st _ (Kd.C_below HST.out (HB2.out.trans ((HBa.out).mono HB2.out.size))) hc3 hl3).mono ?_; rintro e wb ⟨Ab, cb, rfl, hcb, hCb, hbb⟩; have HCb := Aside0.mk hCb; clear hCb; have HGb := Aside0.mk hbb; go_simp
  have HBb := Aside0.mk ((HBa.out).trans (hbb.mono (HBa.out).size) : Below w2.heap.size w2 wb)
  clear hbb
  refine hK.out _ _ HBb.out (fun hHeldb => ?_)
  clear hK K
  try simp only [Act.put, List.setIfInBounds_toArray, List.set_cons_zero, List.set_cons_succ, List.getElem_toArray, List.getElem_cons_succ, List.getElem_cons_zero]
  refine wpAnyLast_ready (rs := [4]) (by kernel_rfl) (by simp) ?_
  refine AllReadyL.cons (o := _) rfl (by decide) (fun K hK => ?_) AllReadyL.nil
  go_simp; go_at_call 18; refine (nums_same (parts_len20 st hl3) (Kd.C_below HCa.out HGb.out) hca HCb.out hcb).mono ?_; rintro e wc ⟨rfl, hbc⟩; go_simp
  have HBc := Aside0.mk ((HBb.out).trans (hbc.mono (HBb.out).size) : Below w2.heap.size w2 wc)
  clear hbc
  refine hK.out _ _ HBc.out (fun hHeldc => ?_)
  clear hK K
  try simp only [Act.put, List.setIfInBounds_toArray, List.set_cons_zero, List.set_cons_succ, List.getElem_toArray, List.getElem_cons_succ, List.getElem_cons_zero]
  refine wpAnyLast_take (i := 5) (oi := _) (v := .bool true) rfl (by kernel_rfl) (by kernel_rfl) (by kernel_rfl) (by kernel_rfl) (by kernel_rfl) (fun _ _ _ h => h) (Or.inl ⟨by kernel_rfl, ?_⟩) (by assumption) ?_
  · intro wz hSw; (try dsimp only at hSw); go_simp
  try simp only [Act.put, List.setIfInBounds_toArray, List.set_cons_zero, List.set_cons_succ, List.getElem_toArray, List.getElem_cons_succ, List.getElem_cons_zero]
  refine wpAnyLast_done (by kernel_rfl) ?_ _
  refine NoPanic.normal ?_
  clear hHeld hHelda hHeldb hHeldc HCa HCb HGb HBa HBb hca hcb
  have HP3 := Aside0.mk (stay20 HBc.out HP2.out)
  have HB3 := Aside0.mk (HB2.out.trans (HBc.out.mono HB2.out.size))
  clear HBc HP2 HB2
  go_upto_region 3 with (fail)
  refine wp_region_noPanic ?_
  refine wp_region_last_drew (ds := []) (S := (fun wz => Below wc.heap.size wc wz)) (by kernel_rfl) ((Below.refl _ _).drew) (fun hHeld => ?_)
  refine wpAnyLast_take (i := 0) (oi := _) (v := .agg #[.int .u64 ta, .int .u64 ti, .slice A st.length c]) rfl (by kernel_rfl) (by kernel_rfl) (by kernel_rfl) (by kernel_rfl) (by kernel_rfl) (fun _ _ _ h => h) (Or.inl ⟨by kernel_rfl, ?_⟩) (by assumption) ?_
  · intro wz hSw; (try dsimp only at hSw); obtain ⟨hp0, hp1, hp2⟩ := cellsB3 (stay20 hSw HP3.out); go_simp
  try simp only [Act.put, List.setIfInBounds_toArray, List.set_cons_zero, List.set_cons_succ, List.getElem_toArray, List.getElem_cons_succ, List.getElem_cons_zero]
  refine wpAnyLast_take (i := 1) (oi := _) (v := .int .u64 group) rfl (by kernel_rfl) (by kernel_rfl) (by kernel_rfl) (by kernel_rfl) (by kernel_rfl) (fun _ _ _ h => h) (Or.inl ⟨by kernel_rfl, ?_⟩) (by assumption) ?_
  · intro wz hSw; (try dsimp only at hSw); go_simp
  try simp only [Act.put, List.setIfInBounds_toArray, List.set_cons_zero, List.set_cons_succ, List.getElem_toArray, List.getElem_cons_succ, List.getElem_cons_zero]
  refine wpAnyLast_take (i := 3) (oi := _) (v := .agg #[.int .u64 ta, .int .u64 ti, .slice A st.length c]) rfl (by kernel_rfl) (by kernel_rfl) (by kernel_rfl) (by kernel_rfl) (by kernel_rfl) (fun _ _ _ h => h) (Or.inl ⟨by kernel_rfl, ?_⟩) (by assumption) ?_
  · intro wz hSw; (try dsimp only at hSw); obtain ⟨hp0, hp1, hp2⟩ := cellsB3 (stay20 hSw HP3.out); go_simp
  try simp only [Act.put, List.setIfInBounds_toArray, List.set_cons_zero, List.set_cons_succ, List.getElem_toArray, List.getElem_cons_succ, List.getElem_cons_zero]
  refine wpAnyLast_take (i := 4) (oi := _) (v := .int .u64 group) rfl (by kernel_rfl) (by kernel_rfl) (by kernel_rfl) (by kernel_rfl) (by kernel_rfl) (fun _ _ _ h => h) (Or.inl ⟨by kernel_rfl, ?_⟩) (by assumption) ?_
  · intro wz hSw; (try dsimp only at hSw); go_simp
  try simp only [Act.put, List.setIfInBounds_toArray, List.set_cons_zero, List.set_cons_succ, List.getElem_toArray, List.getElem_cons_succ, List.getElem_cons_zero]
  refine wpAnyLast_ready (rs := [2]) (by kernel_rfl) (by simp) ?_
  refine AllReadyL.cons (o := _) rfl (by decide) (fun K hK => ?_) AllReadyL.nil
  go_simp; go_at_call 21; refine (puts_walk ta ti A c st group wc.drew (Kd.C_below HST.out (HB3.out.trans ((((Below.refl wc.heap.size wc).drew)).mono HB3.out.size))) hc3 hl3).mono ?_; rintro e wd ⟨vd, rfl, hRd, hbd⟩; obtain ⟨Ad, cd, rfl, hcd, hCd⟩ := Sl.of_R hRd; clear hRd; have HCd := Aside0.mk hCd; clear hCd; go_simp
  have HBd := Aside0.mk ((((Below.refl wc.heap.size wc).drew)).trans (hbd.mono (((Below.refl wc.heap.size wc).drew)).size) : Below wc.heap.size wc wd)
  clear hbd
  refine hK.out _ _ HBd.out (fun hHeldd => ?_)
  clear hK K
  try simp only [Act.put, List.setIfInBounds_toArray, List.set_cons_zero, List.set_cons_succ, List.getElem_toArray, List.getElem_cons_succ, List.getElem_cons_zero]
  refine wpAnyLast_ready (rs := [5]) (by kernel_rfl) (by simp) ?_
  refine AllReadyL.cons (o := _) rfl (by decide) (fun K hK => ?_) AllReadyL.nil
  go_simp; go_at_call 22; refine (refPuts_calls ta ti A c st group _ (Kd.C_below HST.out (HB3.out.trans ((HBd.out).mono HB3.out.size))) hc3 hl3).mono ?_; rintro e we ⟨Ae, ce, rfl, hce, hCe, hbe⟩; have HCe := Aside0.mk hCe; clear hCe; have HGe := Aside0.mk hbe; go_simp
  have HBe := Aside0.mk ((HBd.out).trans (hbe.mono (HBd.out).size) : Below wc.heap.size wc we)
  clear hbe
  refine hK.out _ _ HBe.out (fun hHelde => ?_)
  clear hK K
  try simp only [Act.put, List.setIfInBounds_toArray, List.set_cons_zero, List.set_cons_succ, List.getElem_toArray, List.getElem_cons_succ, List.getElem_cons_zero]
  refine wpAnyLast_ready (rs := [6]) (by kernel_rfl) (by simp) ?_
  refine AllReadyL.cons (o := _) rfl (by decide) (fun K hK => ?_) AllReadyL.nil
  go_simp; go_at_call 20; refine (puts_same (puts_len20 st group hl3) (Kd.C_below HCd.out HGe.out) hcd HCe.out hce).mono ?_; rintro e wf ⟨rfl, hbf⟩; go_simp
  have HBf := Aside0.mk ((HBe.out).trans (hbf.mono (HBe.out).size) : Below wc.heap.size wc wf)
  clear hbf
  refine hK.out _ _ HBf.out (fun hHeldf => ?_)
  clear hK K
  try simp only [Act.put, List.setIfInBounds_toArray, List.set_cons_zero, List.set_cons_succ, List.getElem_toArray, List.getElem_cons_succ, List.getElem_cons_zero]
  refine wpAnyLast_take (i := 7) (oi := _) (v := .bool true) rfl (by kernel_rfl) (by kernel_rfl) (by kernel_rfl) (by kernel_rfl) (by kernel_rfl) (fun _ _ _ h => h) (Or.inl ⟨by kernel_rfl, ?_⟩) (by assumption) ?_
  · intro wz hSw; (try dsimp only at hSw); go_simp
  try simp only [Act.put, List.setIfInBounds_toArray, List.set_cons_zero, List.set_cons_succ, List.getElem_toArray, List.getElem_cons_succ, List.getElem_cons_zero]
  refine wpAnyLast_done (by kernel_rfl) ?_ _
  refine NoPanic.normal ?_
  clear hHeld hHeldd hHelde hHeldf HCd HCe HGe HBd HBe hcd hce
  have HP4 := Aside0.mk (stay20 HBf.out HP3.out)
  have HB4 := Aside0.mk (HB3.out.trans (HBf.out.mono HB3.out.size))
  clear HBf HP3 HB3
  have HLB := Aside0.mk (begin_st ta ti st hl3)
  have HLO := Aside0.mk (orphan_st ta ti st hl3)
  have HC1 := Aside0.mk (fun (W : World) (h : Below w.heap.size w W) => (begin_calls ta ti A c st W (Kd.C_below HST.out h) hc3 hl3 hg3).mono (fun _ _ h => DRet.of_b h))
  have HC2 := Aside0.mk (fun (W : World) (h : Below w.heap.size w W) => refBegin_calls ta ti A c st W (Kd.C_below HST.out h) hc3 hl3)
  have HC3 := Aside0.mk (fun (W : World) (h : Below w.heap.size w W) => (orphan_calls ta ti A c st W (Kd.C_below HST.out h) hc3 hl3 hg3).mono (fun _ _ h => DRet.of_b h))
  have HC4 := Aside0.mk (fun (W : World) (h : Below w.heap.size w W) => refOrphan_calls ta ti A c st W (Kd.C_below HST.out h) hc3 hl3)
  generalize beginV ta ti st = rb at *
  generalize orphanV ta ti st = ro at *
  obtain ⟨b, eb⟩ := rb
  obtain ⟨o, eo⟩ := ro
  dsimp only at *
  obtain ⟨hp0, hp1, hp2⟩ := cellsB3 HP4.out
  go_upto_region 5 with (go_at_call 16; refine (HC1.out _ HB4.out).mono ?_; rintro e v5 ⟨A5, c5, B5, e5, rfl, hR5, hb5⟩; unfold dargs; dsimp only; have HR5 := Aside0.mk hR5; have HV5 := Aside0.mk hb5; clear hR5 hb5 hp0 hp1 hp2)
  have HW5 := Aside0.mk (HB4.out.trans (HV5.out.mono HB4.out.size))
  have HB5 := Aside0.mk (HW5.out.alloc HW5.out.size (.cells #[.int .u64 b.ta, .int .u64 b.ti, .slice A5 b.st.length c5, .int .i64 b.ph, .int .i64 b.ap, .bool b.fa, .bool b.og, .bool b.cm, .slice B5 b.sw.length e5] 30))
  have HP5 := Aside0.mk (stayA20 (stay20 HV5.out HP4.out) (.cells #[.int .u64 b.ta, .int .u64 b.ti, .slice A5 b.st.length c5, .int .i64 b.ph, .int .i64 b.ap, .bool b.fa, .bool b.og, .bool b.cm, .slice B5 b.sw.length e5] 30))
  have HX5 := Aside0.mk (heap_alloc_new v5 (.cells #[.int .u64 b.ta, .int .u64 b.ti, .slice A5 b.st.length c5, .int .i64 b.ph, .int .i64 b.ap, .bool b.fa, .bool b.og, .bool b.cm, .slice B5 b.sw.length e5] 30))
  have HS5 := Aside0.mk ((Below.refl v5.heap.size v5).alloc (Nat.le_refl _) (.cells #[.int .u64 b.ta, .int .u64 b.ti, .slice A5 b.st.length c5, .int .i64 b.ph, .int .i64 b.ap, .bool b.fa, .bool b.og, .bool b.cm, .slice B5 b.sw.length e5] 30))
  have HD5 := Aside0.mk (HR5.out.below HS5.out)
  change Code.wp _ _ _ _ (v5.alloc (.cells #[.int .u64 b.ta, .int .u64 b.ti, .slice A5 b.st.length c5, .int .i64 b.ph, .int .i64 b.ap, .bool b.fa, .bool b.og, .bool b.cm, .slice B5 b.sw.length e5] 30))
  generalize v5.alloc (.cells #[.int .u64 b.ta, .int .u64 b.ti, .slice A5 b.st.length c5, .int .i64 b.ph, .int .i64 b.ap, .bool b.fa, .bool b.og, .bool b.cm, .slice B5 b.sw.length e5] 30) = w5 at *
  generalize v5.heap.size = q5 at *
  clear HW5 HR5 HS5 HV5 HB4 HP4
  obtain ⟨hp0, hp1, hp2⟩ := cellsB3 HP5.out
  go_upto_region 6 with (go_at_call 23; refine (HC2.out _ HB5.out).mono ?_; rintro e v6 ⟨A6, c6, B6, e6, rfl, hR6, hb6⟩; unfold dargs; dsimp only; have HR6 := Aside0.mk hR6; have HV6 := Aside0.mk hb6; clear hR6 hb6 hp0 hp1 hp2)
  have HW6 := Aside0.mk (HB5.out.trans (HV6.out.mono HB5.out.size))
  have HB6 := Aside0.mk (HW6.out.alloc HW6.out.size (.cells #[.int .u64 b.ta, .int .u64 b.ti, .slice A6 b.st.length c6, .int .i64 b.ph, .int .i64 b.ap, .bool b.fa, .bool b.og, .bool b.cm, .slice B6 b.sw.length e6] 30))
  have HP6 := Aside0.mk (stayA20 (stay20 HV6.out HP5.out) (.cells #[.int .u64 b.ta, .int .u64 b.ti, .slice A6 b.st.length c6, .int .i64 b.ph, .int .i64 b.ap, .bool b.fa, .bool b.og, .bool b.cm, .slice B6 b.sw.length e6] 30))
  have HX6 := Aside0.mk (heap_alloc_new v6 (.cells #[.int .u64 b.ta, .int .u64 b.ti, .slice A6 b.st.length c6, .int .i64 b.ph, .int .i64 b.ap, .bool b.fa, .bool b.og, .bool b.cm, .slice B6 b.sw.length e6] 30))
  have HS6 := Aside0.mk ((Below.refl v6.heap.size v6).alloc (Nat.le_refl _) (.cells #[.int .u64 b.ta, .int .u64 b.ti, .slice A6 b.st.length c6, .int .i64 b.ph, .int .i64 b.ap, .bool b.fa, .bool b.og, .bool b.cm, .slice B6 b.sw.length e6] 30))
  have HD6 := Aside0.mk (HR6.out.below HS6.out)
  have HY5 := Aside0.mk (stayA20 (stay20 HV6.out HX5.out) (.cells #[.int .u64 b.ta, .int .u64 b.ti, .slice A6 b.st.length c6, .int .i64 b.ph, .int .i64 b.ap, .bool b.fa, .bool b.og, .bool b.cm, .slice B6 b.sw.length e6] 30))
  have HE5 := Aside0.mk (HD5.out.below (HV6.out.trans (HS6.out.mono HV6.out.size)))
  clear HX5 HD5
  have HX5 := HY5
  have HD5 := HE5
  clear HY5 HE5
  change Code.wp _ _ _ _ (v6.alloc (.cells #[.int .u64 b.ta, .int .u64 b.ti, .slice A6 b.st.length c6, .int .i64 b.ph, .int .i64 b.ap, .bool b.fa, .bool b.og, .bool b.cm, .slice B6 b.sw.length e6] 30))
  generalize v6.alloc (.cells #[.int .u64 b.ta, .int .u64 b.ti, .slice A6 b.st.length c6, .int .i64 b.ph, .int .i64 b.ap, .bool b.fa, .bool b.og, .bool b.cm, .slice B6 b.sw.length e6] 30) = w6 at *
  generalize v6.heap.size = q6 at *
  clear HW6 HR6 HS6 HV6 HB5 HP5
  obtain ⟨hp0, hp1, hp2⟩ := cellsB3 HP6.out
  go_upto_region 7 with (go_at_call 24; refine (HC3.out _ HB6.out).mono ?_; rintro e v7 ⟨A7, c7, B7, e7, rfl, hR7, hb7⟩; unfold dargs; dsimp only; have HR7 := Aside0.mk hR7; have HV7 := Aside0.mk hb7; clear hR7 hb7 hp0 hp1 hp2)
  have HW7 := Aside0.mk (HB6.out.trans (HV7.out.mono HB6.out.size))
  have HB7 := Aside0.mk (HW7.out.alloc HW7.out.size (.cells #[.int .u64 o.ta, .int .u64 o.ti, .slice A7 o.st.length c7, .int .i64 o.ph, .int .i64 o.ap, .bool o.fa, .bool o.og, .bool o.cm, .slice B7 o.sw.length e7] 30))
  have HP7 := Aside0.mk (stayA20 (stay20 HV7.out HP6.out) (.cells #[.int .u64 o.ta, .int .u64 o.ti, .slice A7 o.st.length c7, .int .i64 o.ph, .int .i64 o.ap, .bool o.fa, .bool o.og, .bool o.cm, .slice B7 o.sw.length e7] 30))
  have HX7 := Aside0.mk (heap_alloc_new v7 (.cells #[.int .u64 o.ta, .int .u64 o.ti, .slice A7 o.st.length c7, .int .i64 o.ph, .int .i64 o.ap, .bool o.fa, .bool o.og, .bool o.cm, .slice B7 o.sw.length e7] 30))
  have HS7 := Aside0.mk ((Below.refl v7.heap.size v7).alloc (Nat.le_refl _) (.cells #[.int .u64 o.ta, .int .u64 o.ti, .slice A7 o.st.length c7, .int .i64 o.ph, .int .i64 o.ap, .bool o.fa, .bool o.og, .bool o.cm, .slice B7 o.sw.length e7] 30))
  have HD7 := Aside0.mk (HR7.out.below HS7.out)
  have HY5 := Aside0.mk (stayA20 (stay20 HV7.out HX5.out) (.cells #[.int .u64 o.ta, .int .u64 o.ti, .slice A7 o.st.length c7, .int .i64 o.ph, .int .i64 o.ap, .bool o.fa, .bool o.og, .bool o.cm, .slice B7 o.sw.length e7] 30))
  have HE5 := Aside0.mk (HD5.out.below (HV7.out.trans (HS7.out.mono HV7.out.size)))
  clear HX5 HD5
  have HX5 := HY5
  have HD5 := HE5
  clear HY5 HE5
  have HY6 := Aside0.mk (stayA20 (stay20 HV7.out HX6.out) (.cells #[.int .u64 o.ta, .int .u64 o.ti, .slice A7 o.st.length c7, .int .i64 o.ph, .int .i64 o.ap, .bool o.fa, .bool o.og, .bool o.cm, .slice B7 o.sw.length e7] 30))
  have HE6 := Aside0.mk (HD6.out.below (HV7.out.trans (HS7.out.mono HV7.out.size)))
  clear HX6 HD6
  have HX6 := HY6
  have HD6 := HE6
  clear HY6 HE6
  change Code.wp _ _ _ _ (v7.alloc (.cells #[.int .u64 o.ta, .int .u64 o.ti, .slice A7 o.st.length c7, .int .i64 o.ph, .int .i64 o.ap, .bool o.fa, .bool o.og, .bool o.cm, .slice B7 o.sw.length e7] 30))
  generalize v7.alloc (.cells #[.int .u64 o.ta, .int .u64 o.ti, .slice A7 o.st.length c7, .int .i64 o.ph, .int .i64 o.ap, .bool o.fa, .bool o.og, .bool o.cm, .slice B7 o.sw.length e7] 30) = w7 at *
  generalize v7.heap.size = q7 at *
  clear HW7 HR7 HS7 HV7 HB6 HP6
  obtain ⟨hp0, hp1, hp2⟩ := cellsB3 HP7.out
  go_upto_region 8 with (go_at_call 25; refine (HC4.out _ HB7.out).mono ?_; rintro e v8 ⟨A8, c8, B8, e8, rfl, hR8, hb8⟩; unfold dargs; dsimp only; have HR8 := Aside0.mk hR8; have HV8 := Aside0.mk hb8; clear hR8 hb8 hp0 hp1 hp2)
  have HW8 := Aside0.mk (HB7.out.trans (HV8.out.mono HB7.out.size))
  have HB8 := Aside0.mk (HW8.out.alloc HW8.out.size (.cells #[.int .u64 o.ta, .int .u64 o.ti, .slice A8 o.st.length c8, .int .i64 o.ph, .int .i64 o.ap, .bool o.fa, .bool o.og, .bool o.cm, .slice B8 o.sw.length e8] 30))
  have HP8 := Aside0.mk (stayA20 (stay20 HV8.out HP7.out) (.cells #[.int .u64 o.ta, .int .u64 o.ti, .slice A8 o.st.length c8, .int .i64 o.ph, .int .i64 o.ap, .bool o.fa, .bool o.og, .bool o.cm, .slice B8 o.sw.length e8] 30))
  have HX8 := Aside0.mk (heap_alloc_new v8 (.cells #[.int .u64 o.ta, .int .u64 o.ti, .slice A8 o.st.length c8, .int .i64 o.ph, .int .i64 o.ap, .bool o.fa, .bool o.og, .bool o.cm, .slice B8 o.sw.length e8] 30))
  have HS8 := Aside0.mk ((Below.refl v8.heap.size v8).alloc (Nat.le_refl _) (.cells #[.int .u64 o.ta, .int .u64 o.ti, .slice A8 o.st.length c8, .int .i64 o.ph, .int .i64 o.ap, .bool o.fa, .bool o.og, .bool o.cm, .slice B8 o.sw.length e8] 30))
  have HD8 := Aside0.mk (HR8.out.below HS8.out)
  have HY5 := Aside0.mk (stayA20 (stay20 HV8.out HX5.out) (.cells #[.int .u64 o.ta, .int .u64 o.ti, .slice A8 o.st.length c8, .int .i64 o.ph, .int .i64 o.ap, .bool o.fa, .bool o.og, .bool o.cm, .slice B8 o.sw.length e8] 30))
  have HE5 := Aside0.mk (HD5.out.below (HV8.out.trans (HS8.out.mono HV8.out.size)))
  clear HX5 HD5
  have HX5 := HY5
  have HD5 := HE5
  clear HY5 HE5
  have HY6 := Aside0.mk (stayA20 (stay20 HV8.out HX6.out) (.cells #[.int .u64 o.ta, .int .u64 o.ti, .slice A8 o.st.length c8, .int .i64 o.ph, .int .i64 o.ap, .bool o.fa, .bool o.og, .bool o.cm, .slice B8 o.sw.length e8] 30))
  have HE6 := Aside0.mk (HD6.out.below (HV8.out.trans (HS8.out.mono HV8.out.size)))
  clear HX6 HD6
  have HX6 := HY6
  have HD6 := HE6
  clear HY6 HE6
  have HY7 := Aside0.mk (stayA20 (stay20 HV8.out HX7.out) (.cells #[.int .u64 o.ta, .int .u64 o.ti, .slice A8 o.st.length c8, .int .i64 o.ph, .int .i64 o.ap, .bool o.fa, .bool o.og, .bool o.cm, .slice B8 o.sw.length e8] 30))
  have HE7 := Aside0.mk (HD7.out.below (HV8.out.trans (HS8.out.mono HV8.out.size)))
  clear HX7 HD7
  have HX7 := HY7
  have HD7 := HE7
  clear HY7 HE7
  change Code.wp _ _ _ _ (v8.alloc (.cells #[.int .u64 o.ta, .int .u64 o.ti, .slice A8 o.st.length c8, .int .i64 o.ph, .int .i64 o.ap, .bool o.fa, .bool o.og, .bool o.cm, .slice B8 o.sw.length e8] 30))
  generalize v8.alloc (.cells #[.int .u64 o.ta, .int .u64 o.ti, .slice A8 o.st.length c8, .int .i64 o.ph, .int .i64 o.ap, .bool o.fa, .bool o.og, .bool o.cm, .slice B8 o.sw.length e8] 30) = w8 at *
  generalize v8.heap.size = q8 at *
  clear HW8 HR8 HS8 HV8 HB7 HP7
  obtain ⟨ha0, ha1, ha2, ha3, ha4, ha5, ha6, ha7, ha8⟩ := cellsB9 HX5.out
  obtain ⟨hb0, hb1, hb2, hb3, hb4, hb5, hb6, hb7, hb8⟩ := cellsB9 HX6.out
  go_upto_region 9 with (go_at_call 13; refine (refSame_calls HD5.out HD6.out HLB.out.1 HLB.out.2).mono ?_; rw [sameD_self]; rintro e w9 ⟨rfl, hb9⟩; have HV9 := Aside0.mk hb9; clear hb9 ha0 ha1 ha2 ha3 ha4 ha5 ha6 ha7 ha8 hb0 hb1 hb2 hb3 hb4 hb5 hb6 hb7 hb8)
  have HB9 := Aside0.mk (HB8.out.trans (HV9.out.mono HB8.out.size))
  have HP9 := Aside0.mk (stay20 HV9.out HP8.out)
  have HY7 := Aside0.mk (stay20 HV9.out HX7.out)
  have HE7 := Aside0.mk (HD7.out.below HV9.out)
  clear HX7 HD7
  have HX7 := HY7
  have HD7 := HE7
  clear HY7 HE7
  have HY8 := Aside0.mk (stay20 HV9.out HX8.out)
  have HE8 := Aside0.mk (HD8.out.below HV9.out)
  clear HX8 HD8
  have HX8 := HY8
  have HD8 := HE8
  clear HY8 HE8
  clear HV9 HB8 HP8
  obtain ⟨ha0, ha1, ha2, ha3, ha4, ha5, ha6, ha7, ha8⟩ := cellsB9 HX7.out
  obtain ⟨hb0, hb1, hb2, hb3, hb4, hb5, hb6, hb7, hb8⟩ := cellsB9 HX8.out
  go_upto_region 10 with (go_at_call 13; refine (refSame_calls HD7.out HD8.out HLO.out.1 HLO.out.2).mono ?_; rw [sameD_self]; rintro e w10 ⟨rfl, hb10⟩; have HV10 := Aside0.mk hb10; clear hb10 ha0 ha1 ha2 ha3 ha4 ha5 ha6 ha7 ha8 hb0 hb1 hb2 hb3 hb4 hb5 hb6 hb7 hb8)
  have HB10 := Aside0.mk (HB9.out.trans (HV10.out.mono HB9.out.size))
  have HP10 := Aside0.mk (stay20 HV10.out HP9.out)
  clear HV10 HB9 HP9
  refine wp_region_noPanic ?_
  refine wp_region_last_drew (ds := []) (S := (fun wz => Below w10.heap.size w10 wz)) (by kernel_rfl) ((Below.refl _ _).drew) (fun hHeld => ?_)
  refine wpAnyLast_take (i := 0) (oi := _) (v := .bool true) rfl (by kernel_rfl) (by kernel_rfl) (by kernel_rfl) (by kernel_rfl) (by kernel_rfl) (fun _ _ _ h => h) (Or.inl ⟨by kernel_rfl, ?_⟩) (by assumption) ?_
  · intro wz hSw; (try dsimp only at hSw); go_simp
  try simp only [Act.put, List.setIfInBounds_toArray, List.set_cons_zero, List.set_cons_succ, List.getElem_toArray, List.getElem_cons_succ, List.getElem_cons_zero]
  refine wpAnyLast_take (i := 1) (oi := _) (v := .bool true) rfl (by kernel_rfl) (by kernel_rfl) (by kernel_rfl) (by kernel_rfl) (by kernel_rfl) (fun _ _ _ h => h) (Or.inl ⟨by kernel_rfl, ?_⟩) (by assumption) ?_
  · intro wz hSw; (try dsimp only at hSw); go_simp
  try simp only [Act.put, List.setIfInBounds_toArray, List.set_cons_zero, List.set_cons_succ, List.getElem_toArray, List.getElem_cons_succ, List.getElem_cons_zero]
  refine wpAnyLast_take (i := 2) (oi := _) (v := .bool true) rfl (by kernel_rfl) (by kernel_rfl) (by kernel_rfl) (by kernel_rfl) (by kernel_rfl) (fun _ _ _ h => h) (Or.inl ⟨by kernel_rfl, ?_⟩) (by assumption) ?_
  · intro wz hSw; (try dsimp only at hSw); go_simp
  try simp only [Act.put, List.setIfInBounds_toArray, List.set_cons_zero, List.set_cons_succ, List.getElem_toArray, List.getElem_cons_succ, List.getElem_cons_zero]
  refine wpAnyLast_take (i := 3) (oi := _) (v := .bool true) rfl (by kernel_rfl) (by kernel_rfl) (by kernel_rfl) (by kernel_rfl) (by kernel_rfl) (fun _ _ _ h => h) (Or.inl ⟨by kernel_rfl, ?_⟩) (by assumption) ?_
  · intro wz hSw; (try dsimp only at hSw); go_simp
  try simp only [Act.put, List.setIfInBounds_toArray, List.set_cons_zero, List.set_cons_succ, List.getElem_toArray, List.getElem_cons_succ, List.getElem_cons_zero]
  refine wpAnyLast_take (i := 4) (oi := _) (v := .bool true) rfl (by kernel_rfl) (by kernel_rfl) (by kernel_rfl) (by kernel_rfl) (by kernel_rfl) (fun _ _ _ h => h) (Or.inl ⟨by kernel_rfl, ?_⟩) (by assumption) ?_
  · intro wz hSw; (try dsimp only at hSw); go_simp
  try simp only [Act.put, List.setIfInBounds_toArray, List.set_cons_zero, List.set_cons_succ, List.getElem_toArray, List.getElem_cons_succ, List.getElem_cons_zero]
  refine wpAnyLast_take (i := 5) (oi := _) (v := .bool true) rfl (by kernel_rfl) (by kernel_rfl) (by kernel_rfl) (by kernel_rfl) (by kernel_rfl) (fun _ _ _ h => h) (Or.inl ⟨by kernel_rfl, ?_⟩) (by assumption) ?_
  · intro wz hSw; (try dsimp only at hSw); go_simp
  try simp only [Act.put, List.setIfInBounds_toArray, List.set_cons_zero, List.set_cons_succ, List.getElem_toArray, List.getElem_cons_succ, List.getElem_cons_zero]
  refine wpAnyLast_take (i := 6) (oi := _) (v := .bool true) rfl (by kernel_rfl) (by kernel_rfl) (by kernel_rfl) (by kernel_rfl) (by kernel_rfl) (fun _ _ _ h => h) (Or.inl ⟨by kernel_rfl, ?_⟩) (by assumption) ?_
  · intro wz hSw; (try dsimp only at hSw); go_simp
  try simp only [Act.put, List.setIfInBounds_toArray, List.set_cons_zero, List.set_cons_succ, List.getElem_toArray, List.getElem_cons_succ, List.getElem_cons_zero]
  refine wpAnyLast_take (i := 7) (oi := _) (v := .bool true) rfl (by kernel_rfl) (by kernel_rfl) (by kernel_rfl) (by kernel_rfl) (by kernel_rfl) (fun _ _ _ h => h) (Or.inl ⟨by kernel_rfl, ?_⟩) (by assumption) ?_
  · intro wz hSw; (try dsimp only at hSw); go_simp
  try simp only [Act.put, List.setIfInBounds_toArray, List.set_cons_zero, List.set_cons_succ, List.getElem_toArray, List.getElem_cons_succ, List.getElem_cons_zero]
  refine wpAnyLast_take (i := 8) (oi := _) (v := .bool true) rfl (by kernel_rfl) (by kernel_rfl) (by kernel_rfl) (by kernel_rfl) (by kernel_rfl) (fun _ _ _ h => h) (Or.inl ⟨by kernel_rfl, ?_⟩) (by assumption) ?_
  · intro wz hSw; (try dsimp only at hSw); go_simp
  try simp only [Act.put, List.setIfInBounds_toArray, List.set_cons_zero, List.set_cons_succ, List.getElem_toArray, List.getElem_cons_succ, List.getElem_cons_zero]
  refine wpAnyLast_take (i := 9) (oi := _) (v := .bool true) rfl (by kernel_rfl) (by kernel_rfl) (by kernel_rfl) (by kernel_rfl) (by kernel_rfl) (fun _ _ _ h => h) (Or.inl ⟨by kernel_rfl, ?_⟩) (by assumption) ?_
  · intro wz hSw; (try dsimp only at hSw); go_simp
  try simp only [Act.put, List.setIfInBounds_toArray, List.set_cons_zero, List.set_cons_succ, List.getElem_toArray, List.getElem_cons_succ, List.getElem_cons_zero]
  refine wpAnyLast_take (i := 10) (oi := _) (v := .bool true) rfl (by kernel_rfl) (by kernel_rfl) (by kernel_rfl) (by kernel_rfl) (by kernel_rfl) (fun _ _ _ h => h) (Or.inl ⟨by kernel_rfl, ?_⟩) (by assumption) ?_
  · intro wz hSw; (try dsimp only at hSw); go_simp
  try simp only [Act.put, List.setIfInBounds_toArray, List.set_cons_zero, List.set_cons_succ, List.getElem_toArray, List.getElem_cons_succ, List.getElem_cons_zero]
  refine wpAnyLast_take (i := 11) (oi := _) (v := .bool true) rfl (by kernel_rfl) (by kernel_rfl) (by kernel_rfl) (by kernel_rfl) (by kernel_rfl) (fun _ _ _ h => h) (Or.inl ⟨by kernel_rfl, ?_⟩) (by assumption) ?_
  · intro wz hSw; (try dsimp only at hSw); go_simp
  try simp only [Act.put, List.setIfInBounds_toArray, List.set_cons_zero, List.set_cons_succ, List.getElem_toArray, List.getElem_cons_succ, List.getElem_cons_zero]
  refine wpAnyLast_take (i := 12) (oi := _) (v := .bool true) rfl (by kernel_rfl) (by kernel_rfl) (by kernel_rfl) (by kernel_rfl) (by kernel_rfl) (fun _ _ _ h => h) (Or.inl ⟨by kernel_rfl, ?_⟩) (by assumption) ?_
  · intro wz hSw; (try dsimp only at hSw); go_simp
  try simp only [Act.put, List.setIfInBounds_toArray, List.set_cons_zero, List.set_cons_succ, List.getElem_toArray, List.getElem_cons_succ, List.getElem_cons_zero]
  refine wpAnyLast_take (i := 13) (oi := _) (v := .bool true) rfl (by kernel_rfl) (by kernel_rfl) (by kernel_rfl) (by kernel_rfl) (by kernel_rfl) (fun _ _ _ h => h) (Or.inl ⟨by kernel_rfl, ?_⟩) (by assumption) ?_
  · intro wz hSw; (try dsimp only at hSw); go_simp
  try simp only [Act.put, List.setIfInBounds_toArray, List.set_cons_zero, List.set_cons_succ, List.getElem_toArray, List.getElem_cons_succ, List.getElem_cons_zero]
  refine wpAnyLast_take (i := 14) (oi := _) (v := .int .i64 eb) rfl (by kernel_rfl) (by kernel_rfl) (by kernel_rfl) (by kernel_rfl) (by kernel_rfl) (fun _ _ _ h => h) (Or.inl ⟨by kernel_rfl, ?_⟩) (by assumption) ?_
  · intro wz hSw; (try dsimp only at hSw); go_simp
  try simp only [Act.put, List.setIfInBounds_toArray, List.set_cons_zero, List.set_cons_succ, List.getElem_toArray, List.getElem_cons_succ, List.getElem_cons_zero]
  refine wpAnyLast_take (i := 15) (oi := _) (v := .int .i64 eb) rfl (by kernel_rfl) (by kernel_rfl) (by kernel_rfl) (by kernel_rfl) (by kernel_rfl) (fun _ _ _ h => h) (Or.inl ⟨by kernel_rfl, ?_⟩) (by assumption) ?_
  · intro wz hSw; (try dsimp only at hSw); go_simp
  try simp only [Act.put, List.setIfInBounds_toArray, List.set_cons_zero, List.set_cons_succ, List.getElem_toArray, List.getElem_cons_succ, List.getElem_cons_zero]
  refine wpAnyLast_take (i := 16) (oi := _) (v := .bool true) rfl (by kernel_rfl) (by kernel_rfl) (by kernel_rfl) (by kernel_rfl) (by kernel_rfl) (fun _ _ _ h => h) (Or.inl ⟨by kernel_rfl, ?_⟩) (by assumption) ?_
  · intro wz hSw; (try dsimp only at hSw); go_simp
  try simp only [Act.put, List.setIfInBounds_toArray, List.set_cons_zero, List.set_cons_succ, List.getElem_toArray, List.getElem_cons_succ, List.getElem_cons_zero]
  refine wpAnyLast_take (i := 17) (oi := _) (v := .bool true) rfl (by kernel_rfl) (by kernel_rfl) (by kernel_rfl) (by kernel_rfl) (by kernel_rfl) (fun _ _ _ h => h) (Or.inl ⟨by kernel_rfl, ?_⟩) (by assumption) ?_
  · intro wz hSw; (try dsimp only at hSw); go_simp
  try simp only [Act.put, List.setIfInBounds_toArray, List.set_cons_zero, List.set_cons_succ, List.getElem_toArray, List.getElem_cons_succ, List.getElem_cons_zero]
  refine wpAnyLast_take (i := 18) (oi := _) (v := .bool true) rfl (by kernel_rfl) (by kernel_rfl) (by kernel_rfl) (by kernel_rfl) (by kernel_rfl) (fun _ _ _ h => h) (Or.inl ⟨by kernel_rfl, ?_⟩) (by assumption) ?_
  · intro wz hSw; (try dsimp only at hSw); go_simp
  try simp only [Act.put, List.setIfInBounds_toArray, List.set_cons_zero, List.set_cons_succ, List.getElem_toArray, List.getElem_cons_succ, List.getElem_cons_zero]
  refine wpAnyLast_take (i := 19) (oi := _) (v := .int .i64 eo) rfl (by kernel_rfl) (by kernel_rfl) (by kernel_rfl) (by kernel_rfl) (by kernel_rfl) (fun _ _ _ h => h) (Or.inl ⟨by kernel_rfl, ?_⟩) (by assumption) ?_
  · intro wz hSw; (try dsimp only at hSw); go_simp
  try simp only [Act.put, List.setIfInBounds_toArray, List.set_cons_zero, List.set_cons_succ, List.getElem_toArray, List.getElem_cons_succ, List.getElem_cons_zero]
  refine wpAnyLast_take (i := 20) (oi := _) (v := .int .i64 eo) rfl (by kernel_rfl) (by kernel_rfl) (by kernel_rfl) (by kernel_rfl) (by kernel_rfl) (fun _ _ _ h => h) (Or.inl ⟨by kernel_rfl, ?_⟩) (by assumption) ?_
  · intro wz hSw; (try dsimp only at hSw); go_simp
  try simp only [Act.put, List.setIfInBounds_toArray, List.set_cons_zero, List.set_cons_succ, List.getElem_toArray, List.getElem_cons_succ, List.getElem_cons_zero]
  refine wpAnyLast_take (i := 21) (oi := _) (v := .bool true) rfl (by kernel_rfl) (by kernel_rfl) (by kernel_rfl) (by kernel_rfl) (by kernel_rfl) (fun _ _ _ h => h) (Or.inl ⟨by kernel_rfl, ?_⟩) (by assumption) ?_
  · intro wz hSw; (try dsimp only at hSw); go_simp
  try simp only [Act.put, List.setIfInBounds_toArray, List.set_cons_zero, List.set_cons_succ, List.getElem_toArray, List.getElem_cons_succ, List.getElem_cons_zero]
  refine wpAnyLast_take (i := 22) (oi := _) (v := .bool true) rfl (by kernel_rfl) (by kernel_rfl) (by kernel_rfl) (by kernel_rfl) (by kernel_rfl) (fun _ _ _ h => h) (Or.inl ⟨by kernel_rfl, ?_⟩) (by assumption) ?_
  · intro wz hSw; (try dsimp only at hSw); go_simp
  try simp only [Act.put, List.setIfInBounds_toArray, List.set_cons_zero, List.set_cons_succ, List.getElem_toArray, List.getElem_cons_succ, List.getElem_cons_zero]
  refine wpAnyLast_take (i := 23) (oi := _) (v := .bool true) rfl (by kernel_rfl) (by kernel_rfl) (by kernel_rfl) (by kernel_rfl) (by kernel_rfl) (fun _ _ _ h => h) (Or.inl ⟨by kernel_rfl, ?_⟩) (by assumption) ?_
  · intro wz hSw; (try dsimp only at hSw); go_simp
  try simp only [Act.put, List.setIfInBounds_toArray, List.set_cons_zero, List.set_cons_succ, List.getElem_toArray, List.getElem_cons_succ, List.getElem_cons_zero]
  refine wpAnyLast_take (i := 24) (oi := _) (v := .agg #[.int .u64 ta, .int .u64 ti, .slice A st.length c]) rfl (by kernel_rfl) (by kernel_rfl) (by kernel_rfl) (by kernel_rfl) (by kernel_rfl) (fun _ _ _ h => h) (Or.inl ⟨by kernel_rfl, ?_⟩) (by assumption) ?_
  · intro wz hSw; (try dsimp only at hSw); obtain ⟨hp0, hp1, hp2⟩ := cellsB3 (stay20 hSw HP10.out); go_simp
  try simp only [Act.put, List.setIfInBounds_toArray, List.set_cons_zero, List.set_cons_succ, List.getElem_toArray, List.getElem_cons_succ, List.getElem_cons_zero]
  refine wpAnyLast_take (i := 26) (oi := _) (v := .agg #[.int .u64 ta, .int .u64 ti, .slice A st.length c]) rfl (by kernel_rfl) (by kernel_rfl) (by kernel_rfl) (by kernel_rfl) (by kernel_rfl) (fun _ _ _ h => h) (Or.inl ⟨by kernel_rfl, ?_⟩) (by assumption) ?_
  · intro wz hSw; (try dsimp only at hSw); obtain ⟨hp0, hp1, hp2⟩ := cellsB3 (stay20 hSw HP10.out); go_simp
  try simp only [Act.put, List.setIfInBounds_toArray, List.set_cons_zero, List.set_cons_succ, List.getElem_toArray, List.getElem_cons_succ, List.getElem_cons_zero]
  refine wpAnyLast_ready (rs := [25]) (by kernel_rfl) (by simp) ?_
  refine AllReadyL.cons (o := _) rfl (by decide) (fun K hK => ?_) AllReadyL.nil
  go_simp; go_at_call 26; refine (may_calls ta ti A c st _ (Kd.C_below HST.out (HB10.out.trans ((((Below.refl w10.heap.size w10).drew)).mono HB10.out.size))) hc3 hl3 hg3).mono ?_; rintro e wg ⟨rfl, hbg⟩; go_simp
  have HBg := Aside0.mk ((((Below.refl w10.heap.size w10).drew)).trans (hbg.mono (((Below.refl w10.heap.size w10).drew)).size) : Below w10.heap.size w10 wg)
  clear hbg
  refine hK.out _ _ HBg.out (fun hHeldg => ?_)
  clear hK K
  try simp only [Act.put, List.setIfInBounds_toArray, List.set_cons_zero, List.set_cons_succ, List.getElem_toArray, List.getElem_cons_succ, List.getElem_cons_zero]
  refine wpAnyLast_ready (rs := [27]) (by kernel_rfl) (by simp) ?_
  refine AllReadyL.cons (o := _) rfl (by decide) (fun K hK => ?_) AllReadyL.nil
  go_simp; go_at_call 27; refine (refMay_calls ta ti A c st _ (Kd.C_below HST.out (HB10.out.trans ((HBg.out).mono HB10.out.size))) hc3 hl3).mono ?_; rintro e wh ⟨rfl, hbh⟩; go_simp
  have HBh := Aside0.mk ((HBg.out).trans (hbh.mono (HBg.out).size) : Below w10.heap.size w10 wh)
  clear hbh
  refine hK.out _ _ HBh.out (fun hHeldh => ?_)
  clear hK K
  try simp only [Act.put, List.setIfInBounds_toArray, List.set_cons_zero, List.set_cons_succ, List.getElem_toArray, List.getElem_cons_succ, List.getElem_cons_zero]
  refine wpAnyLast_take (i := 28) (oi := _) (v := .bool true) rfl (by kernel_rfl) (by kernel_rfl) (by kernel_rfl) (by kernel_rfl) (by kernel_rfl) (fun _ _ _ h => h) (Or.inl ⟨by kernel_rfl, ?_⟩) (by assumption) ?_
  · intro wz hSw; (try dsimp only at hSw); go_simp
  try simp only [Act.put, List.setIfInBounds_toArray, List.set_cons_zero, List.set_cons_succ, List.getElem_toArray, List.getElem_cons_succ, List.getElem_cons_zero]
  refine wpAnyLast_take (i := 29) (oi := _) (v := .bool true) rfl (by kernel_rfl) (by kernel_rfl) (by kernel_rfl) (by kernel_rfl) (by kernel_rfl) (fun _ _ _ h => h) (Or.inl ⟨by kernel_rfl, ?_⟩) (by assumption) ?_
  · intro wz hSw; (try dsimp only at hSw); go_simp
  try simp only [Act.put, List.setIfInBounds_toArray, List.set_cons_zero, List.set_cons_succ, List.getElem_toArray, List.getElem_cons_succ, List.getElem_cons_zero]
  refine wpAnyLast_take (i := 30) (oi := _) (v := .bool true) rfl (by kernel_rfl) (by kernel_rfl) (by kernel_rfl) (by kernel_rfl) (by kernel_rfl) (fun _ _ _ h => h) (Or.inl ⟨by kernel_rfl, ?_⟩) (by assumption) ?_
  · intro wz hSw; (try dsimp only at hSw); go_simp
  try simp only [Act.put, List.setIfInBounds_toArray, List.set_cons_zero, List.set_cons_succ, List.getElem_toArray, List.getElem_cons_succ, List.getElem_cons_zero]
  refine wpAnyLast_done (by kernel_rfl) ?_ _
  refine NoPanic.normal ?_
  clear hHeld hHeldg hHeldh
  go_wp2
  go_ret
  exact ⟨rfl, HB10.out.trans (HBh.out.mono HB10.out.size)⟩
end Go.Proofs.Ytkennobdoldlkaa.PAll
end
