/- Joined texts of the claim DriveSteps (part 51): contracts of functions and plain laws. -/
import Derived.BigQuiet
import Derived.BigRegion
import Derived.Deep.CutRange
import Derived.Deep.DeepCutAuto
import Derived.Deep.QuietTactic
import Derived.Deep.RegionHeld3
import Derived.Deep.RegionWith
import Derived.Test.YtkennobdoldlkaaJDriveSteps3
import Derived.Test.YtkennobdoldlkaaJDriveSteps39
import Derived.Test.YtkennobdoldlkaaJDriveSteps49
import Derived.Test.YtkennobdoldlkaaJDriveSteps50
set_option linter.unusedVariables false
set_option linter.unusedSimpArgs false
section
namespace Go.Proofs.Ytkennobdoldlkaa.PAll
open Go.RowKit Go.Proofs.YtkennobdoldlkaaW.PrintWords Go.Proofs.YtkennobdoldlkaaW.PrintLast Go.Proofs.Ytkennobdoldlkaa
theorem ansArg {w : World} {cs : Array Value} {x : S33} (hx : k33.K w x cs.toList) : ∃ er va ve fo co, cs = #[.int .i64 er, .string va, .int .u64 ve, .bool fo, .bool co] := by
  obtain ⟨l0, r0, h, rfl, ⟨l1, r1, rfl, rfl, ⟨l2, r2, rfl, rfl, ⟨l3, r3, rfl, rfl, rfl⟩⟩⟩⟩ := hx
  exact ⟨_, _, _, _, _, Array.toList_inj.1 h⟩
theorem next_lens (d : Drv) (hl : d.st.length ≤ 3000000000000) : (nextV d).2.1.puts.length ≤ 9223372036854775800 ∧ (nextV d).2.1.parts.length ≤ 9223372036854775800 := by
  have h1 := parts_len20 d.st hl
  have h2 := fun g => puts_len20 d.st g hl
  unfold nextV
  split
  · unfold qz28
    dsimp only
    repeat' split
    all_goals first | exact ⟨Nat.zero_le _, Nat.zero_le _⟩ | exact ⟨Nat.zero_le _, h1⟩ | exact ⟨h2 _, Nat.zero_le _⟩
  · exact ⟨Nat.zero_le _, Nat.zero_le _⟩
def NextRet (d : Drv) (W : World) (f : Nat) (args : Array Value) : Prop := Calls Try.prog f args W fun e w' => ∃ A c B e9, e = .returned (.tuple #[.int .u64 (nextV d).1, oagg (nextV d).2.1 (.slice A (nextV d).2.1.puts.length c) (.slice B (nextV d).2.1.parts.length e9), .bool (nextV d).2.2]) ∧ (nextV d).2.1.puts.length ≤ c ∧ Kd.C k74 w' A (nextV d).2.1.puts.length (nextV d).2.1.puts ∧ (nextV d).2.1.parts.length ≤ e9 ∧ Kd.C (Kd.int .u64) w' B (nextV d).2.1.parts.length (nextV d).2.1.parts ∧ Below W.heap.size W w'
theorem NextRet.of {d : Drv} {W : World} {f : Nat} {args : Array Value} (h : Calls Try.prog f args W (qz40 d W)) : NextRet d W f args := h.mono fun e w' hp => NRet.of hp
theorem DPost.rows {A : Option Addr} {c : Nat} {B : Option Addr} {e9 : Nat} {d r : Drv} {w : World} {e : Ending} {w' : World} (h : DPost A c B e9 d.sw r w e w') (hr : DRows w d A c B e9) (hst : r.st = d.st) : ∃ B' e', e = .returned (dargs r A c B' e') ∧ DRows w' r A c B' e' ∧ Below w.heap.size w w' := by
  obtain ⟨vw, rfl, hs, hb⟩ := h
  have h2 := hr.below hb
  rcases hs with ⟨rfl, hs⟩ | ho
  · refine ⟨B, e9, ?_, ⟨?_, ?_, ?_, ?_⟩, hb⟩
    · unfold dagg dargs; rw [hs]
    · rw [hst]; exact h2.st
    · rw [hst]; exact h2.stc
    · rw [hs]; exact h2.sw
    · rw [hs]; exact h2.swc
  · obtain ⟨B', e', rfl, he, hC⟩ := flat51.ofsl ho.sl
    refine ⟨B', e', rfl, ⟨?_, ?_, hC, he⟩, hb⟩
    · rw [hst]; exact h2.st
    · rw [hst]; exact h2.stc
theorem order_same {w : World} (nk n1 n2 : Int) (nkey : ByteArray) (ncm : Bool) {npu : List S74} {npa : List Int} {P3 P4 Q3 Q4 : Option Addr} {p3 p4 q3 q4 : Nat} (hlp : npu.length ≤ 9223372036854775800) (hlq : npa.length ≤ 9223372036854775800) (h1 : Kd.C k74 w P3 npu.length npu) (g1 : npu.length ≤ p3) (h2 : Kd.C (Kd.int .u64) w Q3 npa.length npa) (g2 : npa.length ≤ q3) (h3 : Kd.C k74 w P4 npu.length npu) (g3 : npu.length ≤ p4) (h4 : Kd.C (Kd.int .u64) w Q4 npa.length npa) (g4 : npa.length ≤ q4) :
    Calls Try.prog 12 #[.agg #[.int .i64 nk, .int .u64 n1, .int .u64 n2, .string nkey, .slice P3 npu.length p3, .bool ncm, .slice Q3 npa.length q3], .agg #[.int .i64 nk, .int .u64 n1, .int .u64 n2, .string nkey, .slice P4 npu.length p4, .bool ncm, .slice Q4 npa.length q4]] w fun e w' => e = .returned (.bool true) ∧ Below w.heap.size w w' := by
  have hev : Ev (fun q => ferruleref20_SameOrder.f q nk n1 n2 nkey npu ncm npa nk n1 n2 nkey npu ncm npa) true := by
    unfold ferruleref20_SameOrder.f
    refine Ev.bind (puts_self_ev npu hlp) (Ev.bind (nums_self_ev npa hlq) ?_)
    exact Ev.congr (fun q => by simp) (Ev.now true)
  obtain ⟨q, hq⟩ := hev.rounds
  exact ferruleref20_SameOrder.calls q nk n1 n2 nkey P3 p3 npu ncm Q3 q3 npa nk n1 n2 nkey P4 p4 npu ncm Q4 q4 npa true w h1 g1 h2 g2 h3 g3 h4 g4 hq
set_option maxHeartbeats 4000000 in
set_option maxRecDepth 100000 in
theorem DriveSteps_walk {w : World} (cs0 : Array Value) (x0 : S30) (hx0 : k30.K w x0 cs0.toList) (hs0 : ok30 x0) (cs1 : Array Value) (x1 : S33) (hx1 : k33.K w x1 cs1.toList) (hs1 : ok33 x1) :
    Calls Try.prog 3 #[.agg cs0, .agg cs1] w fun e w' => e = .returned (.bool true) ∧ Below w.heap.size w w' := by
  obtain ⟨d, A, c, B, e9, rfl, hRd, hdl, hdw, hdg, hdap⟩ := drvArg hx0 hs0
  obtain ⟨er, va, ve, fo, co, rfl⟩ := ansArg hx1
  have HRD := qza.mk hRd
  have HDG := qza.mk hdg
  have hx := qz14 (heap_alloc_new w (.cells #[.int .u64 d.ta, .int .u64 d.ti, .slice A d.st.length c, .int .i64 d.ph, .int .i64 d.ap, .bool d.fa, .bool d.og, .bool d.cm, .slice B d.sw.length e9] 30)) (.cells #[.int .i64 er, .string va, .int .u64 ve, .bool fo, .bool co] 33)
  have hy := heap_alloc_new (w.alloc (.cells #[.int .u64 d.ta, .int .u64 d.ti, .slice A d.st.length c, .int .i64 d.ph, .int .i64 d.ap, .bool d.fa, .bool d.og, .bool d.cm, .slice B d.sw.length e9] 30)) (.cells #[.int .i64 er, .string va, .int .u64 ve, .bool fo, .bool co] 33)
  rw [World.size_alloc] at hy
  have HB0 := qza.mk (((Below.refl w.heap.size w).alloc (Nat.le_refl _) (.cells #[.int .u64 d.ta, .int .u64 d.ti, .slice A d.st.length c, .int .i64 d.ph, .int .i64 d.ap, .bool d.fa, .bool d.og, .bool d.cm, .slice B d.sw.length e9] 30)).alloc (by simp) (.cells #[.int .i64 er, .string va, .int .u64 ve, .bool fo, .bool co] 33))
  have HST := qza.mk (hear_st d er va ve fo co)
  have HSW := qza.mk (hear_sw d er va ve fo co)
  have HLN := qza.mk (next_lens d hdl)
  clear hx0 hx1 hs0 hs1 hdg hRd hdap
  go_enter Try.func3, Try.ntmps3
  have HX := qza.mk hx
  have HY := qza.mk hy
  clear hx hy
  go_upto_region 1 with (fail)
  change Code.wp _ _ _ _ ((w.alloc (.cells #[.int .u64 d.ta, .int .u64 d.ti, .slice A d.st.length c, .int .i64 d.ph, .int .i64 d.ap, .bool d.fa, .bool d.og, .bool d.cm, .slice B d.sw.length e9] 30)).alloc (.cells #[.int .i64 er, .string va, .int .u64 ve, .bool fo, .bool co] 33))
  generalize (w.alloc (.cells #[.int .u64 d.ta, .int .u64 d.ti, .slice A d.st.length c, .int .i64 d.ph, .int .i64 d.ap, .bool d.fa, .bool d.og, .bool d.cm, .slice B d.sw.length e9] 30)).alloc (.cells #[.int .i64 er, .string va, .int .u64 ve, .bool fo, .bool co] 33) = w1 at *
  go_upto_region 2 with (go_at_call 9; refine (shown20 _).mono ?_; rintro e w2 ⟨rfl, hb2⟩; have HB2a := qza.mk hb2; clear hb2)
  have HX2 := qza.mk (qz16 HB2a.out HX.out)
  have HY2 := qza.mk (qz16 HB2a.out HY.out)
  have HB2 := qza.mk (HB0.out.trans (HB2a.out.mono HB0.out.size))
  clear HX HY HB0 HB2a
  have HNC := qza.mk (fun (W : World) (h : Below w.heap.size w W) => NextRet.of (d := d) (next_calls d.ta d.ti A c d.st d.ph d.ap d.fa d.og d.cm B e9 d.sw W (Kd.C_below HRD.out.st h) HRD.out.stc (Kd.C_below HRD.out.sw h) HRD.out.swc hdl HDG.out))
  have HMC := qza.mk (fun (W : World) (h : Below w.heap.size w W) => NextRet.of (d := d) (qz50 d.ta d.ti A c d.st d.ph d.ap d.fa d.og d.cm B e9 d.sw W (Kd.C_below HRD.out.st h) HRD.out.stc (Kd.C_below HRD.out.sw h) HRD.out.swc hdl HDG.out))
  have HHC := qza.mk (fun (W : World) (h : Below w.heap.size w W) => hear_calls d.ta d.ti A c d.st d.ph d.ap d.fa d.og d.cm B e9 d.sw er va ve fo co W (Kd.C_below HRD.out.st h) HRD.out.stc (Kd.C_below HRD.out.sw h) HRD.out.swc hdl HDG.out hdw)
  have HIC := qza.mk (fun (W : World) (h : Below w.heap.size w W) => refHear_calls d.ta d.ti A c d.st d.ph d.ap d.fa d.og d.cm B e9 d.sw er va ve fo co W (Kd.C_below HRD.out.st h) HRD.out.stc (Kd.C_below HRD.out.sw h) HRD.out.swc hdl HDG.out hdw)
  have HHR := qza.mk (fun (W : World) (h : Below w.heap.size w W) e w' (hp : DPost A c B e9 d.sw (hearV d er va ve fo co) W e w') => hp.rows (HRD.out.below h) (hear_st d er va ve fo co))
  have hl2 : (hearV d er va ve fo co).st.length ≤ 9223372036854775800 := by rw [HST.out]; omega
  have hw2 : (hearV d er va ve fo co).sw.length ≤ 9223372036854775800 := by have := HSW.out; omega
  unfold NextRet at HNC HMC
  generalize nextV d = nv at *
  obtain ⟨ng, ⟨nk, n1, n2, nkey, npu, ncm, npa⟩, nis⟩ := nv
  unfold oagg at HNC HMC
  dsimp only at *
  obtain ⟨hlp, hlq⟩ := HLN.out
  obtain ⟨hd0, hd1, hd2, hd3, hd4, hd5, hd6, hd7, hd8⟩ := qz13 HX2.out
  go_upto_region 3 with (go_at_call 10; refine (HNC.out _ HB2.out).mono ?_; rintro e v3 ⟨P3, p3, Q3, q3, rfl, hp3, hP3, hq3, hQ3, hb3⟩; have HP3 := qza.mk hP3; have HQ3 := qza.mk hQ3; have HV3 := qza.mk hb3; clear hP3 hQ3 hb3)
  have HW3 := qza.mk (HB2.out.trans (HV3.out.mono HB2.out.size))
  have HB3 := qza.mk (HW3.out.alloc HW3.out.size (.cells #[.int .i64 nk, .int .u64 n1, .int .u64 n2, .string nkey, .slice P3 npu.length p3, .bool ncm, .slice Q3 npa.length q3] 38))
  have HX3 := qza.mk (qz14 (qz16 HV3.out HX2.out) (.cells #[.int .i64 nk, .int .u64 n1, .int .u64 n2, .string nkey, .slice P3 npu.length p3, .bool ncm, .slice Q3 npa.length q3] 38))
  have HY3 := qza.mk (qz14 (qz16 HV3.out HY2.out) (.cells #[.int .i64 nk, .int .u64 n1, .int .u64 n2, .string nkey, .slice P3 npu.length p3, .bool ncm, .slice Q3 npa.length q3] 38))
  have HO3 := qza.mk (heap_alloc_new v3 (.cells #[.int .i64 nk, .int .u64 n1, .int .u64 n2, .string nkey, .slice P3 npu.length p3, .bool ncm, .slice Q3 npa.length q3] 38))
  have HS3 := qza.mk ((Below.refl v3.heap.size v3).alloc (Nat.le_refl _) (.cells #[.int .i64 nk, .int .u64 n1, .int .u64 n2, .string nkey, .slice P3 npu.length p3, .bool ncm, .slice Q3 npa.length q3] 38))
  have HPC3 := qza.mk (Kd.C_below HP3.out HS3.out)
  have HQC3 := qza.mk (Kd.C_below HQ3.out HS3.out)
  change Code.wp _ _ _ _ (v3.alloc (.cells #[.int .i64 nk, .int .u64 n1, .int .u64 n2, .string nkey, .slice P3 npu.length p3, .bool ncm, .slice Q3 npa.length q3] 38))
  generalize v3.alloc (.cells #[.int .i64 nk, .int .u64 n1, .int .u64 n2, .string nkey, .slice P3 npu.length p3, .bool ncm, .slice Q3 npa.length q3] 38) = w3 at *
  generalize v3.heap.size = o3 at *
  clear hd0 hd1 hd2 hd3 hd4 hd5 hd6 hd7 hd8 HW3 HS3 HP3 HQ3 HV3 HX2 HY2 HB2 HNC
  obtain ⟨hd0, hd1, hd2, hd3, hd4, hd5, hd6, hd7, hd8⟩ := qz13 HX3.out
  go_upto_region 4 with (go_at_call 11; refine (HMC.out _ HB3.out).mono ?_; rintro e v4 ⟨P4, p4, Q4, q4, rfl, hp4, hP4, hq4, hQ4, hb4⟩; have HP4 := qza.mk hP4; have HQ4 := qza.mk hQ4; have HV4 := qza.mk hb4; clear hP4 hQ4 hb4)
  have HW4 := qza.mk (HB3.out.trans (HV4.out.mono HB3.out.size))
  have HB4 := qza.mk (HW4.out.alloc HW4.out.size (.cells #[.int .i64 nk, .int .u64 n1, .int .u64 n2, .string nkey, .slice P4 npu.length p4, .bool ncm, .slice Q4 npa.length q4] 38))
  have HX4 := qza.mk (qz14 (qz16 HV4.out HX3.out) (.cells #[.int .i64 nk, .int .u64 n1, .int .u64 n2, .string nkey, .slice P4 npu.length p4, .bool ncm, .slice Q4 npa.length q4] 38))
  have HY4 := qza.mk (qz14 (qz16 HV4.out HY3.out) (.cells #[.int .i64 nk, .int .u64 n1, .int .u64 n2, .string nkey, .slice P4 npu.length p4, .bool ncm, .slice Q4 npa.length q4] 38))
  have HO4 := qza.mk (heap_alloc_new v4 (.cells #[.int .i64 nk, .int .u64 n1, .int .u64 n2, .string nkey, .slice P4 npu.length p4, .bool ncm, .slice Q4 npa.length q4] 38))
  have HN4 := qza.mk (qz14 (qz16 HV4.out HO3.out) (.cells #[.int .i64 nk, .int .u64 n1, .int .u64 n2, .string nkey, .slice P4 npu.length p4, .bool ncm, .slice Q4 npa.length q4] 38))
  have HS4 := qza.mk ((Below.refl v4.heap.size v4).alloc (Nat.le_refl _) (.cells #[.int .i64 nk, .int .u64 n1, .int .u64 n2, .string nkey, .slice P4 npu.length p4, .bool ncm, .slice Q4 npa.length q4] 38))
  have HPC4 := qza.mk (Kd.C_below HP4.out HS4.out)
  have HQC4 := qza.mk (Kd.C_below HQ4.out HS4.out)
  have HPD4 := qza.mk (Kd.C_below (Kd.C_below HPC3.out HV4.out) HS4.out)
  have HQD4 := qza.mk (Kd.C_below (Kd.C_below HQC3.out HV4.out) HS4.out)
  change Code.wp _ _ _ _ (v4.alloc (.cells #[.int .i64 nk, .int .u64 n1, .int .u64 n2, .string nkey, .slice P4 npu.length p4, .bool ncm, .slice Q4 npa.length q4] 38))
  generalize v4.alloc (.cells #[.int .i64 nk, .int .u64 n1, .int .u64 n2, .string nkey, .slice P4 npu.length p4, .bool ncm, .slice Q4 npa.length q4] 38) = w4 at *
  generalize v4.heap.size = o4 at *
  clear hd0 hd1 hd2 hd3 hd4 hd5 hd6 hd7 hd8 HW4 HS4 HP4 HQ4 HV4 HX3 HY3 HB3 HMC HO3 HPC3 HQC3
  obtain ⟨hx0, hx1, hx2, hx3, hx4, hx5, hx6⟩ := qz41 HN4.out
  obtain ⟨hy0, hy1, hy2, hy3, hy4, hy5, hy6⟩ := qz41 HO4.out
  go_upto_region 5 with (go_at_call 12; refine (order_same nk n1 n2 nkey ncm hlp hlq HPD4.out hp3 HQD4.out hq3 HPC4.out hp4 HQC4.out hq4).mono ?_; rintro e w6 ⟨rfl, hb6⟩; have HV6 := qza.mk hb6; clear hb6)
  have HX6 := qza.mk (qz16 HV6.out HX4.out)
  have HY6 := qza.mk (qz16 HV6.out HY4.out)
  have HB6 := qza.mk (HB4.out.trans (HV6.out.mono HB4.out.size))
  clear hx0 hx1 hx2 hx3 hx4 hx5 hx6 hy0 hy1 hy2 hy3 hy4 hy5 hy6 HV6 HX4 HY4 HB4 HO4 HN4 HPD4 HQD4 HPC4 HQC4
  refine wp_region_noPanic ?_
  refine qz59 (ds := []) (S := (fun wz => Below w6.heap.size w6 wz)) (by kernel_rfl) ((Below.refl _ _).drew) (fun hHeld => ?_)
  refine qz19 (i := 0) (oi := _) (v := .agg #[.int .u64 d.ta, .int .u64 d.ti, .slice A d.st.length c, .int .i64 d.ph, .int .i64 d.ap, .bool d.fa, .bool d.og, .bool d.cm, .slice B d.sw.length e9]) rfl (by kernel_rfl) (by kernel_rfl) (by kernel_rfl) (by kernel_rfl) (by kernel_rfl) (fun _ _ _ h => h) (Or.inl ⟨by kernel_rfl, ?_⟩) (by assumption) ?_
  · intro wz hSw; (try dsimp only at hSw); obtain ⟨hd0, hd1, hd2, hd3, hd4, hd5, hd6, hd7, hd8⟩ := qz13 (qz16 hSw HX6.out); go_simp
  try simp only [Act.put, List.setIfInBounds_toArray, List.set_cons_zero, List.set_cons_succ, List.getElem_toArray, List.getElem_cons_succ, List.getElem_cons_zero]
  refine qz19 (i := 1) (oi := _) (v := .agg #[.int .i64 er, .string va, .int .u64 ve, .bool fo, .bool co]) rfl (by kernel_rfl) (by kernel_rfl) (by kernel_rfl) (by kernel_rfl) (by kernel_rfl) (fun _ _ _ h => h) (Or.inl ⟨by kernel_rfl, ?_⟩) (by assumption) ?_
  · intro wz hSw; (try dsimp only at hSw); obtain ⟨ha0, ha1, ha2, ha3, ha4⟩ := qz27 (qz16 hSw HY6.out); go_simp
  try simp only [Act.put, List.setIfInBounds_toArray, List.set_cons_zero, List.set_cons_succ, List.getElem_toArray, List.getElem_cons_succ, List.getElem_cons_zero]
  refine qz19 (i := 3) (oi := _) (v := .agg #[.int .u64 d.ta, .int .u64 d.ti, .slice A d.st.length c, .int .i64 d.ph, .int .i64 d.ap, .bool d.fa, .bool d.og, .bool d.cm, .slice B d.sw.length e9]) rfl (by kernel_rfl) (by kernel_rfl) (by kernel_rfl) (by kernel_rfl) (by kernel_rfl) (fun _ _ _ h => h) (Or.inl ⟨by kernel_rfl, ?_⟩) (by assumption) ?_
  · intro wz hSw; (try dsimp only at hSw); obtain ⟨hd0, hd1, hd2, hd3, hd4, hd5, hd6, hd7, hd8⟩ := qz13 (qz16 hSw HX6.out); go_simp
  try simp only [Act.put, List.setIfInBounds_toArray, List.set_cons_zero, List.set_cons_succ, List.getElem_toArray, List.getElem_cons_succ, List.getElem_cons_zero]
  refine qz19 (i := 4) (oi := _) (v := .agg #[.int .i64 er, .string va, .int .u64 ve, .bool fo, .bool co]) rfl (by kernel_rfl) (by kernel_rfl) (by kernel_rfl) (by kernel_rfl) (by kernel_rfl) (fun _ _ _ h => h) (Or.inl ⟨by kernel_rfl, ?_⟩) (by assumption) ?_
  · intro wz hSw; (try dsimp only at hSw); obtain ⟨ha0, ha1, ha2, ha3, ha4⟩ := qz27 (qz16 hSw HY6.out); go_simp
  try simp only [Act.put, List.setIfInBounds_toArray, List.set_cons_zero, List.set_cons_succ, List.getElem_toArray, List.getElem_cons_succ, List.getElem_cons_zero]
  refine qz26 (rs := [2]) (by kernel_rfl) (by simp) ?_
  refine AllReadyL.cons (o := _) rfl (by decide) (fun K hK => ?_) AllReadyL.nil
  go_simp; go_at_call 14; refine (HHC.out _ (HB6.out.trans ((((Below.refl w6.heap.size w6).drew)).mono HB6.out.size))).mono ?_; rintro e wa hpa; obtain ⟨Ba, ea, rfl, hra, hba⟩ := HHR.out _ (HB6.out.trans ((((Below.refl w6.heap.size w6).drew)).mono HB6.out.size)) _ _ hpa; have HRA := qza.mk hra; clear hra hpa; unfold dargs; go_simp
  have HBa := qza.mk ((((Below.refl w6.heap.size w6).drew)).trans (hba.mono (((Below.refl w6.heap.size w6).drew)).size) : Below w6.heap.size w6 wa)
  refine hK.out _ _ HBa.out (fun hHelda => ?_)
  clear hK K
  try simp only [Act.put, List.setIfInBounds_toArray, List.set_cons_zero, List.set_cons_succ, List.getElem_toArray, List.getElem_cons_succ, List.getElem_cons_zero]
  refine qz26 (rs := [5]) (by kernel_rfl) (by simp) ?_
  refine AllReadyL.cons (o := _) rfl (by decide) (fun K hK => ?_) AllReadyL.nil
  go_simp; go_at_call 15; refine (HIC.out _ (HB6.out.trans ((HBa.out).mono HB6.out.size))).mono ?_; rintro e wb hpb; obtain ⟨Bb, eb, rfl, hrb, hbb⟩ := HHR.out _ (HB6.out.trans ((HBa.out).mono HB6.out.size)) _ _ hpb; have HRB := qza.mk hrb; clear hrb hpb; have HRA2 := qza.mk (HRA.out.below hbb); unfold dargs; go_simp
  have HBb := qza.mk ((HBa.out).trans (hbb.mono (HBa.out).size) : Below w6.heap.size w6 wb)
  refine hK.out _ _ HBb.out (fun hHeldb => ?_)
  clear hK K
  try simp only [Act.put, List.setIfInBounds_toArray, List.set_cons_zero, List.set_cons_succ, List.getElem_toArray, List.getElem_cons_succ, List.getElem_cons_zero]
  refine qz26 (rs := [6]) (by kernel_rfl) (by simp) ?_
  refine AllReadyL.cons (o := _) rfl (by decide) (fun K hK => ?_) AllReadyL.nil
  go_simp; go_at_call 13; refine (refSame_calls HRA2.out HRB.out hl2 hw2).mono ?_; rw [sameD_self]; rintro e wc ⟨rfl, hbc⟩; go_simp
  have HBc := qza.mk ((HBb.out).trans (hbc.mono (HBb.out).size) : Below w6.heap.size w6 wc)
  refine hK.out _ _ HBc.out (fun hHeldc => ?_)
  clear hK K
  try simp only [Act.put, List.setIfInBounds_toArray, List.set_cons_zero, List.set_cons_succ, List.getElem_toArray, List.getElem_cons_succ, List.getElem_cons_zero]
  refine qz19 (i := 7) (oi := _) (v := .bool true) rfl (by kernel_rfl) (by kernel_rfl) (by kernel_rfl) (by kernel_rfl) (by kernel_rfl) (fun _ _ _ h => h) (Or.inl ⟨by kernel_rfl, ?_⟩) (by assumption) ?_
  · intro wz hSw; (try dsimp only at hSw); go_simp
  try simp only [Act.put, List.setIfInBounds_toArray, List.set_cons_zero, List.set_cons_succ, List.getElem_toArray, List.getElem_cons_succ, List.getElem_cons_zero]
  refine qz56 (by kernel_rfl) ?_ _
  refine NoPanic.normal ?_
  go_wp2
  go_ret
  exact ⟨rfl, HB6.out.trans (HBc.out.mono HB6.out.size)⟩
end Go.Proofs.Ytkennobdoldlkaa.PAll
end
