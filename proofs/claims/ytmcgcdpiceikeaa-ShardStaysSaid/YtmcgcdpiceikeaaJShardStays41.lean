/- Joined texts of the claim ShardStays (part 41): contracts of functions and plain laws. -/
import Derived.BigRegion
import Derived.Test.YtmcgcdpiceikeaaJShardStays38
set_option linter.unusedVariables false
set_option linter.unusedSimpArgs false
section
namespace Go.Proofs.Ytmcgcdpiceikeaa.PAll
open Go.RowKit Go.Proofs.YtmcgcdpiceikeaaW.PrintWords Go.Proofs.YtmcgcdpiceikeaaW.PrintMore Go.Proofs.Ytmcgcdpiceikeaa
set_option maxRecDepth 100000 in
set_option maxHeartbeats 8000000 in
theorem fin_bad (kind : Int) (t : S30) (key : ByteArray) (A4 : Option Addr) (n4 c4 : Nat) (cm : Bool) (A5 : Option Addr) (n5 c5 : Nat) (A0 : Option Addr) (c0 : Nat) (A1 : Option Addr) (c1 : Nat) (A2 : Option Addr) (c2 : Nat) (A3 : Option Addr) (c3 : Nat) (rs : List S50) (hs : List S75) (os : List S48) (ds : List S68) (ver : Int) (w : World) (hr0 : Kd.C k50 w A0 rs.length rs) (hc0 : rs.length ≤ c0) (hr1 : Kd.C k75 w A1 hs.length hs) (hc1 : hs.length ≤ c1) (hr2 : Kd.C k48 w A2 os.length os) (hc2 : os.length ≤ c2) (hr3 : Kd.C k68 w A3 ds.length ds) (hc3 : ds.length ≤ c3) (hd : ¬ 0 ≤ findI (qz25 t) ds) (ii : Nat) (hii : ii < os.length) (hfi : findI (qz16 t) os = (ii : Int)) (hcm : cm = true) (f2 : Bool) (hf1 : (os[ii]!).f1 = true) (hf2 : (os[ii]!).f2 = f2) (hf3 : (os[ii]!).f3 ≠ []) (ver1 : Int) (hv1 : IntKind.u64.wrap (ver + 1) = ver1) (rl : List S50) (er : Int) (hall : allV rs (os[ii]!).f3 ver1 = (rl, er)) (hrl : rs.length ≤ 2000000000000) (hlim : os.length + ds.length ≤ 2000000000000) (hlh : hs.length * 40 ≤ 140737488355288) (her : er ≠ 0) :
    Calls Try.prog 23 #[.agg (shv A0 rs.length c0 A1 hs.length c1 A2 os.length c2 A3 ds.length c3 ver), .agg #[.int .i64 kind, .int .u64 t.f0, .int .u64 t.f1, .string key, .slice A4 n4 c4, .bool cm, .slice A5 n5 c5]] w (qz32 w (⟨rs, hs, os, ds, ver⟩, errA er)) := by
  obtain ⟨bS, bO, bZ, bA⟩ := qz38 w (.cells #[.slice A0 rs.length c0, .slice A1 hs.length c1, .slice A2 os.length c2, .slice A3 ds.length c3, .int .u64 ver] 28) (.cells #[.int .i64 kind, .int .u64 t.f0, .int .u64 t.f1, .string key, .slice A4 n4 c4, .bool cm, .slice A5 n5 c5] 34) (.cells #[.slice none 0 0, .slice none 0 0, .slice none 0 0, .slice none 0 0, .int .u64 0] 28) (.cells #[.int .i64 0, .string ⟨#[]⟩, .int .u64 0, .bool false, .bool false] 38)
  have hb4 : Below w.heap.size w ((((w.alloc (.cells #[.slice A0 rs.length c0, .slice A1 hs.length c1, .slice A2 os.length c2, .slice A3 ds.length c3, .int .u64 ver] 28)).alloc (.cells #[.int .i64 kind, .int .u64 t.f0, .int .u64 t.f1, .string key, .slice A4 n4 c4, .bool cm, .slice A5 n5 c5] 34)).alloc (.cells #[.slice none 0 0, .slice none 0 0, .slice none 0 0, .slice none 0 0, .int .u64 0] 28)).alloc (.cells #[.int .i64 0, .string ⟨#[]⟩, .int .u64 0, .bool false, .bool false] 38)) := ((((Below.refl w.heap.size w).alloc (Nat.le_refl _) _).alloc (by simp) _).alloc (by simp; omega) _).alloc (by simp; omega) _
  have HW4 : qza (((((w.alloc (.cells #[.slice A0 rs.length c0, .slice A1 hs.length c1, .slice A2 os.length c2, .slice A3 ds.length c3, .int .u64 ver] 28)).alloc (.cells #[.int .i64 kind, .int .u64 t.f0, .int .u64 t.f1, .string key, .slice A4 n4 c4, .bool cm, .slice A5 n5 c5] 34)).alloc (.cells #[.slice none 0 0, .slice none 0 0, .slice none 0 0, .slice none 0 0, .int .u64 0] 28)).alloc (.cells #[.int .i64 0, .string ⟨#[]⟩, .int .u64 0, .bool false, .bool false] 38)).heap.size = w.heap.size + 1 + 1 + 1 + 1) := ⟨by simp⟩
  have BS := qza.mk bS
  have BO := qza.mk bO
  have BZ := qza.mk bZ
  have BA := qza.mk bA
  have HB4 := qza.mk hb4
  have HOV := qza.mk (fun (W : World) (h : Below w.heap.size w W) => qz27 A0 rs.length c0 A1 hs.length c1 A2 os.length c2 A3 c3 ver ds t W (Kd.C_below hr3 h) hc3)
  have HKN := qza.mk (fun (W : World) (h : Below w.heap.size w W) => qz24 A0 rs.length c0 A1 hs.length c1 A2 c2 A3 ds.length c3 ver os t W (Kd.C_below hr2 h) hc2)
  have HR0 := qza.mk hr0
  have HR1 := qza.mk hr1
  have HR2 := qza.mk hr2
  have HR3 := qza.mk hr3
  have HC0 := qza.mk hc0
  have HC1 := qza.mk hc1
  have HC2 := qza.mk hc2
  have HC3 := qza.mk hc3
  clear hr0 hc0 hr1 hc1 hr2 hc2 hr3 hc3 bS bO bZ bA hb4
  rw [decide_eq_false hd] at HOV
  clear hd
  generalize overV ds t = dv at *
  obtain ⟨⟨dA, dI⟩, dC⟩ := dv
  have HNO := qza.mk (fun (W : World) (e0 : Int) => qz35 A0 rs.length c0 A1 hs.length c1 A2 os.length c2 A3 ds.length c3 ver e0 W)
  rw [hfi] at HKN
  obtain ⟨ob, oo, hA, pB, pc, hpl, hpr, _, _, hp2, hp3, hp4⟩ := qz53 HR2.out ii hii
  have hiz : (0 : Int) ≤ (ii : Int) := by omega
  have hiz2 : (ii : Int) < (os.length : Int) := by omega
  have HAL := qza.mk (fun (W : World) (h : Below w.heap.size w W) => allCalls A0 c0 rs pB pc (os[ii]!).f3 ver1 rl er W (Kd.C_below HR0.out h) HC0.out (Kd.C_below hpr h) hpl hrl hall)
  have hpn : 0 < (os[ii]!).f3.length := List.length_pos_iff.2 hf3
  clear hall hf3 hrl
  have HPR := qza.mk hpr
  have HPL := qza.mk hpl
  generalize (os[ii]!).f3 = ps at *
  have hpnz : (0 : Int) < (ps.length : Int) := by omega
  rw [hf1] at hp2
  clear hf1
  rw [hf2] at hp3
  have HP2 := qza.mk hp2
  have HP3 := qza.mk hp3
  have HP4 := qza.mk hp4
  subst hA
  clear hp2 hp3 hp4 hf2 hfi hii hpl hpr
  subst hcm
  clear hlim hlh
  obtain ⟨ta, ti⟩ := t
  unfold shv at *
  dsimp only at *
  go_enter Try.func23, Try.ntmps23
  go_upto_region 15 with (first
    | (go_at_call 51; refine (HOV.out _ HB4.out).mono ?_; rintro e w5 ⟨rfl, hb5⟩; have HW5 := qza.mk hb5.size; have SB5 := qza.mk (stay hb5 BS.out (by rw [HW4.out]; omega)); have OB5 := qza.mk (stay hb5 BO.out (by rw [HW4.out]; omega)); have ZB5 := qza.mk (stay hb5 BZ.out (by rw [HW4.out]; omega)); have AB5 := qza.mk (stay hb5 BA.out (by rw [HW4.out]; omega)); obtain ⟨hs0, hs1, hs2, hs3, hs4⟩ := qz4 (stayA SB5.out (.cells #[.int .u64 dA, .int .u64 dI, .bool dC] 68)); obtain ⟨ho0, ho1, ho2, ho3, ho4, ho5, ho6⟩ := qz12 (stayA OB5.out (.cells #[.int .u64 dA, .int .u64 dI, .bool dC] 68)); have HB5 := qza.mk (HB4.out.trans (hb5.mono HB4.out.size)); clear hb5)
    | (go_at_call 52; refine (HKN.out _ (HB5.out.alloc HB5.out.size (.cells #[.int .u64 dA, .int .u64 dI, .bool dC] 68))).mono ?_; rintro e w6 ⟨rfl, hb6⟩; clear hs0 hs1 hs2 hs3 hs4 ho0 ho1 ho2 ho3 ho4 ho5 ho6; have SB6 := qza.mk (stay hb6 (stayA SB5.out (.cells #[.int .u64 dA, .int .u64 dI, .bool dC] 68)) (by have := HW4.out; have := HW5.out; simp; omega)); have OB6 := qza.mk (stay hb6 (stayA OB5.out (.cells #[.int .u64 dA, .int .u64 dI, .bool dC] 68)) (by have := HW4.out; have := HW5.out; simp; omega)); have ZB6 := qza.mk (stay hb6 (stayA ZB5.out (.cells #[.int .u64 dA, .int .u64 dI, .bool dC] 68)) (by have := HW4.out; have := HW5.out; simp; omega)); have AB6 := qza.mk (stay hb6 (stayA AB5.out (.cells #[.int .u64 dA, .int .u64 dI, .bool dC] 68)) (by have := HW4.out; have := HW5.out; simp; omega)); have DB6 := qza.mk (stay hb6 (heap_alloc_new w5 (.cells #[.int .u64 dA, .int .u64 dI, .bool dC] 68)) (by simp)); obtain ⟨hs0, hs1, hs2, hs3, hs4⟩ := qz4 SB6.out; obtain ⟨ho0, ho1, ho2, ho3, ho4, ho5, ho6⟩ := qz12 OB6.out; obtain ⟨hd0, hd1, hd2⟩ := qz39 DB6.out; have HB6 := qza.mk ((HB5.out.alloc HB5.out.size (.cells #[.int .u64 dA, .int .u64 dI, .bool dC] 68)).trans (hb6.mono (HB5.out.alloc HB5.out.size (.cells #[.int .u64 dA, .int .u64 dI, .bool dC] 68)).size)); have HW6 : qza (w.heap.size + 1 + 1 + 1 + 1 ≤ w6.heap.size) := ⟨by have := HW4.out; have := HW5.out; have := hb6.size; simp at this; omega⟩; clear hb6; have hq2 := (HB6.out.cell (World.block_lt_of_cell? _ _ HP2.out)).trans HP2.out; have hq3 := (HB6.out.cell (World.block_lt_of_cell? _ _ HP3.out)).trans HP3.out))
  clear hd0 hd1 hd2
  clear hs0 hs1 hs2 hs3 hs4 ho0 ho1 ho2 ho3 ho4 ho5 ho6
  have XB17 := qza.mk (heap_alloc_new w6 (.cells #[.slice A0 rs.length c0, .slice A1 hs.length c1, .slice (some ⟨ob, oo, none⟩) os.length c2, .slice A3 ds.length c3, .int .u64 ver] 28))
  have hxb : w.heap.size + 1 + 1 + 1 + 1 ≤ w6.heap.size := HW6.out
  have SB17 := qza.mk (stayA SB6.out (.cells #[.slice A0 rs.length c0, .slice A1 hs.length c1, .slice (some ⟨ob, oo, none⟩) os.length c2, .slice A3 ds.length c3, .int .u64 ver] 28))
  have OB17 := qza.mk (stayA OB6.out (.cells #[.slice A0 rs.length c0, .slice A1 hs.length c1, .slice (some ⟨ob, oo, none⟩) os.length c2, .slice A3 ds.length c3, .int .u64 ver] 28))
  have ZB17 := qza.mk (stayA ZB6.out (.cells #[.slice A0 rs.length c0, .slice A1 hs.length c1, .slice (some ⟨ob, oo, none⟩) os.length c2, .slice A3 ds.length c3, .int .u64 ver] 28))
  have AB17 := qza.mk (stayA AB6.out (.cells #[.slice A0 rs.length c0, .slice A1 hs.length c1, .slice (some ⟨ob, oo, none⟩) os.length c2, .slice A3 ds.length c3, .int .u64 ver] 28))
  have HB17 := qza.mk (HB6.out.alloc HB6.out.size (.cells #[.slice A0 rs.length c0, .slice A1 hs.length c1, .slice (some ⟨ob, oo, none⟩) os.length c2, .slice A3 ds.length c3, .int .u64 ver] 28))
  have HX17 : qza (w6.heap.size < (w6.alloc (.cells #[.slice A0 rs.length c0, .slice A1 hs.length c1, .slice (some ⟨ob, oo, none⟩) os.length c2, .slice A3 ds.length c3, .int .u64 ver] 28)).heap.size) := ⟨by rw [World.size_alloc]; omega⟩
  change Code.wp _ _ _ _ (w6.alloc (.cells #[.slice A0 rs.length c0, .slice A1 hs.length c1, .slice (some ⟨ob, oo, none⟩) os.length c2, .slice A3 ds.length c3, .int .u64 ver] 28))
  generalize w6.alloc (.cells #[.slice A0 rs.length c0, .slice A1 hs.length c1, .slice (some ⟨ob, oo, none⟩) os.length c2, .slice A3 ds.length c3, .int .u64 ver] 28) = w17 at *
  generalize w6.heap.size = xb at *
  obtain ⟨hs0, hs1, hs2, hs3, hs4⟩ := qz4 SB17.out
  obtain ⟨ho0, ho1, ho2, ho3, ho4, ho5, ho6⟩ := qz12 OB17.out
  clear hq2 hq3
  have hq4 := (HB17.out.cell (World.block_lt_of_cell? _ _ HP4.out)).trans HP4.out
  obtain ⟨hx0, hx1, hx2, hx3, hx4⟩ := qz4 XB17.out
  go_upto_region 16 with (fail)
  have hS0 := keepS2 (w0 := w17) ⟨hq4, hx0, hs0, hs1, hs2, hs3, hs4, ho0, ho1, ho2, ho3, ho4, ho5, ho6, Below.refl _ _⟩ ((Below.refl _ _).drew)
  clear hs0 hs1 hs2 hs3 hs4 ho0 ho1 ho2 ho3 ho4 ho5 ho6 hq4 hx0 hx1 hx2 hx3 hx4
  go_region_held3 (fun w' => w'.cell? ⟨ob, oo + ii * 5 + 4, none⟩ = some (.slice pB ps.length pc) ∧ w'.cell? ⟨xb, 0, none⟩ = some (.slice A0 rs.length c0) ∧ w'.cell? ⟨w.heap.size, 0, none⟩ = some (.slice A0 rs.length c0) ∧ w'.cell? ⟨w.heap.size, 1, none⟩ = some (.slice A1 hs.length c1) ∧ w'.cell? ⟨w.heap.size, 2, none⟩ = some (.slice (some ⟨ob, oo, none⟩) os.length c2) ∧ w'.cell? ⟨w.heap.size, 3, none⟩ = some (.slice A3 ds.length c3) ∧ w'.cell? ⟨w.heap.size, 4, none⟩ = some (.int .u64 ver) ∧ w'.cell? ⟨w.heap.size + 1, 0, none⟩ = some (.int .i64 kind) ∧ w'.cell? ⟨w.heap.size + 1, 1, none⟩ = some (.int .u64 ta) ∧ w'.cell? ⟨w.heap.size + 1, 2, none⟩ = some (.int .u64 ti) ∧ w'.cell? ⟨w.heap.size + 1, 3, none⟩ = some (.string key) ∧ w'.cell? ⟨w.heap.size + 1, 4, none⟩ = some (.slice A4 n4 c4) ∧ w'.cell? ⟨w.heap.size + 1, 5, none⟩ = some (.bool true) ∧ w'.cell? ⟨w.heap.size + 1, 6, none⟩ = some (.slice A5 n5 c5) ∧ Below w17.heap.size w17 w') (first | exact hS0 | exact keepS2 (by assumption) (by assumption)) ((go_at_call 61; with_reducible refine (HAL.out _ HB17.out.drew).mono ?_; rintro e w19 ⟨Al, cl, rfl, ho19, hb19⟩; have HRO19 := qza.mk ho19; clear ho19))
  obtain ⟨_, _, hs0, hs1, hs2, hs3, hs4, ho0, ho1, ho2, ho3, ho4, ho5, ho6, hb19⟩ := (show w19.cell? ⟨ob, oo + ii * 5 + 4, none⟩ = some (.slice pB ps.length pc) ∧ w19.cell? ⟨xb, 0, none⟩ = some (.slice A0 rs.length c0) ∧ w19.cell? ⟨w.heap.size, 0, none⟩ = some (.slice A0 rs.length c0) ∧ w19.cell? ⟨w.heap.size, 1, none⟩ = some (.slice A1 hs.length c1) ∧ w19.cell? ⟨w.heap.size, 2, none⟩ = some (.slice (some ⟨ob, oo, none⟩) os.length c2) ∧ w19.cell? ⟨w.heap.size, 3, none⟩ = some (.slice A3 ds.length c3) ∧ w19.cell? ⟨w.heap.size, 4, none⟩ = some (.int .u64 ver) ∧ w19.cell? ⟨w.heap.size + 1, 0, none⟩ = some (.int .i64 kind) ∧ w19.cell? ⟨w.heap.size + 1, 1, none⟩ = some (.int .u64 ta) ∧ w19.cell? ⟨w.heap.size + 1, 2, none⟩ = some (.int .u64 ti) ∧ w19.cell? ⟨w.heap.size + 1, 3, none⟩ = some (.string key) ∧ w19.cell? ⟨w.heap.size + 1, 4, none⟩ = some (.slice A4 n4 c4) ∧ w19.cell? ⟨w.heap.size + 1, 5, none⟩ = some (.bool true) ∧ w19.cell? ⟨w.heap.size + 1, 6, none⟩ = some (.slice A5 n5 c5) ∧ Below w17.heap.size w17 w19 from by assumption)
  have SB19 := qza.mk (stay hb19 SB17.out (by have := HX17.out; omega)); have OB19 := qza.mk (stay hb19 OB17.out (by have := HX17.out; omega)); have ZB19 := qza.mk (stay hb19 ZB17.out (by have := HX17.out; omega)); have AB19 := qza.mk (stay hb19 AB17.out (by have := HX17.out; omega)); have XB19 := qza.mk (stay hb19 XB17.out (by have := HX17.out; omega)); have HX19 : qza (xb < w19.heap.size) := ⟨Nat.lt_of_lt_of_le HX17.out hb19.size⟩; have HB19 := qza.mk (HB17.out.trans (hb19.mono HB17.out.size))
  have HW19 : qza (w.heap.size + 1 + 1 + 1 + 1 ≤ w19.heap.size) := ⟨by have := HX19.out; omega⟩
  clear HRO19
  go_wp2_with (go_at_call 24; refine (HNO.out _ _).mono ?_; rintro e w7 ⟨rfl, hb7⟩; clear hs0 hs1 hs2 hs3 hs4 ho0 ho1 ho2 ho3 ho4 ho5 ho6; have ZB7 := qza.mk (stay hb7 ZB19.out (by have := HW19.out; omega)); have AB7 := qza.mk (stay hb7 AB19.out (by have := HW19.out; omega)); obtain ⟨hz0, hz1, hz2, hz3, hz4⟩ := qz4 ZB7.out; obtain ⟨ha0, ha1, ha2, ha3, ha4⟩ := qz4 AB7.out; obtain ⟨hy0, hy1, hy2, hy3, hy4⟩ := qz14 ZB7.out; obtain ⟨hx0, hx1, hx2, hx3, hx4⟩ := qz14 AB7.out; have HB7 := qza.mk (HB19.out.trans (hb7.mono HB19.out.size)); clear hb7)
  refine qz40 rfl rfl rfl rfl ZB7.out AB7.out (by omega) ?_
  exact qz30 HR0.out HC0.out HR1.out HC1.out HR2.out HC2.out HR3.out HC3.out (qz7 (qz7 HB7.out (show w.heap.size ≤ w.heap.size + 1 + 1 by omega) _ _ _ _ _) (show w.heap.size ≤ w.heap.size + 1 + 1 + 1 by omega) _ _ _ _ _) _ _ _ _ _
end Go.Proofs.Ytmcgcdpiceikeaa.PAll
end
