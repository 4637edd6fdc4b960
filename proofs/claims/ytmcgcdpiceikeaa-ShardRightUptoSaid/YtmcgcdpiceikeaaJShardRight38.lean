/- Joined texts of the claim ShardRight (part 38): contracts of functions and plain laws. -/
import Derived.BigRegion
import Derived.Test.YtmcgcdpiceikeaaJShardRight37
section
/- shard.finishes where it is done: a commit of puts. -/
namespace Go.Proofs.Ytmcgcdpiceikeaa.PAll
open Go.RowKit Go.Proofs.YtmcgcdpiceikeaaW.PrintWords Go.Proofs.YtmcgcdpiceikeaaW.PrintMore Go.Proofs.Ytmcgcdpiceikeaa
set_option linter.unusedVariables false
set_option linter.unusedSimpArgs false
set_option maxRecDepth 100000 in
set_option maxHeartbeats 8000000 in
theorem fin_commit (kind : Int) (t : S30) (key : ByteArray) (A4 : Option Addr) (n4 c4 : Nat) (cm : Bool) (A5 : Option Addr) (n5 c5 : Nat) (A0 : Option Addr) (c0 : Nat) (A1 : Option Addr) (c1 : Nat) (A2 : Option Addr) (c2 : Nat) (A3 : Option Addr) (c3 : Nat) (rs : List S50) (hs : List S75) (os : List S48) (ds : List S68) (ver : Int) (w : World) (hr0 : Kd.C k50 w A0 rs.length rs) (hc0 : rs.length ≤ c0) (hr1 : Kd.C k75 w A1 hs.length hs) (hc1 : hs.length ≤ c1) (hr2 : Kd.C k48 w A2 os.length os) (hc2 : os.length ≤ c2) (hr3 : Kd.C k68 w A3 ds.length ds) (hc3 : ds.length ≤ c3) (hd : ¬ 0 ≤ findI (isDoneT t) ds) (ii : Nat) (hii : ii < os.length) (hfi : findI (isOpenT t) os = (ii : Int)) (hcm : cm = true) (f2 : Bool) (hf1 : (os[ii]!).f1 = true) (hf2 : (os[ii]!).f2 = f2) (hf3 : (os[ii]!).f3 ≠ []) (ver1 : Int) (hv1 : IntKind.u64.wrap (ver + 1) = ver1) (rl : List S50) (er : Int) (hall : allV rs (os[ii]!).f3 ver1 = (rl, er)) (hrl : rs.length ≤ 2000000000000) (hlim : os.length + ds.length ≤ 2000000000000) (hlh : hs.length * 40 ≤ 140737488355288) (her : er = 0) :
    Calls Try.prog 23 #[.agg (shv A0 rs.length c0 A1 hs.length c1 A2 os.length c2 A3 ds.length c3 ver), .agg #[.int .i64 kind, .int .u64 t.f0, .int .u64 t.f1, .string key, .slice A4 n4 c4, .bool cm, .slice A5 n5 c5]] w (DoPost w (⟨rl, dropV hs t, os.filter (fun x => !sameTx x.f0 t), ds ++ [⟨t, true⟩], ver1⟩, ⟨0, ⟨#[]⟩, 0, false, true⟩)) := by
  obtain ⟨bS, bO, bZ, bA⟩ := alloc4 w (.cells #[.slice A0 rs.length c0, .slice A1 hs.length c1, .slice A2 os.length c2, .slice A3 ds.length c3, .int .u64 ver] 28) (.cells #[.int .i64 kind, .int .u64 t.f0, .int .u64 t.f1, .string key, .slice A4 n4 c4, .bool cm, .slice A5 n5 c5] 34) (.cells #[.slice none 0 0, .slice none 0 0, .slice none 0 0, .slice none 0 0, .int .u64 0] 28) (.cells #[.int .i64 0, .string ⟨#[]⟩, .int .u64 0, .bool false, .bool false] 38)
  have hb4 : Below w.heap.size w ((((w.alloc (.cells #[.slice A0 rs.length c0, .slice A1 hs.length c1, .slice A2 os.length c2, .slice A3 ds.length c3, .int .u64 ver] 28)).alloc (.cells #[.int .i64 kind, .int .u64 t.f0, .int .u64 t.f1, .string key, .slice A4 n4 c4, .bool cm, .slice A5 n5 c5] 34)).alloc (.cells #[.slice none 0 0, .slice none 0 0, .slice none 0 0, .slice none 0 0, .int .u64 0] 28)).alloc (.cells #[.int .i64 0, .string ⟨#[]⟩, .int .u64 0, .bool false, .bool false] 38)) := ((((Below.refl w.heap.size w).alloc (Nat.le_refl _) _).alloc (by simp) _).alloc (by simp; omega) _).alloc (by simp; omega) _
  have HW4 : Aside0 (((((w.alloc (.cells #[.slice A0 rs.length c0, .slice A1 hs.length c1, .slice A2 os.length c2, .slice A3 ds.length c3, .int .u64 ver] 28)).alloc (.cells #[.int .i64 kind, .int .u64 t.f0, .int .u64 t.f1, .string key, .slice A4 n4 c4, .bool cm, .slice A5 n5 c5] 34)).alloc (.cells #[.slice none 0 0, .slice none 0 0, .slice none 0 0, .slice none 0 0, .int .u64 0] 28)).alloc (.cells #[.int .i64 0, .string ⟨#[]⟩, .int .u64 0, .bool false, .bool false] 38)).heap.size = w.heap.size + 1 + 1 + 1 + 1) := ⟨by simp⟩
  have BS := Aside0.mk bS
  have BO := Aside0.mk bO
  have BZ := Aside0.mk bZ
  have BA := Aside0.mk bA
  have HB4 := Aside0.mk hb4
  have HOV := Aside0.mk (fun (W : World) (h : Below w.heap.size w W) => shardOver_sl A0 rs.length c0 A1 hs.length c1 A2 os.length c2 A3 c3 ver ds t W (Kd.C_below hr3 h) hc3)
  have HKN := Aside0.mk (fun (W : World) (h : Below w.heap.size w W) => shardKnown_sl A0 rs.length c0 A1 hs.length c1 A2 c2 A3 ds.length c3 ver os t W (Kd.C_below hr2 h) hc2)
  have HR0 := Aside0.mk hr0
  have HR1 := Aside0.mk hr1
  have HR2 := Aside0.mk hr2
  have HR3 := Aside0.mk hr3
  have HC0 := Aside0.mk hc0
  have HC1 := Aside0.mk hc1
  have HC2 := Aside0.mk hc2
  have HC3 := Aside0.mk hc3
  clear hr0 hc0 hr1 hc1 hr2 hc2 hr3 hc3 bS bO bZ bA hb4
  rw [decide_eq_false hd] at HOV
  clear hd
  generalize overV ds t = dv at *
  obtain ⟨⟨dA, dI⟩, dC⟩ := dv
  have HNO := Aside0.mk (fun (W : World) (e0 : Int) => shardNo2 A0 rs.length c0 A1 hs.length c1 A2 os.length c2 A3 ds.length c3 ver e0 W)
  rw [hfi] at HKN
  obtain ⟨ob, oo, hA, pB, pc, hpl, hpr, _, _, hp2, hp3, hp4⟩ := openRow HR2.out ii hii
  have hiz : (0 : Int) ≤ (ii : Int) := by omega
  have hiz2 : (ii : Int) < (os.length : Int) := by omega
  have HAL := Aside0.mk (fun (W : World) (h : Below w.heap.size w W) => allCalls A0 c0 rs pB pc (os[ii]!).f3 ver1 rl er W (Kd.C_below HR0.out h) HC0.out (Kd.C_below hpr h) hpl hrl hall)
  have hpn : 0 < (os[ii]!).f3.length := List.length_pos_iff.2 hf3
  clear hall hf3 hrl
  have HPR := Aside0.mk hpr
  have HPL := Aside0.mk hpl
  generalize (os[ii]!).f3 = ps at *
  have hpnz : (0 : Int) < (ps.length : Int) := by omega
  rw [hf1] at hp2
  clear hf1
  rw [hf2] at hp3
  have HP2 := Aside0.mk hp2
  have HP3 := Aside0.mk hp3
  have HP4 := Aside0.mk hp4
  subst hA
  clear hp2 hp3 hp4 hf2 hfi hii hpl hpr
  subst hcm
  subst her
  have HDR := Aside0.mk (fun (W : World) (h : Below w.heap.size w W) => lockDrop_sl (.slice A1 hs.length c1) hs t W ⟨_, _, rfl, HC1.out, Kd.C_below HR1.out h⟩ (by omega))
  obtain ⟨css, HRW0, hraw⟩ := opens_raw (w := w) ⟨_, _, rfl, HC2.out, HR2.out⟩
  have HRW := Aside0.mk HRW0
  have HCL := Aside0.mk (fun (W : World) (h : Below w.heap.size w W) => CloneOpen (.slice (some ⟨ob, oo, none⟩) os.length c2) css W (hraw.below h) (by rw [HRW0.1]; omega))
  have HCD := Aside0.mk (fun (W : World) (h : Below w.heap.size w W) => CloneDone (.slice A3 ds.length c3) (ds.map enc68) W (flat68.sl ⟨_, _, rfl, HC3.out, Kd.C_below HR3.out h⟩) (by rw [List.length_map]; omega))
  have HDL : Aside0 (ds.length ≤ 2000000000000) := ⟨by omega⟩
  clear hraw HRW0
  clear hlim hlh
  obtain ⟨ta, ti⟩ := t
  unfold shv at *
  dsimp only at *
  go_enter Try.func23, Try.ntmps23
  go_upto_region 15 with (first
    | (go_at_call 51; refine (HOV.out _ HB4.out).mono ?_; rintro e w5 ⟨rfl, hb5⟩; have HW5 := Aside0.mk hb5.size; have SB5 := Aside0.mk (stay hb5 BS.out (by rw [HW4.out]; omega)); have OB5 := Aside0.mk (stay hb5 BO.out (by rw [HW4.out]; omega)); have ZB5 := Aside0.mk (stay hb5 BZ.out (by rw [HW4.out]; omega)); have AB5 := Aside0.mk (stay hb5 BA.out (by rw [HW4.out]; omega)); obtain ⟨hs0, hs1, hs2, hs3, hs4⟩ := cells_5 (stayA SB5.out (.cells #[.int .u64 dA, .int .u64 dI, .bool dC] 68)); obtain ⟨ho0, ho1, ho2, ho3, ho4, ho5, ho6⟩ := cells_7 (stayA OB5.out (.cells #[.int .u64 dA, .int .u64 dI, .bool dC] 68)); have HB5 := Aside0.mk (HB4.out.trans (hb5.mono HB4.out.size)); clear hb5)
    | (go_at_call 52; refine (HKN.out _ (HB5.out.alloc HB5.out.size (.cells #[.int .u64 dA, .int .u64 dI, .bool dC] 68))).mono ?_; rintro e w6 ⟨rfl, hb6⟩; clear hs0 hs1 hs2 hs3 hs4 ho0 ho1 ho2 ho3 ho4 ho5 ho6; have SB6 := Aside0.mk (stay hb6 (stayA SB5.out (.cells #[.int .u64 dA, .int .u64 dI, .bool dC] 68)) (by have := HW4.out; have := HW5.out; simp; omega)); have OB6 := Aside0.mk (stay hb6 (stayA OB5.out (.cells #[.int .u64 dA, .int .u64 dI, .bool dC] 68)) (by have := HW4.out; have := HW5.out; simp; omega)); have ZB6 := Aside0.mk (stay hb6 (stayA ZB5.out (.cells #[.int .u64 dA, .int .u64 dI, .bool dC] 68)) (by have := HW4.out; have := HW5.out; simp; omega)); have AB6 := Aside0.mk (stay hb6 (stayA AB5.out (.cells #[.int .u64 dA, .int .u64 dI, .bool dC] 68)) (by have := HW4.out; have := HW5.out; simp; omega)); have DB6 := Aside0.mk (stay hb6 (heap_alloc_new w5 (.cells #[.int .u64 dA, .int .u64 dI, .bool dC] 68)) (by simp)); obtain ⟨hs0, hs1, hs2, hs3, hs4⟩ := cells_5 SB6.out; obtain ⟨ho0, ho1, ho2, ho3, ho4, ho5, ho6⟩ := cells_7 OB6.out; obtain ⟨hd0, hd1, hd2⟩ := cells_3 DB6.out; have HB6 := Aside0.mk ((HB5.out.alloc HB5.out.size (.cells #[.int .u64 dA, .int .u64 dI, .bool dC] 68)).trans (hb6.mono (HB5.out.alloc HB5.out.size (.cells #[.int .u64 dA, .int .u64 dI, .bool dC] 68)).size)); have HW6 : Aside0 (w.heap.size + 1 + 1 + 1 + 1 ≤ w6.heap.size) := ⟨by have := HW4.out; have := HW5.out; have := hb6.size; simp at this; omega⟩; clear hb6; have hq2 := (HB6.out.cell (World.block_lt_of_cell? _ _ HP2.out)).trans HP2.out; have hq3 := (HB6.out.cell (World.block_lt_of_cell? _ _ HP3.out)).trans HP3.out))
  clear hd0 hd1 hd2
  clear hs0 hs1 hs2 hs3 hs4 ho0 ho1 ho2 ho3 ho4 ho5 ho6
  have XB17 := Aside0.mk (heap_alloc_new w6 (.cells #[.slice A0 rs.length c0, .slice A1 hs.length c1, .slice (some ⟨ob, oo, none⟩) os.length c2, .slice A3 ds.length c3, .int .u64 ver] 28))
  have hxb : w.heap.size + 1 + 1 + 1 + 1 ≤ w6.heap.size := HW6.out
  have SB17 := Aside0.mk (stayA SB6.out (.cells #[.slice A0 rs.length c0, .slice A1 hs.length c1, .slice (some ⟨ob, oo, none⟩) os.length c2, .slice A3 ds.length c3, .int .u64 ver] 28))
  have OB17 := Aside0.mk (stayA OB6.out (.cells #[.slice A0 rs.length c0, .slice A1 hs.length c1, .slice (some ⟨ob, oo, none⟩) os.length c2, .slice A3 ds.length c3, .int .u64 ver] 28))
  have ZB17 := Aside0.mk (stayA ZB6.out (.cells #[.slice A0 rs.length c0, .slice A1 hs.length c1, .slice (some ⟨ob, oo, none⟩) os.length c2, .slice A3 ds.length c3, .int .u64 ver] 28))
  have AB17 := Aside0.mk (stayA AB6.out (.cells #[.slice A0 rs.length c0, .slice A1 hs.length c1, .slice (some ⟨ob, oo, none⟩) os.length c2, .slice A3 ds.length c3, .int .u64 ver] 28))
  have HB17 := Aside0.mk (HB6.out.alloc HB6.out.size (.cells #[.slice A0 rs.length c0, .slice A1 hs.length c1, .slice (some ⟨ob, oo, none⟩) os.length c2, .slice A3 ds.length c3, .int .u64 ver] 28))
  have HX17 : Aside0 (w6.heap.size < (w6.alloc (.cells #[.slice A0 rs.length c0, .slice A1 hs.length c1, .slice (some ⟨ob, oo, none⟩) os.length c2, .slice A3 ds.length c3, .int .u64 ver] 28)).heap.size) := ⟨by rw [World.size_alloc]; omega⟩
  change Code.wp _ _ _ _ (w6.alloc (.cells #[.slice A0 rs.length c0, .slice A1 hs.length c1, .slice (some ⟨ob, oo, none⟩) os.length c2, .slice A3 ds.length c3, .int .u64 ver] 28))
  generalize w6.alloc (.cells #[.slice A0 rs.length c0, .slice A1 hs.length c1, .slice (some ⟨ob, oo, none⟩) os.length c2, .slice A3 ds.length c3, .int .u64 ver] 28) = w17 at *
  generalize w6.heap.size = xb at *
  obtain ⟨hs0, hs1, hs2, hs3, hs4⟩ := cells_5 SB17.out
  obtain ⟨ho0, ho1, ho2, ho3, ho4, ho5, ho6⟩ := cells_7 OB17.out
  clear hq2 hq3
  have hq4 := (HB17.out.cell (World.block_lt_of_cell? _ _ HP4.out)).trans HP4.out
  obtain ⟨hx0, hx1, hx2, hx3, hx4⟩ := cells_5 XB17.out
  go_upto_region 16 with (fail)
  have hS0 := keepS2 (w0 := w17) ⟨hq4, hx0, hs0, hs1, hs2, hs3, hs4, ho0, ho1, ho2, ho3, ho4, ho5, ho6, Below.refl _ _⟩ ((Below.refl _ _).drew)
  clear hs0 hs1 hs2 hs3 hs4 ho0 ho1 ho2 ho3 ho4 ho5 ho6 hq4 hx0 hx1 hx2 hx3 hx4
  go_region_held3 (fun w' => w'.cell? ⟨ob, oo + ii * 5 + 4, none⟩ = some (.slice pB ps.length pc) ∧ w'.cell? ⟨xb, 0, none⟩ = some (.slice A0 rs.length c0) ∧ w'.cell? ⟨w.heap.size, 0, none⟩ = some (.slice A0 rs.length c0) ∧ w'.cell? ⟨w.heap.size, 1, none⟩ = some (.slice A1 hs.length c1) ∧ w'.cell? ⟨w.heap.size, 2, none⟩ = some (.slice (some ⟨ob, oo, none⟩) os.length c2) ∧ w'.cell? ⟨w.heap.size, 3, none⟩ = some (.slice A3 ds.length c3) ∧ w'.cell? ⟨w.heap.size, 4, none⟩ = some (.int .u64 ver) ∧ w'.cell? ⟨w.heap.size + 1, 0, none⟩ = some (.int .i64 kind) ∧ w'.cell? ⟨w.heap.size + 1, 1, none⟩ = some (.int .u64 ta) ∧ w'.cell? ⟨w.heap.size + 1, 2, none⟩ = some (.int .u64 ti) ∧ w'.cell? ⟨w.heap.size + 1, 3, none⟩ = some (.string key) ∧ w'.cell? ⟨w.heap.size + 1, 4, none⟩ = some (.slice A4 n4 c4) ∧ w'.cell? ⟨w.heap.size + 1, 5, none⟩ = some (.bool true) ∧ w'.cell? ⟨w.heap.size + 1, 6, none⟩ = some (.slice A5 n5 c5) ∧ Below w17.heap.size w17 w') (first | exact hS0 | exact keepS2 (by assumption) (by assumption)) ((go_at_call 61; with_reducible refine (HAL.out _ HB17.out.drew).mono ?_; rintro e w19 ⟨Al, cl, rfl, ho19, hb19⟩; have HRO19 := Aside0.mk ho19; clear ho19))
  obtain ⟨_, _, hs0, hs1, hs2, hs3, hs4, ho0, ho1, ho2, ho3, ho4, ho5, ho6, hb19⟩ := (show w19.cell? ⟨ob, oo + ii * 5 + 4, none⟩ = some (.slice pB ps.length pc) ∧ w19.cell? ⟨xb, 0, none⟩ = some (.slice A0 rs.length c0) ∧ w19.cell? ⟨w.heap.size, 0, none⟩ = some (.slice A0 rs.length c0) ∧ w19.cell? ⟨w.heap.size, 1, none⟩ = some (.slice A1 hs.length c1) ∧ w19.cell? ⟨w.heap.size, 2, none⟩ = some (.slice (some ⟨ob, oo, none⟩) os.length c2) ∧ w19.cell? ⟨w.heap.size, 3, none⟩ = some (.slice A3 ds.length c3) ∧ w19.cell? ⟨w.heap.size, 4, none⟩ = some (.int .u64 ver) ∧ w19.cell? ⟨w.heap.size + 1, 0, none⟩ = some (.int .i64 kind) ∧ w19.cell? ⟨w.heap.size + 1, 1, none⟩ = some (.int .u64 ta) ∧ w19.cell? ⟨w.heap.size + 1, 2, none⟩ = some (.int .u64 ti) ∧ w19.cell? ⟨w.heap.size + 1, 3, none⟩ = some (.string key) ∧ w19.cell? ⟨w.heap.size + 1, 4, none⟩ = some (.slice A4 n4 c4) ∧ w19.cell? ⟨w.heap.size + 1, 5, none⟩ = some (.bool true) ∧ w19.cell? ⟨w.heap.size + 1, 6, none⟩ = some (.slice A5 n5 c5) ∧ Below w17.heap.size w17 w19 from by assumption)
  have SB19 := Aside0.mk (stay hb19 SB17.out (by have := HX17.out; omega)); have OB19 := Aside0.mk (stay hb19 OB17.out (by have := HX17.out; omega)); have ZB19 := Aside0.mk (stay hb19 ZB17.out (by have := HX17.out; omega)); have AB19 := Aside0.mk (stay hb19 AB17.out (by have := HX17.out; omega)); have XB19 := Aside0.mk (stay hb19 XB17.out (by have := HX17.out; omega)); have HX19 : Aside0 (xb < w19.heap.size) := ⟨Nat.lt_of_lt_of_le HX17.out hb19.size⟩; have HB19 := Aside0.mk (HB17.out.trans (hb19.mono HB17.out.size))
  obtain ⟨hx0, hx1, hx2, hx3, hx4⟩ := cells_5 XB19.out
  obtain ⟨hy0, hy1, hy2, hy3, hy4⟩ := froz_5 XB19.out
  have hx19 := HX19.out
  go_upto_region 19 with (fail)
  go_region
  have HG20 := Aside0.mk (((Lib.grownBy_setCell w19 xb 0 (.slice Al rl.length cl)).trans (Lib.grownBy_setCell _ xb 4 (.int .u64 ver1))).trans (grown_drew _ (some xb)))
  have SB20 := Aside0.mk ((HG20.out.block w.heap.size (by have := HX19.out; omega) (fun e => by have := Option.some.inj e; omega)).trans SB19.out); have OB20 := Aside0.mk ((HG20.out.block (w.heap.size + 1) (by have := HX19.out; omega) (fun e => by have := Option.some.inj e; omega)).trans OB19.out); have ZB20 := Aside0.mk ((HG20.out.block (w.heap.size + 1 + 1) (by have := HX19.out; omega) (fun e => by have := Option.some.inj e; omega)).trans ZB19.out); have AB20 := Aside0.mk ((HG20.out.block (w.heap.size + 1 + 1 + 1) (by have := HX19.out; omega) (fun e => by have := Option.some.inj e; omega)).trans AB19.out)
  have XB20 := Aside0.mk (show (((w19.setCell ⟨xb, 0, none⟩ (.slice Al rl.length cl)).setCell ⟨xb, 4, none⟩ (.int .u64 ver1)).drew).heap[xb]? = _ from blk_put (blk_put XB19.out 0 (.slice Al rl.length cl) rfl) 4 (.int .u64 ver1) rfl)
  have HX20 : Aside0 (xb < (((w19.setCell ⟨xb, 0, none⟩ (.slice Al rl.length cl)).setCell ⟨xb, 4, none⟩ (.int .u64 ver1)).drew).heap.size) := ⟨Nat.lt_of_lt_of_le HX19.out HG20.out.size⟩
  have HB20 : Aside0 (Below w.heap.size w (((w19.setCell ⟨xb, 0, none⟩ (.slice Al rl.length cl)).setCell ⟨xb, 4, none⟩ (.int .u64 ver1)).drew)) := ⟨HB19.out.grown HG20.out HB19.out.size (fun k e => by have := Option.some.inj e; omega)⟩
  have HRO20 := Aside0.mk (HRO19.out.kept HG20.out (fun b e e2 => by have h1 := HRO19.out.base b e; rw [drewHeap] at h1; have := HX17.out; have := Option.some.inj e2; omega))
  clear hs0 hs1 hs2 hs3 hs4 ho0 ho1 ho2 ho3 ho4 ho5 ho6 hx0 hx1 hx2 hx3 hx4 hy0 hy1 hy2 hy3 hy4 hx19
  generalize ((w19.setCell ⟨xb, 0, none⟩ (.slice Al rl.length cl)).setCell ⟨xb, 4, none⟩ (.int .u64 ver1)).drew = w20 at *
  obtain ⟨hs0, hs1, hs2, hs3, hs4⟩ := cells_5 SB20.out
  obtain ⟨ho0, ho1, ho2, ho3, ho4, ho5, ho6⟩ := cells_7 OB20.out
  go_upto_region 21 with (go_at_call 62; refine (HDR.out _ HB20.out).mono ?_; rintro e w21 ⟨v1, rfl, ho21, hb21⟩; clear hs0 hs1 hs2 hs3 hs4 ho0 ho1 ho2 ho3 ho4 ho5 ho6; have SB21 := Aside0.mk (stay hb21 SB20.out (by have := HX20.out; omega)); have OB21 := Aside0.mk (stay hb21 OB20.out (by have := HX20.out; omega)); have ZB21 := Aside0.mk (stay hb21 ZB20.out (by have := HX20.out; omega)); have AB21 := Aside0.mk (stay hb21 AB20.out (by have := HX20.out; omega)); have XB21 := Aside0.mk (stay hb21 XB20.out (by have := HX20.out; omega)); have HX21 : Aside0 (xb < w21.heap.size) := ⟨Nat.lt_of_lt_of_le HX20.out hb21.size⟩; have HB21 := Aside0.mk (HB20.out.trans (hb21.mono HB20.out.size)); obtain ⟨hs0, hs1, hs2, hs3, hs4⟩ := cells_5 SB21.out; obtain ⟨ho0, ho1, ho2, ho3, ho4, ho5, ho6⟩ := cells_7 OB21.out; obtain ⟨hx0, hx1, hx2, hx3, hx4⟩ := cells_5 XB21.out; obtain ⟨hy0, hy1, hy2, hy3, hy4⟩ := froz_5 XB21.out; obtain ⟨Ah, ch, hv1, hch⟩ := own_sl2 ho21; rw [List.length_map] at hv1 hch; subst hv1; have HCH := Aside0.mk hch; have HOH21 := Aside0.mk ho21; have HBB21 := Aside0.mk hb21; clear ho21 hb21 hch)
  have HG22 := Aside0.mk (Lib.grownBy_setCell w21 xb 1 (.slice Ah (dropV hs ⟨ta, ti⟩).length ch))
  have SB22 := Aside0.mk ((HG22.out.block w.heap.size (by have := HX21.out; omega) (fun e => by have := Option.some.inj e; omega)).trans SB21.out); have OB22 := Aside0.mk ((HG22.out.block (w.heap.size + 1) (by have := HX21.out; omega) (fun e => by have := Option.some.inj e; omega)).trans OB21.out); have ZB22 := Aside0.mk ((HG22.out.block (w.heap.size + 1 + 1) (by have := HX21.out; omega) (fun e => by have := Option.some.inj e; omega)).trans ZB21.out); have AB22 := Aside0.mk ((HG22.out.block (w.heap.size + 1 + 1 + 1) (by have := HX21.out; omega) (fun e => by have := Option.some.inj e; omega)).trans AB21.out); have XB22 := Aside0.mk (blk_put XB21.out 1 (.slice Ah (dropV hs ⟨ta, ti⟩).length ch) rfl)
  have HX22 : Aside0 (xb < (w21.setCell ⟨xb, 1, none⟩ (.slice Ah (dropV hs ⟨ta, ti⟩).length ch)).heap.size) := ⟨Nat.lt_of_lt_of_le HX21.out HG22.out.size⟩
  have HB22 := Aside0.mk (HB21.out.setCell (p := ⟨xb, 1, none⟩) (show w.heap.size ≤ xb by omega) (.slice Ah (dropV hs ⟨ta, ti⟩).length ch))
  have HOH22 := Aside0.mk (HOH21.out.kept HG22.out (fun b e e2 => by have := HOH21.out.base b e; have := HX20.out; have := Option.some.inj e2; omega))
  have HRO22 := Aside0.mk ((HRO20.out.below HBB21.out).kept HG22.out (fun b e e2 => by have h1 := HRO20.out.base b e; rw [drewHeap] at h1; have := HX17.out; have := Option.some.inj e2; omega))
  clear hs0 hs1 hs2 hs3 hs4 ho0 ho1 ho2 ho3 ho4 ho5 ho6 hx0 hx1 hx2 hx3 hx4 hy0 hy1 hy2 hy3 hy4
  change Code.wp _ _ _ _ (w21.setCell ⟨xb, 1, none⟩ (.slice Ah (dropV hs ⟨ta, ti⟩).length ch))
  generalize w21.setCell ⟨xb, 1, none⟩ (.slice Ah (dropV hs ⟨ta, ti⟩).length ch) = w22 at *
  obtain ⟨hs0, hs1, hs2, hs3, hs4⟩ := cells_5 SB22.out
  obtain ⟨ho0, ho1, ho2, ho3, ho4, ho5, ho6⟩ := cells_7 OB22.out
  go_upto_region 22 with (first
    | (go_at_call 56; refine (HCL.out _ HB22.out).mono ?_; rintro e w23 ⟨v3, rfl, ho23, hb23⟩; clear hs0 hs1 hs2 hs3 hs4 ho0 ho1 ho2 ho3 ho4 ho5 ho6; have SB23 := Aside0.mk (stay hb23 SB22.out (by have := HX22.out; omega)); have OB23 := Aside0.mk (stay hb23 OB22.out (by have := HX22.out; omega)); have ZB23 := Aside0.mk (stay hb23 ZB22.out (by have := HX22.out; omega)); have AB23 := Aside0.mk (stay hb23 AB22.out (by have := HX22.out; omega)); have XB23 := Aside0.mk (stay hb23 XB22.out (by have := HX22.out; omega)); have HX23 : Aside0 (xb < w23.heap.size) := ⟨Nat.lt_of_lt_of_le HX22.out hb23.size⟩; have HB23 := Aside0.mk (HB22.out.trans (hb23.mono HB22.out.size)); obtain ⟨hs0, hs1, hs2, hs3, hs4⟩ := cells_5 SB23.out; obtain ⟨ho0, ho1, ho2, ho3, ho4, ho5, ho6⟩ := cells_7 OB23.out; have HO23 := Aside0.mk ho23; have HBB23 := Aside0.mk hb23; clear ho23 hb23)
    | (go_at_call 63; refine (finDelete (n := w.heap.size) ⟨ta, ti⟩ OB23.out HO23.out HBB23.out.size HRW.out (show w.heap.size + 1 < w22.heap.size by have := HX22.out; omega)).mono ?_; rintro e w24 ⟨v4, rfl, ho24, hg24⟩; clear hs0 hs1 hs2 hs3 hs4 ho0 ho1 ho2 ho3 ho4 ho5 ho6; have SB24 := Aside0.mk ((hg24.block w.heap.size (by have := HX23.out; omega) (fun e => by have := HO23.out.base _ e.symm; have := HX22.out; omega)).trans SB23.out); have OB24 := Aside0.mk ((hg24.block (w.heap.size + 1) (by have := HX23.out; omega) (fun e => by have := HO23.out.base _ e.symm; have := HX22.out; omega)).trans OB23.out); have ZB24 := Aside0.mk ((hg24.block (w.heap.size + 1 + 1) (by have := HX23.out; omega) (fun e => by have := HO23.out.base _ e.symm; have := HX22.out; omega)).trans ZB23.out); have AB24 := Aside0.mk ((hg24.block (w.heap.size + 1 + 1 + 1) (by have := HX23.out; omega) (fun e => by have := HO23.out.base _ e.symm; have := HX22.out; omega)).trans AB23.out); have XB24 := Aside0.mk ((hg24.block xb (by have := HX23.out; omega) (fun e => by have := HO23.out.base _ e.symm; have := HX22.out; omega)).trans XB23.out); have HX24 : Aside0 (xb < w24.heap.size) := ⟨Nat.lt_of_lt_of_le HX23.out hg24.size⟩; have HB24 : Aside0 (Below w.heap.size w w24) := ⟨HB23.out.grown hg24 HB23.out.size (fun k e => by have := HO23.out.base k e; have := HX22.out; omega)⟩; obtain ⟨hs0, hs1, hs2, hs3, hs4⟩ := cells_5 SB24.out; obtain ⟨ho0, ho1, ho2, ho3, ho4, ho5, ho6⟩ := cells_7 OB24.out; obtain ⟨hx0, hx1, hx2, hx3, hx4⟩ := cells_5 XB24.out; obtain ⟨hy0, hy1, hy2, hy3, hy4⟩ := froz_5 XB24.out; obtain ⟨Ao, co, hv4, hco⟩ := own_sl2 ho24; subst hv4; have HCO := Aside0.mk hco; have HOO24 := Aside0.mk ho24; have HOH24 := Aside0.mk ((HOH22.out.below HBB23.out).kept hg24 (fun b e e2 => by have := HOH22.out.lt b e; have := HO23.out.base b e2.symm; omega)); have HRO24 := Aside0.mk ((HRO22.out.below HBB23.out).kept hg24 (fun b e e2 => by have := HRO22.out.lt b e; have := HO23.out.base b e2.symm; omega)); clear ho24 hg24 hco))
  have HG25 := Aside0.mk (Lib.grownBy_setCell w24 xb 2 (.slice Ao (css.filter (fun c => !isTxC ⟨ta, ti⟩ c)).length co))
  have SB25 := Aside0.mk ((HG25.out.block w.heap.size (by have := HX24.out; omega) (fun e => by have := Option.some.inj e; omega)).trans SB24.out); have OB25 := Aside0.mk ((HG25.out.block (w.heap.size + 1) (by have := HX24.out; omega) (fun e => by have := Option.some.inj e; omega)).trans OB24.out); have ZB25 := Aside0.mk ((HG25.out.block (w.heap.size + 1 + 1) (by have := HX24.out; omega) (fun e => by have := Option.some.inj e; omega)).trans ZB24.out); have AB25 := Aside0.mk ((HG25.out.block (w.heap.size + 1 + 1 + 1) (by have := HX24.out; omega) (fun e => by have := Option.some.inj e; omega)).trans AB24.out); have XB25 := Aside0.mk (blk_put XB24.out 2 (.slice Ao (css.filter (fun c => !isTxC ⟨ta, ti⟩ c)).length co) rfl)
  have HX25 : Aside0 (xb < (w24.setCell ⟨xb, 2, none⟩ (.slice Ao (css.filter (fun c => !isTxC ⟨ta, ti⟩ c)).length co)).heap.size) := ⟨Nat.lt_of_lt_of_le HX24.out HG25.out.size⟩
  have HB25 := Aside0.mk (HB24.out.setCell (p := ⟨xb, 2, none⟩) (show w.heap.size ≤ xb by omega) (.slice Ao (css.filter (fun c => !isTxC ⟨ta, ti⟩ c)).length co))
  have HOH25 := Aside0.mk (HOH24.out.kept HG25.out (fun b e e2 => by have := HOH24.out.base b e; have := HX20.out; have := Option.some.inj e2; omega))
  have HOO25 := Aside0.mk (HOO24.out.kept HG25.out (fun b e e2 => by have := HOO24.out.base b e; have := HX22.out; have := Option.some.inj e2; omega))
  have HRO25 := Aside0.mk (HRO24.out.kept HG25.out (fun b e e2 => by have h1 := HRO24.out.base b e; rw [drewHeap] at h1; have := HX17.out; have := Option.some.inj e2; omega))
  clear hs0 hs1 hs2 hs3 hs4 ho0 ho1 ho2 ho3 ho4 ho5 ho6 hx0 hx1 hx2 hx3 hx4 hy0 hy1 hy2 hy3 hy4
  change Code.wp _ _ _ _ (w24.setCell ⟨xb, 2, none⟩ (.slice Ao (css.filter (fun c => !isTxC ⟨ta, ti⟩ c)).length co))
  generalize w24.setCell ⟨xb, 2, none⟩ (.slice Ao (css.filter (fun c => !isTxC ⟨ta, ti⟩ c)).length co) = w25 at *
  obtain ⟨hs0, hs1, hs2, hs3, hs4⟩ := cells_5 SB25.out
  obtain ⟨ho0, ho1, ho2, ho3, ho4, ho5, ho6⟩ := cells_7 OB25.out
  have hxn : w.heap.size + 1 < xb := by omega
  have hS1 := (⟨hs0, hs1, hs2, hs3, hs4, ho0, ho1, ho2, ho3, ho4, ho5, ho6, World.grownBy.refl w25 (some xb)⟩ : w25.cell? ⟨w.heap.size, 0, none⟩ = some (.slice A0 rs.length c0) ∧ w25.cell? ⟨w.heap.size, 1, none⟩ = some (.slice A1 hs.length c1) ∧ w25.cell? ⟨w.heap.size, 2, none⟩ = some (.slice (some ⟨ob, oo, none⟩) os.length c2) ∧ w25.cell? ⟨w.heap.size, 3, none⟩ = some (.slice A3 ds.length c3) ∧ w25.cell? ⟨w.heap.size, 4, none⟩ = some (.int .u64 ver) ∧ w25.cell? ⟨w.heap.size + 1, 0, none⟩ = some (.int .i64 kind) ∧ w25.cell? ⟨w.heap.size + 1, 1, none⟩ = some (.int .u64 ta) ∧ w25.cell? ⟨w.heap.size + 1, 2, none⟩ = some (.int .u64 ti) ∧ w25.cell? ⟨w.heap.size + 1, 3, none⟩ = some (.string key) ∧ w25.cell? ⟨w.heap.size + 1, 4, none⟩ = some (.slice A4 n4 c4) ∧ w25.cell? ⟨w.heap.size + 1, 5, none⟩ = some (.bool true) ∧ w25.cell? ⟨w.heap.size + 1, 6, none⟩ = some (.slice A5 n5 c5) ∧ w25.grownBy w25 (some xb))
  have hS0 := keepG hS1 (grown_drew w25 _) hxn
  clear hs0 hs1 hs2 hs3 hs4 ho0 ho1 ho2 ho3 ho4 ho5 ho6
  refine wp_region_noPanic ?_
  refine wp_region_held_drew (S := (fun w' => w'.cell? ⟨w.heap.size, 0, none⟩ = some (.slice A0 rs.length c0) ∧ w'.cell? ⟨w.heap.size, 1, none⟩ = some (.slice A1 hs.length c1) ∧ w'.cell? ⟨w.heap.size, 2, none⟩ = some (.slice (some ⟨ob, oo, none⟩) os.length c2) ∧ w'.cell? ⟨w.heap.size, 3, none⟩ = some (.slice A3 ds.length c3) ∧ w'.cell? ⟨w.heap.size, 4, none⟩ = some (.int .u64 ver) ∧ w'.cell? ⟨w.heap.size + 1, 0, none⟩ = some (.int .i64 kind) ∧ w'.cell? ⟨w.heap.size + 1, 1, none⟩ = some (.int .u64 ta) ∧ w'.cell? ⟨w.heap.size + 1, 2, none⟩ = some (.int .u64 ti) ∧ w'.cell? ⟨w.heap.size + 1, 3, none⟩ = some (.string key) ∧ w'.cell? ⟨w.heap.size + 1, 4, none⟩ = some (.slice A4 n4 c4) ∧ w'.cell? ⟨w.heap.size + 1, 5, none⟩ = some (.bool true) ∧ w'.cell? ⟨w.heap.size + 1, 6, none⟩ = some (.slice A5 n5 c5) ∧ w25.grownBy w' (some xb))) (by kernel_rfl) hS0 (fun hHeld => ?_)
  refine wpAnyH_take (i := 0) (oi := _) (v := .pointer (some ⟨w.heap.size, 3, none⟩)) rfl (by kernel_rfl) (by kernel_rfl) (by kernel_rfl) (fun _ _ _ h => h) (Or.inl ⟨by kernel_rfl, ?_⟩) (by assumption) ?_
  · intro w hSw; (try dsimp only at hSw); go_simp
  try simp only [Act.put, List.setIfInBounds_toArray, List.set_cons_zero, List.set_cons_succ]
  refine wpAnyH_take (i := 1) (oi := _) (v := .slice A3 ds.length c3) rfl (by kernel_rfl) (by kernel_rfl) (by kernel_rfl) (fun _ _ _ h => h) (Or.inl ⟨by kernel_rfl, ?_⟩) (by assumption) ?_
  · intro w hSw; (try dsimp only at hSw); go_simp
  try simp only [Act.put, List.setIfInBounds_toArray, List.set_cons_zero, List.set_cons_succ]
  refine wpAnyH_take (i := 3) (oi := _) (v := .pointer (some ⟨w.heap.size + 1, 1, none⟩)) rfl (by kernel_rfl) (by kernel_rfl) (by kernel_rfl) (fun _ _ _ h => h) (Or.inl ⟨by kernel_rfl, ?_⟩) (by assumption) ?_
  · intro w hSw; (try dsimp only at hSw); go_simp
  try simp only [Act.put, List.setIfInBounds_toArray, List.set_cons_zero, List.set_cons_succ]
  refine wpAnyH_take (i := 4) (oi := _) (v := .agg #[.int .u64 ta, .int .u64 ti]) rfl (by kernel_rfl) (by kernel_rfl) (by kernel_rfl) (fun _ _ _ h => h) (Or.inl ⟨by kernel_rfl, ?_⟩) (by assumption) ?_
  · intro w hSw; (try dsimp only at hSw); go_simp
  try simp only [Act.put, List.setIfInBounds_toArray, List.set_cons_zero, List.set_cons_succ]
  refine wpAnyH_take (i := 5) (oi := _) (v := .pointer (some ⟨w.heap.size + 1, 5, none⟩)) rfl (by kernel_rfl) (by kernel_rfl) (by kernel_rfl) (fun _ _ _ h => h) (Or.inl ⟨by kernel_rfl, ?_⟩) (by assumption) ?_
  · intro w hSw; (try dsimp only at hSw); go_simp
  try simp only [Act.put, List.setIfInBounds_toArray, List.set_cons_zero, List.set_cons_succ]
  refine wpAnyH_take (i := 6) (oi := _) (v := .bool true) rfl (by kernel_rfl) (by kernel_rfl) (by kernel_rfl) (fun _ _ _ h => h) (Or.inl ⟨by kernel_rfl, ?_⟩) (by assumption) ?_
  · intro w hSw; (try dsimp only at hSw); go_simp
  try simp only [Act.put, List.setIfInBounds_toArray, List.set_cons_zero, List.set_cons_succ]
  refine wpAnyH_take (i := 7) (oi := _) (v := .agg #[.int .u64 ta, .int .u64 ti, .bool true]) rfl (by kernel_rfl) (by kernel_rfl) (by kernel_rfl) (fun _ _ _ h => h) (Or.inl ⟨by kernel_rfl, ?_⟩) (by assumption) ?_
  · intro w hSw; (try dsimp only at hSw); go_simp
  try simp only [Act.put, List.setIfInBounds_toArray, List.set_cons_zero, List.set_cons_succ]
  refine wpAnyH_ready (rs := [2, 8]) (by kernel_rfl) (by simp) ?_
  refine AllReadyH.cons (o := _) rfl (fun K hK => ?_) (AllReadyH.cons (o := _) rfl (fun K hK => ?_) AllReadyH.nil)
  · go_simp; go_at_call 65; with_reducible refine (HCD.out _ HB25.out.drew).mono ?_; rintro e w26 ⟨v5, rfl, ho26, hb26⟩; go_simp
    have HG26 := Aside0.mk (Lib.grownBy_below (grown_drew w25 (some xb)) hb26)
    have XB26 := Aside0.mk (stay hb26 XB25.out HX25.out)
    have HO26 := Aside0.mk ho26
    have HS26 := Aside0.mk (show w25.drew.heap.size ≤ w26.heap.size from hb26.size)
    clear ho26 hb26
    refine hK.out _ _ (keepG hS1 HG26.out hxn) (fun hHeld2 => ?_)
    clear hK K
    try simp only [Act.put, List.setIfInBounds_toArray, List.set_cons_zero, List.set_cons_succ]
    refine wpAnyH_ready (rs := [8]) (by kernel_rfl) (by simp) ?_
    refine AllReadyH.cons (o := _) rfl (fun K hK => ?_) AllReadyH.nil
    go_simp
    have HG27 := Aside0.mk (HG26.out.trans (World.grownBy_alloc w26 (.cells #[.int .u64 ta, .int .u64 ti, .bool true] 68) (some xb)))
    have XB27 := Aside0.mk (stayA XB26.out (.cells #[.int .u64 ta, .int .u64 ti, .bool true] 68))
    have HO27 := Aside0.mk (HO26.out.kept (World.grownBy_alloc w26 (.cells #[.int .u64 ta, .int .u64 ti, .bool true] 68) none) (fun b e e2 => by cases e2))
    have HN27 := Aside0.mk (cells_new (w := w26) (c := [.int .u64 ta, .int .u64 ti, .bool true]) (t := 68))
    have HS27 : Aside0 (w25.drew.heap.size ≤ (w26.alloc (.cells #[.int .u64 ta, .int .u64 ti, .bool true] 68)).heap.size) := ⟨by rw [World.size_alloc]; have := HS26.out; omega⟩
    refine hK.out _ _ (keepG hS1 HG27.out hxn) (fun hHeld8 => ?_)
    clear hK K
    try simp only [Act.put, List.setIfInBounds_toArray, List.set_cons_zero, List.set_cons_succ]
    refine wpAnyH_ready (rs := [9]) (by kernel_rfl) (by simp) ?_
    refine AllReadyH.cons (o := _) rfl (fun K hK => ?_) AllReadyH.nil
    refine step_own_append (base := w25.drew.heap.size) rfl (.tmp 136) (.tmp 142) rfl Try.underlying25 infoDone rfl (by decide) rfl ⟨w26.heap.size, 0, none⟩ rfl (c := [.int .u64 ta, .int .u64 ti, .bool true]) (doneCells_ok ta ti true) HN27.out HO27.out HS27.out (by rw [List.length_map]; have := HDL.out; omega) (by rw [List.length_map]; have := HDL.out; unfold maxLen; omega) ?_
    intro v6 w28 ho28 hg28
    have HG28 := Aside0.mk (HG27.out.andThen hg28 (fun k e => .inl (HO27.out.base k e)))
    have XB28 := Aside0.mk ((hg28.block xb (Array.getElem?_eq_some_iff.1 XB27.out).1 (fun e => by have := HO27.out.base _ e.symm; rw [drewHeap] at this; have := HX25.out; omega)).trans XB27.out)
    obtain ⟨Ad, cd, hv6, hcd⟩ := own_sl2 ho28
    rw [List.length_append, List.length_map, List.length_singleton] at hv6 hcd
    subst hv6
    have HO28 := Aside0.mk ho28
    have HCD6 := Aside0.mk hcd
    clear ho28 hg28 hcd
    refine hK.out _ _ (keepG hS1 HG28.out hxn) (fun hHeld9 => ?_)
    clear hK K
    try simp only [Act.put, List.setIfInBounds_toArray, List.set_cons_zero, List.set_cons_succ]
    refine wpAnyH_take (i := 10) (oi := _) (v := .pointer (some ⟨xb, 3, none⟩)) rfl (by kernel_rfl) (by kernel_rfl) (by kernel_rfl) (fun _ _ _ h => h) (Or.inl ⟨by kernel_rfl, ?_⟩) (by assumption) ?_
    · intro w hSw; (try dsimp only at hSw); go_simp
    try simp only [Act.put, List.setIfInBounds_toArray, List.set_cons_zero, List.set_cons_succ]
    obtain ⟨hx0, hx1, hx2, hx3, hx4⟩ := cells_5 XB28.out; obtain ⟨hy0, hy1, hy2, hy3, hy4⟩ := froz_5 XB28.out
    have HG29 := Aside0.mk (HG28.out.trans (Lib.grownBy_setCell w28 xb 3 (.slice Ad (ds.length + 1) cd)))
    refine wpAnyH_ready (rs := [11]) (by kernel_rfl) (by simp) ?_
    refine AllReadyH.cons (o := _) rfl (fun K hK => ?_) AllReadyH.nil
    go_simp
    refine hK.out _ _ (keepG hS1 HG29.out hxn) (fun hHeld11 => ?_)
    clear hK K
    try simp only [Act.put, List.setIfInBounds_toArray, List.set_cons_zero, List.set_cons_succ]
    refine wpAnyH_done (by kernel_rfl) ?_ _
    refine NoPanic.normal ?_
    clear hx0 hx1 hx2 hx3 hx4 hy0 hy1 hy2 hy3 hy4
    have XB29 := Aside0.mk (blk_put XB28.out 3 (.slice Ad (ds.length + 1) cd) rfl)
    have HO29 := Aside0.mk (HO28.out.kept (Lib.grownBy_setCell w28 xb 3 (.slice Ad (ds.length + 1) cd)) (fun b e e2 => by have := HO28.out.base b e; rw [drewHeap] at this; have := HX25.out; have := Option.some.inj e2; omega))
    generalize w28.setCell ⟨xb, 3, none⟩ (.slice Ad (ds.length + 1) cd) = w29 at *
    have SB29 := Aside0.mk ((HG29.out.block w.heap.size (by have := HX25.out; omega) (fun e => by have := Option.some.inj e; omega)).trans SB25.out)
    have OB29 := Aside0.mk ((HG29.out.block (w.heap.size + 1) (by have := HX25.out; omega) (fun e => by have := Option.some.inj e; omega)).trans OB25.out)
    have ZB29 := Aside0.mk ((HG29.out.block (w.heap.size + 1 + 1) (by have := HX25.out; omega) (fun e => by have := Option.some.inj e; omega)).trans ZB25.out)
    have AB29 := Aside0.mk ((HG29.out.block (w.heap.size + 1 + 1 + 1) (by have := HX25.out; omega) (fun e => by have := Option.some.inj e; omega)).trans AB25.out)
    have HB29 : Aside0 (Below w.heap.size w w29) := ⟨HB25.out.grown HG29.out HB25.out.size (fun k e => by have := Option.some.inj e; omega)⟩
    have HOH29 := Aside0.mk (HOH25.out.kept HG29.out (fun b e e2 => by have := HOH25.out.base b e; have := HX20.out; have := Option.some.inj e2; omega))
    have HOO29 := Aside0.mk (HOO25.out.kept HG29.out (fun b e e2 => by have := HOO25.out.base b e; have := HX22.out; have := Option.some.inj e2; omega))
    have HRO29 := Aside0.mk (HRO25.out.kept HG29.out (fun b e e2 => by have h1 := HRO25.out.base b e; rw [drewHeap] at h1; have := HX17.out; have := Option.some.inj e2; omega))
    have hR := own_put_u (n := w.heap.size) HRO29.out (show w.heap.size + 1 + 1 + 1 + 1 ≤ w17.drew.heap.size by rw [drewHeap]; have := HX17.out; omega)
    clear hS0 hS1 hHeld hHeld2 hHeld8 hHeld9 hHeld11
    have hn29 : w.heap.size + 1 + 1 + 1 + 1 ≤ w29.heap.size := (by have := HX25.out; have := HG29.out.size; omega)
    obtain ⟨ho0, ho1, ho2, ho3, ho4, ho5, ho6⟩ := cells_7 OB29.out
    obtain ⟨hx0, hx1, hx2, hx3, hx4⟩ := cells_5 XB29.out
    obtain ⟨hz0, hz1, hz2, hz3, hz4⟩ := cells_5 ZB29.out
    obtain ⟨ha0, ha1, ha2, ha3, ha4⟩ := cells_5 AB29.out
    obtain ⟨hy0, hy1, hy2, hy3, hy4⟩ := froz_5 ZB29.out
    obtain ⟨hw0, hw1, hw2, hw3, hw4⟩ := froz_5 AB29.out
    go_wp2
    go_region
    go_wp2
    refine twoBoxesD rfl rfl rfl rfl ZB29.out AB29.out (by omega) ?_
    have hbW := fun (a0 a1 a2 a3 a4 b0 b1 b2 b3 b4 : Value) => (put5_below (put5_below HB29.out (show w.heap.size ≤ w.heap.size + 1 + 1 by omega) a0 a1 a2 a3 a4) (show w.heap.size ≤ w.heap.size + 1 + 1 + 1 by omega) b0 b1 b2 b3 b4).drew
    have hl1 : w.heap.size + 1 + 1 + 1 + 1 ≤ w20.heap.size := by have := HX20.out; omega
    have hl2 : w.heap.size + 1 + 1 + 1 + 1 ≤ w22.heap.size := by have := HX22.out; omega
    have hl3 : w.heap.size + 1 + 1 + 1 + 1 ≤ w25.drew.heap.size := by rw [drewHeap]; have := HX25.out; omega
    have hH := own_put_u (n := w.heap.size) HOH29.out hl1
    have hO := own_put_u (n := w.heap.size) HOO29.out hl2
    have hD := own_put_u (n := w.heap.size) HO29.out hl3
    refine ⟨_, rfl, ⟨_, _, _, _, rfl, flat50.ofsl ((hR _ _ _ _ _ _ _ _ _ _).below ((Below.refl _ _).drew)).sl, flat75.ofsl ((hH _ _ _ _ _ _ _ _ _ _).below ((Below.refl _ _).drew)).sl, opens_back (OpenRow.struck ⟨ta, ti⟩ HRW.out) (hbW _ _ _ _ _ _ _ _ _ _) ((hO _ _ _ _ _ _ _ _ _ _).below ((Below.refl _ _).drew)).sl, flat68.ofsl (l := ds ++ [⟨⟨ta, ti⟩, true⟩]) ?_⟩, hbW _ _ _ _ _ _ _ _ _ _⟩
    rw [List.map_append]
    exact ((hD _ _ _ _ _ _ _ _ _ _).below ((Below.refl _ _).drew)).sl
  · go_simp
    have HBA := Aside0.mk ((HB25.out.alloc HB25.out.size (.cells #[.int .u64 ta, .int .u64 ti, .bool true] 68)).drew)
    have HGA := Aside0.mk ((World.grownBy_alloc w25 (.cells #[.int .u64 ta, .int .u64 ti, .bool true] 68) (some xb)).trans (grown_drew _ (some xb)))
    have XBA := Aside0.mk (show (w25.alloc (.cells #[.int .u64 ta, .int .u64 ti, .bool true] 68)).drew.heap[xb]? = _ from stayA XB25.out (.cells #[.int .u64 ta, .int .u64 ti, .bool true] 68))
    have NBA := Aside0.mk (show (w25.alloc (.cells #[.int .u64 ta, .int .u64 ti, .bool true] 68)).drew.heap[w25.heap.size]? = _ from heap_alloc_new w25 (.cells #[.int .u64 ta, .int .u64 ti, .bool true] 68))
    have HSA : Aside0 (w25.drew.heap.size < (w25.alloc (.cells #[.int .u64 ta, .int .u64 ti, .bool true] 68)).drew.heap.size) := ⟨by rw [drewHeap, drewHeap, World.size_alloc]; omega⟩
    refine hK.out _ _ (keepG hS1 HGA.out hxn) (fun hHeld8 => ?_)
    clear hK K
    try simp only [Act.put, List.setIfInBounds_toArray, List.set_cons_zero, List.set_cons_succ]
    refine wpAnyH_ready (rs := [2]) (by kernel_rfl) (by simp) ?_
    refine AllReadyH.cons (o := _) rfl (fun K hK => ?_) AllReadyH.nil
    go_simp; go_at_call 65; with_reducible refine (HCD.out _ HBA.out).mono ?_; rintro e w26 ⟨v5, rfl, ho26, hb26⟩; go_simp
    have HG27 := Aside0.mk (HGA.out.trans (Lib.grownBy_below (World.grownBy.refl _ _) hb26))
    have XB27 := Aside0.mk (stay hb26 XBA.out (by have h1 := HX25.out; have h2 := HSA.out; rw [drewHeap] at h2; omega))
    have HO27 := Aside0.mk (ho26.lower (Nat.le_of_lt HSA.out))
    have HN27 := Aside0.mk (cells_blk (c := [.int .u64 ta, .int .u64 ti, .bool true]) (stay hb26 NBA.out HSA.out))
    have HS27 : Aside0 (w25.drew.heap.size ≤ w26.heap.size) := ⟨Nat.le_trans (Nat.le_of_lt HSA.out) hb26.size⟩
    clear ho26 hb26
    refine hK.out _ _ (keepG hS1 HG27.out hxn) (fun hHeld2 => ?_)
    clear hK K
    try simp only [Act.put, List.setIfInBounds_toArray, List.set_cons_zero, List.set_cons_succ]
    refine wpAnyH_ready (rs := [9]) (by kernel_rfl) (by simp) ?_
    refine AllReadyH.cons (o := _) rfl (fun K hK => ?_) AllReadyH.nil
    refine step_own_append (base := w25.drew.heap.size) rfl (.tmp 136) (.tmp 142) rfl Try.underlying25 infoDone rfl (by decide) rfl ⟨w25.heap.size, 0, none⟩ rfl (c := [.int .u64 ta, .int .u64 ti, .bool true]) (doneCells_ok ta ti true) HN27.out HO27.out HS27.out (by rw [List.length_map]; have := HDL.out; omega) (by rw [List.length_map]; have := HDL.out; unfold maxLen; omega) ?_
    intro v6 w28 ho28 hg28
    have HG28 := Aside0.mk (HG27.out.andThen hg28 (fun k e => .inl (HO27.out.base k e)))
    have XB28 := Aside0.mk ((hg28.block xb (Array.getElem?_eq_some_iff.1 XB27.out).1 (fun e => by have := HO27.out.base _ e.symm; rw [drewHeap] at this; have := HX25.out; omega)).trans XB27.out)
    obtain ⟨Ad, cd, hv6, hcd⟩ := own_sl2 ho28
    rw [List.length_append, List.length_map, List.length_singleton] at hv6 hcd
    subst hv6
    have HO28 := Aside0.mk ho28
    have HCD6 := Aside0.mk hcd
    clear ho28 hg28 hcd
    refine hK.out _ _ (keepG hS1 HG28.out hxn) (fun hHeld9 => ?_)
    clear hK K
    try simp only [Act.put, List.setIfInBounds_toArray, List.set_cons_zero, List.set_cons_succ]
    refine wpAnyH_take (i := 10) (oi := _) (v := .pointer (some ⟨xb, 3, none⟩)) rfl (by kernel_rfl) (by kernel_rfl) (by kernel_rfl) (fun _ _ _ h => h) (Or.inl ⟨by kernel_rfl, ?_⟩) (by assumption) ?_
    · intro w hSw; (try dsimp only at hSw); go_simp
    try simp only [Act.put, List.setIfInBounds_toArray, List.set_cons_zero, List.set_cons_succ]
    obtain ⟨hx0, hx1, hx2, hx3, hx4⟩ := cells_5 XB28.out; obtain ⟨hy0, hy1, hy2, hy3, hy4⟩ := froz_5 XB28.out
    have HG29 := Aside0.mk (HG28.out.trans (Lib.grownBy_setCell w28 xb 3 (.slice Ad (ds.length + 1) cd)))
    refine wpAnyH_ready (rs := [11]) (by kernel_rfl) (by simp) ?_
    refine AllReadyH.cons (o := _) rfl (fun K hK => ?_) AllReadyH.nil
    go_simp
    refine hK.out _ _ (keepG hS1 HG29.out hxn) (fun hHeld11 => ?_)
    clear hK K
    try simp only [Act.put, List.setIfInBounds_toArray, List.set_cons_zero, List.set_cons_succ]
    refine wpAnyH_done (by kernel_rfl) ?_ _
    refine NoPanic.normal ?_
    clear hx0 hx1 hx2 hx3 hx4 hy0 hy1 hy2 hy3 hy4
    have XB29 := Aside0.mk (blk_put XB28.out 3 (.slice Ad (ds.length + 1) cd) rfl)
    have HO29 := Aside0.mk (HO28.out.kept (Lib.grownBy_setCell w28 xb 3 (.slice Ad (ds.length + 1) cd)) (fun b e e2 => by have := HO28.out.base b e; rw [drewHeap] at this; have := HX25.out; have := Option.some.inj e2; omega))
    generalize w28.setCell ⟨xb, 3, none⟩ (.slice Ad (ds.length + 1) cd) = w29 at *
    have SB29 := Aside0.mk ((HG29.out.block w.heap.size (by have := HX25.out; omega) (fun e => by have := Option.some.inj e; omega)).trans SB25.out)
    have OB29 := Aside0.mk ((HG29.out.block (w.heap.size + 1) (by have := HX25.out; omega) (fun e => by have := Option.some.inj e; omega)).trans OB25.out)
    have ZB29 := Aside0.mk ((HG29.out.block (w.heap.size + 1 + 1) (by have := HX25.out; omega) (fun e => by have := Option.some.inj e; omega)).trans ZB25.out)
    have AB29 := Aside0.mk ((HG29.out.block (w.heap.size + 1 + 1 + 1) (by have := HX25.out; omega) (fun e => by have := Option.some.inj e; omega)).trans AB25.out)
    have HB29 : Aside0 (Below w.heap.size w w29) := ⟨HB25.out.grown HG29.out HB25.out.size (fun k e => by have := Option.some.inj e; omega)⟩
    have HOH29 := Aside0.mk (HOH25.out.kept HG29.out (fun b e e2 => by have := HOH25.out.base b e; have := HX20.out; have := Option.some.inj e2; omega))
    have HOO29 := Aside0.mk (HOO25.out.kept HG29.out (fun b e e2 => by have := HOO25.out.base b e; have := HX22.out; have := Option.some.inj e2; omega))
    have HRO29 := Aside0.mk (HRO25.out.kept HG29.out (fun b e e2 => by have h1 := HRO25.out.base b e; rw [drewHeap] at h1; have := HX17.out; have := Option.some.inj e2; omega))
    have hR := own_put_u (n := w.heap.size) HRO29.out (show w.heap.size + 1 + 1 + 1 + 1 ≤ w17.drew.heap.size by rw [drewHeap]; have := HX17.out; omega)
    clear hS0 hS1 hHeld hHeld2 hHeld8 hHeld9 hHeld11
    have hn29 : w.heap.size + 1 + 1 + 1 + 1 ≤ w29.heap.size := (by have := HX25.out; have := HG29.out.size; omega)
    obtain ⟨ho0, ho1, ho2, ho3, ho4, ho5, ho6⟩ := cells_7 OB29.out
    obtain ⟨hx0, hx1, hx2, hx3, hx4⟩ := cells_5 XB29.out
    obtain ⟨hz0, hz1, hz2, hz3, hz4⟩ := cells_5 ZB29.out
    obtain ⟨ha0, ha1, ha2, ha3, ha4⟩ := cells_5 AB29.out
    obtain ⟨hy0, hy1, hy2, hy3, hy4⟩ := froz_5 ZB29.out
    obtain ⟨hw0, hw1, hw2, hw3, hw4⟩ := froz_5 AB29.out
    go_wp2
    go_region
    go_wp2
    refine twoBoxesD rfl rfl rfl rfl ZB29.out AB29.out (by omega) ?_
    have hbW := fun (a0 a1 a2 a3 a4 b0 b1 b2 b3 b4 : Value) => (put5_below (put5_below HB29.out (show w.heap.size ≤ w.heap.size + 1 + 1 by omega) a0 a1 a2 a3 a4) (show w.heap.size ≤ w.heap.size + 1 + 1 + 1 by omega) b0 b1 b2 b3 b4).drew
    have hl1 : w.heap.size + 1 + 1 + 1 + 1 ≤ w20.heap.size := by have := HX20.out; omega
    have hl2 : w.heap.size + 1 + 1 + 1 + 1 ≤ w22.heap.size := by have := HX22.out; omega
    have hl3 : w.heap.size + 1 + 1 + 1 + 1 ≤ w25.drew.heap.size := by rw [drewHeap]; have := HX25.out; omega
    have hH := own_put_u (n := w.heap.size) HOH29.out hl1
    have hO := own_put_u (n := w.heap.size) HOO29.out hl2
    have hD := own_put_u (n := w.heap.size) HO29.out hl3
    refine ⟨_, rfl, ⟨_, _, _, _, rfl, flat50.ofsl ((hR _ _ _ _ _ _ _ _ _ _).below ((Below.refl _ _).drew)).sl, flat75.ofsl ((hH _ _ _ _ _ _ _ _ _ _).below ((Below.refl _ _).drew)).sl, opens_back (OpenRow.struck ⟨ta, ti⟩ HRW.out) (hbW _ _ _ _ _ _ _ _ _ _) ((hO _ _ _ _ _ _ _ _ _ _).below ((Below.refl _ _).drew)).sl, flat68.ofsl (l := ds ++ [⟨⟨ta, ti⟩, true⟩]) ?_⟩, hbW _ _ _ _ _ _ _ _ _ _⟩
    rw [List.map_append]
    exact ((hD _ _ _ _ _ _ _ _ _ _).below ((Below.refl _ _).drew)).sl
end Go.Proofs.Ytmcgcdpiceikeaa.PAll
end
