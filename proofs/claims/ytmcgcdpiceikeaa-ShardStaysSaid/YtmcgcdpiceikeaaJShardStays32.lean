/- Joined texts of the claim ShardStays (part 32): contracts of functions and plain laws. -/
import Derived.BigRegion
import Derived.Test.YtmcgcdpiceikeaaJShardStays31
set_option linter.unusedVariables false
set_option linter.unusedSimpArgs false
section
namespace Go.Proofs.Ytmcgcdpiceikeaa.PAll
open Go.RowKit Go.Proofs.YtmcgcdpiceikeaaW.PrintWords Go.Proofs.YtmcgcdpiceikeaaW.PrintMore Go.Proofs.Ytmcgcdpiceikeaa
theorem keepS2 {w0 : World} {n : Nat} {a b : Addr} {v0 v1 v2 v3 v4 u0 u1 u2 u3 u4 u5 u6 x y : Value} {q w1 : World} (h : q.cell? a = some x ∧ q.cell? b = some y ∧ q.cell? ⟨n, 0, none⟩ = some v0 ∧ q.cell? ⟨n, 1, none⟩ = some v1 ∧ q.cell? ⟨n, 2, none⟩ = some v2 ∧ q.cell? ⟨n, 3, none⟩ = some v3 ∧ q.cell? ⟨n, 4, none⟩ = some v4 ∧ q.cell? ⟨n + 1, 0, none⟩ = some u0 ∧ q.cell? ⟨n + 1, 1, none⟩ = some u1 ∧ q.cell? ⟨n + 1, 2, none⟩ = some u2 ∧ q.cell? ⟨n + 1, 3, none⟩ = some u3 ∧ q.cell? ⟨n + 1, 4, none⟩ = some u4 ∧ q.cell? ⟨n + 1, 5, none⟩ = some u5 ∧ q.cell? ⟨n + 1, 6, none⟩ = some u6 ∧ Below w0.heap.size w0 q) (hb : Below q.heap.size q w1) :
    w1.cell? a = some x ∧ w1.cell? b = some y ∧ w1.cell? ⟨n, 0, none⟩ = some v0 ∧ w1.cell? ⟨n, 1, none⟩ = some v1 ∧ w1.cell? ⟨n, 2, none⟩ = some v2 ∧ w1.cell? ⟨n, 3, none⟩ = some v3 ∧ w1.cell? ⟨n, 4, none⟩ = some v4 ∧ w1.cell? ⟨n + 1, 0, none⟩ = some u0 ∧ w1.cell? ⟨n + 1, 1, none⟩ = some u1 ∧ w1.cell? ⟨n + 1, 2, none⟩ = some u2 ∧ w1.cell? ⟨n + 1, 3, none⟩ = some u3 ∧ w1.cell? ⟨n + 1, 4, none⟩ = some u4 ∧ w1.cell? ⟨n + 1, 5, none⟩ = some u5 ∧ w1.cell? ⟨n + 1, 6, none⟩ = some u6 ∧ Below w0.heap.size w0 w1 := by
  obtain ⟨ha, hb', h⟩ := h
  have c {a : Addr} {v : Value} (e : q.cell? a = some v) : w1.cell? a = some v := (hb.cell (World.block_lt_of_cell? _ _ e)).trans e
  exact ⟨c ha, c hb', keepS h hb⟩
set_option maxRecDepth 100000 in
set_option maxHeartbeats 8000000 in
theorem prep_again (kind : Int) (t : S30) (key : ByteArray) (A4 : Option Addr) (n4 c4 : Nat) (cm : Bool) (A5 : Option Addr) (n5 c5 : Nat) (A0 : Option Addr) (c0 : Nat) (A1 : Option Addr) (c1 : Nat) (A2 : Option Addr) (c2 : Nat) (A3 : Option Addr) (c3 : Nat) (rs : List S50) (hs : List S75) (os : List S48) (ds : List S68) (ver : Int) (w : World) (hr0 : Kd.C k50 w A0 rs.length rs) (hc0 : rs.length ≤ c0) (hr1 : Kd.C k75 w A1 hs.length hs) (hc1 : hs.length ≤ c1) (hr2 : Kd.C k48 w A2 os.length os) (hc2 : os.length ≤ c2) (hr3 : Kd.C k68 w A3 ds.length ds) (hc3 : ds.length ≤ c3) (hd : ¬ 0 ≤ findI (qz25 t) ds) (ii : Nat) (hii : ii < os.length) (hfi : findI (qz16 t) os = (ii : Int)) (hf1 : (os[ii]!).f1 = true) (hf2 : (os[ii]!).f2 = false) (ps : List S54) (hn4 : n4 = ps.length) (hr4 : Kd.C k54 w A4 ps.length ps) (hc4 : ps.length ≤ c4) (hsame : samePutsV (os[ii]!).f3 ps = true) :
    Calls Try.prog 22 #[.agg (shv A0 rs.length c0 A1 hs.length c1 A2 os.length c2 A3 ds.length c3 ver), .agg #[.int .i64 kind, .int .u64 t.f0, .int .u64 t.f1, .string key, .slice A4 n4 c4, .bool cm, .slice A5 n5 c5]] w (qz32 w (⟨rs, hs, os, ds, ver⟩, errA 0)) := by
  obtain ⟨bS, bO, bZ, bA⟩ := qz38 w (.cells #[.slice A0 rs.length c0, .slice A1 hs.length c1, .slice A2 os.length c2, .slice A3 ds.length c3, .int .u64 ver] 28) (.cells #[.int .i64 kind, .int .u64 t.f0, .int .u64 t.f1, .string key, .slice A4 n4 c4, .bool cm, .slice A5 n5 c5] 34) (.cells #[.slice none 0 0, .slice none 0 0, .slice none 0 0, .slice none 0 0, .int .u64 0] 28) (.cells #[.int .i64 0, .string ⟨#[]⟩, .int .u64 0, .bool false, .bool false] 38)
  have hb4 : Below w.heap.size w ((((w.alloc (.cells #[.slice A0 rs.length c0, .slice A1 hs.length c1, .slice A2 os.length c2, .slice A3 ds.length c3, .int .u64 ver] 28)).alloc (.cells #[.int .i64 kind, .int .u64 t.f0, .int .u64 t.f1, .string key, .slice A4 n4 c4, .bool cm, .slice A5 n5 c5] 34)).alloc (.cells #[.slice none 0 0, .slice none 0 0, .slice none 0 0, .slice none 0 0, .int .u64 0] 28)).alloc (.cells #[.int .i64 0, .string ⟨#[]⟩, .int .u64 0, .bool false, .bool false] 38)) := ((((Below.refl w.heap.size w).alloc (Nat.le_refl _) _).alloc (by simp) _).alloc (by simp; omega) _).alloc (by simp; omega) _
  have HW4 : qza (((((w.alloc (.cells #[.slice A0 rs.length c0, .slice A1 hs.length c1, .slice A2 os.length c2, .slice A3 ds.length c3, .int .u64 ver] 28)).alloc (.cells #[.int .i64 kind, .int .u64 t.f0, .int .u64 t.f1, .string key, .slice A4 n4 c4, .bool cm, .slice A5 n5 c5] 34)).alloc (.cells #[.slice none 0 0, .slice none 0 0, .slice none 0 0, .slice none 0 0, .int .u64 0] 28)).alloc (.cells #[.int .i64 0, .string ⟨#[]⟩, .int .u64 0, .bool false, .bool false] 38)).heap.size = w.heap.size + 1 + 1 + 1 + 1) := ⟨by simp⟩
  have BS := qza.mk bS
  have BO := qza.mk bO
  have BZ := qza.mk bZ
  have BA := qza.mk bA
  have HB4 := qza.mk hb4
  have HOV := qza.mk (fun (W : World) (h : Below w.heap.size w W) => qz27 A0 rs.length c0 A1 hs.length c1 A2 os.length c2 A3 c3 ver ds t W (Kd.C_below hr3 h) hc3)
  have HKN := qza.mk (fun (W : World) (h : Below w.heap.size w W) => qz24 A0 rs.length c0 A1 hs.length c1 A2 c2 A3 ds.length c3 ver os t W (Kd.C_below hr2 h) hc2)
  have HR0 := qza.mk hr0
  have HR1 := qza.mk hr1
  have HR2 := qza.mk hr2
  have HR3 := qza.mk hr3
  have HC0 := qza.mk hc0
  have HC1 := qza.mk hc1
  have HC2 := qza.mk hc2
  have HC3 := qza.mk hc3
  clear hr0 hc0 hr1 hc1 hr2 hc2 hr3 hc3 bS bO bZ bA hb4
  subst hn4
  rw [decide_eq_false hd] at HOV
  clear hd
  generalize overV ds t = dv at *
  obtain ⟨⟨dA, dI⟩, dC⟩ := dv
  have HNO := qza.mk (fun (W : World) (e0 : Int) => qz35 A0 rs.length c0 A1 hs.length c1 A2 os.length c2 A3 ds.length c3 ver e0 W)
  rw [hfi] at HKN
  obtain ⟨ob, oo, hA, pB, pc, hpl, hpr, _, _, hp2, hp3, hp4⟩ := qz53 HR2.out ii hii
  have hiz : (0 : Int) ≤ (ii : Int) := by omega
  have hiz2 : (ii : Int) < (os.length : Int) := by omega
  rw [hf1] at hp2
  rw [hf2] at hp3
  have HP2 := qza.mk hp2
  have HP3 := qza.mk hp3
  have HP4 := qza.mk hp4
  have HEQ := qza.mk (fun (W : World) (h : Below w.heap.size w W) => eqPut_calls pB A4 pc c4 (os[ii]!).f3 ps W (Kd.C_below hpr h) hpl (Kd.C_below hr4 h) hc4)
  rw [hsame] at HEQ
  generalize (os[ii]!).f3.length = pn at *
  have HR4 := qza.mk hr4
  subst hA
  clear hp2 hp3 hp4 hf1 hf2 hfi hii hpl hpr hr4 hc4 hsame
  obtain ⟨ta, ti⟩ := t
  unfold shv at *
  dsimp only at *
  go_enter Try.func22, Try.ntmps22
  go_wp2_with (first
    | (go_at_call 51; refine (HOV.out _ HB4.out).mono ?_; rintro e w5 ⟨rfl, hb5⟩; have HW5 := qza.mk hb5.size; have SB5 := qza.mk (stay hb5 BS.out (by rw [HW4.out]; omega)); have OB5 := qza.mk (stay hb5 BO.out (by rw [HW4.out]; omega)); have ZB5 := qza.mk (stay hb5 BZ.out (by rw [HW4.out]; omega)); have AB5 := qza.mk (stay hb5 BA.out (by rw [HW4.out]; omega)); obtain ⟨hs0, hs1, hs2, hs3, hs4⟩ := qz4 (stayA SB5.out (.cells #[.int .u64 dA, .int .u64 dI, .bool dC] 68)); obtain ⟨ho0, ho1, ho2, ho3, ho4, ho5, ho6⟩ := qz12 (stayA OB5.out (.cells #[.int .u64 dA, .int .u64 dI, .bool dC] 68)); have HB5 := qza.mk (HB4.out.trans (hb5.mono HB4.out.size)); clear hb5)
    | (go_at_call 52; refine (HKN.out _ (HB5.out.alloc HB5.out.size (.cells #[.int .u64 dA, .int .u64 dI, .bool dC] 68))).mono ?_; rintro e w6 ⟨rfl, hb6⟩; clear hs0 hs1 hs2 hs3 hs4 ho0 ho1 ho2 ho3 ho4 ho5 ho6; have SB6 := qza.mk (stay hb6 (stayA SB5.out (.cells #[.int .u64 dA, .int .u64 dI, .bool dC] 68)) (by have := HW4.out; have := HW5.out; simp; omega)); have OB6 := qza.mk (stay hb6 (stayA OB5.out (.cells #[.int .u64 dA, .int .u64 dI, .bool dC] 68)) (by have := HW4.out; have := HW5.out; simp; omega)); have ZB6 := qza.mk (stay hb6 (stayA ZB5.out (.cells #[.int .u64 dA, .int .u64 dI, .bool dC] 68)) (by have := HW4.out; have := HW5.out; simp; omega)); have AB6 := qza.mk (stay hb6 (stayA AB5.out (.cells #[.int .u64 dA, .int .u64 dI, .bool dC] 68)) (by have := HW4.out; have := HW5.out; simp; omega)); have DB6 := qza.mk (stay hb6 (heap_alloc_new w5 (.cells #[.int .u64 dA, .int .u64 dI, .bool dC] 68)) (by simp)); obtain ⟨hs0, hs1, hs2, hs3, hs4⟩ := qz4 SB6.out; obtain ⟨ho0, ho1, ho2, ho3, ho4, ho5, ho6⟩ := qz12 OB6.out; obtain ⟨hd0, hd1, hd2⟩ := qz39 DB6.out; have HB6 := qza.mk ((HB5.out.alloc HB5.out.size (.cells #[.int .u64 dA, .int .u64 dI, .bool dC] 68)).trans (hb6.mono (HB5.out.alloc HB5.out.size (.cells #[.int .u64 dA, .int .u64 dI, .bool dC] 68)).size)); have HW6 : qza (w.heap.size + 1 + 1 + 1 + 1 ≤ w6.heap.size) := ⟨by have := HW4.out; have := HW5.out; have := hb6.size; simp at this; omega⟩; clear hb6; have hq2 := (HB6.out.cell (World.block_lt_of_cell? _ _ HP2.out)).trans HP2.out; have hq3 := (HB6.out.cell (World.block_lt_of_cell? _ _ HP3.out)).trans HP3.out; have hq4 := (HB6.out.cell (World.block_lt_of_cell? _ _ HP4.out)).trans HP4.out))
  clear hd0 hd1 hd2
  have hS0 := keepS2 (w0 := w6) ⟨hq2, hq4, hs0, hs1, hs2, hs3, hs4, ho0, ho1, ho2, ho3, ho4, ho5, ho6, Below.refl _ _⟩ ((Below.refl _ _).drew)
  clear hs0 hs1 hs2 hs3 hs4 ho0 ho1 ho2 ho3 ho4 ho5 ho6 hq2 hq3 hq4
  go_region_held3 (fun w' => w'.cell? ⟨ob, oo + ii * 5 + 2, none⟩ = some (.bool true) ∧ w'.cell? ⟨ob, oo + ii * 5 + 4, none⟩ = some (.slice pB pn pc) ∧ w'.cell? ⟨w.heap.size, 0, none⟩ = some (.slice A0 rs.length c0) ∧ w'.cell? ⟨w.heap.size, 1, none⟩ = some (.slice A1 hs.length c1) ∧ w'.cell? ⟨w.heap.size, 2, none⟩ = some (.slice (some ⟨ob, oo, none⟩) os.length c2) ∧ w'.cell? ⟨w.heap.size, 3, none⟩ = some (.slice A3 ds.length c3) ∧ w'.cell? ⟨w.heap.size, 4, none⟩ = some (.int .u64 ver) ∧ w'.cell? ⟨w.heap.size + 1, 0, none⟩ = some (.int .i64 kind) ∧ w'.cell? ⟨w.heap.size + 1, 1, none⟩ = some (.int .u64 ta) ∧ w'.cell? ⟨w.heap.size + 1, 2, none⟩ = some (.int .u64 ti) ∧ w'.cell? ⟨w.heap.size + 1, 3, none⟩ = some (.string key) ∧ w'.cell? ⟨w.heap.size + 1, 4, none⟩ = some (.slice A4 ps.length c4) ∧ w'.cell? ⟨w.heap.size + 1, 5, none⟩ = some (.bool cm) ∧ w'.cell? ⟨w.heap.size + 1, 6, none⟩ = some (.slice A5 n5 c5) ∧ Below w6.heap.size w6 w') (first | exact hS0 | exact keepS2 (by assumption) (by assumption)) ((go_at_call 46; with_reducible refine (HEQ.out _ HB6.out.drew).mono ?_; rintro e w10 ⟨rfl, hd10⟩; have hb10x := hd10.below))
  obtain ⟨hq2, hq4, hs0, hs1, hs2, hs3, hs4, ho0, ho1, ho2, ho3, ho4, ho5, ho6, hb10⟩ := (show w10.cell? ⟨ob, oo + ii * 5 + 2, none⟩ = some (.bool true) ∧ w10.cell? ⟨ob, oo + ii * 5 + 4, none⟩ = some (.slice pB pn pc) ∧ w10.cell? ⟨w.heap.size, 0, none⟩ = some (.slice A0 rs.length c0) ∧ w10.cell? ⟨w.heap.size, 1, none⟩ = some (.slice A1 hs.length c1) ∧ w10.cell? ⟨w.heap.size, 2, none⟩ = some (.slice (some ⟨ob, oo, none⟩) os.length c2) ∧ w10.cell? ⟨w.heap.size, 3, none⟩ = some (.slice A3 ds.length c3) ∧ w10.cell? ⟨w.heap.size, 4, none⟩ = some (.int .u64 ver) ∧ w10.cell? ⟨w.heap.size + 1, 0, none⟩ = some (.int .i64 kind) ∧ w10.cell? ⟨w.heap.size + 1, 1, none⟩ = some (.int .u64 ta) ∧ w10.cell? ⟨w.heap.size + 1, 2, none⟩ = some (.int .u64 ti) ∧ w10.cell? ⟨w.heap.size + 1, 3, none⟩ = some (.string key) ∧ w10.cell? ⟨w.heap.size + 1, 4, none⟩ = some (.slice A4 ps.length c4) ∧ w10.cell? ⟨w.heap.size + 1, 5, none⟩ = some (.bool cm) ∧ w10.cell? ⟨w.heap.size + 1, 6, none⟩ = some (.slice A5 n5 c5) ∧ Below w6.heap.size w6 w10 from by assumption)
  have HW10 : qza (w.heap.size + 1 + 1 + 1 + 1 ≤ w10.heap.size) := ⟨Nat.le_trans HW6.out hb10.size⟩
  have ZB10 := qza.mk (stay hb10 ZB6.out (by have := HW6.out; omega))
  have AB10 := qza.mk (stay hb10 AB6.out (by have := HW6.out; omega))
  have HB10 := qza.mk (HB6.out.trans (hb10.mono HB6.out.size))
  clear hb10 hq4
  go_wp2_with (go_at_call 24; refine (HNO.out _ _).mono ?_; rintro e w7 ⟨rfl, hb7⟩; clear hs0 hs1 hs2 hs3 hs4 ho0 ho1 ho2 ho3 ho4 ho5 ho6; have ZB7 := qza.mk (stay hb7 ZB10.out (by have := HW10.out; omega)); have AB7 := qza.mk (stay hb7 AB10.out (by have := HW10.out; omega)); obtain ⟨hz0, hz1, hz2, hz3, hz4⟩ := qz4 ZB7.out; obtain ⟨ha0, ha1, ha2, ha3, ha4⟩ := qz4 AB7.out; obtain ⟨hy0, hy1, hy2, hy3, hy4⟩ := qz14 ZB7.out; obtain ⟨hx0, hx1, hx2, hx3, hx4⟩ := qz14 AB7.out; have HB7 := qza.mk (HB10.out.trans (hb7.mono HB10.out.size)); clear hb7)
  refine qz40 rfl rfl rfl rfl ZB7.out AB7.out (by omega) ?_
  exact qz30 HR0.out HC0.out HR1.out HC1.out HR2.out HC2.out HR3.out HC3.out (qz7 (qz7 HB7.out (show w.heap.size ≤ w.heap.size + 1 + 1 by omega) _ _ _ _ _) (show w.heap.size ≤ w.heap.size + 1 + 1 + 1 by omega) _ _ _ _ _) _ _ _ _ _
set_option maxRecDepth 100000 in
set_option maxHeartbeats 8000000 in
theorem prep_firm (kind : Int) (t : S30) (key : ByteArray) (A4 : Option Addr) (n4 c4 : Nat) (cm : Bool) (A5 : Option Addr) (n5 c5 : Nat) (A0 : Option Addr) (c0 : Nat) (A1 : Option Addr) (c1 : Nat) (A2 : Option Addr) (c2 : Nat) (A3 : Option Addr) (c3 : Nat) (rs : List S50) (hs : List S75) (os : List S48) (ds : List S68) (ver : Int) (w : World) (hr0 : Kd.C k50 w A0 rs.length rs) (hc0 : rs.length ≤ c0) (hr1 : Kd.C k75 w A1 hs.length hs) (hc1 : hs.length ≤ c1) (hr2 : Kd.C k48 w A2 os.length os) (hc2 : os.length ≤ c2) (hr3 : Kd.C k68 w A3 ds.length ds) (hc3 : ds.length ≤ c3) (hd : ¬ 0 ≤ findI (qz25 t) ds) (ii : Nat) (hii : ii < os.length) (hfi : findI (qz16 t) os = (ii : Int)) (hf1 : (os[ii]!).f1 = true) (hf2 : (os[ii]!).f2 = false) (ps : List S54) (hn4 : n4 = ps.length) (hr4 : Kd.C k54 w A4 ps.length ps) (hc4 : ps.length ≤ c4) (hsame : samePutsV (os[ii]!).f3 ps = false) :
    Calls Try.prog 22 #[.agg (shv A0 rs.length c0 A1 hs.length c1 A2 os.length c2 A3 ds.length c3 ver), .agg #[.int .i64 kind, .int .u64 t.f0, .int .u64 t.f1, .string key, .slice A4 n4 c4, .bool cm, .slice A5 n5 c5]] w (qz32 w (⟨rs, hs, os, ds, ver⟩, errA 9)) := by
  obtain ⟨bS, bO, bZ, bA⟩ := qz38 w (.cells #[.slice A0 rs.length c0, .slice A1 hs.length c1, .slice A2 os.length c2, .slice A3 ds.length c3, .int .u64 ver] 28) (.cells #[.int .i64 kind, .int .u64 t.f0, .int .u64 t.f1, .string key, .slice A4 n4 c4, .bool cm, .slice A5 n5 c5] 34) (.cells #[.slice none 0 0, .slice none 0 0, .slice none 0 0, .slice none 0 0, .int .u64 0] 28) (.cells #[.int .i64 0, .string ⟨#[]⟩, .int .u64 0, .bool false, .bool false] 38)
  have hb4 : Below w.heap.size w ((((w.alloc (.cells #[.slice A0 rs.length c0, .slice A1 hs.length c1, .slice A2 os.length c2, .slice A3 ds.length c3, .int .u64 ver] 28)).alloc (.cells #[.int .i64 kind, .int .u64 t.f0, .int .u64 t.f1, .string key, .slice A4 n4 c4, .bool cm, .slice A5 n5 c5] 34)).alloc (.cells #[.slice none 0 0, .slice none 0 0, .slice none 0 0, .slice none 0 0, .int .u64 0] 28)).alloc (.cells #[.int .i64 0, .string ⟨#[]⟩, .int .u64 0, .bool false, .bool false] 38)) := ((((Below.refl w.heap.size w).alloc (Nat.le_refl _) _).alloc (by simp) _).alloc (by simp; omega) _).alloc (by simp; omega) _
  have HW4 : qza (((((w.alloc (.cells #[.slice A0 rs.length c0, .slice A1 hs.length c1, .slice A2 os.length c2, .slice A3 ds.length c3, .int .u64 ver] 28)).alloc (.cells #[.int .i64 kind, .int .u64 t.f0, .int .u64 t.f1, .string key, .slice A4 n4 c4, .bool cm, .slice A5 n5 c5] 34)).alloc (.cells #[.slice none 0 0, .slice none 0 0, .slice none 0 0, .slice none 0 0, .int .u64 0] 28)).alloc (.cells #[.int .i64 0, .string ⟨#[]⟩, .int .u64 0, .bool false, .bool false] 38)).heap.size = w.heap.size + 1 + 1 + 1 + 1) := ⟨by simp⟩
  have BS := qza.mk bS
  have BO := qza.mk bO
  have BZ := qza.mk bZ
  have BA := qza.mk bA
  have HB4 := qza.mk hb4
  have HOV := qza.mk (fun (W : World) (h : Below w.heap.size w W) => qz27 A0 rs.length c0 A1 hs.length c1 A2 os.length c2 A3 c3 ver ds t W (Kd.C_below hr3 h) hc3)
  have HKN := qza.mk (fun (W : World) (h : Below w.heap.size w W) => qz24 A0 rs.length c0 A1 hs.length c1 A2 c2 A3 ds.length c3 ver os t W (Kd.C_below hr2 h) hc2)
  have HR0 := qza.mk hr0
  have HR1 := qza.mk hr1
  have HR2 := qza.mk hr2
  have HR3 := qza.mk hr3
  have HC0 := qza.mk hc0
  have HC1 := qza.mk hc1
  have HC2 := qza.mk hc2
  have HC3 := qza.mk hc3
  clear hr0 hc0 hr1 hc1 hr2 hc2 hr3 hc3 bS bO bZ bA hb4
  subst hn4
  rw [decide_eq_false hd] at HOV
  clear hd
  generalize overV ds t = dv at *
  obtain ⟨⟨dA, dI⟩, dC⟩ := dv
  have HNO := qza.mk (fun (W : World) (e0 : Int) => qz35 A0 rs.length c0 A1 hs.length c1 A2 os.length c2 A3 ds.length c3 ver e0 W)
  rw [hfi] at HKN
  obtain ⟨ob, oo, hA, pB, pc, hpl, hpr, _, _, hp2, hp3, hp4⟩ := qz53 HR2.out ii hii
  have hiz : (0 : Int) ≤ (ii : Int) := by omega
  have hiz2 : (ii : Int) < (os.length : Int) := by omega
  rw [hf1] at hp2
  rw [hf2] at hp3
  have HP2 := qza.mk hp2
  have HP3 := qza.mk hp3
  have HP4 := qza.mk hp4
  have HEQ := qza.mk (fun (W : World) (h : Below w.heap.size w W) => eqPut_calls pB A4 pc c4 (os[ii]!).f3 ps W (Kd.C_below hpr h) hpl (Kd.C_below hr4 h) hc4)
  rw [hsame] at HEQ
  generalize (os[ii]!).f3.length = pn at *
  have HR4 := qza.mk hr4
  subst hA
  clear hp2 hp3 hp4 hf1 hf2 hfi hii hpl hpr hr4 hc4 hsame
  obtain ⟨ta, ti⟩ := t
  unfold shv at *
  dsimp only at *
  go_enter Try.func22, Try.ntmps22
  go_wp2_with (first
    | (go_at_call 51; refine (HOV.out _ HB4.out).mono ?_; rintro e w5 ⟨rfl, hb5⟩; have HW5 := qza.mk hb5.size; have SB5 := qza.mk (stay hb5 BS.out (by rw [HW4.out]; omega)); have OB5 := qza.mk (stay hb5 BO.out (by rw [HW4.out]; omega)); have ZB5 := qza.mk (stay hb5 BZ.out (by rw [HW4.out]; omega)); have AB5 := qza.mk (stay hb5 BA.out (by rw [HW4.out]; omega)); obtain ⟨hs0, hs1, hs2, hs3, hs4⟩ := qz4 (stayA SB5.out (.cells #[.int .u64 dA, .int .u64 dI, .bool dC] 68)); obtain ⟨ho0, ho1, ho2, ho3, ho4, ho5, ho6⟩ := qz12 (stayA OB5.out (.cells #[.int .u64 dA, .int .u64 dI, .bool dC] 68)); have HB5 := qza.mk (HB4.out.trans (hb5.mono HB4.out.size)); clear hb5)
    | (go_at_call 52; refine (HKN.out _ (HB5.out.alloc HB5.out.size (.cells #[.int .u64 dA, .int .u64 dI, .bool dC] 68))).mono ?_; rintro e w6 ⟨rfl, hb6⟩; clear hs0 hs1 hs2 hs3 hs4 ho0 ho1 ho2 ho3 ho4 ho5 ho6; have SB6 := qza.mk (stay hb6 (stayA SB5.out (.cells #[.int .u64 dA, .int .u64 dI, .bool dC] 68)) (by have := HW4.out; have := HW5.out; simp; omega)); have OB6 := qza.mk (stay hb6 (stayA OB5.out (.cells #[.int .u64 dA, .int .u64 dI, .bool dC] 68)) (by have := HW4.out; have := HW5.out; simp; omega)); have ZB6 := qza.mk (stay hb6 (stayA ZB5.out (.cells #[.int .u64 dA, .int .u64 dI, .bool dC] 68)) (by have := HW4.out; have := HW5.out; simp; omega)); have AB6 := qza.mk (stay hb6 (stayA AB5.out (.cells #[.int .u64 dA, .int .u64 dI, .bool dC] 68)) (by have := HW4.out; have := HW5.out; simp; omega)); have DB6 := qza.mk (stay hb6 (heap_alloc_new w5 (.cells #[.int .u64 dA, .int .u64 dI, .bool dC] 68)) (by simp)); obtain ⟨hs0, hs1, hs2, hs3, hs4⟩ := qz4 SB6.out; obtain ⟨ho0, ho1, ho2, ho3, ho4, ho5, ho6⟩ := qz12 OB6.out; obtain ⟨hd0, hd1, hd2⟩ := qz39 DB6.out; have HB6 := qza.mk ((HB5.out.alloc HB5.out.size (.cells #[.int .u64 dA, .int .u64 dI, .bool dC] 68)).trans (hb6.mono (HB5.out.alloc HB5.out.size (.cells #[.int .u64 dA, .int .u64 dI, .bool dC] 68)).size)); have HW6 : qza (w.heap.size + 1 + 1 + 1 + 1 ≤ w6.heap.size) := ⟨by have := HW4.out; have := HW5.out; have := hb6.size; simp at this; omega⟩; clear hb6; have hq2 := (HB6.out.cell (World.block_lt_of_cell? _ _ HP2.out)).trans HP2.out; have hq3 := (HB6.out.cell (World.block_lt_of_cell? _ _ HP3.out)).trans HP3.out; have hq4 := (HB6.out.cell (World.block_lt_of_cell? _ _ HP4.out)).trans HP4.out))
  clear hd0 hd1 hd2
  have hS0 := keepS2 (w0 := w6) ⟨hq2, hq4, hs0, hs1, hs2, hs3, hs4, ho0, ho1, ho2, ho3, ho4, ho5, ho6, Below.refl _ _⟩ ((Below.refl _ _).drew)
  clear hs0 hs1 hs2 hs3 hs4 ho0 ho1 ho2 ho3 ho4 ho5 ho6 hq2 hq3 hq4
  go_region_held3 (fun w' => w'.cell? ⟨ob, oo + ii * 5 + 2, none⟩ = some (.bool true) ∧ w'.cell? ⟨ob, oo + ii * 5 + 4, none⟩ = some (.slice pB pn pc) ∧ w'.cell? ⟨w.heap.size, 0, none⟩ = some (.slice A0 rs.length c0) ∧ w'.cell? ⟨w.heap.size, 1, none⟩ = some (.slice A1 hs.length c1) ∧ w'.cell? ⟨w.heap.size, 2, none⟩ = some (.slice (some ⟨ob, oo, none⟩) os.length c2) ∧ w'.cell? ⟨w.heap.size, 3, none⟩ = some (.slice A3 ds.length c3) ∧ w'.cell? ⟨w.heap.size, 4, none⟩ = some (.int .u64 ver) ∧ w'.cell? ⟨w.heap.size + 1, 0, none⟩ = some (.int .i64 kind) ∧ w'.cell? ⟨w.heap.size + 1, 1, none⟩ = some (.int .u64 ta) ∧ w'.cell? ⟨w.heap.size + 1, 2, none⟩ = some (.int .u64 ti) ∧ w'.cell? ⟨w.heap.size + 1, 3, none⟩ = some (.string key) ∧ w'.cell? ⟨w.heap.size + 1, 4, none⟩ = some (.slice A4 ps.length c4) ∧ w'.cell? ⟨w.heap.size + 1, 5, none⟩ = some (.bool cm) ∧ w'.cell? ⟨w.heap.size + 1, 6, none⟩ = some (.slice A5 n5 c5) ∧ Below w6.heap.size w6 w') (first | exact hS0 | exact keepS2 (by assumption) (by assumption)) ((go_at_call 46; with_reducible refine (HEQ.out _ HB6.out.drew).mono ?_; rintro e w10 ⟨rfl, hd10⟩; have hb10x := hd10.below))
  obtain ⟨hq2, hq4, hs0, hs1, hs2, hs3, hs4, ho0, ho1, ho2, ho3, ho4, ho5, ho6, hb10⟩ := (show w10.cell? ⟨ob, oo + ii * 5 + 2, none⟩ = some (.bool true) ∧ w10.cell? ⟨ob, oo + ii * 5 + 4, none⟩ = some (.slice pB pn pc) ∧ w10.cell? ⟨w.heap.size, 0, none⟩ = some (.slice A0 rs.length c0) ∧ w10.cell? ⟨w.heap.size, 1, none⟩ = some (.slice A1 hs.length c1) ∧ w10.cell? ⟨w.heap.size, 2, none⟩ = some (.slice (some ⟨ob, oo, none⟩) os.length c2) ∧ w10.cell? ⟨w.heap.size, 3, none⟩ = some (.slice A3 ds.length c3) ∧ w10.cell? ⟨w.heap.size, 4, none⟩ = some (.int .u64 ver) ∧ w10.cell? ⟨w.heap.size + 1, 0, none⟩ = some (.int .i64 kind) ∧ w10.cell? ⟨w.heap.size + 1, 1, none⟩ = some (.int .u64 ta) ∧ w10.cell? ⟨w.heap.size + 1, 2, none⟩ = some (.int .u64 ti) ∧ w10.cell? ⟨w.heap.size + 1, 3, none⟩ = some (.string key) ∧ w10.cell? ⟨w.heap.size + 1, 4, none⟩ = some (.slice A4 ps.length c4) ∧ w10.cell? ⟨w.heap.size + 1, 5, none⟩ = some (.bool cm) ∧ w10.cell? ⟨w.heap.size + 1, 6, none⟩ = some (.slice A5 n5 c5) ∧ Below w6.heap.size w6 w10 from by assumption)
  have HW10 : qza (w.heap.size + 1 + 1 + 1 + 1 ≤ w10.heap.size) := ⟨Nat.le_trans HW6.out hb10.size⟩
  have ZB10 := qza.mk (stay hb10 ZB6.out (by have := HW6.out; omega))
  have AB10 := qza.mk (stay hb10 AB6.out (by have := HW6.out; omega))
  have HB10 := qza.mk (HB6.out.trans (hb10.mono HB6.out.size))
  clear hb10 hq4
  go_wp2_with (go_at_call 24; refine (HNO.out _ _).mono ?_; rintro e w7 ⟨rfl, hb7⟩; clear hs0 hs1 hs2 hs3 hs4 ho0 ho1 ho2 ho3 ho4 ho5 ho6; have ZB7 := qza.mk (stay hb7 ZB10.out (by have := HW10.out; omega)); have AB7 := qza.mk (stay hb7 AB10.out (by have := HW10.out; omega)); obtain ⟨hz0, hz1, hz2, hz3, hz4⟩ := qz4 ZB7.out; obtain ⟨ha0, ha1, ha2, ha3, ha4⟩ := qz4 AB7.out; obtain ⟨hy0, hy1, hy2, hy3, hy4⟩ := qz14 ZB7.out; obtain ⟨hx0, hx1, hx2, hx3, hx4⟩ := qz14 AB7.out; have HB7 := qza.mk (HB10.out.trans (hb7.mono HB10.out.size)); clear hb7)
  refine qz40 rfl rfl rfl rfl ZB7.out AB7.out (by omega) ?_
  exact qz30 HR0.out HC0.out HR1.out HC1.out HR2.out HC2.out HR3.out HC3.out (qz7 (qz7 HB7.out (show w.heap.size ≤ w.heap.size + 1 + 1 by omega) _ _ _ _ _) (show w.heap.size ≤ w.heap.size + 1 + 1 + 1 by omega) _ _ _ _ _) _ _ _ _ _
set_option maxHeartbeats 1000000 in
theorem shardPrepares1 (Bs Bo : Nat) (A : Option Addr) (c : Nat) (hs : List S75) (t : S30) (x : S54) (W : World) (h1 : W.cell? ⟨Bs, 1, none⟩ = some (.slice A hs.length c)) (hr : Kd.C k75 W A hs.length hs) (hc : hs.length ≤ c) (h2 : W.cell? ⟨Bo, 1, none⟩ = some (.int .u64 t.f0)) (h3 : W.cell? ⟨Bo, 2, none⟩ = some (.int .u64 t.f1)) :
    Calls Try.prog 59 #[.agg (enc54 x).toArray, .pointer (some ⟨Bs, 0, none⟩), .pointer (some ⟨Bo, 0, none⟩)] W fun e W' => e = .returned (.bool (!hasV hs t x.f0 true)) ∧ Below W.heap.size W W' := by
  obtain ⟨xk, xv, xg⟩ := x
  unfold enc54
  dsimp only
  have hb := (Below.refl W.heap.size W).alloc (Nat.le_refl _) (.cells #[.string xk, .string xv, .bool xg] 54)
  have c1 := cellOld (o := .cells #[.string xk, .string xv, .bool xg] 54) h1
  have c2 := cellOld (o := .cells #[.string xk, .string xv, .bool xg] 54) h2
  have c3 := cellOld (o := .cells #[.string xk, .string xv, .bool xg] 54) h3
  have HH := qza.mk (lockHas_sl (.slice A hs.length c) hs t xk true _ ⟨A, c, rfl, hc, Kd.C_below hr hb⟩)
  have HB := qza.mk hb
  clear hb h1 h2 h3 hr hc
  obtain ⟨ta, ti⟩ := t
  dsimp only at *
  go_enter Try.func59, Try.ntmps59
  go_wp2_with (go_at_call 41; refine HH.out.mono ?_; rintro e w2 ⟨rfl, hb2⟩; have HB2 := qza.mk hb2; clear hb2)
  go_ret
  exact ⟨rfl, HB.out.trans (HB2.out.mono HB.out.size)⟩
end Go.Proofs.Ytmcgcdpiceikeaa.PAll
end
