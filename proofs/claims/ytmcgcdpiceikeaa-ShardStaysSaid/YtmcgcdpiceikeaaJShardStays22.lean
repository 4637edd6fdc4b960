/- Joined texts of the claim ShardStays (part 22): contracts of functions and plain laws. -/
import Derived.BigRegion
import Derived.Test.YtmcgcdpiceikeaaJShardStays21
set_option linter.unusedVariables false
set_option linter.unusedSimpArgs false
section
namespace Go.Proofs.Ytmcgcdpiceikeaa.PAll
open Go.RowKit Go.Proofs.YtmcgcdpiceikeaaW.PrintWords Go.Proofs.YtmcgcdpiceikeaaW.PrintMore Go.Proofs.Ytmcgcdpiceikeaa
theorem qz35 (A0 : Option Addr) (n0 c0 : Nat) (A1 : Option Addr) (n1 c1 : Nat) (A2 : Option Addr) (n2 c2 : Nat) (A3 : Option Addr) (n3 c3 : Nat) (ver e0 : Int) (w : World) :
    Calls Try.prog 24 #[.agg #[.slice A0 n0 c0, .slice A1 n1 c1, .slice A2 n2 c2, .slice A3 n3 c3, .int .u64 ver], .int .i64 e0] w fun e w' => e = .returned (.tuple #[.agg #[.slice A0 n0 c0, .slice A1 n1 c1, .slice A2 n2 c2, .slice A3 n3 c3, .int .u64 ver], .agg #[.int .i64 e0, .string ⟨#[]⟩, .int .u64 0, .bool false, .bool false]]) ∧ Below w.heap.size w w' := shardNo_calls A0 n0 c0 A1 n1 c1 A2 n2 c2 A3 n3 c3 ver e0 w
set_option maxRecDepth 100000 in
set_option maxHeartbeats 8000000 in
theorem asks_arg1 (kind : Int) (t : S30) (key : ByteArray) (A4 : Option Addr) (n4 c4 : Nat) (cm : Bool) (A5 : Option Addr) (n5 c5 : Nat) (A0 : Option Addr) (c0 : Nat) (A1 : Option Addr) (c1 : Nat) (A2 : Option Addr) (c2 : Nat) (A3 : Option Addr) (c3 : Nat) (rs : List S50) (hs : List S75) (os : List S48) (ds : List S68) (ver : Int) (w : World) (hr0 : Kd.C k50 w A0 rs.length rs) (hc0 : rs.length ≤ c0) (hr1 : Kd.C k75 w A1 hs.length hs) (hc1 : hs.length ≤ c1) (hr2 : Kd.C k48 w A2 os.length os) (hc2 : os.length ≤ c2) (hr3 : Kd.C k68 w A3 ds.length ds) (hc3 : ds.length ≤ c3) (hd : ¬ 0 ≤ findI (qz25 t) ds) (hk : key.size < 1) :
    Calls Try.prog 21 #[.agg (shv A0 rs.length c0 A1 hs.length c1 A2 os.length c2 A3 ds.length c3 ver), .agg #[.int .i64 kind, .int .u64 t.f0, .int .u64 t.f1, .string key, .slice A4 n4 c4, .bool cm, .slice A5 n5 c5]] w (qz32 w (⟨rs, hs, os, ds, ver⟩, errA 1)) := by
  obtain ⟨bS, bO, bZ, bA⟩ := qz38 w (.cells #[.slice A0 rs.length c0, .slice A1 hs.length c1, .slice A2 os.length c2, .slice A3 ds.length c3, .int .u64 ver] 28) (.cells #[.int .i64 kind, .int .u64 t.f0, .int .u64 t.f1, .string key, .slice A4 n4 c4, .bool cm, .slice A5 n5 c5] 34) (.cells #[.slice none 0 0, .slice none 0 0, .slice none 0 0, .slice none 0 0, .int .u64 0] 28) (.cells #[.int .i64 0, .string ⟨#[]⟩, .int .u64 0, .bool false, .bool false] 38)
  have hb4 : Below w.heap.size w ((((w.alloc (.cells #[.slice A0 rs.length c0, .slice A1 hs.length c1, .slice A2 os.length c2, .slice A3 ds.length c3, .int .u64 ver] 28)).alloc (.cells #[.int .i64 kind, .int .u64 t.f0, .int .u64 t.f1, .string key, .slice A4 n4 c4, .bool cm, .slice A5 n5 c5] 34)).alloc (.cells #[.slice none 0 0, .slice none 0 0, .slice none 0 0, .slice none 0 0, .int .u64 0] 28)).alloc (.cells #[.int .i64 0, .string ⟨#[]⟩, .int .u64 0, .bool false, .bool false] 38)) := ((((Below.refl w.heap.size w).alloc (Nat.le_refl _) _).alloc (by simp) _).alloc (by simp; omega) _).alloc (by simp; omega) _
  have HW4 : qza (((((w.alloc (.cells #[.slice A0 rs.length c0, .slice A1 hs.length c1, .slice A2 os.length c2, .slice A3 ds.length c3, .int .u64 ver] 28)).alloc (.cells #[.int .i64 kind, .int .u64 t.f0, .int .u64 t.f1, .string key, .slice A4 n4 c4, .bool cm, .slice A5 n5 c5] 34)).alloc (.cells #[.slice none 0 0, .slice none 0 0, .slice none 0 0, .slice none 0 0, .int .u64 0] 28)).alloc (.cells #[.int .i64 0, .string ⟨#[]⟩, .int .u64 0, .bool false, .bool false] 38)).heap.size = w.heap.size + 1 + 1 + 1 + 1) := ⟨by simp⟩
  have BS := qza.mk bS
  have BO := qza.mk bO
  have BZ := qza.mk bZ
  have BA := qza.mk bA
  have HB4 := qza.mk hb4
  have HOV := qza.mk (fun (W : World) (h : Below w.heap.size w W) => qz27 A0 rs.length c0 A1 hs.length c1 A2 os.length c2 A3 c3 ver ds t W (Kd.C_below hr3 h) hc3)
  have HKN := qza.mk (fun (W : World) (h : Below w.heap.size w W) => qz24 A0 rs.length c0 A1 hs.length c1 A2 c2 A3 ds.length c3 ver os t W (Kd.C_below hr2 h) hc2)
  have HR0 := qza.mk hr0
  have HR1 := qza.mk hr1
  have HR2 := qza.mk hr2
  have HR3 := qza.mk hr3
  have HC0 := qza.mk hc0
  have HC1 := qza.mk hc1
  have HC2 := qza.mk hc2
  have HC3 := qza.mk hc3
  clear hr0 hc0 hr1 hc1 hr2 hc2 hr3 hc3 bS bO bZ bA hb4
  rw [decide_eq_false hd] at HOV
  clear hd
  generalize overV ds t = dv at *
  obtain ⟨⟨dA, dI⟩, dC⟩ := dv
  have HNO := qza.mk (fun (W : World) (e0 : Int) => qz35 A0 rs.length c0 A1 hs.length c1 A2 os.length c2 A3 ds.length c3 ver e0 W)
  have hkz : (key.size : Int) < 1 := by omega
  clear hk
  obtain ⟨ta, ti⟩ := t
  unfold shv at *
  dsimp only at *
  go_enter Try.func21, Try.ntmps21
  go_wp2_with (first
    | (go_at_call 51; refine (HOV.out _ HB4.out).mono ?_; rintro e w5 ⟨rfl, hb5⟩; have HW5 := qza.mk hb5.size; have SB5 := qza.mk (stay hb5 BS.out (by rw [HW4.out]; omega)); have OB5 := qza.mk (stay hb5 BO.out (by rw [HW4.out]; omega)); have ZB5 := qza.mk (stay hb5 BZ.out (by rw [HW4.out]; omega)); have AB5 := qza.mk (stay hb5 BA.out (by rw [HW4.out]; omega)); obtain ⟨hs0, hs1, hs2, hs3, hs4⟩ := qz4 (stayA SB5.out (.cells #[.int .u64 dA, .int .u64 dI, .bool dC] 68)); obtain ⟨ho0, ho1, ho2, ho3, ho4, ho5, ho6⟩ := qz12 (stayA OB5.out (.cells #[.int .u64 dA, .int .u64 dI, .bool dC] 68)); have HB5 := qza.mk (HB4.out.trans (hb5.mono HB4.out.size)); clear hb5)
    | (go_at_call 52; refine (HKN.out _ (HB5.out.alloc HB5.out.size (.cells #[.int .u64 dA, .int .u64 dI, .bool dC] 68))).mono ?_; rintro e w6 ⟨rfl, hb6⟩; clear hs0 hs1 hs2 hs3 hs4 ho0 ho1 ho2 ho3 ho4 ho5 ho6; have SB6 := qza.mk (stay hb6 (stayA SB5.out (.cells #[.int .u64 dA, .int .u64 dI, .bool dC] 68)) (by have := HW4.out; have := HW5.out; simp; omega)); have OB6 := qza.mk (stay hb6 (stayA OB5.out (.cells #[.int .u64 dA, .int .u64 dI, .bool dC] 68)) (by have := HW4.out; have := HW5.out; simp; omega)); have ZB6 := qza.mk (stay hb6 (stayA ZB5.out (.cells #[.int .u64 dA, .int .u64 dI, .bool dC] 68)) (by have := HW4.out; have := HW5.out; simp; omega)); have AB6 := qza.mk (stay hb6 (stayA AB5.out (.cells #[.int .u64 dA, .int .u64 dI, .bool dC] 68)) (by have := HW4.out; have := HW5.out; simp; omega)); have DB6 := qza.mk (stay hb6 (heap_alloc_new w5 (.cells #[.int .u64 dA, .int .u64 dI, .bool dC] 68)) (by simp)); obtain ⟨hs0, hs1, hs2, hs3, hs4⟩ := qz4 SB6.out; obtain ⟨ho0, ho1, ho2, ho3, ho4, ho5, ho6⟩ := qz12 OB6.out; obtain ⟨hd0, hd1, hd2⟩ := qz39 DB6.out; have HB6 := qza.mk ((HB5.out.alloc HB5.out.size (.cells #[.int .u64 dA, .int .u64 dI, .bool dC] 68)).trans (hb6.mono (HB5.out.alloc HB5.out.size (.cells #[.int .u64 dA, .int .u64 dI, .bool dC] 68)).size)); have HW6 : qza (w.heap.size + 1 + 1 + 1 + 1 ≤ w6.heap.size) := ⟨by have := HW4.out; have := HW5.out; have := hb6.size; simp at this; omega⟩; clear hb6)
    | (go_at_call 24; refine (HNO.out _ _).mono ?_; rintro e w7 ⟨rfl, hb7⟩; clear hs0 hs1 hs2 hs3 hs4 ho0 ho1 ho2 ho3 ho4 ho5 ho6; have ZB7 := qza.mk (stay hb7 ZB6.out (by have := HW6.out; omega)); have AB7 := qza.mk (stay hb7 AB6.out (by have := HW6.out; omega)); obtain ⟨hz0, hz1, hz2, hz3, hz4⟩ := qz4 ZB7.out; obtain ⟨ha0, ha1, ha2, ha3, ha4⟩ := qz4 AB7.out; obtain ⟨hy0, hy1, hy2, hy3, hy4⟩ := qz14 ZB7.out; obtain ⟨hx0, hx1, hx2, hx3, hx4⟩ := qz14 AB7.out; have HB7 := qza.mk (HB6.out.trans (hb7.mono HB6.out.size)); clear hb7))
  refine qz40 rfl rfl rfl rfl ZB7.out AB7.out (by omega) ?_
  exact qz30 HR0.out HC0.out HR1.out HC1.out HR2.out HC2.out HR3.out HC3.out (qz7 (qz7 HB7.out (show w.heap.size ≤ w.heap.size + 1 + 1 by omega) _ _ _ _ _) (show w.heap.size ≤ w.heap.size + 1 + 1 + 1 by omega) _ _ _ _ _) _ _ _ _ _
set_option maxRecDepth 100000 in
set_option maxHeartbeats 8000000 in
theorem asks_arg2 (kind : Int) (t : S30) (key : ByteArray) (A4 : Option Addr) (n4 c4 : Nat) (cm : Bool) (A5 : Option Addr) (n5 c5 : Nat) (A0 : Option Addr) (c0 : Nat) (A1 : Option Addr) (c1 : Nat) (A2 : Option Addr) (c2 : Nat) (A3 : Option Addr) (c3 : Nat) (rs : List S50) (hs : List S75) (os : List S48) (ds : List S68) (ver : Int) (w : World) (hr0 : Kd.C k50 w A0 rs.length rs) (hc0 : rs.length ≤ c0) (hr1 : Kd.C k75 w A1 hs.length hs) (hc1 : hs.length ≤ c1) (hr2 : Kd.C k48 w A2 os.length os) (hc2 : os.length ≤ c2) (hr3 : Kd.C k68 w A3 ds.length ds) (hc3 : ds.length ≤ c3) (hd : ¬ 0 ≤ findI (qz25 t) ds) (hk : 16 < key.size) :
    Calls Try.prog 21 #[.agg (shv A0 rs.length c0 A1 hs.length c1 A2 os.length c2 A3 ds.length c3 ver), .agg #[.int .i64 kind, .int .u64 t.f0, .int .u64 t.f1, .string key, .slice A4 n4 c4, .bool cm, .slice A5 n5 c5]] w (qz32 w (⟨rs, hs, os, ds, ver⟩, errA 1)) := by
  obtain ⟨bS, bO, bZ, bA⟩ := qz38 w (.cells #[.slice A0 rs.length c0, .slice A1 hs.length c1, .slice A2 os.length c2, .slice A3 ds.length c3, .int .u64 ver] 28) (.cells #[.int .i64 kind, .int .u64 t.f0, .int .u64 t.f1, .string key, .slice A4 n4 c4, .bool cm, .slice A5 n5 c5] 34) (.cells #[.slice none 0 0, .slice none 0 0, .slice none 0 0, .slice none 0 0, .int .u64 0] 28) (.cells #[.int .i64 0, .string ⟨#[]⟩, .int .u64 0, .bool false, .bool false] 38)
  have hb4 : Below w.heap.size w ((((w.alloc (.cells #[.slice A0 rs.length c0, .slice A1 hs.length c1, .slice A2 os.length c2, .slice A3 ds.length c3, .int .u64 ver] 28)).alloc (.cells #[.int .i64 kind, .int .u64 t.f0, .int .u64 t.f1, .string key, .slice A4 n4 c4, .bool cm, .slice A5 n5 c5] 34)).alloc (.cells #[.slice none 0 0, .slice none 0 0, .slice none 0 0, .slice none 0 0, .int .u64 0] 28)).alloc (.cells #[.int .i64 0, .string ⟨#[]⟩, .int .u64 0, .bool false, .bool false] 38)) := ((((Below.refl w.heap.size w).alloc (Nat.le_refl _) _).alloc (by simp) _).alloc (by simp; omega) _).alloc (by simp; omega) _
  have HW4 : qza (((((w.alloc (.cells #[.slice A0 rs.length c0, .slice A1 hs.length c1, .slice A2 os.length c2, .slice A3 ds.length c3, .int .u64 ver] 28)).alloc (.cells #[.int .i64 kind, .int .u64 t.f0, .int .u64 t.f1, .string key, .slice A4 n4 c4, .bool cm, .slice A5 n5 c5] 34)).alloc (.cells #[.slice none 0 0, .slice none 0 0, .slice none 0 0, .slice none 0 0, .int .u64 0] 28)).alloc (.cells #[.int .i64 0, .string ⟨#[]⟩, .int .u64 0, .bool false, .bool false] 38)).heap.size = w.heap.size + 1 + 1 + 1 + 1) := ⟨by simp⟩
  have BS := qza.mk bS
  have BO := qza.mk bO
  have BZ := qza.mk bZ
  have BA := qza.mk bA
  have HB4 := qza.mk hb4
  have HOV := qza.mk (fun (W : World) (h : Below w.heap.size w W) => qz27 A0 rs.length c0 A1 hs.length c1 A2 os.length c2 A3 c3 ver ds t W (Kd.C_below hr3 h) hc3)
  have HKN := qza.mk (fun (W : World) (h : Below w.heap.size w W) => qz24 A0 rs.length c0 A1 hs.length c1 A2 c2 A3 ds.length c3 ver os t W (Kd.C_below hr2 h) hc2)
  have HR0 := qza.mk hr0
  have HR1 := qza.mk hr1
  have HR2 := qza.mk hr2
  have HR3 := qza.mk hr3
  have HC0 := qza.mk hc0
  have HC1 := qza.mk hc1
  have HC2 := qza.mk hc2
  have HC3 := qza.mk hc3
  clear hr0 hc0 hr1 hc1 hr2 hc2 hr3 hc3 bS bO bZ bA hb4
  rw [decide_eq_false hd] at HOV
  clear hd
  generalize overV ds t = dv at *
  obtain ⟨⟨dA, dI⟩, dC⟩ := dv
  have HNO := qza.mk (fun (W : World) (e0 : Int) => qz35 A0 rs.length c0 A1 hs.length c1 A2 os.length c2 A3 ds.length c3 ver e0 W)
  have hkz : ¬ (key.size : Int) < 1 := by omega
  have hkz2 : (16 : Int) < (key.size : Int) := by omega
  clear hk
  obtain ⟨ta, ti⟩ := t
  unfold shv at *
  dsimp only at *
  go_enter Try.func21, Try.ntmps21
  go_wp2_with (first
    | (go_at_call 51; refine (HOV.out _ HB4.out).mono ?_; rintro e w5 ⟨rfl, hb5⟩; have HW5 := qza.mk hb5.size; have SB5 := qza.mk (stay hb5 BS.out (by rw [HW4.out]; omega)); have OB5 := qza.mk (stay hb5 BO.out (by rw [HW4.out]; omega)); have ZB5 := qza.mk (stay hb5 BZ.out (by rw [HW4.out]; omega)); have AB5 := qza.mk (stay hb5 BA.out (by rw [HW4.out]; omega)); obtain ⟨hs0, hs1, hs2, hs3, hs4⟩ := qz4 (stayA SB5.out (.cells #[.int .u64 dA, .int .u64 dI, .bool dC] 68)); obtain ⟨ho0, ho1, ho2, ho3, ho4, ho5, ho6⟩ := qz12 (stayA OB5.out (.cells #[.int .u64 dA, .int .u64 dI, .bool dC] 68)); have HB5 := qza.mk (HB4.out.trans (hb5.mono HB4.out.size)); clear hb5)
    | (go_at_call 52; refine (HKN.out _ (HB5.out.alloc HB5.out.size (.cells #[.int .u64 dA, .int .u64 dI, .bool dC] 68))).mono ?_; rintro e w6 ⟨rfl, hb6⟩; clear hs0 hs1 hs2 hs3 hs4 ho0 ho1 ho2 ho3 ho4 ho5 ho6; have SB6 := qza.mk (stay hb6 (stayA SB5.out (.cells #[.int .u64 dA, .int .u64 dI, .bool dC] 68)) (by have := HW4.out; have := HW5.out; simp; omega)); have OB6 := qza.mk (stay hb6 (stayA OB5.out (.cells #[.int .u64 dA, .int .u64 dI, .bool dC] 68)) (by have := HW4.out; have := HW5.out; simp; omega)); have ZB6 := qza.mk (stay hb6 (stayA ZB5.out (.cells #[.int .u64 dA, .int .u64 dI, .bool dC] 68)) (by have := HW4.out; have := HW5.out; simp; omega)); have AB6 := qza.mk (stay hb6 (stayA AB5.out (.cells #[.int .u64 dA, .int .u64 dI, .bool dC] 68)) (by have := HW4.out; have := HW5.out; simp; omega)); have DB6 := qza.mk (stay hb6 (heap_alloc_new w5 (.cells #[.int .u64 dA, .int .u64 dI, .bool dC] 68)) (by simp)); obtain ⟨hs0, hs1, hs2, hs3, hs4⟩ := qz4 SB6.out; obtain ⟨ho0, ho1, ho2, ho3, ho4, ho5, ho6⟩ := qz12 OB6.out; obtain ⟨hd0, hd1, hd2⟩ := qz39 DB6.out; have HB6 := qza.mk ((HB5.out.alloc HB5.out.size (.cells #[.int .u64 dA, .int .u64 dI, .bool dC] 68)).trans (hb6.mono (HB5.out.alloc HB5.out.size (.cells #[.int .u64 dA, .int .u64 dI, .bool dC] 68)).size)); have HW6 : qza (w.heap.size + 1 + 1 + 1 + 1 ≤ w6.heap.size) := ⟨by have := HW4.out; have := HW5.out; have := hb6.size; simp at this; omega⟩; clear hb6)
    | (go_at_call 24; refine (HNO.out _ _).mono ?_; rintro e w7 ⟨rfl, hb7⟩; clear hs0 hs1 hs2 hs3 hs4 ho0 ho1 ho2 ho3 ho4 ho5 ho6; have ZB7 := qza.mk (stay hb7 ZB6.out (by have := HW6.out; omega)); have AB7 := qza.mk (stay hb7 AB6.out (by have := HW6.out; omega)); obtain ⟨hz0, hz1, hz2, hz3, hz4⟩ := qz4 ZB7.out; obtain ⟨ha0, ha1, ha2, ha3, ha4⟩ := qz4 AB7.out; obtain ⟨hy0, hy1, hy2, hy3, hy4⟩ := qz14 ZB7.out; obtain ⟨hx0, hx1, hx2, hx3, hx4⟩ := qz14 AB7.out; have HB7 := qza.mk (HB6.out.trans (hb7.mono HB6.out.size)); clear hb7))
  refine qz40 rfl rfl rfl rfl ZB7.out AB7.out (by omega) ?_
  exact qz30 HR0.out HC0.out HR1.out HC1.out HR2.out HC2.out HR3.out HC3.out (qz7 (qz7 HB7.out (show w.heap.size ≤ w.heap.size + 1 + 1 by omega) _ _ _ _ _) (show w.heap.size ≤ w.heap.size + 1 + 1 + 1 by omega) _ _ _ _ _) _ _ _ _ _
set_option maxRecDepth 100000 in
set_option maxHeartbeats 8000000 in
theorem asks_wound (kind : Int) (t : S30) (key : ByteArray) (A4 : Option Addr) (n4 c4 : Nat) (cm : Bool) (A5 : Option Addr) (n5 c5 : Nat) (A0 : Option Addr) (c0 : Nat) (A1 : Option Addr) (c1 : Nat) (A2 : Option Addr) (c2 : Nat) (A3 : Option Addr) (c3 : Nat) (rs : List S50) (hs : List S75) (os : List S48) (ds : List S68) (ver : Int) (w : World) (hr0 : Kd.C k50 w A0 rs.length rs) (hc0 : rs.length ≤ c0) (hr1 : Kd.C k75 w A1 hs.length hs) (hc1 : hs.length ≤ c1) (hr2 : Kd.C k48 w A2 os.length os) (hc2 : os.length ≤ c2) (hr3 : Kd.C k68 w A3 ds.length ds) (hc3 : ds.length ≤ c3) (hd : ¬ 0 ≤ findI (qz25 t) ds) (hk1 : 1 ≤ key.size) (hk2 : key.size ≤ 16) (ii : Nat) (hii : ii < os.length) (hfi : findI (qz16 t) os = (ii : Int)) (f1 : Bool) (hf1 : (os[ii]!).f1 = f1) (hf2 : (os[ii]!).f2 = true) :
    Calls Try.prog 21 #[.agg (shv A0 rs.length c0 A1 hs.length c1 A2 os.length c2 A3 ds.length c3 ver), .agg #[.int .i64 kind, .int .u64 t.f0, .int .u64 t.f1, .string key, .slice A4 n4 c4, .bool cm, .slice A5 n5 c5]] w (qz32 w (⟨rs, hs, os, ds, ver⟩, errA 12)) := by
  obtain ⟨bS, bO, bZ, bA⟩ := qz38 w (.cells #[.slice A0 rs.length c0, .slice A1 hs.length c1, .slice A2 os.length c2, .slice A3 ds.length c3, .int .u64 ver] 28) (.cells #[.int .i64 kind, .int .u64 t.f0, .int .u64 t.f1, .string key, .slice A4 n4 c4, .bool cm, .slice A5 n5 c5] 34) (.cells #[.slice none 0 0, .slice none 0 0, .slice none 0 0, .slice none 0 0, .int .u64 0] 28) (.cells #[.int .i64 0, .string ⟨#[]⟩, .int .u64 0, .bool false, .bool false] 38)
  have hb4 : Below w.heap.size w ((((w.alloc (.cells #[.slice A0 rs.length c0, .slice A1 hs.length c1, .slice A2 os.length c2, .slice A3 ds.length c3, .int .u64 ver] 28)).alloc (.cells #[.int .i64 kind, .int .u64 t.f0, .int .u64 t.f1, .string key, .slice A4 n4 c4, .bool cm, .slice A5 n5 c5] 34)).alloc (.cells #[.slice none 0 0, .slice none 0 0, .slice none 0 0, .slice none 0 0, .int .u64 0] 28)).alloc (.cells #[.int .i64 0, .string ⟨#[]⟩, .int .u64 0, .bool false, .bool false] 38)) := ((((Below.refl w.heap.size w).alloc (Nat.le_refl _) _).alloc (by simp) _).alloc (by simp; omega) _).alloc (by simp; omega) _
  have HW4 : qza (((((w.alloc (.cells #[.slice A0 rs.length c0, .slice A1 hs.length c1, .slice A2 os.length c2, .slice A3 ds.length c3, .int .u64 ver] 28)).alloc (.cells #[.int .i64 kind, .int .u64 t.f0, .int .u64 t.f1, .string key, .slice A4 n4 c4, .bool cm, .slice A5 n5 c5] 34)).alloc (.cells #[.slice none 0 0, .slice none 0 0, .slice none 0 0, .slice none 0 0, .int .u64 0] 28)).alloc (.cells #[.int .i64 0, .string ⟨#[]⟩, .int .u64 0, .bool false, .bool false] 38)).heap.size = w.heap.size + 1 + 1 + 1 + 1) := ⟨by simp⟩
  have BS := qza.mk bS
  have BO := qza.mk bO
  have BZ := qza.mk bZ
  have BA := qza.mk bA
  have HB4 := qza.mk hb4
  have HOV := qza.mk (fun (W : World) (h : Below w.heap.size w W) => qz27 A0 rs.length c0 A1 hs.length c1 A2 os.length c2 A3 c3 ver ds t W (Kd.C_below hr3 h) hc3)
  have HKN := qza.mk (fun (W : World) (h : Below w.heap.size w W) => qz24 A0 rs.length c0 A1 hs.length c1 A2 c2 A3 ds.length c3 ver os t W (Kd.C_below hr2 h) hc2)
  have HR0 := qza.mk hr0
  have HR1 := qza.mk hr1
  have HR2 := qza.mk hr2
  have HR3 := qza.mk hr3
  have HC0 := qza.mk hc0
  have HC1 := qza.mk hc1
  have HC2 := qza.mk hc2
  have HC3 := qza.mk hc3
  clear hr0 hc0 hr1 hc1 hr2 hc2 hr3 hc3 bS bO bZ bA hb4
  rw [decide_eq_false hd] at HOV
  clear hd
  generalize overV ds t = dv at *
  obtain ⟨⟨dA, dI⟩, dC⟩ := dv
  have HNO := qza.mk (fun (W : World) (e0 : Int) => qz35 A0 rs.length c0 A1 hs.length c1 A2 os.length c2 A3 ds.length c3 ver e0 W)
  have hkz : ¬ (key.size : Int) < 1 := by omega
  have hkz2 : ¬ (16 : Int) < (key.size : Int) := by omega
  clear hk1 hk2
  rw [hfi] at HKN
  obtain ⟨ob, oo, hA, pB, pc, _, _, _, _, hp2, hp3, _⟩ := qz53 HR2.out ii hii
  have hiz : (0 : Int) ≤ (ii : Int) := by omega
  have hiz2 : (ii : Int) < (os.length : Int) := by omega
  rw [hf1] at hp2
  rw [hf2] at hp3
  have HP2 := qza.mk hp2
  have HP3 := qza.mk hp3
  subst hA
  clear hp2 hp3 hf1 hf2 hfi hii
  obtain ⟨ta, ti⟩ := t
  unfold shv at *
  dsimp only at *
  go_enter Try.func21, Try.ntmps21
  go_wp2_with (first
    | (go_at_call 51; refine (HOV.out _ HB4.out).mono ?_; rintro e w5 ⟨rfl, hb5⟩; have HW5 := qza.mk hb5.size; have SB5 := qza.mk (stay hb5 BS.out (by rw [HW4.out]; omega)); have OB5 := qza.mk (stay hb5 BO.out (by rw [HW4.out]; omega)); have ZB5 := qza.mk (stay hb5 BZ.out (by rw [HW4.out]; omega)); have AB5 := qza.mk (stay hb5 BA.out (by rw [HW4.out]; omega)); obtain ⟨hs0, hs1, hs2, hs3, hs4⟩ := qz4 (stayA SB5.out (.cells #[.int .u64 dA, .int .u64 dI, .bool dC] 68)); obtain ⟨ho0, ho1, ho2, ho3, ho4, ho5, ho6⟩ := qz12 (stayA OB5.out (.cells #[.int .u64 dA, .int .u64 dI, .bool dC] 68)); have HB5 := qza.mk (HB4.out.trans (hb5.mono HB4.out.size)); clear hb5)
    | (go_at_call 52; refine (HKN.out _ (HB5.out.alloc HB5.out.size (.cells #[.int .u64 dA, .int .u64 dI, .bool dC] 68))).mono ?_; rintro e w6 ⟨rfl, hb6⟩; clear hs0 hs1 hs2 hs3 hs4 ho0 ho1 ho2 ho3 ho4 ho5 ho6; have SB6 := qza.mk (stay hb6 (stayA SB5.out (.cells #[.int .u64 dA, .int .u64 dI, .bool dC] 68)) (by have := HW4.out; have := HW5.out; simp; omega)); have OB6 := qza.mk (stay hb6 (stayA OB5.out (.cells #[.int .u64 dA, .int .u64 dI, .bool dC] 68)) (by have := HW4.out; have := HW5.out; simp; omega)); have ZB6 := qza.mk (stay hb6 (stayA ZB5.out (.cells #[.int .u64 dA, .int .u64 dI, .bool dC] 68)) (by have := HW4.out; have := HW5.out; simp; omega)); have AB6 := qza.mk (stay hb6 (stayA AB5.out (.cells #[.int .u64 dA, .int .u64 dI, .bool dC] 68)) (by have := HW4.out; have := HW5.out; simp; omega)); have DB6 := qza.mk (stay hb6 (heap_alloc_new w5 (.cells #[.int .u64 dA, .int .u64 dI, .bool dC] 68)) (by simp)); obtain ⟨hs0, hs1, hs2, hs3, hs4⟩ := qz4 SB6.out; obtain ⟨ho0, ho1, ho2, ho3, ho4, ho5, ho6⟩ := qz12 OB6.out; obtain ⟨hd0, hd1, hd2⟩ := qz39 DB6.out; have HB6 := qza.mk ((HB5.out.alloc HB5.out.size (.cells #[.int .u64 dA, .int .u64 dI, .bool dC] 68)).trans (hb6.mono (HB5.out.alloc HB5.out.size (.cells #[.int .u64 dA, .int .u64 dI, .bool dC] 68)).size)); have HW6 : qza (w.heap.size + 1 + 1 + 1 + 1 ≤ w6.heap.size) := ⟨by have := HW4.out; have := HW5.out; have := hb6.size; simp at this; omega⟩; clear hb6; have hq2 := (HB6.out.cell (World.block_lt_of_cell? _ _ HP2.out)).trans HP2.out; have hq3 := (HB6.out.cell (World.block_lt_of_cell? _ _ HP3.out)).trans HP3.out)
    | (go_at_call 24; refine (HNO.out _ _).mono ?_; rintro e w7 ⟨rfl, hb7⟩; clear hs0 hs1 hs2 hs3 hs4 ho0 ho1 ho2 ho3 ho4 ho5 ho6; have ZB7 := qza.mk (stay hb7 ZB6.out (by have := HW6.out; omega)); have AB7 := qza.mk (stay hb7 AB6.out (by have := HW6.out; omega)); obtain ⟨hz0, hz1, hz2, hz3, hz4⟩ := qz4 ZB7.out; obtain ⟨ha0, ha1, ha2, ha3, ha4⟩ := qz4 AB7.out; obtain ⟨hy0, hy1, hy2, hy3, hy4⟩ := qz14 ZB7.out; obtain ⟨hx0, hx1, hx2, hx3, hx4⟩ := qz14 AB7.out; have HB7 := qza.mk (HB6.out.trans (hb7.mono HB6.out.size)); clear hb7))
  refine qz40 rfl rfl rfl rfl ZB7.out AB7.out (by omega) ?_
  exact qz30 HR0.out HC0.out HR1.out HC1.out HR2.out HC2.out HR3.out HC3.out (qz7 (qz7 HB7.out (show w.heap.size ≤ w.heap.size + 1 + 1 by omega) _ _ _ _ _) (show w.heap.size ≤ w.heap.size + 1 + 1 + 1 by omega) _ _ _ _ _) _ _ _ _ _
set_option maxRecDepth 100000 in
set_option maxHeartbeats 8000000 in
theorem asks_order (kind : Int) (t : S30) (key : ByteArray) (A4 : Option Addr) (n4 c4 : Nat) (cm : Bool) (A5 : Option Addr) (n5 c5 : Nat) (A0 : Option Addr) (c0 : Nat) (A1 : Option Addr) (c1 : Nat) (A2 : Option Addr) (c2 : Nat) (A3 : Option Addr) (c3 : Nat) (rs : List S50) (hs : List S75) (os : List S48) (ds : List S68) (ver : Int) (w : World) (hr0 : Kd.C k50 w A0 rs.length rs) (hc0 : rs.length ≤ c0) (hr1 : Kd.C k75 w A1 hs.length hs) (hc1 : hs.length ≤ c1) (hr2 : Kd.C k48 w A2 os.length os) (hc2 : os.length ≤ c2) (hr3 : Kd.C k68 w A3 ds.length ds) (hc3 : ds.length ≤ c3) (hd : ¬ 0 ≤ findI (qz25 t) ds) (hk1 : 1 ≤ key.size) (hk2 : key.size ≤ 16) (ii : Nat) (hii : ii < os.length) (hfi : findI (qz16 t) os = (ii : Int)) (hf1 : (os[ii]!).f1 = true) (hf2 : (os[ii]!).f2 = false) :
    Calls Try.prog 21 #[.agg (shv A0 rs.length c0 A1 hs.length c1 A2 os.length c2 A3 ds.length c3 ver), .agg #[.int .i64 kind, .int .u64 t.f0, .int .u64 t.f1, .string key, .slice A4 n4 c4, .bool cm, .slice A5 n5 c5]] w (qz32 w (⟨rs, hs, os, ds, ver⟩, errA 9)) := by
  obtain ⟨bS, bO, bZ, bA⟩ := qz38 w (.cells #[.slice A0 rs.length c0, .slice A1 hs.length c1, .slice A2 os.length c2, .slice A3 ds.length c3, .int .u64 ver] 28) (.cells #[.int .i64 kind, .int .u64 t.f0, .int .u64 t.f1, .string key, .slice A4 n4 c4, .bool cm, .slice A5 n5 c5] 34) (.cells #[.slice none 0 0, .slice none 0 0, .slice none 0 0, .slice none 0 0, .int .u64 0] 28) (.cells #[.int .i64 0, .string ⟨#[]⟩, .int .u64 0, .bool false, .bool false] 38)
  have hb4 : Below w.heap.size w ((((w.alloc (.cells #[.slice A0 rs.length c0, .slice A1 hs.length c1, .slice A2 os.length c2, .slice A3 ds.length c3, .int .u64 ver] 28)).alloc (.cells #[.int .i64 kind, .int .u64 t.f0, .int .u64 t.f1, .string key, .slice A4 n4 c4, .bool cm, .slice A5 n5 c5] 34)).alloc (.cells #[.slice none 0 0, .slice none 0 0, .slice none 0 0, .slice none 0 0, .int .u64 0] 28)).alloc (.cells #[.int .i64 0, .string ⟨#[]⟩, .int .u64 0, .bool false, .bool false] 38)) := ((((Below.refl w.heap.size w).alloc (Nat.le_refl _) _).alloc (by simp) _).alloc (by simp; omega) _).alloc (by simp; omega) _
  have HW4 : qza (((((w.alloc (.cells #[.slice A0 rs.length c0, .slice A1 hs.length c1, .slice A2 os.length c2, .slice A3 ds.length c3, .int .u64 ver] 28)).alloc (.cells #[.int .i64 kind, .int .u64 t.f0, .int .u64 t.f1, .string key, .slice A4 n4 c4, .bool cm, .slice A5 n5 c5] 34)).alloc (.cells #[.slice none 0 0, .slice none 0 0, .slice none 0 0, .slice none 0 0, .int .u64 0] 28)).alloc (.cells #[.int .i64 0, .string ⟨#[]⟩, .int .u64 0, .bool false, .bool false] 38)).heap.size = w.heap.size + 1 + 1 + 1 + 1) := ⟨by simp⟩
  have BS := qza.mk bS
  have BO := qza.mk bO
  have BZ := qza.mk bZ
  have BA := qza.mk bA
  have HB4 := qza.mk hb4
  have HOV := qza.mk (fun (W : World) (h : Below w.heap.size w W) => qz27 A0 rs.length c0 A1 hs.length c1 A2 os.length c2 A3 c3 ver ds t W (Kd.C_below hr3 h) hc3)
  have HKN := qza.mk (fun (W : World) (h : Below w.heap.size w W) => qz24 A0 rs.length c0 A1 hs.length c1 A2 c2 A3 ds.length c3 ver os t W (Kd.C_below hr2 h) hc2)
  have HR0 := qza.mk hr0
  have HR1 := qza.mk hr1
  have HR2 := qza.mk hr2
  have HR3 := qza.mk hr3
  have HC0 := qza.mk hc0
  have HC1 := qza.mk hc1
  have HC2 := qza.mk hc2
  have HC3 := qza.mk hc3
  clear hr0 hc0 hr1 hc1 hr2 hc2 hr3 hc3 bS bO bZ bA hb4
  rw [decide_eq_false hd] at HOV
  clear hd
  generalize overV ds t = dv at *
  obtain ⟨⟨dA, dI⟩, dC⟩ := dv
  have HNO := qza.mk (fun (W : World) (e0 : Int) => qz35 A0 rs.length c0 A1 hs.length c1 A2 os.length c2 A3 ds.length c3 ver e0 W)
  have hkz : ¬ (key.size : Int) < 1 := by omega
  have hkz2 : ¬ (16 : Int) < (key.size : Int) := by omega
  clear hk1 hk2
  rw [hfi] at HKN
  obtain ⟨ob, oo, hA, pB, pc, _, _, _, _, hp2, hp3, _⟩ := qz53 HR2.out ii hii
  have hiz : (0 : Int) ≤ (ii : Int) := by omega
  have hiz2 : (ii : Int) < (os.length : Int) := by omega
  rw [hf1] at hp2
  rw [hf2] at hp3
  have HP2 := qza.mk hp2
  have HP3 := qza.mk hp3
  subst hA
  clear hp2 hp3 hf1 hf2 hfi hii
  obtain ⟨ta, ti⟩ := t
  unfold shv at *
  dsimp only at *
  go_enter Try.func21, Try.ntmps21
  go_wp2_with (first
    | (go_at_call 51; refine (HOV.out _ HB4.out).mono ?_; rintro e w5 ⟨rfl, hb5⟩; have HW5 := qza.mk hb5.size; have SB5 := qza.mk (stay hb5 BS.out (by rw [HW4.out]; omega)); have OB5 := qza.mk (stay hb5 BO.out (by rw [HW4.out]; omega)); have ZB5 := qza.mk (stay hb5 BZ.out (by rw [HW4.out]; omega)); have AB5 := qza.mk (stay hb5 BA.out (by rw [HW4.out]; omega)); obtain ⟨hs0, hs1, hs2, hs3, hs4⟩ := qz4 (stayA SB5.out (.cells #[.int .u64 dA, .int .u64 dI, .bool dC] 68)); obtain ⟨ho0, ho1, ho2, ho3, ho4, ho5, ho6⟩ := qz12 (stayA OB5.out (.cells #[.int .u64 dA, .int .u64 dI, .bool dC] 68)); have HB5 := qza.mk (HB4.out.trans (hb5.mono HB4.out.size)); clear hb5)
    | (go_at_call 52; refine (HKN.out _ (HB5.out.alloc HB5.out.size (.cells #[.int .u64 dA, .int .u64 dI, .bool dC] 68))).mono ?_; rintro e w6 ⟨rfl, hb6⟩; clear hs0 hs1 hs2 hs3 hs4 ho0 ho1 ho2 ho3 ho4 ho5 ho6; have SB6 := qza.mk (stay hb6 (stayA SB5.out (.cells #[.int .u64 dA, .int .u64 dI, .bool dC] 68)) (by have := HW4.out; have := HW5.out; simp; omega)); have OB6 := qza.mk (stay hb6 (stayA OB5.out (.cells #[.int .u64 dA, .int .u64 dI, .bool dC] 68)) (by have := HW4.out; have := HW5.out; simp; omega)); have ZB6 := qza.mk (stay hb6 (stayA ZB5.out (.cells #[.int .u64 dA, .int .u64 dI, .bool dC] 68)) (by have := HW4.out; have := HW5.out; simp; omega)); have AB6 := qza.mk (stay hb6 (stayA AB5.out (.cells #[.int .u64 dA, .int .u64 dI, .bool dC] 68)) (by have := HW4.out; have := HW5.out; simp; omega)); have DB6 := qza.mk (stay hb6 (heap_alloc_new w5 (.cells #[.int .u64 dA, .int .u64 dI, .bool dC] 68)) (by simp)); obtain ⟨hs0, hs1, hs2, hs3, hs4⟩ := qz4 SB6.out; obtain ⟨ho0, ho1, ho2, ho3, ho4, ho5, ho6⟩ := qz12 OB6.out; obtain ⟨hd0, hd1, hd2⟩ := qz39 DB6.out; have HB6 := qza.mk ((HB5.out.alloc HB5.out.size (.cells #[.int .u64 dA, .int .u64 dI, .bool dC] 68)).trans (hb6.mono (HB5.out.alloc HB5.out.size (.cells #[.int .u64 dA, .int .u64 dI, .bool dC] 68)).size)); have HW6 : qza (w.heap.size + 1 + 1 + 1 + 1 ≤ w6.heap.size) := ⟨by have := HW4.out; have := HW5.out; have := hb6.size; simp at this; omega⟩; clear hb6; have hq2 := (HB6.out.cell (World.block_lt_of_cell? _ _ HP2.out)).trans HP2.out; have hq3 := (HB6.out.cell (World.block_lt_of_cell? _ _ HP3.out)).trans HP3.out)
    | (go_at_call 24; refine (HNO.out _ _).mono ?_; rintro e w7 ⟨rfl, hb7⟩; clear hs0 hs1 hs2 hs3 hs4 ho0 ho1 ho2 ho3 ho4 ho5 ho6; have ZB7 := qza.mk (stay hb7 ZB6.out (by have := HW6.out; omega)); have AB7 := qza.mk (stay hb7 AB6.out (by have := HW6.out; omega)); obtain ⟨hz0, hz1, hz2, hz3, hz4⟩ := qz4 ZB7.out; obtain ⟨ha0, ha1, ha2, ha3, ha4⟩ := qz4 AB7.out; obtain ⟨hy0, hy1, hy2, hy3, hy4⟩ := qz14 ZB7.out; obtain ⟨hx0, hx1, hx2, hx3, hx4⟩ := qz14 AB7.out; have HB7 := qza.mk (HB6.out.trans (hb7.mono HB6.out.size)); clear hb7))
  refine qz40 rfl rfl rfl rfl ZB7.out AB7.out (by omega) ?_
  exact qz30 HR0.out HC0.out HR1.out HC1.out HR2.out HC2.out HR3.out HC3.out (qz7 (qz7 HB7.out (show w.heap.size ≤ w.heap.size + 1 + 1 by omega) _ _ _ _ _) (show w.heap.size ≤ w.heap.size + 1 + 1 + 1 by omega) _ _ _ _ _) _ _ _ _ _
set_option maxRecDepth 100000 in
set_option maxHeartbeats 8000000 in
theorem asks_full (kind : Int) (t : S30) (key : ByteArray) (A4 : Option Addr) (n4 c4 : Nat) (cm : Bool) (A5 : Option Addr) (n5 c5 : Nat) (A0 : Option Addr) (c0 : Nat) (A1 : Option Addr) (c1 : Nat) (A2 : Option Addr) (c2 : Nat) (A3 : Option Addr) (c3 : Nat) (rs : List S50) (hs : List S75) (os : List S48) (ds : List S68) (ver : Int) (w : World) (hr0 : Kd.C k50 w A0 rs.length rs) (hc0 : rs.length ≤ c0) (hr1 : Kd.C k75 w A1 hs.length hs) (hc1 : hs.length ≤ c1) (hr2 : Kd.C k48 w A2 os.length os) (hc2 : os.length ≤ c2) (hr3 : Kd.C k68 w A3 ds.length ds) (hc3 : ds.length ≤ c3) (hd : ¬ 0 ≤ findI (qz25 t) ds) (hk1 : 1 ≤ key.size) (hk2 : key.size ≤ 16) (hfi : findI (qz16 t) os = -1) (hlim : os.length + ds.length ≤ 8796093022208) (hfull : 64 ≤ os.length + ds.length) :
    Calls Try.prog 21 #[.agg (shv A0 rs.length c0 A1 hs.length c1 A2 os.length c2 A3 ds.length c3 ver), .agg #[.int .i64 kind, .int .u64 t.f0, .int .u64 t.f1, .string key, .slice A4 n4 c4, .bool cm, .slice A5 n5 c5]] w (qz32 w (⟨rs, hs, os, ds, ver⟩, errA 5)) := by
  obtain ⟨bS, bO, bZ, bA⟩ := qz38 w (.cells #[.slice A0 rs.length c0, .slice A1 hs.length c1, .slice A2 os.length c2, .slice A3 ds.length c3, .int .u64 ver] 28) (.cells #[.int .i64 kind, .int .u64 t.f0, .int .u64 t.f1, .string key, .slice A4 n4 c4, .bool cm, .slice A5 n5 c5] 34) (.cells #[.slice none 0 0, .slice none 0 0, .slice none 0 0, .slice none 0 0, .int .u64 0] 28) (.cells #[.int .i64 0, .string ⟨#[]⟩, .int .u64 0, .bool false, .bool false] 38)
  have hb4 : Below w.heap.size w ((((w.alloc (.cells #[.slice A0 rs.length c0, .slice A1 hs.length c1, .slice A2 os.length c2, .slice A3 ds.length c3, .int .u64 ver] 28)).alloc (.cells #[.int .i64 kind, .int .u64 t.f0, .int .u64 t.f1, .string key, .slice A4 n4 c4, .bool cm, .slice A5 n5 c5] 34)).alloc (.cells #[.slice none 0 0, .slice none 0 0, .slice none 0 0, .slice none 0 0, .int .u64 0] 28)).alloc (.cells #[.int .i64 0, .string ⟨#[]⟩, .int .u64 0, .bool false, .bool false] 38)) := ((((Below.refl w.heap.size w).alloc (Nat.le_refl _) _).alloc (by simp) _).alloc (by simp; omega) _).alloc (by simp; omega) _
  have HW4 : qza (((((w.alloc (.cells #[.slice A0 rs.length c0, .slice A1 hs.length c1, .slice A2 os.length c2, .slice A3 ds.length c3, .int .u64 ver] 28)).alloc (.cells #[.int .i64 kind, .int .u64 t.f0, .int .u64 t.f1, .string key, .slice A4 n4 c4, .bool cm, .slice A5 n5 c5] 34)).alloc (.cells #[.slice none 0 0, .slice none 0 0, .slice none 0 0, .slice none 0 0, .int .u64 0] 28)).alloc (.cells #[.int .i64 0, .string ⟨#[]⟩, .int .u64 0, .bool false, .bool false] 38)).heap.size = w.heap.size + 1 + 1 + 1 + 1) := ⟨by simp⟩
  have BS := qza.mk bS
  have BO := qza.mk bO
  have BZ := qza.mk bZ
  have BA := qza.mk bA
  have HB4 := qza.mk hb4
  have HOV := qza.mk (fun (W : World) (h : Below w.heap.size w W) => qz27 A0 rs.length c0 A1 hs.length c1 A2 os.length c2 A3 c3 ver ds t W (Kd.C_below hr3 h) hc3)
  have HKN := qza.mk (fun (W : World) (h : Below w.heap.size w W) => qz24 A0 rs.length c0 A1 hs.length c1 A2 c2 A3 ds.length c3 ver os t W (Kd.C_below hr2 h) hc2)
  have HR0 := qza.mk hr0
  have HR1 := qza.mk hr1
  have HR2 := qza.mk hr2
  have HR3 := qza.mk hr3
  have HC0 := qza.mk hc0
  have HC1 := qza.mk hc1
  have HC2 := qza.mk hc2
  have HC3 := qza.mk hc3
  clear hr0 hc0 hr1 hc1 hr2 hc2 hr3 hc3 bS bO bZ bA hb4
  rw [decide_eq_false hd] at HOV
  clear hd
  generalize overV ds t = dv at *
  obtain ⟨⟨dA, dI⟩, dC⟩ := dv
  have HNO := qza.mk (fun (W : World) (e0 : Int) => qz35 A0 rs.length c0 A1 hs.length c1 A2 os.length c2 A3 ds.length c3 ver e0 W)
  have hkz : ¬ (key.size : Int) < 1 := by omega
  have hkz2 : ¬ (16 : Int) < (key.size : Int) := by omega
  clear hk1 hk2
  have HFU := qza.mk (fun (W : World) (h : Below w.heap.size w W) => qz78 A0 c0 A1 c1 A2 c2 A3 c3 rs hs os ds ver W (Kd.C_below HR0.out h) HC0.out (Kd.C_below HR1.out h) HC1.out (Kd.C_below HR2.out h) HC2.out (Kd.C_below HR3.out h) HC3.out (by omega))
  clear hlim
  rw [hfi] at HKN
  rw [decide_eq_true hfull] at HFU
  clear hfi hfull
  obtain ⟨ta, ti⟩ := t
  unfold shv at *
  dsimp only at *
  go_enter Try.func21, Try.ntmps21
  go_wp2_with (first
    | (go_at_call 51; refine (HOV.out _ HB4.out).mono ?_; rintro e w5 ⟨rfl, hb5⟩; have HW5 := qza.mk hb5.size; have SB5 := qza.mk (stay hb5 BS.out (by rw [HW4.out]; omega)); have OB5 := qza.mk (stay hb5 BO.out (by rw [HW4.out]; omega)); have ZB5 := qza.mk (stay hb5 BZ.out (by rw [HW4.out]; omega)); have AB5 := qza.mk (stay hb5 BA.out (by rw [HW4.out]; omega)); obtain ⟨hs0, hs1, hs2, hs3, hs4⟩ := qz4 (stayA SB5.out (.cells #[.int .u64 dA, .int .u64 dI, .bool dC] 68)); obtain ⟨ho0, ho1, ho2, ho3, ho4, ho5, ho6⟩ := qz12 (stayA OB5.out (.cells #[.int .u64 dA, .int .u64 dI, .bool dC] 68)); have HB5 := qza.mk (HB4.out.trans (hb5.mono HB4.out.size)); clear hb5)
    | (go_at_call 52; refine (HKN.out _ (HB5.out.alloc HB5.out.size (.cells #[.int .u64 dA, .int .u64 dI, .bool dC] 68))).mono ?_; rintro e w6 ⟨rfl, hb6⟩; clear hs0 hs1 hs2 hs3 hs4 ho0 ho1 ho2 ho3 ho4 ho5 ho6; have SB6 := qza.mk (stay hb6 (stayA SB5.out (.cells #[.int .u64 dA, .int .u64 dI, .bool dC] 68)) (by have := HW4.out; have := HW5.out; simp; omega)); have OB6 := qza.mk (stay hb6 (stayA OB5.out (.cells #[.int .u64 dA, .int .u64 dI, .bool dC] 68)) (by have := HW4.out; have := HW5.out; simp; omega)); have ZB6 := qza.mk (stay hb6 (stayA ZB5.out (.cells #[.int .u64 dA, .int .u64 dI, .bool dC] 68)) (by have := HW4.out; have := HW5.out; simp; omega)); have AB6 := qza.mk (stay hb6 (stayA AB5.out (.cells #[.int .u64 dA, .int .u64 dI, .bool dC] 68)) (by have := HW4.out; have := HW5.out; simp; omega)); have DB6 := qza.mk (stay hb6 (heap_alloc_new w5 (.cells #[.int .u64 dA, .int .u64 dI, .bool dC] 68)) (by simp)); obtain ⟨hs0, hs1, hs2, hs3, hs4⟩ := qz4 SB6.out; obtain ⟨ho0, ho1, ho2, ho3, ho4, ho5, ho6⟩ := qz12 OB6.out; obtain ⟨hd0, hd1, hd2⟩ := qz39 DB6.out; have HB6 := qza.mk ((HB5.out.alloc HB5.out.size (.cells #[.int .u64 dA, .int .u64 dI, .bool dC] 68)).trans (hb6.mono (HB5.out.alloc HB5.out.size (.cells #[.int .u64 dA, .int .u64 dI, .bool dC] 68)).size)); have HW6 : qza (w.heap.size + 1 + 1 + 1 + 1 ≤ w6.heap.size) := ⟨by have := HW4.out; have := HW5.out; have := hb6.size; simp at this; omega⟩; clear hb6)
    | (go_at_call 53; refine (HFU.out _ HB6.out).mono ?_; rintro e w8 ⟨rfl, hb8⟩; clear hs0 hs1 hs2 hs3 hs4 ho0 ho1 ho2 ho3 ho4 ho5 ho6; have SB8 := qza.mk (stay hb8 SB6.out (by have := HW6.out; omega)); have OB8 := qza.mk (stay hb8 OB6.out (by have := HW6.out; omega)); have ZB8 := qza.mk (stay hb8 ZB6.out (by have := HW6.out; omega)); have AB8 := qza.mk (stay hb8 AB6.out (by have := HW6.out; omega)); have HW8 : qza (w.heap.size + 1 + 1 + 1 + 1 ≤ w8.heap.size) := ⟨Nat.le_trans HW6.out hb8.size⟩; obtain ⟨hs0, hs1, hs2, hs3, hs4⟩ := qz4 SB8.out; obtain ⟨ho0, ho1, ho2, ho3, ho4, ho5, ho6⟩ := qz12 OB8.out; have HB8 := qza.mk (HB6.out.trans (hb8.mono HB6.out.size)); clear hb8)
    | (go_at_call 24; refine (HNO.out _ _).mono ?_; rintro e w7 ⟨rfl, hb7⟩; clear hs0 hs1 hs2 hs3 hs4 ho0 ho1 ho2 ho3 ho4 ho5 ho6; have ZB7 := qza.mk (stay hb7 ZB8.out (by have := HW8.out; omega)); have AB7 := qza.mk (stay hb7 AB8.out (by have := HW8.out; omega)); obtain ⟨hz0, hz1, hz2, hz3, hz4⟩ := qz4 ZB7.out; obtain ⟨ha0, ha1, ha2, ha3, ha4⟩ := qz4 AB7.out; obtain ⟨hy0, hy1, hy2, hy3, hy4⟩ := qz14 ZB7.out; obtain ⟨hx0, hx1, hx2, hx3, hx4⟩ := qz14 AB7.out; have HB7 := qza.mk (HB8.out.trans (hb7.mono HB8.out.size)); clear hb7))
  refine qz40 rfl rfl rfl rfl ZB7.out AB7.out (by omega) ?_
  exact qz30 HR0.out HC0.out HR1.out HC1.out HR2.out HC2.out HR3.out HC3.out (qz7 (qz7 HB7.out (show w.heap.size ≤ w.heap.size + 1 + 1 by omega) _ _ _ _ _) (show w.heap.size ≤ w.heap.size + 1 + 1 + 1 by omega) _ _ _ _ _) _ _ _ _ _
end Go.Proofs.Ytmcgcdpiceikeaa.PAll
end
