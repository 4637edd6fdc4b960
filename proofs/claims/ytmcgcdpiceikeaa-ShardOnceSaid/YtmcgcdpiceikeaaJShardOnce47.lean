/- Joined texts of the claim ShardOnce (part 47): contracts of functions and plain laws. -/
import Derived.Test.YtmcgcdpiceikeaaJShardOnce46
section
/- shard.Do. -/
namespace Go.Proofs.Ytmcgcdpiceikeaa.PAll
open Go.RowKit Go.Proofs.YtmcgcdpiceikeaaW.PrintWords Go.Proofs.YtmcgcdpiceikeaaW.PrintMore Go.Proofs.Ytmcgcdpiceikeaa
set_option linter.unusedVariables false
set_option maxRecDepth 100000 in
set_option maxHeartbeats 8000000 in
theorem do_ask1 (t : S30) (key : ByteArray) (A4 : Option Addr) (c4 : Nat) (cm : Bool) (A5 : Option Addr) (n5 c5 : Nat) (A0 : Option Addr) (c0 : Nat) (A1 : Option Addr) (c1 : Nat) (A2 : Option Addr) (c2 : Nat) (A3 : Option Addr) (c3 : Nat) (rs : List S50) (hs : List S75) (os : List S48) (ds : List S68) (ver : Int) (w : World) (hr0 : Kd.C k50 w A0 rs.length rs) (hc0 : rs.length ≤ c0) (hr1 : Kd.C k75 w A1 hs.length hs) (hc1 : hs.length ≤ c1) (hr2 : Kd.C k48 w A2 os.length os) (hc2 : os.length ≤ c2) (hr3 : Kd.C k68 w A3 ds.length ds) (hc3 : ds.length ≤ c3) (ps : List S54) (hr4 : Kd.C k54 w A4 ps.length ps) (hc4 : ps.length ≤ c4) (hlim : ShdLim ⟨rs, hs, os, ds, ver⟩) :
    Calls Try.prog 11 #[.agg (shv A0 rs.length c0 A1 hs.length c1 A2 os.length c2 A3 ds.length c3 ver), .agg #[.int .i64 1, .int .u64 t.f0, .int .u64 t.f1, .string key, .slice A4 ps.length c4, .bool cm, .slice A5 n5 c5]] w (DoPost w (asksV ⟨rs, hs, os, ds, ver⟩ 1 t key)) := by
  obtain ⟨bS, bO, bZ, bA⟩ := alloc4 w (.cells #[.slice A0 rs.length c0, .slice A1 hs.length c1, .slice A2 os.length c2, .slice A3 ds.length c3, .int .u64 ver] 28) (.cells #[.int .i64 1, .int .u64 t.f0, .int .u64 t.f1, .string key, .slice A4 ps.length c4, .bool cm, .slice A5 n5 c5] 34) (.cells #[.slice none 0 0, .slice none 0 0, .slice none 0 0, .slice none 0 0, .int .u64 0] 28) (.cells #[.int .i64 0, .string ⟨#[]⟩, .int .u64 0, .bool false, .bool false] 38)
  have hb4 : Below w.heap.size w ((((w.alloc (.cells #[.slice A0 rs.length c0, .slice A1 hs.length c1, .slice A2 os.length c2, .slice A3 ds.length c3, .int .u64 ver] 28)).alloc (.cells #[.int .i64 1, .int .u64 t.f0, .int .u64 t.f1, .string key, .slice A4 ps.length c4, .bool cm, .slice A5 n5 c5] 34)).alloc (.cells #[.slice none 0 0, .slice none 0 0, .slice none 0 0, .slice none 0 0, .int .u64 0] 28)).alloc (.cells #[.int .i64 0, .string ⟨#[]⟩, .int .u64 0, .bool false, .bool false] 38)) := ((((Below.refl w.heap.size w).alloc (Nat.le_refl _) _).alloc (by simp) _).alloc (by simp; omega) _).alloc (by simp; omega) _
  have HW4 : Aside0 (((((w.alloc (.cells #[.slice A0 rs.length c0, .slice A1 hs.length c1, .slice A2 os.length c2, .slice A3 ds.length c3, .int .u64 ver] 28)).alloc (.cells #[.int .i64 1, .int .u64 t.f0, .int .u64 t.f1, .string key, .slice A4 ps.length c4, .bool cm, .slice A5 n5 c5] 34)).alloc (.cells #[.slice none 0 0, .slice none 0 0, .slice none 0 0, .slice none 0 0, .int .u64 0] 28)).alloc (.cells #[.int .i64 0, .string ⟨#[]⟩, .int .u64 0, .bool false, .bool false] 38)).heap.size = w.heap.size + 1 + 1 + 1 + 1) := ⟨by simp⟩
  have BZ := Aside0.mk bZ
  have BA := Aside0.mk bA
  have HB4 := Aside0.mk hb4
  have HCA := Aside0.mk (asks_calls 1 t key A4 ps.length c4 cm A5 n5 c5 A0 c0 A1 c1 A2 c2 A3 c3 rs hs os ds ver _ (Kd.C_below hr0 hb4) hc0 (Kd.C_below hr1 hb4) hc1 (Kd.C_below hr2 hb4) hc2 (Kd.C_below hr3 hb4) hc3 hlim)
  generalize asksV ⟨rs, hs, os, ds, ver⟩ 1 t key = R at *
  clear hr0 hc0 hr1 hc1 hr2 hc2 hr3 hc3 hr4 hc4
  obtain ⟨hs0, hs1, hs2, hs3, hs4⟩ := cells_5 bS
  obtain ⟨ho0, ho1, ho2, ho3, ho4, ho5, ho6⟩ := cells_7 bO
  clear bS bO bZ bA hb4
  obtain ⟨ta, ti⟩ := t
  unfold shv at *
  dsimp only at *
  go_enter Try.func11, Try.ntmps11
  go_wp2_with (go_at_call 21; refine (HCA.out).mono ?_; intro e w5 hpost; obtain ⟨E0, n0', d0, E1, n1', d1, E2, n2', d2, E3, n3', d3, rfl, hv5, hb5⟩ := doOut hpost; clear hpost hs0 hs1 hs2 hs3 hs4 ho0 ho1 ho2 ho3 ho4 ho5 ho6; have ZB7 := Aside0.mk (stay hb5 BZ.out (by rw [HW4.out]; omega)); have AB7 := Aside0.mk (stay hb5 BA.out (by rw [HW4.out]; omega)); obtain ⟨hz0, hz1, hz2, hz3, hz4⟩ := cells_5 ZB7.out; obtain ⟨ha0, ha1, ha2, ha3, ha4⟩ := cells_5 AB7.out; obtain ⟨hy0, hy1, hy2, hy3, hy4⟩ := froz_5 ZB7.out; obtain ⟨hx0, hx1, hx2, hx3, hx4⟩ := froz_5 AB7.out; have HB7 := Aside0.mk (HB4.out.trans (hb5.mono HB4.out.size)); have HV5 := Aside0.mk hv5; clear hv5 hb5)
  refine twoBoxes rfl rfl rfl rfl ZB7.out AB7.out (by omega) ?_
  exact ⟨_, rfl, put5_z HV5.out ZB7.out AB7.out _ _ _ _ _ _ _ _ _ _, put5_below (put5_below HB7.out (show w.heap.size ≤ w.heap.size + 1 + 1 by omega) _ _ _ _ _) (show w.heap.size ≤ w.heap.size + 1 + 1 + 1 by omega) _ _ _ _ _⟩
set_option maxRecDepth 100000 in
set_option maxHeartbeats 8000000 in
theorem do_ask2 (t : S30) (key : ByteArray) (A4 : Option Addr) (c4 : Nat) (cm : Bool) (A5 : Option Addr) (n5 c5 : Nat) (A0 : Option Addr) (c0 : Nat) (A1 : Option Addr) (c1 : Nat) (A2 : Option Addr) (c2 : Nat) (A3 : Option Addr) (c3 : Nat) (rs : List S50) (hs : List S75) (os : List S48) (ds : List S68) (ver : Int) (w : World) (hr0 : Kd.C k50 w A0 rs.length rs) (hc0 : rs.length ≤ c0) (hr1 : Kd.C k75 w A1 hs.length hs) (hc1 : hs.length ≤ c1) (hr2 : Kd.C k48 w A2 os.length os) (hc2 : os.length ≤ c2) (hr3 : Kd.C k68 w A3 ds.length ds) (hc3 : ds.length ≤ c3) (ps : List S54) (hr4 : Kd.C k54 w A4 ps.length ps) (hc4 : ps.length ≤ c4) (hlim : ShdLim ⟨rs, hs, os, ds, ver⟩) :
    Calls Try.prog 11 #[.agg (shv A0 rs.length c0 A1 hs.length c1 A2 os.length c2 A3 ds.length c3 ver), .agg #[.int .i64 2, .int .u64 t.f0, .int .u64 t.f1, .string key, .slice A4 ps.length c4, .bool cm, .slice A5 n5 c5]] w (DoPost w (asksV ⟨rs, hs, os, ds, ver⟩ 2 t key)) := by
  obtain ⟨bS, bO, bZ, bA⟩ := alloc4 w (.cells #[.slice A0 rs.length c0, .slice A1 hs.length c1, .slice A2 os.length c2, .slice A3 ds.length c3, .int .u64 ver] 28) (.cells #[.int .i64 2, .int .u64 t.f0, .int .u64 t.f1, .string key, .slice A4 ps.length c4, .bool cm, .slice A5 n5 c5] 34) (.cells #[.slice none 0 0, .slice none 0 0, .slice none 0 0, .slice none 0 0, .int .u64 0] 28) (.cells #[.int .i64 0, .string ⟨#[]⟩, .int .u64 0, .bool false, .bool false] 38)
  have hb4 : Below w.heap.size w ((((w.alloc (.cells #[.slice A0 rs.length c0, .slice A1 hs.length c1, .slice A2 os.length c2, .slice A3 ds.length c3, .int .u64 ver] 28)).alloc (.cells #[.int .i64 2, .int .u64 t.f0, .int .u64 t.f1, .string key, .slice A4 ps.length c4, .bool cm, .slice A5 n5 c5] 34)).alloc (.cells #[.slice none 0 0, .slice none 0 0, .slice none 0 0, .slice none 0 0, .int .u64 0] 28)).alloc (.cells #[.int .i64 0, .string ⟨#[]⟩, .int .u64 0, .bool false, .bool false] 38)) := ((((Below.refl w.heap.size w).alloc (Nat.le_refl _) _).alloc (by simp) _).alloc (by simp; omega) _).alloc (by simp; omega) _
  have HW4 : Aside0 (((((w.alloc (.cells #[.slice A0 rs.length c0, .slice A1 hs.length c1, .slice A2 os.length c2, .slice A3 ds.length c3, .int .u64 ver] 28)).alloc (.cells #[.int .i64 2, .int .u64 t.f0, .int .u64 t.f1, .string key, .slice A4 ps.length c4, .bool cm, .slice A5 n5 c5] 34)).alloc (.cells #[.slice none 0 0, .slice none 0 0, .slice none 0 0, .slice none 0 0, .int .u64 0] 28)).alloc (.cells #[.int .i64 0, .string ⟨#[]⟩, .int .u64 0, .bool false, .bool false] 38)).heap.size = w.heap.size + 1 + 1 + 1 + 1) := ⟨by simp⟩
  have BZ := Aside0.mk bZ
  have BA := Aside0.mk bA
  have HB4 := Aside0.mk hb4
  have HCA := Aside0.mk (asks_calls 2 t key A4 ps.length c4 cm A5 n5 c5 A0 c0 A1 c1 A2 c2 A3 c3 rs hs os ds ver _ (Kd.C_below hr0 hb4) hc0 (Kd.C_below hr1 hb4) hc1 (Kd.C_below hr2 hb4) hc2 (Kd.C_below hr3 hb4) hc3 hlim)
  generalize asksV ⟨rs, hs, os, ds, ver⟩ 2 t key = R at *
  clear hr0 hc0 hr1 hc1 hr2 hc2 hr3 hc3 hr4 hc4
  obtain ⟨hs0, hs1, hs2, hs3, hs4⟩ := cells_5 bS
  obtain ⟨ho0, ho1, ho2, ho3, ho4, ho5, ho6⟩ := cells_7 bO
  clear bS bO bZ bA hb4
  obtain ⟨ta, ti⟩ := t
  unfold shv at *
  dsimp only at *
  go_enter Try.func11, Try.ntmps11
  go_wp2_with (go_at_call 21; refine (HCA.out).mono ?_; intro e w5 hpost; obtain ⟨E0, n0', d0, E1, n1', d1, E2, n2', d2, E3, n3', d3, rfl, hv5, hb5⟩ := doOut hpost; clear hpost hs0 hs1 hs2 hs3 hs4 ho0 ho1 ho2 ho3 ho4 ho5 ho6; have ZB7 := Aside0.mk (stay hb5 BZ.out (by rw [HW4.out]; omega)); have AB7 := Aside0.mk (stay hb5 BA.out (by rw [HW4.out]; omega)); obtain ⟨hz0, hz1, hz2, hz3, hz4⟩ := cells_5 ZB7.out; obtain ⟨ha0, ha1, ha2, ha3, ha4⟩ := cells_5 AB7.out; obtain ⟨hy0, hy1, hy2, hy3, hy4⟩ := froz_5 ZB7.out; obtain ⟨hx0, hx1, hx2, hx3, hx4⟩ := froz_5 AB7.out; have HB7 := Aside0.mk (HB4.out.trans (hb5.mono HB4.out.size)); have HV5 := Aside0.mk hv5; clear hv5 hb5)
  refine twoBoxes rfl rfl rfl rfl ZB7.out AB7.out (by omega) ?_
  exact ⟨_, rfl, put5_z HV5.out ZB7.out AB7.out _ _ _ _ _ _ _ _ _ _, put5_below (put5_below HB7.out (show w.heap.size ≤ w.heap.size + 1 + 1 by omega) _ _ _ _ _) (show w.heap.size ≤ w.heap.size + 1 + 1 + 1 by omega) _ _ _ _ _⟩
set_option maxRecDepth 100000 in
set_option maxHeartbeats 8000000 in
theorem do_prep (t : S30) (key : ByteArray) (A4 : Option Addr) (c4 : Nat) (cm : Bool) (A5 : Option Addr) (n5 c5 : Nat) (A0 : Option Addr) (c0 : Nat) (A1 : Option Addr) (c1 : Nat) (A2 : Option Addr) (c2 : Nat) (A3 : Option Addr) (c3 : Nat) (rs : List S50) (hs : List S75) (os : List S48) (ds : List S68) (ver : Int) (w : World) (hr0 : Kd.C k50 w A0 rs.length rs) (hc0 : rs.length ≤ c0) (hr1 : Kd.C k75 w A1 hs.length hs) (hc1 : hs.length ≤ c1) (hr2 : Kd.C k48 w A2 os.length os) (hc2 : os.length ≤ c2) (hr3 : Kd.C k68 w A3 ds.length ds) (hc3 : ds.length ≤ c3) (ps : List S54) (hr4 : Kd.C k54 w A4 ps.length ps) (hc4 : ps.length ≤ c4) (hlim : ShdLim ⟨rs, hs, os, ds, ver⟩) (hks : ShdKeys ⟨rs, hs, os, ds, ver⟩) :
    Calls Try.prog 11 #[.agg (shv A0 rs.length c0 A1 hs.length c1 A2 os.length c2 A3 ds.length c3 ver), .agg #[.int .i64 3, .int .u64 t.f0, .int .u64 t.f1, .string key, .slice A4 ps.length c4, .bool cm, .slice A5 n5 c5]] w (DoPost w (prepsV ⟨rs, hs, os, ds, ver⟩ t ps)) := by
  obtain ⟨bS, bO, bZ, bA⟩ := alloc4 w (.cells #[.slice A0 rs.length c0, .slice A1 hs.length c1, .slice A2 os.length c2, .slice A3 ds.length c3, .int .u64 ver] 28) (.cells #[.int .i64 3, .int .u64 t.f0, .int .u64 t.f1, .string key, .slice A4 ps.length c4, .bool cm, .slice A5 n5 c5] 34) (.cells #[.slice none 0 0, .slice none 0 0, .slice none 0 0, .slice none 0 0, .int .u64 0] 28) (.cells #[.int .i64 0, .string ⟨#[]⟩, .int .u64 0, .bool false, .bool false] 38)
  have hb4 : Below w.heap.size w ((((w.alloc (.cells #[.slice A0 rs.length c0, .slice A1 hs.length c1, .slice A2 os.length c2, .slice A3 ds.length c3, .int .u64 ver] 28)).alloc (.cells #[.int .i64 3, .int .u64 t.f0, .int .u64 t.f1, .string key, .slice A4 ps.length c4, .bool cm, .slice A5 n5 c5] 34)).alloc (.cells #[.slice none 0 0, .slice none 0 0, .slice none 0 0, .slice none 0 0, .int .u64 0] 28)).alloc (.cells #[.int .i64 0, .string ⟨#[]⟩, .int .u64 0, .bool false, .bool false] 38)) := ((((Below.refl w.heap.size w).alloc (Nat.le_refl _) _).alloc (by simp) _).alloc (by simp; omega) _).alloc (by simp; omega) _
  have HW4 : Aside0 (((((w.alloc (.cells #[.slice A0 rs.length c0, .slice A1 hs.length c1, .slice A2 os.length c2, .slice A3 ds.length c3, .int .u64 ver] 28)).alloc (.cells #[.int .i64 3, .int .u64 t.f0, .int .u64 t.f1, .string key, .slice A4 ps.length c4, .bool cm, .slice A5 n5 c5] 34)).alloc (.cells #[.slice none 0 0, .slice none 0 0, .slice none 0 0, .slice none 0 0, .int .u64 0] 28)).alloc (.cells #[.int .i64 0, .string ⟨#[]⟩, .int .u64 0, .bool false, .bool false] 38)).heap.size = w.heap.size + 1 + 1 + 1 + 1) := ⟨by simp⟩
  have BZ := Aside0.mk bZ
  have BA := Aside0.mk bA
  have HB4 := Aside0.mk hb4
  have HCA := Aside0.mk (prep_calls 3 t key A4 ps.length c4 cm A5 n5 c5 A0 c0 A1 c1 A2 c2 A3 c3 rs hs os ds ver _ (Kd.C_below hr0 hb4) hc0 (Kd.C_below hr1 hb4) hc1 (Kd.C_below hr2 hb4) hc2 (Kd.C_below hr3 hb4) hc3 ps rfl (Kd.C_below hr4 hb4) hc4 hlim hks)
  generalize prepsV ⟨rs, hs, os, ds, ver⟩ t ps = R at *
  clear hr0 hc0 hr1 hc1 hr2 hc2 hr3 hc3 hr4 hc4
  obtain ⟨hs0, hs1, hs2, hs3, hs4⟩ := cells_5 bS
  obtain ⟨ho0, ho1, ho2, ho3, ho4, ho5, ho6⟩ := cells_7 bO
  clear bS bO bZ bA hb4
  obtain ⟨ta, ti⟩ := t
  unfold shv at *
  dsimp only at *
  go_enter Try.func11, Try.ntmps11
  go_wp2_with (go_at_call 22; refine (HCA.out).mono ?_; intro e w5 hpost; obtain ⟨E0, n0', d0, E1, n1', d1, E2, n2', d2, E3, n3', d3, rfl, hv5, hb5⟩ := doOut hpost; clear hpost hs0 hs1 hs2 hs3 hs4 ho0 ho1 ho2 ho3 ho4 ho5 ho6; have ZB7 := Aside0.mk (stay hb5 BZ.out (by rw [HW4.out]; omega)); have AB7 := Aside0.mk (stay hb5 BA.out (by rw [HW4.out]; omega)); obtain ⟨hz0, hz1, hz2, hz3, hz4⟩ := cells_5 ZB7.out; obtain ⟨ha0, ha1, ha2, ha3, ha4⟩ := cells_5 AB7.out; obtain ⟨hy0, hy1, hy2, hy3, hy4⟩ := froz_5 ZB7.out; obtain ⟨hx0, hx1, hx2, hx3, hx4⟩ := froz_5 AB7.out; have HB7 := Aside0.mk (HB4.out.trans (hb5.mono HB4.out.size)); have HV5 := Aside0.mk hv5; clear hv5 hb5)
  refine twoBoxes rfl rfl rfl rfl ZB7.out AB7.out (by omega) ?_
  exact ⟨_, rfl, put5_z HV5.out ZB7.out AB7.out _ _ _ _ _ _ _ _ _ _, put5_below (put5_below HB7.out (show w.heap.size ≤ w.heap.size + 1 + 1 by omega) _ _ _ _ _) (show w.heap.size ≤ w.heap.size + 1 + 1 + 1 by omega) _ _ _ _ _⟩
set_option maxRecDepth 100000 in
set_option maxHeartbeats 8000000 in
theorem do_fin (t : S30) (key : ByteArray) (A4 : Option Addr) (c4 : Nat) (cm : Bool) (A5 : Option Addr) (n5 c5 : Nat) (A0 : Option Addr) (c0 : Nat) (A1 : Option Addr) (c1 : Nat) (A2 : Option Addr) (c2 : Nat) (A3 : Option Addr) (c3 : Nat) (rs : List S50) (hs : List S75) (os : List S48) (ds : List S68) (ver : Int) (w : World) (hr0 : Kd.C k50 w A0 rs.length rs) (hc0 : rs.length ≤ c0) (hr1 : Kd.C k75 w A1 hs.length hs) (hc1 : hs.length ≤ c1) (hr2 : Kd.C k48 w A2 os.length os) (hc2 : os.length ≤ c2) (hr3 : Kd.C k68 w A3 ds.length ds) (hc3 : ds.length ≤ c3) (ps : List S54) (hr4 : Kd.C k54 w A4 ps.length ps) (hc4 : ps.length ≤ c4) (hlim : ShdLim ⟨rs, hs, os, ds, ver⟩) (hrl : rs.length ≤ 2000000000000) :
    Calls Try.prog 11 #[.agg (shv A0 rs.length c0 A1 hs.length c1 A2 os.length c2 A3 ds.length c3 ver), .agg #[.int .i64 4, .int .u64 t.f0, .int .u64 t.f1, .string key, .slice A4 ps.length c4, .bool cm, .slice A5 n5 c5]] w (DoPost w (finsV ⟨rs, hs, os, ds, ver⟩ t cm)) := by
  obtain ⟨bS, bO, bZ, bA⟩ := alloc4 w (.cells #[.slice A0 rs.length c0, .slice A1 hs.length c1, .slice A2 os.length c2, .slice A3 ds.length c3, .int .u64 ver] 28) (.cells #[.int .i64 4, .int .u64 t.f0, .int .u64 t.f1, .string key, .slice A4 ps.length c4, .bool cm, .slice A5 n5 c5] 34) (.cells #[.slice none 0 0, .slice none 0 0, .slice none 0 0, .slice none 0 0, .int .u64 0] 28) (.cells #[.int .i64 0, .string ⟨#[]⟩, .int .u64 0, .bool false, .bool false] 38)
  have hb4 : Below w.heap.size w ((((w.alloc (.cells #[.slice A0 rs.length c0, .slice A1 hs.length c1, .slice A2 os.length c2, .slice A3 ds.length c3, .int .u64 ver] 28)).alloc (.cells #[.int .i64 4, .int .u64 t.f0, .int .u64 t.f1, .string key, .slice A4 ps.length c4, .bool cm, .slice A5 n5 c5] 34)).alloc (.cells #[.slice none 0 0, .slice none 0 0, .slice none 0 0, .slice none 0 0, .int .u64 0] 28)).alloc (.cells #[.int .i64 0, .string ⟨#[]⟩, .int .u64 0, .bool false, .bool false] 38)) := ((((Below.refl w.heap.size w).alloc (Nat.le_refl _) _).alloc (by simp) _).alloc (by simp; omega) _).alloc (by simp; omega) _
  have HW4 : Aside0 (((((w.alloc (.cells #[.slice A0 rs.length c0, .slice A1 hs.length c1, .slice A2 os.length c2, .slice A3 ds.length c3, .int .u64 ver] 28)).alloc (.cells #[.int .i64 4, .int .u64 t.f0, .int .u64 t.f1, .string key, .slice A4 ps.length c4, .bool cm, .slice A5 n5 c5] 34)).alloc (.cells #[.slice none 0 0, .slice none 0 0, .slice none 0 0, .slice none 0 0, .int .u64 0] 28)).alloc (.cells #[.int .i64 0, .string ⟨#[]⟩, .int .u64 0, .bool false, .bool false] 38)).heap.size = w.heap.size + 1 + 1 + 1 + 1) := ⟨by simp⟩
  have BZ := Aside0.mk bZ
  have BA := Aside0.mk bA
  have HB4 := Aside0.mk hb4
  have HCA := Aside0.mk (fin_calls 4 t key A4 ps.length c4 cm A5 n5 c5 A0 c0 A1 c1 A2 c2 A3 c3 rs hs os ds ver _ (Kd.C_below hr0 hb4) hc0 (Kd.C_below hr1 hb4) hc1 (Kd.C_below hr2 hb4) hc2 (Kd.C_below hr3 hb4) hc3 hlim hrl)
  generalize finsV ⟨rs, hs, os, ds, ver⟩ t cm = R at *
  clear hr0 hc0 hr1 hc1 hr2 hc2 hr3 hc3 hr4 hc4
  obtain ⟨hs0, hs1, hs2, hs3, hs4⟩ := cells_5 bS
  obtain ⟨ho0, ho1, ho2, ho3, ho4, ho5, ho6⟩ := cells_7 bO
  clear bS bO bZ bA hb4
  obtain ⟨ta, ti⟩ := t
  unfold shv at *
  dsimp only at *
  go_enter Try.func11, Try.ntmps11
  go_wp2_with (go_at_call 23; refine (HCA.out).mono ?_; intro e w5 hpost; obtain ⟨E0, n0', d0, E1, n1', d1, E2, n2', d2, E3, n3', d3, rfl, hv5, hb5⟩ := doOut hpost; clear hpost hs0 hs1 hs2 hs3 hs4 ho0 ho1 ho2 ho3 ho4 ho5 ho6; have ZB7 := Aside0.mk (stay hb5 BZ.out (by rw [HW4.out]; omega)); have AB7 := Aside0.mk (stay hb5 BA.out (by rw [HW4.out]; omega)); obtain ⟨hz0, hz1, hz2, hz3, hz4⟩ := cells_5 ZB7.out; obtain ⟨ha0, ha1, ha2, ha3, ha4⟩ := cells_5 AB7.out; obtain ⟨hy0, hy1, hy2, hy3, hy4⟩ := froz_5 ZB7.out; obtain ⟨hx0, hx1, hx2, hx3, hx4⟩ := froz_5 AB7.out; have HB7 := Aside0.mk (HB4.out.trans (hb5.mono HB4.out.size)); have HV5 := Aside0.mk hv5; clear hv5 hb5)
  refine twoBoxes rfl rfl rfl rfl ZB7.out AB7.out (by omega) ?_
  exact ⟨_, rfl, put5_z HV5.out ZB7.out AB7.out _ _ _ _ _ _ _ _ _ _, put5_below (put5_below HB7.out (show w.heap.size ≤ w.heap.size + 1 + 1 by omega) _ _ _ _ _) (show w.heap.size ≤ w.heap.size + 1 + 1 + 1 by omega) _ _ _ _ _⟩
set_option maxRecDepth 100000 in
set_option maxHeartbeats 8000000 in
theorem do_else (kind : Int) (t : S30) (key : ByteArray) (A4 : Option Addr) (c4 : Nat) (cm : Bool) (A5 : Option Addr) (n5 c5 : Nat) (A0 : Option Addr) (c0 : Nat) (A1 : Option Addr) (c1 : Nat) (A2 : Option Addr) (c2 : Nat) (A3 : Option Addr) (c3 : Nat) (rs : List S50) (hs : List S75) (os : List S48) (ds : List S68) (ver : Int) (w : World) (hr0 : Kd.C k50 w A0 rs.length rs) (hc0 : rs.length ≤ c0) (hr1 : Kd.C k75 w A1 hs.length hs) (hc1 : hs.length ≤ c1) (hr2 : Kd.C k48 w A2 os.length os) (hc2 : os.length ≤ c2) (hr3 : Kd.C k68 w A3 ds.length ds) (hc3 : ds.length ≤ c3) (ps : List S54) (hr4 : Kd.C k54 w A4 ps.length ps) (hc4 : ps.length ≤ c4) (hk1 : kind ≠ 1) (hk2 : kind ≠ 2) (hk3 : kind ≠ 3) (hk4 : kind ≠ 4) :
    Calls Try.prog 11 #[.agg (shv A0 rs.length c0 A1 hs.length c1 A2 os.length c2 A3 ds.length c3 ver), .agg #[.int .i64 kind, .int .u64 t.f0, .int .u64 t.f1, .string key, .slice A4 ps.length c4, .bool cm, .slice A5 n5 c5]] w (DoPost w ((⟨rs, hs, os, ds, ver⟩, errA 1))) := by
  obtain ⟨bS, bO, bZ, bA⟩ := alloc4 w (.cells #[.slice A0 rs.length c0, .slice A1 hs.length c1, .slice A2 os.length c2, .slice A3 ds.length c3, .int .u64 ver] 28) (.cells #[.int .i64 kind, .int .u64 t.f0, .int .u64 t.f1, .string key, .slice A4 ps.length c4, .bool cm, .slice A5 n5 c5] 34) (.cells #[.slice none 0 0, .slice none 0 0, .slice none 0 0, .slice none 0 0, .int .u64 0] 28) (.cells #[.int .i64 0, .string ⟨#[]⟩, .int .u64 0, .bool false, .bool false] 38)
  have hb4 : Below w.heap.size w ((((w.alloc (.cells #[.slice A0 rs.length c0, .slice A1 hs.length c1, .slice A2 os.length c2, .slice A3 ds.length c3, .int .u64 ver] 28)).alloc (.cells #[.int .i64 kind, .int .u64 t.f0, .int .u64 t.f1, .string key, .slice A4 ps.length c4, .bool cm, .slice A5 n5 c5] 34)).alloc (.cells #[.slice none 0 0, .slice none 0 0, .slice none 0 0, .slice none 0 0, .int .u64 0] 28)).alloc (.cells #[.int .i64 0, .string ⟨#[]⟩, .int .u64 0, .bool false, .bool false] 38)) := ((((Below.refl w.heap.size w).alloc (Nat.le_refl _) _).alloc (by simp) _).alloc (by simp; omega) _).alloc (by simp; omega) _
  have HW4 : Aside0 (((((w.alloc (.cells #[.slice A0 rs.length c0, .slice A1 hs.length c1, .slice A2 os.length c2, .slice A3 ds.length c3, .int .u64 ver] 28)).alloc (.cells #[.int .i64 kind, .int .u64 t.f0, .int .u64 t.f1, .string key, .slice A4 ps.length c4, .bool cm, .slice A5 n5 c5] 34)).alloc (.cells #[.slice none 0 0, .slice none 0 0, .slice none 0 0, .slice none 0 0, .int .u64 0] 28)).alloc (.cells #[.int .i64 0, .string ⟨#[]⟩, .int .u64 0, .bool false, .bool false] 38)).heap.size = w.heap.size + 1 + 1 + 1 + 1) := ⟨by simp⟩
  have BZ := Aside0.mk bZ
  have BA := Aside0.mk bA
  have HB4 := Aside0.mk hb4
  have HCA := Aside0.mk (fun (W : World) => shardNo2 A0 rs.length c0 A1 hs.length c1 A2 os.length c2 A3 ds.length c3 ver 1 W)
  have HR0 := Aside0.mk hr0
  have HR1 := Aside0.mk hr1
  have HR2 := Aside0.mk hr2
  have HR3 := Aside0.mk hr3
  have HC0 := Aside0.mk hc0
  have HC1 := Aside0.mk hc1
  have HC2 := Aside0.mk hc2
  have HC3 := Aside0.mk hc3
  clear hr0 hc0 hr1 hc1 hr2 hc2 hr3 hc3 hr4 hc4
  obtain ⟨hs0, hs1, hs2, hs3, hs4⟩ := cells_5 bS
  obtain ⟨ho0, ho1, ho2, ho3, ho4, ho5, ho6⟩ := cells_7 bO
  clear bS bO bZ bA hb4
  obtain ⟨ta, ti⟩ := t
  unfold shv at *
  dsimp only at *
  go_enter Try.func11, Try.ntmps11
  go_wp2_with (go_at_call 24; refine (HCA.out _).mono ?_; rintro e w5 ⟨rfl, hb5⟩; clear hs0 hs1 hs2 hs3 hs4 ho0 ho1 ho2 ho3 ho4 ho5 ho6; have ZB7 := Aside0.mk (stay hb5 BZ.out (by rw [HW4.out]; omega)); have AB7 := Aside0.mk (stay hb5 BA.out (by rw [HW4.out]; omega)); obtain ⟨hz0, hz1, hz2, hz3, hz4⟩ := cells_5 ZB7.out; obtain ⟨ha0, ha1, ha2, ha3, ha4⟩ := cells_5 AB7.out; obtain ⟨hy0, hy1, hy2, hy3, hy4⟩ := froz_5 ZB7.out; obtain ⟨hx0, hx1, hx2, hx3, hx4⟩ := froz_5 AB7.out; have HB7 := Aside0.mk (HB4.out.trans (hb5.mono HB4.out.size)); clear hb5)
  refine twoBoxes rfl rfl rfl rfl ZB7.out AB7.out (by omega) ?_
  exact DoPost_same HR0.out HC0.out HR1.out HC1.out HR2.out HC2.out HR3.out HC3.out (put5_below (put5_below HB7.out (show w.heap.size ≤ w.heap.size + 1 + 1 by omega) _ _ _ _ _) (show w.heap.size ≤ w.heap.size + 1 + 1 + 1 by omega) _ _ _ _ _) _ _ _ _ _
structure ShdOk (s : Shd) : Prop where
  lim : ShdLim s
  keys : ShdKeys s
  rl : s.rows.length ≤ 2000000000000
theorem do_calls (kind : Int) (t : S30) (key : ByteArray) (A4 : Option Addr) (c4 : Nat) (cm : Bool) (A5 : Option Addr) (n5 c5 : Nat) (A0 : Option Addr) (c0 : Nat) (A1 : Option Addr) (c1 : Nat) (A2 : Option Addr) (c2 : Nat) (A3 : Option Addr) (c3 : Nat) (rs : List S50) (hs : List S75) (os : List S48) (ds : List S68) (ver : Int) (w : World) (hr0 : Kd.C k50 w A0 rs.length rs) (hc0 : rs.length ≤ c0) (hr1 : Kd.C k75 w A1 hs.length hs) (hc1 : hs.length ≤ c1) (hr2 : Kd.C k48 w A2 os.length os) (hc2 : os.length ≤ c2) (hr3 : Kd.C k68 w A3 ds.length ds) (hc3 : ds.length ≤ c3) (ps : List S54) (hr4 : Kd.C k54 w A4 ps.length ps) (hc4 : ps.length ≤ c4) (hok : ShdOk ⟨rs, hs, os, ds, ver⟩) :
    Calls Try.prog 11 #[.agg (shv A0 rs.length c0 A1 hs.length c1 A2 os.length c2 A3 ds.length c3 ver), .agg #[.int .i64 kind, .int .u64 t.f0, .int .u64 t.f1, .string key, .slice A4 ps.length c4, .bool cm, .slice A5 n5 c5]] w (DoPost w (doS ⟨rs, hs, os, ds, ver⟩ kind t key ps cm)) := by
  unfold doS
  by_cases h1 : kind = 1
  · subst h1
    rw [if_pos (.inl rfl)]
    exact do_ask1 t key A4 c4 cm A5 n5 c5 A0 c0 A1 c1 A2 c2 A3 c3 rs hs os ds ver w hr0 hc0 hr1 hc1 hr2 hc2 hr3 hc3 ps hr4 hc4 hok.lim
  by_cases h2 : kind = 2
  · subst h2
    rw [if_pos (.inr rfl)]
    exact do_ask2 t key A4 c4 cm A5 n5 c5 A0 c0 A1 c1 A2 c2 A3 c3 rs hs os ds ver w hr0 hc0 hr1 hc1 hr2 hc2 hr3 hc3 ps hr4 hc4 hok.lim
  rw [if_neg (fun h => h.elim h1 h2)]
  by_cases h3 : kind = 3
  · subst h3
    rw [if_pos rfl]
    exact do_prep t key A4 c4 cm A5 n5 c5 A0 c0 A1 c1 A2 c2 A3 c3 rs hs os ds ver w hr0 hc0 hr1 hc1 hr2 hc2 hr3 hc3 ps hr4 hc4 hok.lim hok.keys
  rw [if_neg h3]
  by_cases h4 : kind = 4
  · subst h4
    rw [if_pos rfl]
    exact do_fin t key A4 c4 cm A5 n5 c5 A0 c0 A1 c1 A2 c2 A3 c3 rs hs os ds ver w hr0 hc0 hr1 hc1 hr2 hc2 hr3 hc3 ps hr4 hc4 hok.lim hok.rl
  rw [if_neg h4]
  exact do_else kind t key A4 c4 cm A5 n5 c5 A0 c0 A1 c1 A2 c2 A3 c3 rs hs os ds ver w hr0 hc0 hr1 hc1 hr2 hc2 hr3 hc3 ps hr4 hc4 h1 h2 h3 h4
end Go.Proofs.Ytmcgcdpiceikeaa.PAll
end
section
/- Plain laws of shards: keys as sets; locks. -/
namespace Go.Proofs.Ytmcgcdpiceikeaa.PAll
open Go.RowKit Go.Proofs.YtmcgcdpiceikeaaW.PrintWords Go.Proofs.YtmcgcdpiceikeaaW.PrintMore Go.Proofs.Ytmcgcdpiceikeaa
set_option linter.unusedVariables false
set_option linter.unusedSimpArgs false
theorem same_iff {a b : S30} : sameTx a b = true ↔ a = b := by
  obtain ⟨a0, a1⟩ := a
  obtain ⟨b0, b1⟩ := b
  unfold sameTx
  simp
theorem same_false {a b : S30} : sameTx a b = false ↔ a ≠ b := by
  rw [Ne, ← same_iff]
  simp
theorem nodup_len {α : Type} : ∀ {l m : List α}, l.Nodup → (∀ x ∈ l, x ∈ m) → l.length ≤ m.length
  | [], _, _, _ => Nat.zero_le _
  | x :: r, m, hn, h => by
    rw [List.nodup_cons] at hn
    obtain ⟨a, b, rfl⟩ := List.append_of_mem (h x (List.mem_cons_self ..))
    have ih := nodup_len (l := r) (m := a ++ b) hn.2 (fun y hy => by
      have := h y (List.mem_cons_of_mem _ hy)
      rcases List.mem_append.1 this with h1 | h1
      · exact List.mem_append.2 (.inl h1)
      · rcases List.mem_cons.1 h1 with h2 | h2
        · subst h2; exact absurd hy hn.1
        · exact List.mem_append.2 (.inr h2))
    rw [List.length_cons, List.length_append, List.length_cons]
    rw [List.length_append] at ih
    omega
theorem withV_mem {l : List ByteArray} {k k' : ByteArray} : k' ∈ withV l k ↔ k' ∈ l ∨ k' = k := by
  unfold withV
  split
  · rename_i h
    exact ⟨.inl, fun h' => h'.elim id (fun e => e ▸ h)⟩
  · simp
theorem withV_nodup {l : List ByteArray} {k : ByteArray} (h : l.Nodup) : (withV l k).Nodup := by
  unfold withV
  split
  · exact h
  · rename_i hk
    rw [List.nodup_append]
    exact ⟨h, by simp, fun a ha b hb e => hk (by rw [List.mem_singleton.1 hb] at e; exact e ▸ ha)⟩
theorem addPuts_spec : ∀ (ps : List S54) (acc : List ByteArray), acc.Nodup → (addPuts acc ps).Nodup ∧ ∀ k, k ∈ addPuts acc ps ↔ k ∈ acc ∨ ∃ p ∈ ps, p.f2 = false ∧ p.f0 = k
  | [], acc, h => ⟨h, fun k => by simp [addPuts]⟩
  | p :: r, acc, h => by
    rw [show addPuts acc (p :: r) = addPuts (if p.f2 = true then acc else withV acc p.f0) r from rfl]
    cases hp : p.f2 with
    | true =>
      rw [if_pos rfl]
      obtain ⟨h1, h2⟩ := addPuts_spec r acc h
      refine ⟨h1, fun k => ?_⟩
      rw [h2]
      simp [hp]
    | false =>
      rw [if_neg (by decide)]
      obtain ⟨h1, h2⟩ := addPuts_spec r (withV acc p.f0) (withV_nodup h)
      refine ⟨h1, fun k => ?_⟩
      rw [h2, withV_mem]
      simp only [List.mem_cons, exists_eq_or_imp, hp, true_and]
      constructor
      · rintro ((h | h) | h)
        · exact .inl h
        · exact .inr (.inl h.symm)
        · exact .inr (.inr h)
      · rintro (h | h | h)
        · exact .inl (.inl h)
        · exact .inl (.inr h.symm)
        · exact .inr h
theorem openKeys_spec : ∀ (l : List S48) (acc : List ByteArray), acc.Nodup → (openKeys acc l).Nodup ∧ ∀ k, k ∈ openKeys acc l ↔ k ∈ acc ∨ ∃ x ∈ l, x.f1 = true ∧ ∃ p ∈ x.f3, p.f2 = false ∧ p.f0 = k
  | [], acc, h => ⟨h, fun k => by simp [openKeys]⟩
  | x :: r, acc, h => by
    rw [show openKeys acc (x :: r) = openKeys (if x.f1 = true then addPuts acc x.f3 else acc) r from rfl]
    cases hx : x.f1 with
    | true =>
      rw [if_pos rfl]
      obtain ⟨a1, a2⟩ := addPuts_spec x.f3 acc h
      obtain ⟨h1, h2⟩ := openKeys_spec r _ a1
      refine ⟨h1, fun k => ?_⟩
      rw [h2, a2]
      simp only [List.mem_cons, exists_eq_or_imp, hx, true_and, or_assoc]
    | false =>
      rw [if_neg (by decide)]
      obtain ⟨h1, h2⟩ := openKeys_spec r acc h
      refine ⟨h1, fun k => ?_⟩
      rw [h2]
      simp [hx]
theorem rowsFrom_spec : ∀ (l : List S50) (acc : List ByteArray), acc.Nodup → (l.foldl (fun a r => withV a r.f0) acc).Nodup ∧ ∀ k, k ∈ l.foldl (fun a r => withV a r.f0) acc ↔ k ∈ acc ∨ ∃ r ∈ l, r.f0 = k
  | [], acc, h => ⟨h, fun k => by simp⟩
  | x :: r, acc, h => by
    rw [List.foldl_cons]
    obtain ⟨h1, h2⟩ := rowsFrom_spec r (withV acc x.f0) (withV_nodup h)
    refine ⟨h1, fun k => ?_⟩
    rw [h2, withV_mem]
    simp only [List.mem_cons, exists_eq_or_imp]
    constructor
    · rintro ((h | h) | h)
      · exact .inl h
      · exact .inr (.inl h.symm)
      · exact .inr (.inr h)
    · rintro (h | h | h)
      · exact .inl (.inl h)
      · exact .inl (.inr h.symm)
      · exact .inr h
/-- The keys that there may be. -/
def inKeys (rs : List S50) (os : List S48) (ps : List S54) (k : ByteArray) : Prop :=
  (∃ r ∈ rs, r.f0 = k) ∨ (∃ x ∈ os, x.f1 = true ∧ ∃ p ∈ x.f3, p.f2 = false ∧ p.f0 = k) ∨ ∃ p ∈ ps, p.f2 = false ∧ p.f0 = k
theorem keys_spec (rs : List S50) (os : List S48) (ps : List S54) : (addPuts (openKeys (rowKeys rs) os) ps).Nodup ∧ ∀ k, k ∈ addPuts (openKeys (rowKeys rs) os) ps ↔ inKeys rs os ps k := by
  obtain ⟨a1, a2⟩ := rowsFrom_spec rs [] List.nodup_nil
  obtain ⟨b1, b2⟩ := openKeys_spec os (rowKeys rs) a1
  obtain ⟨c1, c2⟩ := addPuts_spec ps _ b1
  refine ⟨c1, fun k => ?_⟩
  rw [c2, b2]
  unfold rowKeys inKeys
  rw [a2]
  simp [or_assoc]
theorem keysV_le {rs rs' : List S50} {os os' : List S48} {ps ps' : List S54} (h : ∀ k, inKeys rs' os' ps' k → inKeys rs os ps k) : keysV rs' os' ps' ≤ keysV rs os ps := by
  obtain ⟨a1, a2⟩ := keys_spec rs' os' ps'
  obtain ⟨b1, b2⟩ := keys_spec rs os ps
  exact nodup_len a1 (fun k hk => (b2 k).2 (h k ((a2 k).1 hk)))
/-- No locks in each other's way, none twice. -/
structure RightL (l : List S75) : Prop where
  nd : (l.map (fun x => (x.f1, x.f0.toList))).Nodup
  way : ∀ x ∈ l, ∀ y ∈ l, inWayB y x.f1 x.f0 x.f2 = false
theorem RightL.filter {l : List S75} (h : RightL l) (p : S75 → Bool) : RightL (l.filter p) :=
  ⟨h.nd.sublist ((List.filter_sublist).map _), fun x hx y hy => h.way x (List.mem_filter.1 hx).1 y (List.mem_filter.1 hy).1⟩
theorem hasTx_iff {l : List S30} {t : S30} : hasTx l t = true ↔ t ∈ l := by
  unfold hasTx
  rw [List.any_eq_true]
  constructor
  · rintro ⟨x, hx, e⟩
    rw [same_iff] at e
    exact e ▸ hx
  · intro h
    exact ⟨t, h, same_iff.2 rfl⟩
theorem hasTx_not {l : List S30} {t : S30} : hasTx l t = false ↔ t ∉ l := by
  rw [← hasTx_iff]
  simp
theorem goAsk_spec (t : S30) (key : ByteArray) (wr : Bool) (firm : List S30) : ∀ (l : List S75) (out out' : List S30), goAsk t key wr firm l out = some out' →
    (∀ y ∈ out, y ∈ out') ∧ (∀ x ∈ l, inWayB x t key wr = true → x.f1 ∈ out') ∧ (∀ y ∈ out', y ∈ out ∨ (y ∉ firm ∧ y ≠ t))
  | [], out, out', h => by
    cases h
    exact ⟨fun y hy => hy, fun x hx => (by cases hx), fun y hy => .inl hy⟩
  | x :: r, out, out', h => by
    unfold goAsk at h
    by_cases c1 : inWayB x t key wr = true
    · rw [if_pos c1] at h
      by_cases c2 : (hasTx firm x.f1 || !elderB t x.f1) = true
      · rw [if_pos c2] at h; cases h
      · rw [if_neg c2] at h
        obtain ⟨h1, h2, h3⟩ := goAsk_spec t key wr firm r _ out' h
        have hx : x.f1 ∈ out' := by
          apply h1
          split
          · rename_i c; exact hasTx_iff.1 c
          · simp
        have hne : x.f1 ≠ t := by
          unfold inWayB at c1
          simp only [Bool.and_eq_true, Bool.not_eq_true'] at c1
          exact same_false.1 c1.2.1
        have hnf : x.f1 ∉ firm := by
          rw [Bool.or_eq_true, not_or] at c2
          exact fun hm => c2.1 (hasTx_iff.2 hm)
        refine ⟨fun y hy => h1 y (by split <;> simp [hy]), fun z hz hw => ?_, fun y hy => ?_⟩
        · rcases List.mem_cons.1 hz with rfl | hz
          · exact hx
          · exact h2 z hz hw
        · rcases h3 y hy with h4 | h4
          · split at h4
            · exact .inl h4
            · rcases List.mem_append.1 h4 with h5 | h5
              · exact .inl h5
              · rw [List.mem_singleton.1 h5]; exact .inr ⟨hnf, hne⟩
          · exact .inr h4
    · rw [if_neg c1] at h
      obtain ⟨h1, h2, h3⟩ := goAsk_spec t key wr firm r out out' h
      refine ⟨h1, fun z hz hw => ?_, h3⟩
      rcases List.mem_cons.1 hz with rfl | hz
      · exact absurd hw c1
      · exact h2 z hz hw
theorem inWay_sym (x y : S75) : inWayB y x.f1 x.f0 x.f2 = inWayB x y.f1 y.f0 y.f2 := by
  unfold inWayB
  rw [Bool.eq_iff_iff]
  simp only [Bool.and_eq_true, beq_iff_eq, Bool.not_eq_true', same_false, Bool.or_eq_true]
  constructor
  · rintro ⟨a, b, c⟩; exact ⟨a.symm, fun e => b e.symm, c.symm⟩
  · rintro ⟨a, b, c⟩; exact ⟨a.symm, fun e => b e.symm, c.symm⟩
theorem inWay_self (x : S75) (t : S30) (k : ByteArray) (w : Bool) (h : x.f1 = t) : inWayB x t k w = false := by
  unfold inWayB
  rw [same_iff.2 h]
  simp
theorem isHK_iff {t : S30} {key : ByteArray} {x : S75} : isHK t key x = true ↔ x.f1 = t ∧ x.f0.toList = key.toList := by
  unfold isHK
  rw [Bool.and_eq_true, same_iff, beq_iff_eq]
theorem findI_bang {α : Type} [Inhabited α] {p : α → Bool} {l : List α} {i : Nat} (hi : i < l.length) (h : findI p l = (i : Int)) : p (l[i]!) = true := by
  unfold findI at h
  by_cases c : l.findIdx p < l.length
  · rw [if_pos c] at h
    have := List.findIdx_getElem (w := c)
    have e : l.findIdx p = i := by omega
    rw [getElem!_pos l i hi]
    subst e
    exact this
  · rw [if_neg c] at h; omega
theorem findI_all {α : Type} {p : α → Bool} {l : List α} (h : ¬ 0 ≤ findI p l) : ∀ x ∈ l, p x = false := fun x hx => by
  cases hp : p x with
  | false => rfl
  | true =>
    exfalso
    apply h
    unfold findI
    rw [if_pos (List.findIdx_lt_length.2 ⟨x, hx, hp⟩)]
    omega
theorem findI_any {α : Type} {p : α → Bool} {l : List α} {x : α} (hx : x ∈ l) (hp : p x = true) : 0 ≤ findI p l := by
  unfold findI
  rw [if_pos (List.findIdx_lt_length.2 ⟨x, hx, hp⟩)]
  omega
end Go.Proofs.Ytmcgcdpiceikeaa.PAll
end
