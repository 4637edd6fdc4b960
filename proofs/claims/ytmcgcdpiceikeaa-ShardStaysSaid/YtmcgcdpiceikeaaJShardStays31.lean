/- Joined texts of the claim ShardStays (part 31): contracts of functions and plain laws. -/
import Derived.Test.YtmcgcdpiceikeaaJShardStays30
import Derived.BigRegion
import Derived.Test.YtmcgcdpiceikeaaJShardStays13
import Derived.Test.YtmcgcdpiceikeaaJShardStays21
import Derived.Test.YtmcgcdpiceikeaaJShardStays28
set_option linter.unusedVariables false
set_option linter.unusedSimpArgs false
section
namespace Go.Proofs.Ytmcgcdpiceikeaa.PAll
open Go.RowKit Go.Proofs.YtmcgcdpiceikeaaW.PrintWords Go.Proofs.YtmcgcdpiceikeaaW.PrintMore Go.Proofs.Ytmcgcdpiceikeaa
def asksV (s : Shd) (kind : Int) (t : S30) (key : ByteArray) : Shd × Ans :=
  if 0 ≤ findI (qz25 t) s.dones then (s, ⟨13, ⟨#[]⟩, 0, false, (overV s.dones t).f1⟩)
  else if key.size < 1 ∨ 16 < key.size then (s, errA 1)
  else if 0 ≤ findI (qz16 t) s.opens ∧ (s.opens[(findI (qz16 t) s.opens).toNat]!).f2 = true then (s, errA 12)
  else if 0 ≤ findI (qz16 t) s.opens ∧ (s.opens[(findI (qz16 t) s.opens).toNat]!).f1 = true then (s, errA 9)
  else if findI (qz16 t) s.opens < 0 ∧ 64 ≤ s.opens.length + s.dones.length then (s, errA 5)
  else if (askV s.holds t key (kind == 2) (firmV s.opens)).2.2 ≠ 0 then (s, errA (askV s.holds t key (kind == 2) (firmV s.opens)).2.2)
  else (⟨s.rows, (askV s.holds t key (kind == 2) (firmV s.opens)).1, s.opens.map (woundV (askV s.holds t key (kind == 2) (firmV s.opens)).2.1) ++ (if findI (qz16 t) s.opens < 0 then [⟨t, false, false, []⟩] else []), s.dones, s.ver⟩, ⟨0, (getV s.rows key).2.1, if (getV s.rows key).2.2.2 = true then (getV s.rows key).2.2.1 else s.ver, (getV s.rows key).2.2.2, false⟩)
structure ShdLim (s : Shd) : Prop where
  n : s.opens.length + s.dones.length ≤ 2000000000000
  h : s.holds.length * 40 ≤ 140737488355288
  ok : ∀ x ∈ s.holds, okTx x.f1
  oko : ∀ x ∈ s.opens, okTx x.f0
theorem asks_calls (kind : Int) (t : S30) (key : ByteArray) (A4 : Option Addr) (n4 c4 : Nat) (cm : Bool) (A5 : Option Addr) (n5 c5 : Nat) (A0 : Option Addr) (c0 : Nat) (A1 : Option Addr) (c1 : Nat) (A2 : Option Addr) (c2 : Nat) (A3 : Option Addr) (c3 : Nat) (rs : List S50) (hs : List S75) (os : List S48) (ds : List S68) (ver : Int) (w : World) (hr0 : Kd.C k50 w A0 rs.length rs) (hc0 : rs.length ≤ c0) (hr1 : Kd.C k75 w A1 hs.length hs) (hc1 : hs.length ≤ c1) (hr2 : Kd.C k48 w A2 os.length os) (hc2 : os.length ≤ c2) (hr3 : Kd.C k68 w A3 ds.length ds) (hc3 : ds.length ≤ c3) (hlim : ShdLim ⟨rs, hs, os, ds, ver⟩) :
    Calls Try.prog 21 #[.agg (shv A0 rs.length c0 A1 hs.length c1 A2 os.length c2 A3 ds.length c3 ver), .agg #[.int .i64 kind, .int .u64 t.f0, .int .u64 t.f1, .string key, .slice A4 n4 c4, .bool cm, .slice A5 n5 c5]] w (qz32 w (asksV ⟨rs, hs, os, ds, ver⟩ kind t key)) := by
  have hl := hlim.n
  have hlh := hlim.h
  have hok := hlim.ok
  have hoko := hlim.oko
  dsimp only at hl hlh hok hoko
  unfold asksV
  dsimp only
  by_cases hd : 0 ≤ findI (qz25 t) ds
  · rw [if_pos hd]
    exact asks_over kind t key A4 n4 c4 cm A5 n5 c5 A0 c0 A1 c1 A2 c2 A3 c3 rs hs os ds ver w hr0 hc0 hr1 hc1 hr2 hc2 hr3 hc3 hd
  rw [if_neg hd]
  by_cases hk : key.size < 1 ∨ 16 < key.size
  · rw [if_pos hk]
    rcases hk with hk | hk
    · exact asks_arg1 kind t key A4 n4 c4 cm A5 n5 c5 A0 c0 A1 c1 A2 c2 A3 c3 rs hs os ds ver w hr0 hc0 hr1 hc1 hr2 hc2 hr3 hc3 hd hk
    · exact asks_arg2 kind t key A4 n4 c4 cm A5 n5 c5 A0 c0 A1 c1 A2 c2 A3 c3 rs hs os ds ver w hr0 hc0 hr1 hc1 hr2 hc2 hr3 hc3 hd hk
  rw [if_neg hk]
  have hk1 : 1 ≤ key.size := by omega
  have hk2 : key.size ≤ 16 := by omega
  obtain ⟨g1, g2, g3, g4, hg⟩ : ∃ g1 g2 g3 g4, getV rs key = (g1, g2, g3, g4) := ⟨_, _, _, _, rfl⟩
  obtain ⟨rh, rw_, re, hR⟩ : ∃ rh rw_ re, askV hs t key (kind == 2) (firmV os) = (rh, rw_, re) := ⟨_, _, _, rfl⟩
  rw [hg, hR]
  dsimp only
  rcases Int.lt_or_le (findI (qz16 t) os) 0 with hi | hi
  · have hfi := findI_neg0 _ _ (show ¬ 0 ≤ findI (qz16 t) os by omega)
    rw [if_neg (fun h => absurd h.1 (by omega)), if_neg (fun h => absurd h.1 (by omega))]
    by_cases hf : 64 ≤ os.length + ds.length
    · rw [if_pos ⟨hi, hf⟩]
      exact asks_full kind t key A4 n4 c4 cm A5 n5 c5 A0 c0 A1 c1 A2 c2 A3 c3 rs hs os ds ver w hr0 hc0 hr1 hc1 hr2 hc2 hr3 hc3 hd hk1 hk2 hfi (by omega) hf
    rw [if_neg (fun h => hf h.2), if_pos hi]
    by_cases he : re = 0
    · subst he
      rw [if_neg (fun h => h rfl)]
      cases g4 with
      | true => exact asks_ok_none_t kind t key A4 n4 c4 cm A5 n5 c5 A0 c0 A1 c1 A2 c2 A3 c3 rs hs os ds ver w hr0 hc0 hr1 hc1 hr2 hc2 hr3 hc3 hd hk1 hk2 hfi hf hl hlh hok hoko rh rw_ hR g1 g2 g3 hg
      | false => exact asks_ok_none_f kind t key A4 n4 c4 cm A5 n5 c5 A0 c0 A1 c1 A2 c2 A3 c3 rs hs os ds ver w hr0 hc0 hr1 hc1 hr2 hc2 hr3 hc3 hd hk1 hk2 hfi hf hl hlh hok hoko rh rw_ hR g1 g2 g3 hg
    · rw [if_pos he]
      exact asks_no_none kind t key A4 n4 c4 cm A5 n5 c5 A0 c0 A1 c1 A2 c2 A3 c3 rs hs os ds ver w hr0 hc0 hr1 hc1 hr2 hc2 hr3 hc3 hd hk1 hk2 hfi hf hl hlh hok hoko re (by rw [hR]) he
  · obtain ⟨ii, hii, hfi⟩ := qz56 _ _ hi
    have hn : ¬ findI (qz16 t) os < 0 := by omega
    have hto : (findI (qz16 t) os).toNat = ii := by omega
    rw [hto]
    cases h2 : (os[ii]!).f2 with
    | true =>
      rw [if_pos ⟨hi, rfl⟩]
      exact asks_wound kind t key A4 n4 c4 cm A5 n5 c5 A0 c0 A1 c1 A2 c2 A3 c3 rs hs os ds ver w hr0 hc0 hr1 hc1 hr2 hc2 hr3 hc3 hd hk1 hk2 ii hii hfi _ rfl h2
    | false =>
      rw [if_neg (fun h => absurd h.2 (by decide))]
      cases h1 : (os[ii]!).f1 with
      | true =>
        rw [if_pos ⟨hi, rfl⟩]
        exact asks_order kind t key A4 n4 c4 cm A5 n5 c5 A0 c0 A1 c1 A2 c2 A3 c3 rs hs os ds ver w hr0 hc0 hr1 hc1 hr2 hc2 hr3 hc3 hd hk1 hk2 ii hii hfi h1 h2
      | false =>
        rw [if_neg (fun h => absurd h.2 (by decide)), if_neg (fun h => hn h.1)]
        by_cases he : re = 0
        · subst he
          rw [if_neg (fun h => h rfl), if_neg hn, List.append_nil]
          cases g4 with
          | true => exact asks_ok_at_t kind t key A4 n4 c4 cm A5 n5 c5 A0 c0 A1 c1 A2 c2 A3 c3 rs hs os ds ver w hr0 hc0 hr1 hc1 hr2 hc2 hr3 hc3 hd hk1 hk2 ii hii hfi h1 h2 hl hlh hok hoko rh rw_ hR g1 g2 g3 hg
          | false => exact asks_ok_at_f kind t key A4 n4 c4 cm A5 n5 c5 A0 c0 A1 c1 A2 c2 A3 c3 rs hs os ds ver w hr0 hc0 hr1 hc1 hr2 hc2 hr3 hc3 hd hk1 hk2 ii hii hfi h1 h2 hl hlh hok hoko rh rw_ hR g1 g2 g3 hg
        · rw [if_pos he]
          exact asks_no_at kind t key A4 n4 c4 cm A5 n5 c5 A0 c0 A1 c1 A2 c2 A3 c3 rs hs os ds ver w hr0 hc0 hr1 hc1 hr2 hc2 hr3 hc3 hd hk1 hk2 ii hii hfi h1 h2 hl hlh hok hoko re (by rw [hR]) he
set_option maxRecDepth 100000 in
set_option maxHeartbeats 8000000 in
theorem prep_over (kind : Int) (t : S30) (key : ByteArray) (A4 : Option Addr) (n4 c4 : Nat) (cm : Bool) (A5 : Option Addr) (n5 c5 : Nat) (A0 : Option Addr) (c0 : Nat) (A1 : Option Addr) (c1 : Nat) (A2 : Option Addr) (c2 : Nat) (A3 : Option Addr) (c3 : Nat) (rs : List S50) (hs : List S75) (os : List S48) (ds : List S68) (ver : Int) (w : World) (hr0 : Kd.C k50 w A0 rs.length rs) (hc0 : rs.length ≤ c0) (hr1 : Kd.C k75 w A1 hs.length hs) (hc1 : hs.length ≤ c1) (hr2 : Kd.C k48 w A2 os.length os) (hc2 : os.length ≤ c2) (hr3 : Kd.C k68 w A3 ds.length ds) (hc3 : ds.length ≤ c3) (hd : 0 ≤ findI (qz25 t) ds) :
    Calls Try.prog 22 #[.agg (shv A0 rs.length c0 A1 hs.length c1 A2 os.length c2 A3 ds.length c3 ver), .agg #[.int .i64 kind, .int .u64 t.f0, .int .u64 t.f1, .string key, .slice A4 n4 c4, .bool cm, .slice A5 n5 c5]] w (qz32 w (⟨rs, hs, os, ds, ver⟩, ⟨13, ⟨#[]⟩, 0, false, (overV ds t).f1⟩)) := by
  obtain ⟨bS, bO, bZ, bA⟩ := qz38 w (.cells #[.slice A0 rs.length c0, .slice A1 hs.length c1, .slice A2 os.length c2, .slice A3 ds.length c3, .int .u64 ver] 28) (.cells #[.int .i64 kind, .int .u64 t.f0, .int .u64 t.f1, .string key, .slice A4 n4 c4, .bool cm, .slice A5 n5 c5] 34) (.cells #[.slice none 0 0, .slice none 0 0, .slice none 0 0, .slice none 0 0, .int .u64 0] 28) (.cells #[.int .i64 0, .string ⟨#[]⟩, .int .u64 0, .bool false, .bool false] 38)
  have hb4 : Below w.heap.size w ((((w.alloc (.cells #[.slice A0 rs.length c0, .slice A1 hs.length c1, .slice A2 os.length c2, .slice A3 ds.length c3, .int .u64 ver] 28)).alloc (.cells #[.int .i64 kind, .int .u64 t.f0, .int .u64 t.f1, .string key, .slice A4 n4 c4, .bool cm, .slice A5 n5 c5] 34)).alloc (.cells #[.slice none 0 0, .slice none 0 0, .slice none 0 0, .slice none 0 0, .int .u64 0] 28)).alloc (.cells #[.int .i64 0, .string ⟨#[]⟩, .int .u64 0, .bool false, .bool false] 38)) := ((((Below.refl w.heap.size w).alloc (Nat.le_refl _) _).alloc (by simp) _).alloc (by simp; omega) _).alloc (by simp; omega) _
  have HW4 : qza (((((w.alloc (.cells #[.slice A0 rs.length c0, .slice A1 hs.length c1, .slice A2 os.length c2, .slice A3 ds.length c3, .int .u64 ver] 28)).alloc (.cells #[.int .i64 kind, .int .u64 t.f0, .int .u64 t.f1, .string key, .slice A4 n4 c4, .bool cm, .slice A5 n5 c5] 34)).alloc (.cells #[.slice none 0 0, .slice none 0 0, .slice none 0 0, .slice none 0 0, .int .u64 0] 28)).alloc (.cells #[.int .i64 0, .string ⟨#[]⟩, .int .u64 0, .bool false, .bool false] 38)).heap.size = w.heap.size + 1 + 1 + 1 + 1) := ⟨by simp⟩
  have BS := qza.mk bS
  have BO := qza.mk bO
  have BZ := qza.mk bZ
  have BA := qza.mk bA
  have HB4 := qza.mk hb4
  have HOV := qza.mk (fun (W : World) (h : Below w.heap.size w W) => qz27 A0 rs.length c0 A1 hs.length c1 A2 os.length c2 A3 c3 ver ds t W (Kd.C_below hr3 h) hc3)
  have HKN := qza.mk (fun (W : World) (h : Below w.heap.size w W) => qz24 A0 rs.length c0 A1 hs.length c1 A2 c2 A3 ds.length c3 ver os t W (Kd.C_below hr2 h) hc2)
  have HR0 := qza.mk hr0
  have HR1 := qza.mk hr1
  have HR2 := qza.mk hr2
  have HR3 := qza.mk hr3
  have HC0 := qza.mk hc0
  have HC1 := qza.mk hc1
  have HC2 := qza.mk hc2
  have HC3 := qza.mk hc3
  clear hr0 hc0 hr1 hc1 hr2 hc2 hr3 hc3 bS bO bZ bA hb4
  rw [decide_eq_true hd] at HOV
  clear hd
  generalize overV ds t = dv at *
  obtain ⟨⟨dA, dI⟩, dC⟩ := dv
  obtain ⟨ta, ti⟩ := t
  unfold shv at *
  dsimp only at *
  go_enter Try.func22, Try.ntmps22
  go_wp2_with (first
    | (go_at_call 51; refine (HOV.out _ HB4.out).mono ?_; rintro e w5 ⟨rfl, hb5⟩; have HW5 := qza.mk hb5.size; have SB5 := qza.mk (stay hb5 BS.out (by rw [HW4.out]; omega)); have OB5 := qza.mk (stay hb5 BO.out (by rw [HW4.out]; omega)); have ZB5 := qza.mk (stay hb5 BZ.out (by rw [HW4.out]; omega)); have AB5 := qza.mk (stay hb5 BA.out (by rw [HW4.out]; omega)); obtain ⟨hs0, hs1, hs2, hs3, hs4⟩ := qz4 (stayA SB5.out (.cells #[.int .u64 dA, .int .u64 dI, .bool dC] 68)); obtain ⟨ho0, ho1, ho2, ho3, ho4, ho5, ho6⟩ := qz12 (stayA OB5.out (.cells #[.int .u64 dA, .int .u64 dI, .bool dC] 68)); have HB5 := qza.mk (HB4.out.trans (hb5.mono HB4.out.size)); clear hb5)
    | (go_at_call 52; refine (HKN.out _ (HB5.out.alloc HB5.out.size (.cells #[.int .u64 dA, .int .u64 dI, .bool dC] 68))).mono ?_; rintro e w6 ⟨rfl, hb6⟩; clear hs0 hs1 hs2 hs3 hs4 ho0 ho1 ho2 ho3 ho4 ho5 ho6; have HW6 := qza.mk hb6.size; have SB6 := qza.mk (stay hb6 (stayA SB5.out (.cells #[.int .u64 dA, .int .u64 dI, .bool dC] 68)) (by have := HW4.out; have := HW5.out; simp; omega)); have OB6 := qza.mk (stay hb6 (stayA OB5.out (.cells #[.int .u64 dA, .int .u64 dI, .bool dC] 68)) (by have := HW4.out; have := HW5.out; simp; omega)); have ZB6 := qza.mk (stay hb6 (stayA ZB5.out (.cells #[.int .u64 dA, .int .u64 dI, .bool dC] 68)) (by have := HW4.out; have := HW5.out; simp; omega)); have AB6 := qza.mk (stay hb6 (stayA AB5.out (.cells #[.int .u64 dA, .int .u64 dI, .bool dC] 68)) (by have := HW4.out; have := HW5.out; simp; omega)); have DB6 := qza.mk (stay hb6 (heap_alloc_new w5 (.cells #[.int .u64 dA, .int .u64 dI, .bool dC] 68)) (by simp)); obtain ⟨hs0, hs1, hs2, hs3, hs4⟩ := qz4 SB6.out; obtain ⟨ho0, ho1, ho2, ho3, ho4, ho5, ho6⟩ := qz12 OB6.out; obtain ⟨hd0, hd1, hd2⟩ := qz39 DB6.out; have HB6 := qza.mk ((HB5.out.alloc HB5.out.size (.cells #[.int .u64 dA, .int .u64 dI, .bool dC] 68)).trans (hb6.mono (HB5.out.alloc HB5.out.size (.cells #[.int .u64 dA, .int .u64 dI, .bool dC] 68)).size)); have hn5 : w.heap.size + 1 + 1 + 1 + 1 ≤ w5.heap.size := (by have := HW4.out; have := HW5.out; omega); obtain ⟨hz0, hz1, hz2, hz3, hz4⟩ := qz4 ZB6.out; obtain ⟨ha0, ha1, ha2, ha3, ha4⟩ := qz4 AB6.out; obtain ⟨hy0, hy1, hy2, hy3, hy4⟩ := qz14 ZB6.out; obtain ⟨hx0, hx1, hx2, hx3, hx4⟩ := qz14 AB6.out; clear hb6))
  go_region
  go_wp2
  refine qz51 rfl rfl rfl rfl ZB6.out AB6.out (by omega) ?_
  exact qz30 HR0.out HC0.out HR1.out HC1.out HR2.out HC2.out HR3.out HC3.out (qz7 (qz7 HB6.out (show w.heap.size ≤ w.heap.size + 1 + 1 by omega) _ _ _ _ _) (show w.heap.size ≤ w.heap.size + 1 + 1 + 1 by omega) _ _ _ _ _).drew _ _ _ _ _
set_option maxRecDepth 100000 in
set_option maxHeartbeats 8000000 in
theorem prep_none (kind : Int) (t : S30) (key : ByteArray) (A4 : Option Addr) (n4 c4 : Nat) (cm : Bool) (A5 : Option Addr) (n5 c5 : Nat) (A0 : Option Addr) (c0 : Nat) (A1 : Option Addr) (c1 : Nat) (A2 : Option Addr) (c2 : Nat) (A3 : Option Addr) (c3 : Nat) (rs : List S50) (hs : List S75) (os : List S48) (ds : List S68) (ver : Int) (w : World) (hr0 : Kd.C k50 w A0 rs.length rs) (hc0 : rs.length ≤ c0) (hr1 : Kd.C k75 w A1 hs.length hs) (hc1 : hs.length ≤ c1) (hr2 : Kd.C k48 w A2 os.length os) (hc2 : os.length ≤ c2) (hr3 : Kd.C k68 w A3 ds.length ds) (hc3 : ds.length ≤ c3) (hd : ¬ 0 ≤ findI (qz25 t) ds) (hfi : findI (qz16 t) os = -1) :
    Calls Try.prog 22 #[.agg (shv A0 rs.length c0 A1 hs.length c1 A2 os.length c2 A3 ds.length c3 ver), .agg #[.int .i64 kind, .int .u64 t.f0, .int .u64 t.f1, .string key, .slice A4 n4 c4, .bool cm, .slice A5 n5 c5]] w (qz32 w (⟨rs, hs, os, ds, ver⟩, errA 7)) := by
  obtain ⟨bS, bO, bZ, bA⟩ := qz38 w (.cells #[.slice A0 rs.length c0, .slice A1 hs.length c1, .slice A2 os.length c2, .slice A3 ds.length c3, .int .u64 ver] 28) (.cells #[.int .i64 kind, .int .u64 t.f0, .int .u64 t.f1, .string key, .slice A4 n4 c4, .bool cm, .slice A5 n5 c5] 34) (.cells #[.slice none 0 0, .slice none 0 0, .slice none 0 0, .slice none 0 0, .int .u64 0] 28) (.cells #[.int .i64 0, .string ⟨#[]⟩, .int .u64 0, .bool false, .bool false] 38)
  have hb4 : Below w.heap.size w ((((w.alloc (.cells #[.slice A0 rs.length c0, .slice A1 hs.length c1, .slice A2 os.length c2, .slice A3 ds.length c3, .int .u64 ver] 28)).alloc (.cells #[.int .i64 kind, .int .u64 t.f0, .int .u64 t.f1, .string key, .slice A4 n4 c4, .bool cm, .slice A5 n5 c5] 34)).alloc (.cells #[.slice none 0 0, .slice none 0 0, .slice none 0 0, .slice none 0 0, .int .u64 0] 28)).alloc (.cells #[.int .i64 0, .string ⟨#[]⟩, .int .u64 0, .bool false, .bool false] 38)) := ((((Below.refl w.heap.size w).alloc (Nat.le_refl _) _).alloc (by simp) _).alloc (by simp; omega) _).alloc (by simp; omega) _
  have HW4 : qza (((((w.alloc (.cells #[.slice A0 rs.length c0, .slice A1 hs.length c1, .slice A2 os.length c2, .slice A3 ds.length c3, .int .u64 ver] 28)).alloc (.cells #[.int .i64 kind, .int .u64 t.f0, .int .u64 t.f1, .string key, .slice A4 n4 c4, .bool cm, .slice A5 n5 c5] 34)).alloc (.cells #[.slice none 0 0, .slice none 0 0, .slice none 0 0, .slice none 0 0, .int .u64 0] 28)).alloc (.cells #[.int .i64 0, .string ⟨#[]⟩, .int .u64 0, .bool false, .bool false] 38)).heap.size = w.heap.size + 1 + 1 + 1 + 1) := ⟨by simp⟩
  have BS := qza.mk bS
  have BO := qza.mk bO
  have BZ := qza.mk bZ
  have BA := qza.mk bA
  have HB4 := qza.mk hb4
  have HOV := qza.mk (fun (W : World) (h : Below w.heap.size w W) => qz27 A0 rs.length c0 A1 hs.length c1 A2 os.length c2 A3 c3 ver ds t W (Kd.C_below hr3 h) hc3)
  have HKN := qza.mk (fun (W : World) (h : Below w.heap.size w W) => qz24 A0 rs.length c0 A1 hs.length c1 A2 c2 A3 ds.length c3 ver os t W (Kd.C_below hr2 h) hc2)
  have HR0 := qza.mk hr0
  have HR1 := qza.mk hr1
  have HR2 := qza.mk hr2
  have HR3 := qza.mk hr3
  have HC0 := qza.mk hc0
  have HC1 := qza.mk hc1
  have HC2 := qza.mk hc2
  have HC3 := qza.mk hc3
  clear hr0 hc0 hr1 hc1 hr2 hc2 hr3 hc3 bS bO bZ bA hb4
  rw [decide_eq_false hd] at HOV
  clear hd
  generalize overV ds t = dv at *
  obtain ⟨⟨dA, dI⟩, dC⟩ := dv
  have HNO := qza.mk (fun (W : World) (e0 : Int) => qz35 A0 rs.length c0 A1 hs.length c1 A2 os.length c2 A3 ds.length c3 ver e0 W)
  rw [hfi] at HKN
  clear hfi
  obtain ⟨ta, ti⟩ := t
  unfold shv at *
  dsimp only at *
  go_enter Try.func22, Try.ntmps22
  go_wp2_with (first
    | (go_at_call 51; refine (HOV.out _ HB4.out).mono ?_; rintro e w5 ⟨rfl, hb5⟩; have HW5 := qza.mk hb5.size; have SB5 := qza.mk (stay hb5 BS.out (by rw [HW4.out]; omega)); have OB5 := qza.mk (stay hb5 BO.out (by rw [HW4.out]; omega)); have ZB5 := qza.mk (stay hb5 BZ.out (by rw [HW4.out]; omega)); have AB5 := qza.mk (stay hb5 BA.out (by rw [HW4.out]; omega)); obtain ⟨hs0, hs1, hs2, hs3, hs4⟩ := qz4 (stayA SB5.out (.cells #[.int .u64 dA, .int .u64 dI, .bool dC] 68)); obtain ⟨ho0, ho1, ho2, ho3, ho4, ho5, ho6⟩ := qz12 (stayA OB5.out (.cells #[.int .u64 dA, .int .u64 dI, .bool dC] 68)); have HB5 := qza.mk (HB4.out.trans (hb5.mono HB4.out.size)); clear hb5)
    | (go_at_call 52; refine (HKN.out _ (HB5.out.alloc HB5.out.size (.cells #[.int .u64 dA, .int .u64 dI, .bool dC] 68))).mono ?_; rintro e w6 ⟨rfl, hb6⟩; clear hs0 hs1 hs2 hs3 hs4 ho0 ho1 ho2 ho3 ho4 ho5 ho6; have SB6 := qza.mk (stay hb6 (stayA SB5.out (.cells #[.int .u64 dA, .int .u64 dI, .bool dC] 68)) (by have := HW4.out; have := HW5.out; simp; omega)); have OB6 := qza.mk (stay hb6 (stayA OB5.out (.cells #[.int .u64 dA, .int .u64 dI, .bool dC] 68)) (by have := HW4.out; have := HW5.out; simp; omega)); have ZB6 := qza.mk (stay hb6 (stayA ZB5.out (.cells #[.int .u64 dA, .int .u64 dI, .bool dC] 68)) (by have := HW4.out; have := HW5.out; simp; omega)); have AB6 := qza.mk (stay hb6 (stayA AB5.out (.cells #[.int .u64 dA, .int .u64 dI, .bool dC] 68)) (by have := HW4.out; have := HW5.out; simp; omega)); have DB6 := qza.mk (stay hb6 (heap_alloc_new w5 (.cells #[.int .u64 dA, .int .u64 dI, .bool dC] 68)) (by simp)); obtain ⟨hs0, hs1, hs2, hs3, hs4⟩ := qz4 SB6.out; obtain ⟨ho0, ho1, ho2, ho3, ho4, ho5, ho6⟩ := qz12 OB6.out; obtain ⟨hd0, hd1, hd2⟩ := qz39 DB6.out; have HB6 := qza.mk ((HB5.out.alloc HB5.out.size (.cells #[.int .u64 dA, .int .u64 dI, .bool dC] 68)).trans (hb6.mono (HB5.out.alloc HB5.out.size (.cells #[.int .u64 dA, .int .u64 dI, .bool dC] 68)).size)); have HW6 : qza (w.heap.size + 1 + 1 + 1 + 1 ≤ w6.heap.size) := ⟨by have := HW4.out; have := HW5.out; have := hb6.size; simp at this; omega⟩; clear hb6)
    | (go_at_call 24; refine (HNO.out _ _).mono ?_; rintro e w7 ⟨rfl, hb7⟩; clear hs0 hs1 hs2 hs3 hs4 ho0 ho1 ho2 ho3 ho4 ho5 ho6; have ZB7 := qza.mk (stay hb7 ZB6.out (by have := HW6.out; omega)); have AB7 := qza.mk (stay hb7 AB6.out (by have := HW6.out; omega)); obtain ⟨hz0, hz1, hz2, hz3, hz4⟩ := qz4 ZB7.out; obtain ⟨ha0, ha1, ha2, ha3, ha4⟩ := qz4 AB7.out; obtain ⟨hy0, hy1, hy2, hy3, hy4⟩ := qz14 ZB7.out; obtain ⟨hx0, hx1, hx2, hx3, hx4⟩ := qz14 AB7.out; have HB7 := qza.mk (HB6.out.trans (hb7.mono HB6.out.size)); clear hb7))
  refine qz40 rfl rfl rfl rfl ZB7.out AB7.out (by omega) ?_
  exact qz30 HR0.out HC0.out HR1.out HC1.out HR2.out HC2.out HR3.out HC3.out (qz7 (qz7 HB7.out (show w.heap.size ≤ w.heap.size + 1 + 1 by omega) _ _ _ _ _) (show w.heap.size ≤ w.heap.size + 1 + 1 + 1 by omega) _ _ _ _ _) _ _ _ _ _
set_option maxRecDepth 100000 in
set_option maxHeartbeats 8000000 in
theorem prep_wound (kind : Int) (t : S30) (key : ByteArray) (A4 : Option Addr) (n4 c4 : Nat) (cm : Bool) (A5 : Option Addr) (n5 c5 : Nat) (A0 : Option Addr) (c0 : Nat) (A1 : Option Addr) (c1 : Nat) (A2 : Option Addr) (c2 : Nat) (A3 : Option Addr) (c3 : Nat) (rs : List S50) (hs : List S75) (os : List S48) (ds : List S68) (ver : Int) (w : World) (hr0 : Kd.C k50 w A0 rs.length rs) (hc0 : rs.length ≤ c0) (hr1 : Kd.C k75 w A1 hs.length hs) (hc1 : hs.length ≤ c1) (hr2 : Kd.C k48 w A2 os.length os) (hc2 : os.length ≤ c2) (hr3 : Kd.C k68 w A3 ds.length ds) (hc3 : ds.length ≤ c3) (hd : ¬ 0 ≤ findI (qz25 t) ds) (ii : Nat) (hii : ii < os.length) (hfi : findI (qz16 t) os = (ii : Int)) (f1 : Bool) (hf1 : (os[ii]!).f1 = f1) (hf2 : (os[ii]!).f2 = true) :
    Calls Try.prog 22 #[.agg (shv A0 rs.length c0 A1 hs.length c1 A2 os.length c2 A3 ds.length c3 ver), .agg #[.int .i64 kind, .int .u64 t.f0, .int .u64 t.f1, .string key, .slice A4 n4 c4, .bool cm, .slice A5 n5 c5]] w (qz32 w (⟨rs, hs, os, ds, ver⟩, errA 12)) := by
  obtain ⟨bS, bO, bZ, bA⟩ := qz38 w (.cells #[.slice A0 rs.length c0, .slice A1 hs.length c1, .slice A2 os.length c2, .slice A3 ds.length c3, .int .u64 ver] 28) (.cells #[.int .i64 kind, .int .u64 t.f0, .int .u64 t.f1, .string key, .slice A4 n4 c4, .bool cm, .slice A5 n5 c5] 34) (.cells #[.slice none 0 0, .slice none 0 0, .slice none 0 0, .slice none 0 0, .int .u64 0] 28) (.cells #[.int .i64 0, .string ⟨#[]⟩, .int .u64 0, .bool false, .bool false] 38)
  have hb4 : Below w.heap.size w ((((w.alloc (.cells #[.slice A0 rs.length c0, .slice A1 hs.length c1, .slice A2 os.length c2, .slice A3 ds.length c3, .int .u64 ver] 28)).alloc (.cells #[.int .i64 kind, .int .u64 t.f0, .int .u64 t.f1, .string key, .slice A4 n4 c4, .bool cm, .slice A5 n5 c5] 34)).alloc (.cells #[.slice none 0 0, .slice none 0 0, .slice none 0 0, .slice none 0 0, .int .u64 0] 28)).alloc (.cells #[.int .i64 0, .string ⟨#[]⟩, .int .u64 0, .bool false, .bool false] 38)) := ((((Below.refl w.heap.size w).alloc (Nat.le_refl _) _).alloc (by simp) _).alloc (by simp; omega) _).alloc (by simp; omega) _
  have HW4 : qza (((((w.alloc (.cells #[.slice A0 rs.length c0, .slice A1 hs.length c1, .slice A2 os.length c2, .slice A3 ds.length c3, .int .u64 ver] 28)).alloc (.cells #[.int .i64 kind, .int .u64 t.f0, .int .u64 t.f1, .string key, .slice A4 n4 c4, .bool cm, .slice A5 n5 c5] 34)).alloc (.cells #[.slice none 0 0, .slice none 0 0, .slice none 0 0, .slice none 0 0, .int .u64 0] 28)).alloc (.cells #[.int .i64 0, .string ⟨#[]⟩, .int .u64 0, .bool false, .bool false] 38)).heap.size = w.heap.size + 1 + 1 + 1 + 1) := ⟨by simp⟩
  have BS := qza.mk bS
  have BO := qza.mk bO
  have BZ := qza.mk bZ
  have BA := qza.mk bA
  have HB4 := qza.mk hb4
  have HOV := qza.mk (fun (W : World) (h : Below w.heap.size w W) => qz27 A0 rs.length c0 A1 hs.length c1 A2 os.length c2 A3 c3 ver ds t W (Kd.C_below hr3 h) hc3)
  have HKN := qza.mk (fun (W : World) (h : Below w.heap.size w W) => qz24 A0 rs.length c0 A1 hs.length c1 A2 c2 A3 ds.length c3 ver os t W (Kd.C_below hr2 h) hc2)
  have HR0 := qza.mk hr0
  have HR1 := qza.mk hr1
  have HR2 := qza.mk hr2
  have HR3 := qza.mk hr3
  have HC0 := qza.mk hc0
  have HC1 := qza.mk hc1
  have HC2 := qza.mk hc2
  have HC3 := qza.mk hc3
  clear hr0 hc0 hr1 hc1 hr2 hc2 hr3 hc3 bS bO bZ bA hb4
  rw [decide_eq_false hd] at HOV
  clear hd
  generalize overV ds t = dv at *
  obtain ⟨⟨dA, dI⟩, dC⟩ := dv
  have HNO := qza.mk (fun (W : World) (e0 : Int) => qz35 A0 rs.length c0 A1 hs.length c1 A2 os.length c2 A3 ds.length c3 ver e0 W)
  rw [hfi] at HKN
  obtain ⟨ob, oo, hA, pB, pc, _, _, _, _, hp2, hp3, _⟩ := qz53 HR2.out ii hii
  have hiz : (0 : Int) ≤ (ii : Int) := by omega
  have hiz2 : (ii : Int) < (os.length : Int) := by omega
  rw [hf1] at hp2
  rw [hf2] at hp3
  have HP2 := qza.mk hp2
  have HP3 := qza.mk hp3
  subst hA
  clear hp2 hp3 hf1 hf2 hfi hii
  obtain ⟨ta, ti⟩ := t
  unfold shv at *
  dsimp only at *
  go_enter Try.func22, Try.ntmps22
  go_wp2_with (first
    | (go_at_call 51; refine (HOV.out _ HB4.out).mono ?_; rintro e w5 ⟨rfl, hb5⟩; have HW5 := qza.mk hb5.size; have SB5 := qza.mk (stay hb5 BS.out (by rw [HW4.out]; omega)); have OB5 := qza.mk (stay hb5 BO.out (by rw [HW4.out]; omega)); have ZB5 := qza.mk (stay hb5 BZ.out (by rw [HW4.out]; omega)); have AB5 := qza.mk (stay hb5 BA.out (by rw [HW4.out]; omega)); obtain ⟨hs0, hs1, hs2, hs3, hs4⟩ := qz4 (stayA SB5.out (.cells #[.int .u64 dA, .int .u64 dI, .bool dC] 68)); obtain ⟨ho0, ho1, ho2, ho3, ho4, ho5, ho6⟩ := qz12 (stayA OB5.out (.cells #[.int .u64 dA, .int .u64 dI, .bool dC] 68)); have HB5 := qza.mk (HB4.out.trans (hb5.mono HB4.out.size)); clear hb5)
    | (go_at_call 52; refine (HKN.out _ (HB5.out.alloc HB5.out.size (.cells #[.int .u64 dA, .int .u64 dI, .bool dC] 68))).mono ?_; rintro e w6 ⟨rfl, hb6⟩; clear hs0 hs1 hs2 hs3 hs4 ho0 ho1 ho2 ho3 ho4 ho5 ho6; have SB6 := qza.mk (stay hb6 (stayA SB5.out (.cells #[.int .u64 dA, .int .u64 dI, .bool dC] 68)) (by have := HW4.out; have := HW5.out; simp; omega)); have OB6 := qza.mk (stay hb6 (stayA OB5.out (.cells #[.int .u64 dA, .int .u64 dI, .bool dC] 68)) (by have := HW4.out; have := HW5.out; simp; omega)); have ZB6 := qza.mk (stay hb6 (stayA ZB5.out (.cells #[.int .u64 dA, .int .u64 dI, .bool dC] 68)) (by have := HW4.out; have := HW5.out; simp; omega)); have AB6 := qza.mk (stay hb6 (stayA AB5.out (.cells #[.int .u64 dA, .int .u64 dI, .bool dC] 68)) (by have := HW4.out; have := HW5.out; simp; omega)); have DB6 := qza.mk (stay hb6 (heap_alloc_new w5 (.cells #[.int .u64 dA, .int .u64 dI, .bool dC] 68)) (by simp)); obtain ⟨hs0, hs1, hs2, hs3, hs4⟩ := qz4 SB6.out; obtain ⟨ho0, ho1, ho2, ho3, ho4, ho5, ho6⟩ := qz12 OB6.out; obtain ⟨hd0, hd1, hd2⟩ := qz39 DB6.out; have HB6 := qza.mk ((HB5.out.alloc HB5.out.size (.cells #[.int .u64 dA, .int .u64 dI, .bool dC] 68)).trans (hb6.mono (HB5.out.alloc HB5.out.size (.cells #[.int .u64 dA, .int .u64 dI, .bool dC] 68)).size)); have HW6 : qza (w.heap.size + 1 + 1 + 1 + 1 ≤ w6.heap.size) := ⟨by have := HW4.out; have := HW5.out; have := hb6.size; simp at this; omega⟩; clear hb6; have hq2 := (HB6.out.cell (World.block_lt_of_cell? _ _ HP2.out)).trans HP2.out; have hq3 := (HB6.out.cell (World.block_lt_of_cell? _ _ HP3.out)).trans HP3.out)
    | (go_at_call 24; refine (HNO.out _ _).mono ?_; rintro e w7 ⟨rfl, hb7⟩; clear hs0 hs1 hs2 hs3 hs4 ho0 ho1 ho2 ho3 ho4 ho5 ho6; have ZB7 := qza.mk (stay hb7 ZB6.out (by have := HW6.out; omega)); have AB7 := qza.mk (stay hb7 AB6.out (by have := HW6.out; omega)); obtain ⟨hz0, hz1, hz2, hz3, hz4⟩ := qz4 ZB7.out; obtain ⟨ha0, ha1, ha2, ha3, ha4⟩ := qz4 AB7.out; obtain ⟨hy0, hy1, hy2, hy3, hy4⟩ := qz14 ZB7.out; obtain ⟨hx0, hx1, hx2, hx3, hx4⟩ := qz14 AB7.out; have HB7 := qza.mk (HB6.out.trans (hb7.mono HB6.out.size)); clear hb7))
  refine qz40 rfl rfl rfl rfl ZB7.out AB7.out (by omega) ?_
  exact qz30 HR0.out HC0.out HR1.out HC1.out HR2.out HC2.out HR3.out HC3.out (qz7 (qz7 HB7.out (show w.heap.size ≤ w.heap.size + 1 + 1 by omega) _ _ _ _ _) (show w.heap.size ≤ w.heap.size + 1 + 1 + 1 by omega) _ _ _ _ _) _ _ _ _ _
end Go.Proofs.Ytmcgcdpiceikeaa.PAll
end
section
namespace Go.Proofs.Ytmcgcdpiceikeaa.PAll
open Go.RowKit Go.Proofs.YtmcgcdpiceikeaaW.PrintWords Go.Proofs.YtmcgcdpiceikeaaW.PrintLast Go.Proofs.YtmcgcdpiceikeaaW.PrintMore
attribute [local go_sem] qz60 qz61 max_two min_two qz49 qz50 qz62 qz63
theorem eqA54 (d : Nat) (w : World) (x0 y0 : ByteArray) (x1 y1 : ByteArray) (x2 y2 : Bool) :
    (Op.equalIn (d + 2) 54 (.agg #[.string x0, .string x1, .bool x2]) (.agg #[.string y0, .string y1, .bool y2])).run Try.prog w = .ok (x0.toList == y0.toList && (x1.toList == y1.toList && (x2 == y2))) w := by
  refine eqA_of Try.underlying54 (by kernel_rfl) ?_
  refine eqf_cons (by rfl) (by go_simp; rfl) (by go_simp; rfl) (by go_simp) ?_
  refine eqf_cons (by rfl) (by go_simp; rfl) (by go_simp; rfl) (by go_simp) ?_
  exact eqf_last (by rfl) (by go_simp; rfl) (by go_simp; rfl) (by go_simp)
attribute [local go_sem] qz60 qz61 max_two min_two qz49 qz50 qz62 qz63
attribute [local go_sem high] eqA54
def api_Put_46.l0 : Nat → List (S54) → List (S54) → Int → Int → Option (Bool)
  | 0, _, _, _, _ => none
  | k + 1, x0, x1, x12, x13 => if x13 < x12 then (if 0 ≤ x13 then (if x13 < (x0.length : Int) then (if x13 < (x1.length : Int) then (if (!((((qz17 x0 x13).f0).toList) == (((qz17 x1 x13).f0).toList)) || (!((((qz17 x0 x13).f1).toList) == (((qz17 x1 x13).f1).toList)) || (!(((qz17 x0 x13).f2) == ((qz17 x1 x13).f2))))) = true then (some false) else (api_Put_46.l0 k x0 x1 x12 (wrap64 (x13 + 1)))) else (none)) else (none)) else (none)) else (some true)
def api_Put_46.f (k : Nat) (l0 : List (S54)) (l1 : List (S54)) : Option (Bool) := if (l0.length : Int) = (l1.length : Int) then (api_Put_46.l0 k l0 l1 (l0.length : Int) 0) else (some false)
set_option maxHeartbeats 8000000 in
set_option maxRecDepth 100000 in
theorem api_Put_46.calls (k : Nat) (A0 : Option Addr) (c0 : Nat) (l0 : List (S54)) (A1 : Option Addr) (c1 : Nat) (l1 : List (S54)) (r : Bool) (w : World) (hr0 : Kd.C k54 w A0 l0.length l0) (hc0 : l0.length ≤ c0) (hr1 : Kd.C k54 w A1 l1.length l1) (hc1 : l1.length ≤ c1) (h : api_Put_46.f k l0 l1 = some r) :
    Calls Try.prog 46 #[.slice A0 l0.length c0, .slice A1 l1.length c1] w fun e w' => e = .returned (.bool r) ∧ Drawn0 w w' := by
  have hu54 := Try.underlying54
  have HR0 := qza.mk hr0
  have HC0 := qza.mk hc0
  clear hr0 hc0
  have HR1 := qza.mk hr1
  have HC1 := qza.mk hc1
  clear hr1 hc1
  have H : (if (l0.length : Int) = (l1.length : Int) then (api_Put_46.l0 k l0 l1 (l0.length : Int) 0) else (some false)) = some r := h
  clear h
  by_cases c3 : (l0.length : Int) = (l1.length : Int)
  · rw [if_pos c3] at H
    have c3b0 : ((l0.length : Int) == (l1.length : Int)) = true := beq_iff_eq.mpr c3
    have c3b1 : ((l0.length : Int) != (l1.length : Int)) = false := bne_eq_false_iff_eq.mpr c3
    have c3b2 : (l0.length == l1.length) = true := by first | simpa using c3 | (simp at c3 ⊢; omega)
    clear c3
    have H' := qza.mk H
    clear H
    go_enter Try.func46, Try.ntmps46
    go_wp2
    repeat (go_quiet (fail); try go_wp2)
    go_loopg [13] k (fun kq v13 w' => ∃ (x13_1 : Int), v13 = .int .i64 x13_1 ∧ qza (api_Put_46.l0 kq l0 l1 (l0.length : Int) x13_1 = some r) ∧ qza (kq ≤ k) ∧ Drawn0 w w')
    case atStart => exact ⟨(0), (by first | rfl | (simp; done) | (simp [*]; done)), H', ⟨Nat.le_refl _⟩, by repeat (first | exact Drawn0.refl _ | apply Drawn0.step)⟩
    case round =>
      clear H'
      try clear c1
      try clear p2
      try clear c3
      try clear c3b0
      try clear c3b1
      try clear c3b2
      obtain ⟨x13_1, rfl, HA, HK1, ⟨m1, rfl⟩⟩ := hrel
      cases gk with
      | zero => exact absurd HA.out (by simp [api_Put_46.l0])
      | succ k1 =>
        have H := HA.out
        clear HA
        simp only [api_Put_46.l0] at H
        by_cases c4 : x13_1 < (l0.length : Int)
        · rw [if_pos c4] at H
          have c4b0 : decide (x13_1 < (l0.length : Int)) = true := decide_eq_true c4
          clear c4
          by_cases c5 : 0 ≤ x13_1
          · rw [if_pos c5] at H
            have c5b0 : decide (0 ≤ x13_1) = true := decide_eq_true c5
            clear c5
            by_cases c6 : x13_1 < (l0.length : Int)
            · rw [if_pos c6] at H
              have c6b0 : decide (x13_1 < (l0.length : Int)) = true := decide_eq_true c6
              clear c6
              by_cases c7 : x13_1 < (l1.length : Int)
              · rw [if_pos c7] at H
                have c7b0 : decide (x13_1 < (l1.length : Int)) = true := decide_eq_true c7
                clear c7
                by_cases c8 : (!((((qz17 l0 x13_1).f0).toList) == (((qz17 l1 x13_1).f0).toList)) || (!((((qz17 l0 x13_1).f1).toList) == (((qz17 l1 x13_1).f1).toList)) || (!(((qz17 l0 x13_1).f2) == ((qz17 l1 x13_1).f2))))) = true
                · rw [if_pos c8] at H
                  have c8b0 : (!((((qz17 l0 x13_1).f0).toList) == (((qz17 l1 x13_1).f0).toList)) || (!((((qz17 l0 x13_1).f1).toList) == (((qz17 l1 x13_1).f1).toList)) || (!(((qz17 l0 x13_1).f2) == ((qz17 l1 x13_1).f2))))) = true := c8
                  clear c8
                  obtain rfl := Option.some.inj H
                  have p134 : 0 ≤ (x13_1 : Int) := of_decide_eq_true (by first | (with_reducible assumption) | assumption)
                  have q134 : x13_1 < (l0.length : Int) := of_decide_eq_true (by first | (with_reducible assumption) | assumption)
                  obtain ⟨ad134, e134, hx134_0, hx134_1, hx134_2⟩ := at_T54 HR0.out x13_1 p134 q134
                  cases e134
                  replace p134 := eq_true p134
                  replace q134 := eq_true q134
                  have p135 : 0 ≤ (x13_1 : Int) := of_decide_eq_true (by first | (with_reducible assumption) | assumption)
                  have q135 : x13_1 < (l1.length : Int) := of_decide_eq_true (by first | (with_reducible assumption) | assumption)
                  obtain ⟨ad135, e135, hx135_0, hx135_1, hx135_2⟩ := at_T54 HR1.out x13_1 p135 q135
                  cases e135
                  replace p135 := eq_true p135
                  replace q135 := eq_true q135
                  go_wp2
                  repeat (go_quiet (fail); try go_wp2)
                  go_ret
                  exact ⟨by first | rfl | (simp; done) | (simp [*]; done), by repeat (first | exact Drawn0.refl _ | apply Drawn0.step)⟩
                · rw [if_neg c8] at H
                  have c8b0 : (!((((qz17 l0 x13_1).f0).toList) == (((qz17 l1 x13_1).f0).toList)) || (!((((qz17 l0 x13_1).f1).toList) == (((qz17 l1 x13_1).f1).toList)) || (!(((qz17 l0 x13_1).f2) == ((qz17 l1 x13_1).f2))))) = false := by simpa using c8
                  clear c8
                  have H' := qza.mk H
                  clear H
                  have p134 : 0 ≤ (x13_1 : Int) := of_decide_eq_true (by first | (with_reducible assumption) | assumption)
                  have q134 : x13_1 < (l0.length : Int) := of_decide_eq_true (by first | (with_reducible assumption) | assumption)
                  obtain ⟨ad134, e134, hx134_0, hx134_1, hx134_2⟩ := at_T54 HR0.out x13_1 p134 q134
                  cases e134
                  replace p134 := eq_true p134
                  replace q134 := eq_true q134
                  have p135 : 0 ≤ (x13_1 : Int) := of_decide_eq_true (by first | (with_reducible assumption) | assumption)
                  have q135 : x13_1 < (l1.length : Int) := of_decide_eq_true (by first | (with_reducible assumption) | assumption)
                  obtain ⟨ad135, e135, hx135_0, hx135_1, hx135_2⟩ := at_T54 HR1.out x13_1 p135 q135
                  cases e135
                  replace p135 := eq_true p135
                  replace q135 := eq_true q135
                  go_wp2
                  repeat (go_quiet (fail); try go_wp2)
                  go_roundg k1
                  case measure => have := HK1.out; omega
                  case rel => exact ⟨(wrap64 (x13_1 + 1)), (by first | rfl | (simp; done) | (simp [*]; done)), H', ⟨by have := HK1.out; omega⟩, by repeat (first | exact Drawn0.refl _ | apply Drawn0.step)⟩
              · rw [if_neg c7] at H
                exact absurd H (by simp)
            · rw [if_neg c6] at H
              exact absurd H (by simp)
          · rw [if_neg c5] at H
            exact absurd H (by simp)
        · rw [if_neg c4] at H
          have c4b0 : decide (x13_1 < (l0.length : Int)) = false := decide_eq_false c4
          clear c4
          obtain rfl := Option.some.inj H
          go_wp2
          repeat (go_quiet (fail); try go_wp2)
          go_ret
          exact ⟨by first | rfl | (simp; done) | (simp [*]; done), by repeat (first | exact Drawn0.refl _ | apply Drawn0.step)⟩
  · rw [if_neg c3] at H
    have c3b0 : ((l0.length : Int) == (l1.length : Int)) = false := beq_eq_false_iff_ne.mpr c3
    have c3b1 : ((l0.length : Int) != (l1.length : Int)) = true := bne_iff_ne.mpr c3
    have c3b2 : (l0.length == l1.length) = false := by first | simpa using c3 | (simp at c3 ⊢; omega)
    obtain rfl := Option.some.inj H
    go_enter Try.func46, Try.ntmps46
    go_wp2
    repeat (go_quiet (fail); try go_wp2)
    go_ret
    exact ⟨by first | rfl | (simp; done) | (simp [*]; done), by repeat (first | exact Drawn0.refl _ | apply Drawn0.step)⟩
end Go.Proofs.Ytmcgcdpiceikeaa.PAll
end
section
namespace Go.Proofs.Ytmcgcdpiceikeaa.PAll
open Go.RowKit Go.Proofs.YtmcgcdpiceikeaaW.PrintWords Go.Proofs.YtmcgcdpiceikeaaW.PrintMore Go.Proofs.Ytmcgcdpiceikeaa
def neP (x y : S54) : Bool := !(x.f0.toList == y.f0.toList) || (!(x.f1.toList == y.f1.toList) || !(x.f2 == y.f2))
def eqGo : List S54 → List S54 → Bool
  | x :: a, y :: b => if neP x y = true then false else eqGo a b
  | _, _ => true
def samePutsV (a b : List S54) : Bool := decide (a.length = b.length) && eqGo a b
theorem eqPut_l0 (a b : List S54) (he : a.length = b.length) (hl : a.length ≤ 9223372036854775807) : ∀ (d j : Nat), d = a.length - j → j ≤ a.length → Ev (fun q => api_Put_46.l0 q a b (a.length : Int) (j : Int)) (eqGo (a.drop j) (b.drop j)) := by
  intro d
  induction d with
  | zero =>
    intro j hd hj
    obtain rfl : j = a.length := by omega
    rw [List.drop_length]
    exact Ev.step (fun q => by simp only [api_Put_46.l0]; exact if_neg (by omega)) (Ev.now true)
  | succ d ih =>
    intro j hd hj
    have hlt : j < a.length := by omega
    have hlt2 : j < b.length := by omega
    rw [dropBang a j hlt, dropBang b j hlt2]
    unfold eqGo
    refine Ev.step (fun q => by simp only [api_Put_46.l0]; rw [if_pos (by omega), if_pos (by omega), if_pos (by omega), if_pos (by omega), rd_put a j hlt, rd_put b j hlt2, wrapInc j (by omega)]) ?_
    have hn : (!((a[j]!).f0.toList == (b[j]!).f0.toList) || (!((a[j]!).f1.toList == (b[j]!).f1.toList) || (!((a[j]!).f2 == (b[j]!).f2)))) = neP (a[j]!) (b[j]!) := rfl
    rw [hn]
    cases c : neP (a[j]!) (b[j]!) with
    | true => exact Ev.congr (fun _ => if_pos rfl) (Ev.now false)
    | false =>
      refine Ev.congr (fun _ => if_neg (by decide)) ?_
      exact ih (j + 1) (by omega) (by omega)
theorem eqPut_calls (A B : Option Addr) (c c' : Nat) (a b : List S54) (w : World) (hr : Kd.C k54 w A a.length a) (hc : a.length ≤ c) (hr' : Kd.C k54 w B b.length b) (hc' : b.length ≤ c') : Calls Try.prog 46 #[.slice A a.length c, .slice B b.length c'] w fun e w' => e = .returned (.bool (samePutsV a b)) ∧ Drawn0 w w' := by
  have h : Ev (fun q => api_Put_46.f q a b) (samePutsV a b) := by
    unfold samePutsV
    by_cases e : a.length = b.length
    · rw [decide_eq_true e, Bool.true_and]
      exact Ev.congr (fun _ => if_pos (by omega)) (eqPut_l0 a b e hr.2.1 a.length 0 (by omega) (by omega))
    · rw [decide_eq_false e, Bool.false_and]
      exact Ev.congr (fun _ => if_neg (by omega)) (Ev.now false)
  obtain ⟨k, hk⟩ := h.rounds
  exact api_Put_46.calls k A c a B c' b _ w hr hc hr' hc' hk
end Go.Proofs.Ytmcgcdpiceikeaa.PAll
end
