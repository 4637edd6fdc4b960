/- Joined texts of the claim ShardStays (part 30): contracts of functions and plain laws. -/
import Derived.BigRegion
import Derived.Lib.BufferOwn
import Derived.Lib.BufferWrite
import Derived.Test.YtmcgcdpiceikeaaJShardStays23
import Derived.Test.YtmcgcdpiceikeaaJShardStays24
import Derived.Test.YtmcgcdpiceikeaaJShardStays27
import Derived.Test.YtmcgcdpiceikeaaJShardStays28
import Derived.Test.YtmcgcdpiceikeaaJShardStays29
set_option linter.unusedVariables false
set_option linter.unusedSimpArgs false
section
namespace Go.Proofs.Ytmcgcdpiceikeaa.PAll
open Go.RowKit Go.Proofs.YtmcgcdpiceikeaaW.PrintWords Go.Proofs.YtmcgcdpiceikeaaW.PrintMore Go.Proofs.Ytmcgcdpiceikeaa
set_option maxRecDepth 100000 in
set_option maxHeartbeats 8000000 in
theorem asks_ok_none_t (kind : Int) (t : S30) (key : ByteArray) (A4 : Option Addr) (n4 c4 : Nat) (cm : Bool) (A5 : Option Addr) (n5 c5 : Nat) (A0 : Option Addr) (c0 : Nat) (A1 : Option Addr) (c1 : Nat) (A2 : Option Addr) (c2 : Nat) (A3 : Option Addr) (c3 : Nat) (rs : List S50) (hs : List S75) (os : List S48) (ds : List S68) (ver : Int) (w : World) (hr0 : Kd.C k50 w A0 rs.length rs) (hc0 : rs.length ≤ c0) (hr1 : Kd.C k75 w A1 hs.length hs) (hc1 : hs.length ≤ c1) (hr2 : Kd.C k48 w A2 os.length os) (hc2 : os.length ≤ c2) (hr3 : Kd.C k68 w A3 ds.length ds) (hc3 : ds.length ≤ c3) (hd : ¬ 0 ≤ findI (qz25 t) ds) (hk1 : 1 ≤ key.size) (hk2 : key.size ≤ 16) (hfi : findI (qz16 t) os = -1) (hnf : ¬ 64 ≤ os.length + ds.length) (hlim : os.length + ds.length ≤ 2000000000000) (hlh : hs.length * 40 ≤ 140737488355288) (hok : ∀ x ∈ hs, okTx x.f1) (hoko : ∀ x ∈ os, okTx x.f0) (rh : List S75) (rw_ : List S30) (her : askV hs t key (kind == 2) (firmV os) = (rh, rw_, 0)) (g1 g2 : ByteArray) (g3 : Int) (hg : getV rs key = (g1, g2, g3, true)) :
    Calls Try.prog 21 #[.agg (shv A0 rs.length c0 A1 hs.length c1 A2 os.length c2 A3 ds.length c3 ver), .agg #[.int .i64 kind, .int .u64 t.f0, .int .u64 t.f1, .string key, .slice A4 n4 c4, .bool cm, .slice A5 n5 c5]] w (qz32 w (⟨rs, rh, (os.map (woundV rw_) ++ [⟨t, false, false, []⟩]), ds, ver⟩, ⟨0, g2, g3, true, false⟩)) := by
  obtain ⟨bS, bO, bZ, bA⟩ := qz38 w (.cells #[.slice A0 rs.length c0, .slice A1 hs.length c1, .slice A2 os.length c2, .slice A3 ds.length c3, .int .u64 ver] 28) (.cells #[.int .i64 kind, .int .u64 t.f0, .int .u64 t.f1, .string key, .slice A4 n4 c4, .bool cm, .slice A5 n5 c5] 34) (.cells #[.slice none 0 0, .slice none 0 0, .slice none 0 0, .slice none 0 0, .int .u64 0] 28) (.cells #[.int .i64 0, .string ⟨#[]⟩, .int .u64 0, .bool false, .bool false] 38)
  have hb4 : Below w.heap.size w ((((w.alloc (.cells #[.slice A0 rs.length c0, .slice A1 hs.length c1, .slice A2 os.length c2, .slice A3 ds.length c3, .int .u64 ver] 28)).alloc (.cells #[.int .i64 kind, .int .u64 t.f0, .int .u64 t.f1, .string key, .slice A4 n4 c4, .bool cm, .slice A5 n5 c5] 34)).alloc (.cells #[.slice none 0 0, .slice none 0 0, .slice none 0 0, .slice none 0 0, .int .u64 0] 28)).alloc (.cells #[.int .i64 0, .string ⟨#[]⟩, .int .u64 0, .bool false, .bool false] 38)) := ((((Below.refl w.heap.size w).alloc (Nat.le_refl _) _).alloc (by simp) _).alloc (by simp; omega) _).alloc (by simp; omega) _
  have HW4 : qza (((((w.alloc (.cells #[.slice A0 rs.length c0, .slice A1 hs.length c1, .slice A2 os.length c2, .slice A3 ds.length c3, .int .u64 ver] 28)).alloc (.cells #[.int .i64 kind, .int .u64 t.f0, .int .u64 t.f1, .string key, .slice A4 n4 c4, .bool cm, .slice A5 n5 c5] 34)).alloc (.cells #[.slice none 0 0, .slice none 0 0, .slice none 0 0, .slice none 0 0, .int .u64 0] 28)).alloc (.cells #[.int .i64 0, .string ⟨#[]⟩, .int .u64 0, .bool false, .bool false] 38)).heap.size = w.heap.size + 1 + 1 + 1 + 1) := ⟨by simp⟩
  have BS := qza.mk bS
  have BO := qza.mk bO
  have BZ := qza.mk bZ
  have BA := qza.mk bA
  have HB4 := qza.mk hb4
  have HOV := qza.mk (fun (W : World) (h : Below w.heap.size w W) => qz27 A0 rs.length c0 A1 hs.length c1 A2 os.length c2 A3 c3 ver ds t W (Kd.C_below hr3 h) hc3)
  have HKN := qza.mk (fun (W : World) (h : Below w.heap.size w W) => qz24 A0 rs.length c0 A1 hs.length c1 A2 c2 A3 ds.length c3 ver os t W (Kd.C_below hr2 h) hc2)
  have HR0 := qza.mk hr0
  have HR1 := qza.mk hr1
  have HR2 := qza.mk hr2
  have HR3 := qza.mk hr3
  have HC0 := qza.mk hc0
  have HC1 := qza.mk hc1
  have HC2 := qza.mk hc2
  have HC3 := qza.mk hc3
  clear hr0 hc0 hr1 hc1 hr2 hc2 hr3 hc3 bS bO bZ bA hb4
  rw [decide_eq_false hd] at HOV
  clear hd
  generalize overV ds t = dv at *
  obtain ⟨⟨dA, dI⟩, dC⟩ := dv
  have HNO := qza.mk (fun (W : World) (e0 : Int) => qz35 A0 rs.length c0 A1 hs.length c1 A2 os.length c2 A3 ds.length c3 ver e0 W)
  have hkz : ¬ (key.size : Int) < 1 := by omega
  have hkz2 : ¬ (16 : Int) < (key.size : Int) := by omega
  clear hk1 hk2
  have HFI := qza.mk (fun (W : World) (h : Below w.heap.size w W) => qz77 A0 c0 A1 c1 A2 c2 A3 c3 rs hs os ds ver W (Kd.C_below HR0.out h) HC0.out (Kd.C_below HR1.out h) HC1.out (Kd.C_below HR2.out h) HC2.out (Kd.C_below HR3.out h) HC3.out (by omega))
  have HAK := qza.mk (fun (W : World) (FA : Option Addr) (fc : Nat) (h : Below w.heap.size w W) (h1 : (firmV os).length ≤ fc) (h2 : Kd.C k30 W FA (firmV os).length (firmV os)) => qz80 A1 c1 hs t key (kind == 2) FA fc (firmV os) W (Kd.C_below HR1.out h) HC1.out hlh h2 h1 (by have := firmV_len os; omega) hok (fun x hx => by unfold firmV at hx; obtain ⟨y, hy, rfl⟩ := List.mem_map.1 hx; exact hoko y ((List.mem_filter.1 hy).1)))
  have HGET := qza.mk (fun (W : World) (h : Below w.heap.size w W) => getCalls A0 c0 rs key g1 g2 g3 true W (Kd.C_below HR0.out h) HC0.out hg)
  have HLIM := qza.mk hlim
  rw [her] at HAK
  have HFU := qza.mk (fun (W : World) (h : Below w.heap.size w W) => qz78 A0 c0 A1 c1 A2 c2 A3 c3 rs hs os ds ver W (Kd.C_below HR0.out h) HC0.out (Kd.C_below HR1.out h) HC1.out (Kd.C_below HR2.out h) HC2.out (Kd.C_below HR3.out h) HC3.out (by omega))
  rw [decide_eq_false hnf] at HFU
  rw [hfi] at HKN
  clear hnf hfi
  clear hlim hlh hok hoko her hg
  obtain ⟨ta, ti⟩ := t
  unfold shv at *
  dsimp only at *
  go_enter Try.func21, Try.ntmps21
  go_wp2_with (first
    | (go_at_call 51; refine (HOV.out _ HB4.out).mono ?_; rintro e w5 ⟨rfl, hb5⟩; have HW5 := qza.mk hb5.size; have SB5 := qza.mk (stay hb5 BS.out (by rw [HW4.out]; omega)); have OB5 := qza.mk (stay hb5 BO.out (by rw [HW4.out]; omega)); have ZB5 := qza.mk (stay hb5 BZ.out (by rw [HW4.out]; omega)); have AB5 := qza.mk (stay hb5 BA.out (by rw [HW4.out]; omega)); obtain ⟨hs0, hs1, hs2, hs3, hs4⟩ := qz4 (stayA SB5.out (.cells #[.int .u64 dA, .int .u64 dI, .bool dC] 68)); obtain ⟨ho0, ho1, ho2, ho3, ho4, ho5, ho6⟩ := qz12 (stayA OB5.out (.cells #[.int .u64 dA, .int .u64 dI, .bool dC] 68)); have HB5 := qza.mk (HB4.out.trans (hb5.mono HB4.out.size)); clear hb5)
    | (go_at_call 52; refine (HKN.out _ (HB5.out.alloc HB5.out.size (.cells #[.int .u64 dA, .int .u64 dI, .bool dC] 68))).mono ?_; rintro e w6 ⟨rfl, hb6⟩; clear hs0 hs1 hs2 hs3 hs4 ho0 ho1 ho2 ho3 ho4 ho5 ho6; have SB6 := qza.mk (stay hb6 (stayA SB5.out (.cells #[.int .u64 dA, .int .u64 dI, .bool dC] 68)) (by have := HW4.out; have := HW5.out; simp; omega)); have OB6 := qza.mk (stay hb6 (stayA OB5.out (.cells #[.int .u64 dA, .int .u64 dI, .bool dC] 68)) (by have := HW4.out; have := HW5.out; simp; omega)); have ZB6 := qza.mk (stay hb6 (stayA ZB5.out (.cells #[.int .u64 dA, .int .u64 dI, .bool dC] 68)) (by have := HW4.out; have := HW5.out; simp; omega)); have AB6 := qza.mk (stay hb6 (stayA AB5.out (.cells #[.int .u64 dA, .int .u64 dI, .bool dC] 68)) (by have := HW4.out; have := HW5.out; simp; omega)); have DB6 := qza.mk (stay hb6 (heap_alloc_new w5 (.cells #[.int .u64 dA, .int .u64 dI, .bool dC] 68)) (by simp)); obtain ⟨hs0, hs1, hs2, hs3, hs4⟩ := qz4 SB6.out; obtain ⟨ho0, ho1, ho2, ho3, ho4, ho5, ho6⟩ := qz12 OB6.out; obtain ⟨hd0, hd1, hd2⟩ := qz39 DB6.out; have HB6 := qza.mk ((HB5.out.alloc HB5.out.size (.cells #[.int .u64 dA, .int .u64 dI, .bool dC] 68)).trans (hb6.mono (HB5.out.alloc HB5.out.size (.cells #[.int .u64 dA, .int .u64 dI, .bool dC] 68)).size)); have HW6 : qza (w.heap.size + 1 + 1 + 1 + 1 ≤ w6.heap.size) := ⟨by have := HW4.out; have := HW5.out; have := hb6.size; simp at this; omega⟩; clear hb6)
    | (go_at_call 53; refine (HFU.out _ HB6.out).mono ?_; rintro e w8 ⟨rfl, hb8⟩; clear hs0 hs1 hs2 hs3 hs4 ho0 ho1 ho2 ho3 ho4 ho5 ho6; have SB8 := qza.mk (stay hb8 SB6.out (by have := HW6.out; omega)); have OB8 := qza.mk (stay hb8 OB6.out (by have := HW6.out; omega)); have ZB8 := qza.mk (stay hb8 ZB6.out (by have := HW6.out; omega)); have AB8 := qza.mk (stay hb8 AB6.out (by have := HW6.out; omega)); have HW8 : qza (w.heap.size + 1 + 1 + 1 + 1 ≤ w8.heap.size) := ⟨Nat.le_trans HW6.out hb8.size⟩; obtain ⟨hs0, hs1, hs2, hs3, hs4⟩ := qz4 SB8.out; obtain ⟨ho0, ho1, ho2, ho3, ho4, ho5, ho6⟩ := qz12 OB8.out; have HB8 := qza.mk (HB6.out.trans (hb8.mono HB6.out.size)); clear hb8))
  clear hd0 hd1 hd2
  have hS0 := keepS (w0 := w8) ⟨hs0, hs1, hs2, hs3, hs4, ho0, ho1, ho2, ho3, ho4, ho5, ho6, Below.refl _ _⟩ ((Below.refl _ _).drew)
  clear hs0 hs1 hs2 hs3 hs4 ho0 ho1 ho2 ho3 ho4 ho5 ho6
  go_region_held3 (fun w' => w'.cell? ⟨w.heap.size, 0, none⟩ = some (.slice A0 rs.length c0) ∧ w'.cell? ⟨w.heap.size, 1, none⟩ = some (.slice A1 hs.length c1) ∧ w'.cell? ⟨w.heap.size, 2, none⟩ = some (.slice A2 os.length c2) ∧ w'.cell? ⟨w.heap.size, 3, none⟩ = some (.slice A3 ds.length c3) ∧ w'.cell? ⟨w.heap.size, 4, none⟩ = some (.int .u64 ver) ∧ w'.cell? ⟨w.heap.size + 1, 0, none⟩ = some (.int .i64 kind) ∧ w'.cell? ⟨w.heap.size + 1, 1, none⟩ = some (.int .u64 ta) ∧ w'.cell? ⟨w.heap.size + 1, 2, none⟩ = some (.int .u64 ti) ∧ w'.cell? ⟨w.heap.size + 1, 3, none⟩ = some (.string key) ∧ w'.cell? ⟨w.heap.size + 1, 4, none⟩ = some (.slice A4 n4 c4) ∧ w'.cell? ⟨w.heap.size + 1, 5, none⟩ = some (.bool cm) ∧ w'.cell? ⟨w.heap.size + 1, 6, none⟩ = some (.slice A5 n5 c5) ∧ Below w8.heap.size w8 w') (first | exact hS0 | exact keepS (by assumption) (by assumption)) ((first
    | (go_at_call 55; with_reducible refine (HFI.out _ HB8.out.drew).mono ?_; rintro e w9 ⟨⟨FA, fc, rfl, hf1, hf2⟩, hb9⟩; have HW9 : qza (w.heap.size + 1 + 1 + 1 + 1 ≤ w9.heap.size) := ⟨by have := HW8.out; have h9 := hb9.size; rw [qz26] at h9; omega⟩; have HF1 := qza.mk hf1; have HF2 := qza.mk hf2; have HB9 := qza.mk (HB8.out.drew.trans (hb9.mono HB8.out.drew.size)); clear hf1 hf2)
    | (go_at_call 54; with_reducible refine (HAK.out _ _ _ HB9.out HF1.out HF2.out).mono ?_; intro e w10 hpost; obtain ⟨v1, v2, rfl, hw1, hw2, hb10⟩ := askOut hpost; have HO1 := qza.mk hw1; have HO2 := qza.mk hw2; clear hw1 hw2)))
  obtain ⟨hs0, hs1, hs2, hs3, hs4, ho0, ho1, ho2, ho3, ho4, ho5, ho6, hb10⟩ := (show w10.cell? ⟨w.heap.size, 0, none⟩ = some (.slice A0 rs.length c0) ∧ w10.cell? ⟨w.heap.size, 1, none⟩ = some (.slice A1 hs.length c1) ∧ w10.cell? ⟨w.heap.size, 2, none⟩ = some (.slice A2 os.length c2) ∧ w10.cell? ⟨w.heap.size, 3, none⟩ = some (.slice A3 ds.length c3) ∧ w10.cell? ⟨w.heap.size, 4, none⟩ = some (.int .u64 ver) ∧ w10.cell? ⟨w.heap.size + 1, 0, none⟩ = some (.int .i64 kind) ∧ w10.cell? ⟨w.heap.size + 1, 1, none⟩ = some (.int .u64 ta) ∧ w10.cell? ⟨w.heap.size + 1, 2, none⟩ = some (.int .u64 ti) ∧ w10.cell? ⟨w.heap.size + 1, 3, none⟩ = some (.string key) ∧ w10.cell? ⟨w.heap.size + 1, 4, none⟩ = some (.slice A4 n4 c4) ∧ w10.cell? ⟨w.heap.size + 1, 5, none⟩ = some (.bool cm) ∧ w10.cell? ⟨w.heap.size + 1, 6, none⟩ = some (.slice A5 n5 c5) ∧ Below w8.heap.size w8 w10 from by assumption)
  have HW10 : qza (w.heap.size + 1 + 1 + 1 + 1 ≤ w10.heap.size) := ⟨Nat.le_trans HW8.out hb10.size⟩
  have ZB10 := qza.mk (stay hb10 ZB8.out (by have := HW8.out; omega))
  have AB10 := qza.mk (stay hb10 AB8.out (by have := HW8.out; omega))
  have OB10 := qza.mk (stay hb10 OB8.out (by have := HW8.out; omega))
  have SB10 := qza.mk (stay hb10 SB8.out (by have := HW8.out; omega))
  have HB10 := qza.mk (HB8.out.trans (hb10.mono HB8.out.size))
  clear hb10
  obtain ⟨Ah, ch, hv1, hlh1⟩ := qz37 HO1.out
  rw [List.length_map] at hv1
  subst hv1
  obtain ⟨Aw, cw, hv2, hlw2⟩ := qz37 HO2.out
  rw [List.length_map] at hv2
  subst hv2
  obtain ⟨css, HRW0, hraw⟩ := opens_raw (w := w) ⟨_, _, rfl, HC2.out, HR2.out⟩
  have HRW := qza.mk HRW0
  have HCSS := qza.mk HRW0.1
  have HCL := qza.mk (CloneOpen (.slice A2 os.length c2) css w10 (hraw.below HB10.out) (by rw [HRW0.1]; have := HLIM.out; omega))
  have HLW := qza.mk hlw2
  have HRWL := qza.mk (Kd.C_own2 HO2.out).2.1
  have HLH := qza.mk hlh1
  clear hraw HRW0 hlw2 hlh1
  go_wp2_with (go_at_call 56; refine HCL.out.mono ?_; rintro e w11 ⟨v3, rfl, ho11, hb11⟩; clear hs0 hs1 hs2 hs3 hs4 ho0 ho1 ho2 ho3 ho4 ho5 ho6; have SB11 := qza.mk (stay hb11 SB10.out (by have := HW10.out; omega)); obtain ⟨hs0, hs1, hs2, hs3, hs4⟩ := qz4 SB11.out; obtain ⟨hz0, hz1, hz2, hz3, hz4⟩ := qz14 SB11.out; obtain ⟨Ac, cc, hv3, hcc⟩ := qz37 ho11; rw [HCSS.out] at hv3; subst hv3; have HO3 := qza.mk ho11; have HB11 := qza.mk hb11; clear ho11 hb11 hcc)
  clear hs0 hs1 hs2 hs3 hs4 hz0 hz1 hz2 hz3 hz4
  have hsu : os.length ≤ 9223372036854775807 := HR2.out.2.1
  go_loopg [120] os.length (fun gg s120 wr => ∃ (jj : Nat) (css' : List (List Value)), jj ≤ os.length ∧ os.length - jj ≤ gg ∧ s120 = .int .i64 jj ∧ qza (w10.grownBy wr (some w.heap.size)) ∧ qza (Below w.heap.size w wr) ∧ qza (wr.heap[w.heap.size]? = some (.cells #[.slice A0 rs.length c0, .slice Ah rh.length ch, .slice Ac os.length cc, .slice A3 ds.length c3, .int .u64 ver] 28 (0, 0))) ∧ qza (Own 5 48 wr w10.heap.size (.slice Ac os.length cc) css') ∧ qza (qz54 w (markTo rw_ os jj) css'))
  case atStart =>
    exact ⟨0, css, Nat.zero_le _, by omega, rfl, ⟨((Lib.grownBy_below (World.grownBy.refl _ _) HB11.out).trans (Lib.grownBy_setCell _ _ 1 _)).trans (Lib.grownBy_setCell _ _ 2 _)⟩, ⟨((HB10.out.trans (HB11.out.mono HB10.out.size)).setCell (p := ⟨w.heap.size, 1, none⟩) (Nat.le_refl _) _).setCell (p := ⟨w.heap.size, 2, none⟩) (Nat.le_refl _) _⟩, ⟨qz23 (qz23 SB11.out 1 _ rfl) 2 _ rfl⟩, ⟨(HO3.out.kept (Lib.grownBy_setCell _ _ 1 _) (fun k e e2 => by have := HO3.out.base k e; have := HW10.out; have := Option.some.inj e2; omega)).kept (Lib.grownBy_setCell _ _ 2 _) (fun k e e2 => by have := HO3.out.base k e; have := HW10.out; have := Option.some.inj e2; omega)⟩, ⟨by rw [markTo_zero]; exact HRW.out⟩⟩
  case round =>
    obtain ⟨jj, css', hjj, hgk, rfl, HG, HBr, HSr, HOr, HRr⟩ := hrel
    have hs2 : wr.cell? ⟨w.heap.size, 2, none⟩ = some (.slice Ac os.length cc) := (qz4 HSr.out).2.2.1
    have HLEN := qza.mk (show css'.length = os.length by rw [HRr.out.1, qz75])
    by_cases hlt : jj < os.length
    · have hltz : (jj : Int) < (os.length : Int) := by omega
      obtain ⟨g, hAc⟩ : ∃ g, Ac = some ⟨g, 0, none⟩ := by
        rcases HOr.out.cases with ⟨_, h0⟩ | ⟨g, cap, cur, e, _⟩
        · have := HLEN.out; rw [h0] at this; simp at this; omega
        · exact ⟨g, (Value.slice.inj e).1⟩
      subst hAc
      have HGB := qza.mk (HOr.out.base g rfl)
      have HGL := qza.mk (HOr.out.lt g rfl)
      obtain ⟨pB, pc, hpe, hpl, hpr⟩ := HRr.out.cells jj (by rw [qz75]; exact hlt)
      rw [markTo_at rw_ os jj hlt] at hpe hpl hpr
      have HPE := qza.mk hpe
      have HPL := qza.mk hpl
      have HPR := qza.mk hpr
      have hx0 : wr.cell? ⟨g, jj * 5, none⟩ = some (.int .u64 (os[jj]!).f0.f0) := by have h := (HOr.out.get jj 0 (by rw [HLEN.out]; exact hlt) (by decide)).1; rw [hpe] at h; exact h
      have hx1 : wr.cell? ⟨g, jj * 5 + 1, none⟩ = some (.int .u64 (os[jj]!).f0.f1) := by have h := (HOr.out.get jj 1 (by rw [HLEN.out]; exact hlt) (by decide)).1; rw [hpe] at h; exact h
      have hx3 : wr.cell? ⟨g, jj * 5 + 3, none⟩ = some (.bool (os[jj]!).f2) := by have h := (HOr.out.get jj 3 (by rw [HLEN.out]; exact hlt) (by decide)).1; rw [hpe] at h; exact h
      have hy3 := (HOr.out.get jj 3 (by rw [HLEN.out]; exact hlt) (by decide)).2.1
      have HX3 := qza.mk hx3
      have HY3 := qza.mk hy3
      have HS2 := qza.mk hs2
      have HCO := qza.mk (qz82 Aw cw rw_ (os[jj]!).f0.f0 (os[jj]!).f0.f1 wr (Kd.C_own2 (HO2.out.kept HG.out (fun k e e2 => by have := HO2.out.base k e; have := HW9.out; have := Option.some.inj e2; omega))) (by have := HLW.out; rwa [List.length_map] at this) (by have := HRWL.out; omega))
      have HSTEP := qza.mk (markTo_step rw_ os jj hlt)
      have HSKIP := qza.mk (markTo_skip rw_ os jj hlt)
      clear hpe hpl hpr hx3 hy3
      generalize os[jj]! = x at *
      obtain ⟨⟨xa, xi⟩, xf, xw, xp⟩ := x
      dsimp only at *
      cases hh : hasTx rw_ ⟨xa, xi⟩ with
      | true =>
        have HH := qza.mk hh
        rw [hh] at HCO
        clear hh
        go_wp2_with (go_at_call 57; refine HCO.out.mono ?_; rintro e w12 ⟨rfl, hb12⟩; have hs2' := (hb12.cell (World.block_lt_of_cell? _ _ HS2.out)).trans HS2.out; have hx3 := (hb12.cell (World.block_lt_of_cell? _ _ HX3.out)).trans HX3.out; have hy3 : w12.frozen? ⟨g, jj * 5 + 3, none⟩ = false := (hb12.frozen (p := ⟨g, jj * 5 + 3, none⟩) (World.block_lt_of_cell? _ _ HX3.out)).trans HY3.out; have HB12 := qza.mk hb12; clear hs2 hx0 hx1 hb12)
        go_roundg (os.length - (jj + 1))
        case measure => omega
        case rel =>
          have hst := (HOr.out.below HB12.out).store jj 3 (by rw [HLEN.out]; exact hlt) (by decide) (.bool true) rfl
          exact ⟨jj + 1, _, by omega, by omega, by go_num, ⟨(Lib.grownBy_below HG.out HB12.out).andThen hst.2 (fun k e => .inl (by cases e; exact HGB.out))⟩, ⟨(HBr.out.trans (HB12.out.mono HBr.out.size)).setCell (p := ⟨g, jj * 5 + 3, none⟩) (by have := HGB.out; have := HW10.out; show w.heap.size ≤ g; omega) _⟩, ⟨by rw [RowKit.Below.heap_setCell _ _ _ _ (show w.heap.size ≠ g by have := HGB.out; have := HW10.out; omega)]; exact stay HB12.out HSr.out (by have := HGL.out; have := HGB.out; have := HW10.out; omega)⟩, ⟨hst.1⟩, ⟨by rw [HSTEP.out, HPE.out]; unfold woundV; rw [if_pos HH.out]; exact HRr.out.put jj (openK_mk (x := ⟨⟨xa, xi⟩, xf, true, xp⟩) HPL.out HPR.out)⟩⟩
      | false =>
        have HH := qza.mk hh
        rw [hh] at HCO
        clear hh
        go_wp2_with (go_at_call 57; refine HCO.out.mono ?_; rintro e w12 ⟨rfl, hb12⟩; have HB12 := qza.mk hb12; clear hs2 hx0 hx1 hb12)
        go_roundg (os.length - (jj + 1))
        case measure => omega
        case rel => exact ⟨jj + 1, css', by omega, by omega, by go_num, ⟨Lib.grownBy_below HG.out HB12.out⟩, ⟨HBr.out.trans (HB12.out.mono HBr.out.size)⟩, ⟨stay HB12.out HSr.out (by have := HGL.out; have := HGB.out; have := HW10.out; omega)⟩, ⟨HOr.out.below HB12.out⟩, ⟨by rw [HSKIP.out HH.out]; exact HRr.out⟩⟩
    · have hltz : ¬ (jj : Int) < (os.length : Int) := by omega
      obtain rfl : jj = os.length := by omega
      rw [markTo_all] at HRr
      have HCS3 : qza (css'.length = os.length) := ⟨by have := HRr.out.1; rwa [List.length_map] at this⟩
      clear hs2 hlt hjj hgk hsu
      have OBr := qza.mk ((HG.out.block (w.heap.size + 1) (by have := HW10.out; omega) (fun e => by have := Option.some.inj e; omega)).trans OB10.out)
      have ZBr := qza.mk ((HG.out.block (w.heap.size + 1 + 1) (by have := HW10.out; omega) (fun e => by have := Option.some.inj e; omega)).trans ZB10.out)
      have ABr := qza.mk ((HG.out.block (w.heap.size + 1 + 1 + 1) (by have := HW10.out; omega) (fun e => by have := Option.some.inj e; omega)).trans AB10.out)
      have HWr : qza (w.heap.size + 1 + 1 + 1 + 1 ≤ wr.heap.size) := ⟨Nat.le_trans HW10.out HG.out.size⟩
      obtain ⟨hs0, hs1, hs2, hs3, hs4⟩ := qz4 HSr.out
      obtain ⟨ho0, ho1, ho2, ho3, ho4, ho5, ho6⟩ := qz12 OBr.out
      go_wp2_with (first
        | (at_builtin; refine own_push rfl (.tmp 140) (.tmp 144) rfl Try.underlying24 infoOpen rfl (by decide) (by decide) rfl rfl (c := [.int .u64 ta, .int .u64 ti, .bool false, .bool false, .slice none 0 0]) ⟨rfl, by simp [Value.oneCell']⟩ HOr.out (by have := HG.out.size; omega) (by have := HCS3.out; have := HLIM.out; omega) ?_; intro v14 w14 ho14 hg14; obtain ⟨Ae, ce, hv14, _⟩ := qz37 ho14; rw [List.length_append, HCS3.out] at hv14; subst hv14; have HG14 : qza (w10.grownBy w14 (some w.heap.size)) := ⟨HG.out.andThen hg14 (fun k e => .inl (HOr.out.base k e))⟩; have HB14 : qza (Below w.heap.size w w14) := ⟨HBr.out.grown hg14 HBr.out.size (fun k e => by have := HOr.out.base k e; have := HW10.out; omega)⟩; have SB14 := qza.mk ((hg14.block w.heap.size (by have := HWr.out; omega) (fun e => by have := HOr.out.base _ e.symm; have := HW10.out; omega)).trans HSr.out); have OB14 := qza.mk ((HG14.out.block (w.heap.size + 1) (by have := HW10.out; omega) (fun e => by have := Option.some.inj e; omega)).trans OB10.out); clear hs0 hs1 hs2 hs3 hs4 ho0 ho1 ho2 ho3 ho4 ho5 ho6; obtain ⟨hs0, hs1, hs2, hs3, hs4⟩ := qz4 SB14.out; obtain ⟨hz0, hz1, hz2, hz3, hz4⟩ := qz14 SB14.out; obtain ⟨ho0, ho1, ho2, ho3, ho4, ho5, ho6⟩ := qz12 OB14.out; have HS15 := qza.mk (qz23 (cs := #[.slice A0 rs.length c0, .slice Ah rh.length ch, .slice Ac os.length cc, .slice A3 ds.length c3, .int .u64 ver]) SB14.out 2 (.slice Ae (os.length + [[Value.int .u64 ta, .int .u64 ti, .bool false, .bool false, .slice none 0 0]].length) ce) rfl); have HG15 := qza.mk (HG14.out.trans (Lib.grownBy_setCell w14 w.heap.size 2 (.slice Ae (os.length + [[Value.int .u64 ta, .int .u64 ti, .bool false, .bool false, .slice none 0 0]].length) ce))); have HB15 := qza.mk (HB14.out.setCell (p := ⟨w.heap.size, 2, none⟩) (Nat.le_refl _) (.slice Ae (os.length + [[Value.int .u64 ta, .int .u64 ti, .bool false, .bool false, .slice none 0 0]].length) ce)); have ZB15 := qza.mk ((HG15.out.block (w.heap.size + 1 + 1) (by have := HW10.out; omega) (fun e => by have := Option.some.inj e; omega)).trans ZB10.out); have AB15 := qza.mk ((HG15.out.block (w.heap.size + 1 + 1 + 1) (by have := HW10.out; omega) (fun e => by have := Option.some.inj e; omega)).trans AB10.out); have HO15 := qza.mk (ho14.kept (Lib.grownBy_setCell w14 w.heap.size 2 (.slice Ae (os.length + [[Value.int .u64 ta, .int .u64 ti, .bool false, .bool false, .slice none 0 0]].length) ce)) (fun b e e2 => by have := ho14.base b e; have := HW10.out; have := Option.some.inj e2; omega)); have HR15 := qza.mk (HRr.out.push (openK_mk (W := w) (x := ⟨⟨ta, ti⟩, false, false, []⟩) (B := none) (c := 0) (Nat.le_refl _) (Kd.C_nil _ _))); have HW15 := qza.mk (Nat.le_trans HW10.out HG15.out.size); clear ho14 hg14)
        | (go_at_call 58; refine (HGET.out _ HB15.out).mono ?_; rintro e w13 ⟨rfl, hb13⟩; clear hs0 hs1 hs2 hs3 hs4 ho0 ho1 ho2 ho3 ho4 ho5 ho6; have SB13 := qza.mk (stay hb13 HS15.out (by have := HW15.out; omega)); have ZB13 := qza.mk (stay hb13 ZB15.out (by have := HW15.out; omega)); have AB13 := qza.mk (stay hb13 AB15.out (by have := HW15.out; omega)); have hn13 : w.heap.size + 1 + 1 + 1 + 1 ≤ w13.heap.size := (by have := HW15.out; have := hb13.size; omega); obtain ⟨hs0, hs1, hs2, hs3, hs4⟩ := qz4 (stayA SB13.out (.cells #[.string g1, .string g2, .int .u64 g3] 50)); obtain ⟨hz0, hz1, hz2, hz3, hz4⟩ := qz4 (stayA ZB13.out (.cells #[.string g1, .string g2, .int .u64 g3] 50)); obtain ⟨ha0, ha1, ha2, ha3, ha4⟩ := qz4 (stayA AB13.out (.cells #[.string g1, .string g2, .int .u64 g3] 50)); obtain ⟨hy0, hy1, hy2, hy3, hy4⟩ := qz14 (stayA ZB13.out (.cells #[.string g1, .string g2, .int .u64 g3] 50)); obtain ⟨hx0, hx1, hx2, hx3, hx4⟩ := qz14 (stayA AB13.out (.cells #[.string g1, .string g2, .int .u64 g3] 50)); have HB13 := qza.mk hb13; clear hb13))
      go_region
      go_wp2
      have hW9 := HW9.out
      have hW10 := HW10.out
      refine qz51 rfl rfl rfl rfl (stayA ZB13.out (.cells #[.string g1, .string g2, .int .u64 g3] 50)) (stayA AB13.out (.cells #[.string g1, .string g2, .int .u64 g3] 50)) (by omega) ?_
      have hbW := fun (a0 a1 a2 a3 a4 b0 b1 b2 b3 b4 : Value) => (qz7 (qz7 ((HB15.out.trans (HB13.out.mono HB15.out.size)).alloc (by have := HB15.out.size; have := HB13.out.size; omega) (.cells #[.string g1, .string g2, .int .u64 g3] 50)) (show w.heap.size ≤ w.heap.size + 1 + 1 by omega) a0 a1 a2 a3 a4) (show w.heap.size ≤ w.heap.size + 1 + 1 + 1 by omega) b0 b1 b2 b3 b4).drew
      exact ⟨_, rfl, ⟨_, _, _, _, rfl, ⟨_, _, rfl, HC0.out, Kd.C_below HR0.out (hbW _ _ _ _ _ _ _ _ _ _)⟩, flat75.ofsl (own_tail HO1.out HG15.out HB13.out hW9 _ _ _ _ _ _ _ _ _ _ _).sl, qz64 HR15.out (hbW _ _ _ _ _ _ _ _ _ _) (own_tail HO15.out (World.grownBy.refl _ _) HB13.out hW10 _ _ _ _ _ _ _ _ _ _ _).sl, ⟨_, _, rfl, HC3.out, Kd.C_below HR3.out (hbW _ _ _ _ _ _ _ _ _ _)⟩⟩, hbW _ _ _ _ _ _ _ _ _ _⟩
set_option maxRecDepth 100000 in
set_option maxHeartbeats 8000000 in
theorem asks_ok_none_f (kind : Int) (t : S30) (key : ByteArray) (A4 : Option Addr) (n4 c4 : Nat) (cm : Bool) (A5 : Option Addr) (n5 c5 : Nat) (A0 : Option Addr) (c0 : Nat) (A1 : Option Addr) (c1 : Nat) (A2 : Option Addr) (c2 : Nat) (A3 : Option Addr) (c3 : Nat) (rs : List S50) (hs : List S75) (os : List S48) (ds : List S68) (ver : Int) (w : World) (hr0 : Kd.C k50 w A0 rs.length rs) (hc0 : rs.length ≤ c0) (hr1 : Kd.C k75 w A1 hs.length hs) (hc1 : hs.length ≤ c1) (hr2 : Kd.C k48 w A2 os.length os) (hc2 : os.length ≤ c2) (hr3 : Kd.C k68 w A3 ds.length ds) (hc3 : ds.length ≤ c3) (hd : ¬ 0 ≤ findI (qz25 t) ds) (hk1 : 1 ≤ key.size) (hk2 : key.size ≤ 16) (hfi : findI (qz16 t) os = -1) (hnf : ¬ 64 ≤ os.length + ds.length) (hlim : os.length + ds.length ≤ 2000000000000) (hlh : hs.length * 40 ≤ 140737488355288) (hok : ∀ x ∈ hs, okTx x.f1) (hoko : ∀ x ∈ os, okTx x.f0) (rh : List S75) (rw_ : List S30) (her : askV hs t key (kind == 2) (firmV os) = (rh, rw_, 0)) (g1 g2 : ByteArray) (g3 : Int) (hg : getV rs key = (g1, g2, g3, false)) :
    Calls Try.prog 21 #[.agg (shv A0 rs.length c0 A1 hs.length c1 A2 os.length c2 A3 ds.length c3 ver), .agg #[.int .i64 kind, .int .u64 t.f0, .int .u64 t.f1, .string key, .slice A4 n4 c4, .bool cm, .slice A5 n5 c5]] w (qz32 w (⟨rs, rh, (os.map (woundV rw_) ++ [⟨t, false, false, []⟩]), ds, ver⟩, ⟨0, g2, ver, false, false⟩)) := by
  obtain ⟨bS, bO, bZ, bA⟩ := qz38 w (.cells #[.slice A0 rs.length c0, .slice A1 hs.length c1, .slice A2 os.length c2, .slice A3 ds.length c3, .int .u64 ver] 28) (.cells #[.int .i64 kind, .int .u64 t.f0, .int .u64 t.f1, .string key, .slice A4 n4 c4, .bool cm, .slice A5 n5 c5] 34) (.cells #[.slice none 0 0, .slice none 0 0, .slice none 0 0, .slice none 0 0, .int .u64 0] 28) (.cells #[.int .i64 0, .string ⟨#[]⟩, .int .u64 0, .bool false, .bool false] 38)
  have hb4 : Below w.heap.size w ((((w.alloc (.cells #[.slice A0 rs.length c0, .slice A1 hs.length c1, .slice A2 os.length c2, .slice A3 ds.length c3, .int .u64 ver] 28)).alloc (.cells #[.int .i64 kind, .int .u64 t.f0, .int .u64 t.f1, .string key, .slice A4 n4 c4, .bool cm, .slice A5 n5 c5] 34)).alloc (.cells #[.slice none 0 0, .slice none 0 0, .slice none 0 0, .slice none 0 0, .int .u64 0] 28)).alloc (.cells #[.int .i64 0, .string ⟨#[]⟩, .int .u64 0, .bool false, .bool false] 38)) := ((((Below.refl w.heap.size w).alloc (Nat.le_refl _) _).alloc (by simp) _).alloc (by simp; omega) _).alloc (by simp; omega) _
  have HW4 : qza (((((w.alloc (.cells #[.slice A0 rs.length c0, .slice A1 hs.length c1, .slice A2 os.length c2, .slice A3 ds.length c3, .int .u64 ver] 28)).alloc (.cells #[.int .i64 kind, .int .u64 t.f0, .int .u64 t.f1, .string key, .slice A4 n4 c4, .bool cm, .slice A5 n5 c5] 34)).alloc (.cells #[.slice none 0 0, .slice none 0 0, .slice none 0 0, .slice none 0 0, .int .u64 0] 28)).alloc (.cells #[.int .i64 0, .string ⟨#[]⟩, .int .u64 0, .bool false, .bool false] 38)).heap.size = w.heap.size + 1 + 1 + 1 + 1) := ⟨by simp⟩
  have BS := qza.mk bS
  have BO := qza.mk bO
  have BZ := qza.mk bZ
  have BA := qza.mk bA
  have HB4 := qza.mk hb4
  have HOV := qza.mk (fun (W : World) (h : Below w.heap.size w W) => qz27 A0 rs.length c0 A1 hs.length c1 A2 os.length c2 A3 c3 ver ds t W (Kd.C_below hr3 h) hc3)
  have HKN := qza.mk (fun (W : World) (h : Below w.heap.size w W) => qz24 A0 rs.length c0 A1 hs.length c1 A2 c2 A3 ds.length c3 ver os t W (Kd.C_below hr2 h) hc2)
  have HR0 := qza.mk hr0
  have HR1 := qza.mk hr1
  have HR2 := qza.mk hr2
  have HR3 := qza.mk hr3
  have HC0 := qza.mk hc0
  have HC1 := qza.mk hc1
  have HC2 := qza.mk hc2
  have HC3 := qza.mk hc3
  clear hr0 hc0 hr1 hc1 hr2 hc2 hr3 hc3 bS bO bZ bA hb4
  rw [decide_eq_false hd] at HOV
  clear hd
  generalize overV ds t = dv at *
  obtain ⟨⟨dA, dI⟩, dC⟩ := dv
  have HNO := qza.mk (fun (W : World) (e0 : Int) => qz35 A0 rs.length c0 A1 hs.length c1 A2 os.length c2 A3 ds.length c3 ver e0 W)
  have hkz : ¬ (key.size : Int) < 1 := by omega
  have hkz2 : ¬ (16 : Int) < (key.size : Int) := by omega
  clear hk1 hk2
  have HFI := qza.mk (fun (W : World) (h : Below w.heap.size w W) => qz77 A0 c0 A1 c1 A2 c2 A3 c3 rs hs os ds ver W (Kd.C_below HR0.out h) HC0.out (Kd.C_below HR1.out h) HC1.out (Kd.C_below HR2.out h) HC2.out (Kd.C_below HR3.out h) HC3.out (by omega))
  have HAK := qza.mk (fun (W : World) (FA : Option Addr) (fc : Nat) (h : Below w.heap.size w W) (h1 : (firmV os).length ≤ fc) (h2 : Kd.C k30 W FA (firmV os).length (firmV os)) => qz80 A1 c1 hs t key (kind == 2) FA fc (firmV os) W (Kd.C_below HR1.out h) HC1.out hlh h2 h1 (by have := firmV_len os; omega) hok (fun x hx => by unfold firmV at hx; obtain ⟨y, hy, rfl⟩ := List.mem_map.1 hx; exact hoko y ((List.mem_filter.1 hy).1)))
  have HGET := qza.mk (fun (W : World) (h : Below w.heap.size w W) => getCalls A0 c0 rs key g1 g2 g3 false W (Kd.C_below HR0.out h) HC0.out hg)
  have HLIM := qza.mk hlim
  rw [her] at HAK
  have HFU := qza.mk (fun (W : World) (h : Below w.heap.size w W) => qz78 A0 c0 A1 c1 A2 c2 A3 c3 rs hs os ds ver W (Kd.C_below HR0.out h) HC0.out (Kd.C_below HR1.out h) HC1.out (Kd.C_below HR2.out h) HC2.out (Kd.C_below HR3.out h) HC3.out (by omega))
  rw [decide_eq_false hnf] at HFU
  rw [hfi] at HKN
  clear hnf hfi
  clear hlim hlh hok hoko her hg
  obtain ⟨ta, ti⟩ := t
  unfold shv at *
  dsimp only at *
  go_enter Try.func21, Try.ntmps21
  go_wp2_with (first
    | (go_at_call 51; refine (HOV.out _ HB4.out).mono ?_; rintro e w5 ⟨rfl, hb5⟩; have HW5 := qza.mk hb5.size; have SB5 := qza.mk (stay hb5 BS.out (by rw [HW4.out]; omega)); have OB5 := qza.mk (stay hb5 BO.out (by rw [HW4.out]; omega)); have ZB5 := qza.mk (stay hb5 BZ.out (by rw [HW4.out]; omega)); have AB5 := qza.mk (stay hb5 BA.out (by rw [HW4.out]; omega)); obtain ⟨hs0, hs1, hs2, hs3, hs4⟩ := qz4 (stayA SB5.out (.cells #[.int .u64 dA, .int .u64 dI, .bool dC] 68)); obtain ⟨ho0, ho1, ho2, ho3, ho4, ho5, ho6⟩ := qz12 (stayA OB5.out (.cells #[.int .u64 dA, .int .u64 dI, .bool dC] 68)); have HB5 := qza.mk (HB4.out.trans (hb5.mono HB4.out.size)); clear hb5)
    | (go_at_call 52; refine (HKN.out _ (HB5.out.alloc HB5.out.size (.cells #[.int .u64 dA, .int .u64 dI, .bool dC] 68))).mono ?_; rintro e w6 ⟨rfl, hb6⟩; clear hs0 hs1 hs2 hs3 hs4 ho0 ho1 ho2 ho3 ho4 ho5 ho6; have SB6 := qza.mk (stay hb6 (stayA SB5.out (.cells #[.int .u64 dA, .int .u64 dI, .bool dC] 68)) (by have := HW4.out; have := HW5.out; simp; omega)); have OB6 := qza.mk (stay hb6 (stayA OB5.out (.cells #[.int .u64 dA, .int .u64 dI, .bool dC] 68)) (by have := HW4.out; have := HW5.out; simp; omega)); have ZB6 := qza.mk (stay hb6 (stayA ZB5.out (.cells #[.int .u64 dA, .int .u64 dI, .bool dC] 68)) (by have := HW4.out; have := HW5.out; simp; omega)); have AB6 := qza.mk (stay hb6 (stayA AB5.out (.cells #[.int .u64 dA, .int .u64 dI, .bool dC] 68)) (by have := HW4.out; have := HW5.out; simp; omega)); have DB6 := qza.mk (stay hb6 (heap_alloc_new w5 (.cells #[.int .u64 dA, .int .u64 dI, .bool dC] 68)) (by simp)); obtain ⟨hs0, hs1, hs2, hs3, hs4⟩ := qz4 SB6.out; obtain ⟨ho0, ho1, ho2, ho3, ho4, ho5, ho6⟩ := qz12 OB6.out; obtain ⟨hd0, hd1, hd2⟩ := qz39 DB6.out; have HB6 := qza.mk ((HB5.out.alloc HB5.out.size (.cells #[.int .u64 dA, .int .u64 dI, .bool dC] 68)).trans (hb6.mono (HB5.out.alloc HB5.out.size (.cells #[.int .u64 dA, .int .u64 dI, .bool dC] 68)).size)); have HW6 : qza (w.heap.size + 1 + 1 + 1 + 1 ≤ w6.heap.size) := ⟨by have := HW4.out; have := HW5.out; have := hb6.size; simp at this; omega⟩; clear hb6)
    | (go_at_call 53; refine (HFU.out _ HB6.out).mono ?_; rintro e w8 ⟨rfl, hb8⟩; clear hs0 hs1 hs2 hs3 hs4 ho0 ho1 ho2 ho3 ho4 ho5 ho6; have SB8 := qza.mk (stay hb8 SB6.out (by have := HW6.out; omega)); have OB8 := qza.mk (stay hb8 OB6.out (by have := HW6.out; omega)); have ZB8 := qza.mk (stay hb8 ZB6.out (by have := HW6.out; omega)); have AB8 := qza.mk (stay hb8 AB6.out (by have := HW6.out; omega)); have HW8 : qza (w.heap.size + 1 + 1 + 1 + 1 ≤ w8.heap.size) := ⟨Nat.le_trans HW6.out hb8.size⟩; obtain ⟨hs0, hs1, hs2, hs3, hs4⟩ := qz4 SB8.out; obtain ⟨ho0, ho1, ho2, ho3, ho4, ho5, ho6⟩ := qz12 OB8.out; have HB8 := qza.mk (HB6.out.trans (hb8.mono HB6.out.size)); clear hb8))
  clear hd0 hd1 hd2
  have hS0 := keepS (w0 := w8) ⟨hs0, hs1, hs2, hs3, hs4, ho0, ho1, ho2, ho3, ho4, ho5, ho6, Below.refl _ _⟩ ((Below.refl _ _).drew)
  clear hs0 hs1 hs2 hs3 hs4 ho0 ho1 ho2 ho3 ho4 ho5 ho6
  go_region_held3 (fun w' => w'.cell? ⟨w.heap.size, 0, none⟩ = some (.slice A0 rs.length c0) ∧ w'.cell? ⟨w.heap.size, 1, none⟩ = some (.slice A1 hs.length c1) ∧ w'.cell? ⟨w.heap.size, 2, none⟩ = some (.slice A2 os.length c2) ∧ w'.cell? ⟨w.heap.size, 3, none⟩ = some (.slice A3 ds.length c3) ∧ w'.cell? ⟨w.heap.size, 4, none⟩ = some (.int .u64 ver) ∧ w'.cell? ⟨w.heap.size + 1, 0, none⟩ = some (.int .i64 kind) ∧ w'.cell? ⟨w.heap.size + 1, 1, none⟩ = some (.int .u64 ta) ∧ w'.cell? ⟨w.heap.size + 1, 2, none⟩ = some (.int .u64 ti) ∧ w'.cell? ⟨w.heap.size + 1, 3, none⟩ = some (.string key) ∧ w'.cell? ⟨w.heap.size + 1, 4, none⟩ = some (.slice A4 n4 c4) ∧ w'.cell? ⟨w.heap.size + 1, 5, none⟩ = some (.bool cm) ∧ w'.cell? ⟨w.heap.size + 1, 6, none⟩ = some (.slice A5 n5 c5) ∧ Below w8.heap.size w8 w') (first | exact hS0 | exact keepS (by assumption) (by assumption)) ((first
    | (go_at_call 55; with_reducible refine (HFI.out _ HB8.out.drew).mono ?_; rintro e w9 ⟨⟨FA, fc, rfl, hf1, hf2⟩, hb9⟩; have HW9 : qza (w.heap.size + 1 + 1 + 1 + 1 ≤ w9.heap.size) := ⟨by have := HW8.out; have h9 := hb9.size; rw [qz26] at h9; omega⟩; have HF1 := qza.mk hf1; have HF2 := qza.mk hf2; have HB9 := qza.mk (HB8.out.drew.trans (hb9.mono HB8.out.drew.size)); clear hf1 hf2)
    | (go_at_call 54; with_reducible refine (HAK.out _ _ _ HB9.out HF1.out HF2.out).mono ?_; intro e w10 hpost; obtain ⟨v1, v2, rfl, hw1, hw2, hb10⟩ := askOut hpost; have HO1 := qza.mk hw1; have HO2 := qza.mk hw2; clear hw1 hw2)))
  obtain ⟨hs0, hs1, hs2, hs3, hs4, ho0, ho1, ho2, ho3, ho4, ho5, ho6, hb10⟩ := (show w10.cell? ⟨w.heap.size, 0, none⟩ = some (.slice A0 rs.length c0) ∧ w10.cell? ⟨w.heap.size, 1, none⟩ = some (.slice A1 hs.length c1) ∧ w10.cell? ⟨w.heap.size, 2, none⟩ = some (.slice A2 os.length c2) ∧ w10.cell? ⟨w.heap.size, 3, none⟩ = some (.slice A3 ds.length c3) ∧ w10.cell? ⟨w.heap.size, 4, none⟩ = some (.int .u64 ver) ∧ w10.cell? ⟨w.heap.size + 1, 0, none⟩ = some (.int .i64 kind) ∧ w10.cell? ⟨w.heap.size + 1, 1, none⟩ = some (.int .u64 ta) ∧ w10.cell? ⟨w.heap.size + 1, 2, none⟩ = some (.int .u64 ti) ∧ w10.cell? ⟨w.heap.size + 1, 3, none⟩ = some (.string key) ∧ w10.cell? ⟨w.heap.size + 1, 4, none⟩ = some (.slice A4 n4 c4) ∧ w10.cell? ⟨w.heap.size + 1, 5, none⟩ = some (.bool cm) ∧ w10.cell? ⟨w.heap.size + 1, 6, none⟩ = some (.slice A5 n5 c5) ∧ Below w8.heap.size w8 w10 from by assumption)
  have HW10 : qza (w.heap.size + 1 + 1 + 1 + 1 ≤ w10.heap.size) := ⟨Nat.le_trans HW8.out hb10.size⟩
  have ZB10 := qza.mk (stay hb10 ZB8.out (by have := HW8.out; omega))
  have AB10 := qza.mk (stay hb10 AB8.out (by have := HW8.out; omega))
  have OB10 := qza.mk (stay hb10 OB8.out (by have := HW8.out; omega))
  have SB10 := qza.mk (stay hb10 SB8.out (by have := HW8.out; omega))
  have HB10 := qza.mk (HB8.out.trans (hb10.mono HB8.out.size))
  clear hb10
  obtain ⟨Ah, ch, hv1, hlh1⟩ := qz37 HO1.out
  rw [List.length_map] at hv1
  subst hv1
  obtain ⟨Aw, cw, hv2, hlw2⟩ := qz37 HO2.out
  rw [List.length_map] at hv2
  subst hv2
  obtain ⟨css, HRW0, hraw⟩ := opens_raw (w := w) ⟨_, _, rfl, HC2.out, HR2.out⟩
  have HRW := qza.mk HRW0
  have HCSS := qza.mk HRW0.1
  have HCL := qza.mk (CloneOpen (.slice A2 os.length c2) css w10 (hraw.below HB10.out) (by rw [HRW0.1]; have := HLIM.out; omega))
  have HLW := qza.mk hlw2
  have HRWL := qza.mk (Kd.C_own2 HO2.out).2.1
  have HLH := qza.mk hlh1
  clear hraw HRW0 hlw2 hlh1
  go_wp2_with (go_at_call 56; refine HCL.out.mono ?_; rintro e w11 ⟨v3, rfl, ho11, hb11⟩; clear hs0 hs1 hs2 hs3 hs4 ho0 ho1 ho2 ho3 ho4 ho5 ho6; have SB11 := qza.mk (stay hb11 SB10.out (by have := HW10.out; omega)); obtain ⟨hs0, hs1, hs2, hs3, hs4⟩ := qz4 SB11.out; obtain ⟨hz0, hz1, hz2, hz3, hz4⟩ := qz14 SB11.out; obtain ⟨Ac, cc, hv3, hcc⟩ := qz37 ho11; rw [HCSS.out] at hv3; subst hv3; have HO3 := qza.mk ho11; have HB11 := qza.mk hb11; clear ho11 hb11 hcc)
  clear hs0 hs1 hs2 hs3 hs4 hz0 hz1 hz2 hz3 hz4
  have hsu : os.length ≤ 9223372036854775807 := HR2.out.2.1
  go_loopg [120] os.length (fun gg s120 wr => ∃ (jj : Nat) (css' : List (List Value)), jj ≤ os.length ∧ os.length - jj ≤ gg ∧ s120 = .int .i64 jj ∧ qza (w10.grownBy wr (some w.heap.size)) ∧ qza (Below w.heap.size w wr) ∧ qza (wr.heap[w.heap.size]? = some (.cells #[.slice A0 rs.length c0, .slice Ah rh.length ch, .slice Ac os.length cc, .slice A3 ds.length c3, .int .u64 ver] 28 (0, 0))) ∧ qza (Own 5 48 wr w10.heap.size (.slice Ac os.length cc) css') ∧ qza (qz54 w (markTo rw_ os jj) css'))
  case atStart =>
    exact ⟨0, css, Nat.zero_le _, by omega, rfl, ⟨((Lib.grownBy_below (World.grownBy.refl _ _) HB11.out).trans (Lib.grownBy_setCell _ _ 1 _)).trans (Lib.grownBy_setCell _ _ 2 _)⟩, ⟨((HB10.out.trans (HB11.out.mono HB10.out.size)).setCell (p := ⟨w.heap.size, 1, none⟩) (Nat.le_refl _) _).setCell (p := ⟨w.heap.size, 2, none⟩) (Nat.le_refl _) _⟩, ⟨qz23 (qz23 SB11.out 1 _ rfl) 2 _ rfl⟩, ⟨(HO3.out.kept (Lib.grownBy_setCell _ _ 1 _) (fun k e e2 => by have := HO3.out.base k e; have := HW10.out; have := Option.some.inj e2; omega)).kept (Lib.grownBy_setCell _ _ 2 _) (fun k e e2 => by have := HO3.out.base k e; have := HW10.out; have := Option.some.inj e2; omega)⟩, ⟨by rw [markTo_zero]; exact HRW.out⟩⟩
  case round =>
    obtain ⟨jj, css', hjj, hgk, rfl, HG, HBr, HSr, HOr, HRr⟩ := hrel
    have hs2 : wr.cell? ⟨w.heap.size, 2, none⟩ = some (.slice Ac os.length cc) := (qz4 HSr.out).2.2.1
    have HLEN := qza.mk (show css'.length = os.length by rw [HRr.out.1, qz75])
    by_cases hlt : jj < os.length
    · have hltz : (jj : Int) < (os.length : Int) := by omega
      obtain ⟨g, hAc⟩ : ∃ g, Ac = some ⟨g, 0, none⟩ := by
        rcases HOr.out.cases with ⟨_, h0⟩ | ⟨g, cap, cur, e, _⟩
        · have := HLEN.out; rw [h0] at this; simp at this; omega
        · exact ⟨g, (Value.slice.inj e).1⟩
      subst hAc
      have HGB := qza.mk (HOr.out.base g rfl)
      have HGL := qza.mk (HOr.out.lt g rfl)
      obtain ⟨pB, pc, hpe, hpl, hpr⟩ := HRr.out.cells jj (by rw [qz75]; exact hlt)
      rw [markTo_at rw_ os jj hlt] at hpe hpl hpr
      have HPE := qza.mk hpe
      have HPL := qza.mk hpl
      have HPR := qza.mk hpr
      have hx0 : wr.cell? ⟨g, jj * 5, none⟩ = some (.int .u64 (os[jj]!).f0.f0) := by have h := (HOr.out.get jj 0 (by rw [HLEN.out]; exact hlt) (by decide)).1; rw [hpe] at h; exact h
      have hx1 : wr.cell? ⟨g, jj * 5 + 1, none⟩ = some (.int .u64 (os[jj]!).f0.f1) := by have h := (HOr.out.get jj 1 (by rw [HLEN.out]; exact hlt) (by decide)).1; rw [hpe] at h; exact h
      have hx3 : wr.cell? ⟨g, jj * 5 + 3, none⟩ = some (.bool (os[jj]!).f2) := by have h := (HOr.out.get jj 3 (by rw [HLEN.out]; exact hlt) (by decide)).1; rw [hpe] at h; exact h
      have hy3 := (HOr.out.get jj 3 (by rw [HLEN.out]; exact hlt) (by decide)).2.1
      have HX3 := qza.mk hx3
      have HY3 := qza.mk hy3
      have HS2 := qza.mk hs2
      have HCO := qza.mk (qz82 Aw cw rw_ (os[jj]!).f0.f0 (os[jj]!).f0.f1 wr (Kd.C_own2 (HO2.out.kept HG.out (fun k e e2 => by have := HO2.out.base k e; have := HW9.out; have := Option.some.inj e2; omega))) (by have := HLW.out; rwa [List.length_map] at this) (by have := HRWL.out; omega))
      have HSTEP := qza.mk (markTo_step rw_ os jj hlt)
      have HSKIP := qza.mk (markTo_skip rw_ os jj hlt)
      clear hpe hpl hpr hx3 hy3
      generalize os[jj]! = x at *
      obtain ⟨⟨xa, xi⟩, xf, xw, xp⟩ := x
      dsimp only at *
      cases hh : hasTx rw_ ⟨xa, xi⟩ with
      | true =>
        have HH := qza.mk hh
        rw [hh] at HCO
        clear hh
        go_wp2_with (go_at_call 57; refine HCO.out.mono ?_; rintro e w12 ⟨rfl, hb12⟩; have hs2' := (hb12.cell (World.block_lt_of_cell? _ _ HS2.out)).trans HS2.out; have hx3 := (hb12.cell (World.block_lt_of_cell? _ _ HX3.out)).trans HX3.out; have hy3 : w12.frozen? ⟨g, jj * 5 + 3, none⟩ = false := (hb12.frozen (p := ⟨g, jj * 5 + 3, none⟩) (World.block_lt_of_cell? _ _ HX3.out)).trans HY3.out; have HB12 := qza.mk hb12; clear hs2 hx0 hx1 hb12)
        go_roundg (os.length - (jj + 1))
        case measure => omega
        case rel =>
          have hst := (HOr.out.below HB12.out).store jj 3 (by rw [HLEN.out]; exact hlt) (by decide) (.bool true) rfl
          exact ⟨jj + 1, _, by omega, by omega, by go_num, ⟨(Lib.grownBy_below HG.out HB12.out).andThen hst.2 (fun k e => .inl (by cases e; exact HGB.out))⟩, ⟨(HBr.out.trans (HB12.out.mono HBr.out.size)).setCell (p := ⟨g, jj * 5 + 3, none⟩) (by have := HGB.out; have := HW10.out; show w.heap.size ≤ g; omega) _⟩, ⟨by rw [RowKit.Below.heap_setCell _ _ _ _ (show w.heap.size ≠ g by have := HGB.out; have := HW10.out; omega)]; exact stay HB12.out HSr.out (by have := HGL.out; have := HGB.out; have := HW10.out; omega)⟩, ⟨hst.1⟩, ⟨by rw [HSTEP.out, HPE.out]; unfold woundV; rw [if_pos HH.out]; exact HRr.out.put jj (openK_mk (x := ⟨⟨xa, xi⟩, xf, true, xp⟩) HPL.out HPR.out)⟩⟩
      | false =>
        have HH := qza.mk hh
        rw [hh] at HCO
        clear hh
        go_wp2_with (go_at_call 57; refine HCO.out.mono ?_; rintro e w12 ⟨rfl, hb12⟩; have HB12 := qza.mk hb12; clear hs2 hx0 hx1 hb12)
        go_roundg (os.length - (jj + 1))
        case measure => omega
        case rel => exact ⟨jj + 1, css', by omega, by omega, by go_num, ⟨Lib.grownBy_below HG.out HB12.out⟩, ⟨HBr.out.trans (HB12.out.mono HBr.out.size)⟩, ⟨stay HB12.out HSr.out (by have := HGL.out; have := HGB.out; have := HW10.out; omega)⟩, ⟨HOr.out.below HB12.out⟩, ⟨by rw [HSKIP.out HH.out]; exact HRr.out⟩⟩
    · have hltz : ¬ (jj : Int) < (os.length : Int) := by omega
      obtain rfl : jj = os.length := by omega
      rw [markTo_all] at HRr
      have HCS3 : qza (css'.length = os.length) := ⟨by have := HRr.out.1; rwa [List.length_map] at this⟩
      clear hs2 hlt hjj hgk hsu
      have OBr := qza.mk ((HG.out.block (w.heap.size + 1) (by have := HW10.out; omega) (fun e => by have := Option.some.inj e; omega)).trans OB10.out)
      have ZBr := qza.mk ((HG.out.block (w.heap.size + 1 + 1) (by have := HW10.out; omega) (fun e => by have := Option.some.inj e; omega)).trans ZB10.out)
      have ABr := qza.mk ((HG.out.block (w.heap.size + 1 + 1 + 1) (by have := HW10.out; omega) (fun e => by have := Option.some.inj e; omega)).trans AB10.out)
      have HWr : qza (w.heap.size + 1 + 1 + 1 + 1 ≤ wr.heap.size) := ⟨Nat.le_trans HW10.out HG.out.size⟩
      obtain ⟨hs0, hs1, hs2, hs3, hs4⟩ := qz4 HSr.out
      obtain ⟨ho0, ho1, ho2, ho3, ho4, ho5, ho6⟩ := qz12 OBr.out
      go_wp2_with (first
        | (at_builtin; refine own_push rfl (.tmp 140) (.tmp 144) rfl Try.underlying24 infoOpen rfl (by decide) (by decide) rfl rfl (c := [.int .u64 ta, .int .u64 ti, .bool false, .bool false, .slice none 0 0]) ⟨rfl, by simp [Value.oneCell']⟩ HOr.out (by have := HG.out.size; omega) (by have := HCS3.out; have := HLIM.out; omega) ?_; intro v14 w14 ho14 hg14; obtain ⟨Ae, ce, hv14, _⟩ := qz37 ho14; rw [List.length_append, HCS3.out] at hv14; subst hv14; have HG14 : qza (w10.grownBy w14 (some w.heap.size)) := ⟨HG.out.andThen hg14 (fun k e => .inl (HOr.out.base k e))⟩; have HB14 : qza (Below w.heap.size w w14) := ⟨HBr.out.grown hg14 HBr.out.size (fun k e => by have := HOr.out.base k e; have := HW10.out; omega)⟩; have SB14 := qza.mk ((hg14.block w.heap.size (by have := HWr.out; omega) (fun e => by have := HOr.out.base _ e.symm; have := HW10.out; omega)).trans HSr.out); have OB14 := qza.mk ((HG14.out.block (w.heap.size + 1) (by have := HW10.out; omega) (fun e => by have := Option.some.inj e; omega)).trans OB10.out); clear hs0 hs1 hs2 hs3 hs4 ho0 ho1 ho2 ho3 ho4 ho5 ho6; obtain ⟨hs0, hs1, hs2, hs3, hs4⟩ := qz4 SB14.out; obtain ⟨hz0, hz1, hz2, hz3, hz4⟩ := qz14 SB14.out; obtain ⟨ho0, ho1, ho2, ho3, ho4, ho5, ho6⟩ := qz12 OB14.out; have HS15 := qza.mk (qz23 (cs := #[.slice A0 rs.length c0, .slice Ah rh.length ch, .slice Ac os.length cc, .slice A3 ds.length c3, .int .u64 ver]) SB14.out 2 (.slice Ae (os.length + [[Value.int .u64 ta, .int .u64 ti, .bool false, .bool false, .slice none 0 0]].length) ce) rfl); have HG15 := qza.mk (HG14.out.trans (Lib.grownBy_setCell w14 w.heap.size 2 (.slice Ae (os.length + [[Value.int .u64 ta, .int .u64 ti, .bool false, .bool false, .slice none 0 0]].length) ce))); have HB15 := qza.mk (HB14.out.setCell (p := ⟨w.heap.size, 2, none⟩) (Nat.le_refl _) (.slice Ae (os.length + [[Value.int .u64 ta, .int .u64 ti, .bool false, .bool false, .slice none 0 0]].length) ce)); have ZB15 := qza.mk ((HG15.out.block (w.heap.size + 1 + 1) (by have := HW10.out; omega) (fun e => by have := Option.some.inj e; omega)).trans ZB10.out); have AB15 := qza.mk ((HG15.out.block (w.heap.size + 1 + 1 + 1) (by have := HW10.out; omega) (fun e => by have := Option.some.inj e; omega)).trans AB10.out); have HO15 := qza.mk (ho14.kept (Lib.grownBy_setCell w14 w.heap.size 2 (.slice Ae (os.length + [[Value.int .u64 ta, .int .u64 ti, .bool false, .bool false, .slice none 0 0]].length) ce)) (fun b e e2 => by have := ho14.base b e; have := HW10.out; have := Option.some.inj e2; omega)); have HR15 := qza.mk (HRr.out.push (openK_mk (W := w) (x := ⟨⟨ta, ti⟩, false, false, []⟩) (B := none) (c := 0) (Nat.le_refl _) (Kd.C_nil _ _))); have HW15 := qza.mk (Nat.le_trans HW10.out HG15.out.size); clear ho14 hg14)
        | (go_at_call 58; refine (HGET.out _ HB15.out).mono ?_; rintro e w13 ⟨rfl, hb13⟩; clear hs0 hs1 hs2 hs3 hs4 ho0 ho1 ho2 ho3 ho4 ho5 ho6; have SB13 := qza.mk (stay hb13 HS15.out (by have := HW15.out; omega)); have ZB13 := qza.mk (stay hb13 ZB15.out (by have := HW15.out; omega)); have AB13 := qza.mk (stay hb13 AB15.out (by have := HW15.out; omega)); have hn13 : w.heap.size + 1 + 1 + 1 + 1 ≤ w13.heap.size := (by have := HW15.out; have := hb13.size; omega); obtain ⟨hs0, hs1, hs2, hs3, hs4⟩ := qz4 (stayA SB13.out (.cells #[.string g1, .string g2, .int .u64 g3] 50)); obtain ⟨hz0, hz1, hz2, hz3, hz4⟩ := qz4 (stayA ZB13.out (.cells #[.string g1, .string g2, .int .u64 g3] 50)); obtain ⟨ha0, ha1, ha2, ha3, ha4⟩ := qz4 (stayA AB13.out (.cells #[.string g1, .string g2, .int .u64 g3] 50)); obtain ⟨hy0, hy1, hy2, hy3, hy4⟩ := qz14 (stayA ZB13.out (.cells #[.string g1, .string g2, .int .u64 g3] 50)); obtain ⟨hx0, hx1, hx2, hx3, hx4⟩ := qz14 (stayA AB13.out (.cells #[.string g1, .string g2, .int .u64 g3] 50)); obtain ⟨is0, is1, is2, is3, is4⟩ := qz4 (stayA SB13.out (.cells #[.string g1, .string g2, .int .u64 ver] 50)); obtain ⟨iz0, iz1, iz2, iz3, iz4⟩ := qz4 (stayA ZB13.out (.cells #[.string g1, .string g2, .int .u64 ver] 50)); obtain ⟨ia0, ia1, ia2, ia3, ia4⟩ := qz4 (stayA AB13.out (.cells #[.string g1, .string g2, .int .u64 ver] 50)); obtain ⟨iy0, iy1, iy2, iy3, iy4⟩ := qz14 (stayA ZB13.out (.cells #[.string g1, .string g2, .int .u64 ver] 50)); obtain ⟨ix0, ix1, ix2, ix3, ix4⟩ := qz14 (stayA AB13.out (.cells #[.string g1, .string g2, .int .u64 ver] 50)); have HB13 := qza.mk hb13; clear hb13))
      go_region
      go_wp2
      have hW9 := HW9.out
      have hW10 := HW10.out
      refine qz51 rfl rfl rfl rfl (stayA ZB13.out (.cells #[.string g1, .string g2, .int .u64 ver] 50)) (stayA AB13.out (.cells #[.string g1, .string g2, .int .u64 ver] 50)) (by omega) ?_
      have hbW := fun (a0 a1 a2 a3 a4 b0 b1 b2 b3 b4 : Value) => (qz7 (qz7 ((HB15.out.trans (HB13.out.mono HB15.out.size)).alloc (by have := HB15.out.size; have := HB13.out.size; omega) (.cells #[.string g1, .string g2, .int .u64 ver] 50)) (show w.heap.size ≤ w.heap.size + 1 + 1 by omega) a0 a1 a2 a3 a4) (show w.heap.size ≤ w.heap.size + 1 + 1 + 1 by omega) b0 b1 b2 b3 b4).drew
      exact ⟨_, rfl, ⟨_, _, _, _, rfl, ⟨_, _, rfl, HC0.out, Kd.C_below HR0.out (hbW _ _ _ _ _ _ _ _ _ _)⟩, flat75.ofsl (own_tail HO1.out HG15.out HB13.out hW9 _ _ _ _ _ _ _ _ _ _ _).sl, qz64 HR15.out (hbW _ _ _ _ _ _ _ _ _ _) (own_tail HO15.out (World.grownBy.refl _ _) HB13.out hW10 _ _ _ _ _ _ _ _ _ _ _).sl, ⟨_, _, rfl, HC3.out, Kd.C_below HR3.out (hbW _ _ _ _ _ _ _ _ _ _)⟩⟩, hbW _ _ _ _ _ _ _ _ _ _⟩
end Go.Proofs.Ytmcgcdpiceikeaa.PAll
end
