/- Joined texts of the claim ShardStays (part 23): contracts of functions and plain laws. -/
import Derived.BigRegion
import Derived.Test.YtmcgcdpiceikeaaJShardStays22
import Derived.Test.YtmcgcdpiceikeaaJShardStays16
import Derived.Test.YtmcgcdpiceikeaaJShardStays18
set_option linter.unusedVariables false
set_option linter.unusedSimpArgs false
section
namespace Go.Proofs.Ytmcgcdpiceikeaa.PAll
open Go.RowKit Go.Proofs.YtmcgcdpiceikeaaW.PrintWords Go.Proofs.YtmcgcdpiceikeaaW.PrintMore Go.Proofs.Ytmcgcdpiceikeaa
theorem qz80 (A : Option Addr) (c : Nat) (l : List S75) (t : S30) (key : ByteArray) (wt : Bool) (FA : Option Addr) (fc : Nat) (firm : List S30) (w : World) (hr : Kd.C k75 w A l.length l) (hc : l.length ≤ c) (hl : l.length * 40 ≤ 140737488355288) (hrf : Kd.C k30 w FA firm.length firm) (hfc : firm.length ≤ fc) (hfl : firm.length ≤ 8796093022208)
    (hok : ∀ x ∈ l, okTx x.f1) (hokf : ∀ x ∈ firm, okTx x) :
    Calls Try.prog 54 #[.slice A l.length c, .agg #[.int .u64 t.f0, .int .u64 t.f1], .string key, .bool wt, .slice FA firm.length fc] w (AskPost w (askV l t key wt firm)) := by
  by_cases hh : 0 ≤ findI (isHK t key) l ∧ ((atI l (findI (isHK t key) l)).f2 || !wt) = true
  · have e : askV l t key wt firm = (l, [], 0) := by unfold askV; rw [if_pos hh]
    rw [e]
    exact ask_there A c l t key wt _ firm w hr hc (by omega) hh
  · exact ask_go A c l t key wt FA fc firm w hr hc hl hrf hfc hfl hok hokf hh
theorem askOut {w w' : World} {a : List S75} {b : List S30} {c : Int} {e : Ending} (h : AskPost w (a, b, c) e w') : ∃ v1 v2 : Value, e = .returned (.tuple #[v1, v2, .int .i64 c]) ∧ Own 4 75 w' w.heap.size v1 (a.map enc75) ∧ Own 2 30 w' w.heap.size v2 (b.map enc30) ∧ Below w.heap.size w w' := h
theorem keepS {w0 : World} {n : Nat} {v0 v1 v2 v3 v4 u0 u1 u2 u3 u4 u5 u6 : Value} {q w1 : World} (h : q.cell? ⟨n, 0, none⟩ = some v0 ∧ q.cell? ⟨n, 1, none⟩ = some v1 ∧ q.cell? ⟨n, 2, none⟩ = some v2 ∧ q.cell? ⟨n, 3, none⟩ = some v3 ∧ q.cell? ⟨n, 4, none⟩ = some v4 ∧ q.cell? ⟨n + 1, 0, none⟩ = some u0 ∧ q.cell? ⟨n + 1, 1, none⟩ = some u1 ∧ q.cell? ⟨n + 1, 2, none⟩ = some u2 ∧ q.cell? ⟨n + 1, 3, none⟩ = some u3 ∧ q.cell? ⟨n + 1, 4, none⟩ = some u4 ∧ q.cell? ⟨n + 1, 5, none⟩ = some u5 ∧ q.cell? ⟨n + 1, 6, none⟩ = some u6 ∧ Below w0.heap.size w0 q) (hb : Below q.heap.size q w1) :
    w1.cell? ⟨n, 0, none⟩ = some v0 ∧ w1.cell? ⟨n, 1, none⟩ = some v1 ∧ w1.cell? ⟨n, 2, none⟩ = some v2 ∧ w1.cell? ⟨n, 3, none⟩ = some v3 ∧ w1.cell? ⟨n, 4, none⟩ = some v4 ∧ w1.cell? ⟨n + 1, 0, none⟩ = some u0 ∧ w1.cell? ⟨n + 1, 1, none⟩ = some u1 ∧ w1.cell? ⟨n + 1, 2, none⟩ = some u2 ∧ w1.cell? ⟨n + 1, 3, none⟩ = some u3 ∧ w1.cell? ⟨n + 1, 4, none⟩ = some u4 ∧ w1.cell? ⟨n + 1, 5, none⟩ = some u5 ∧ w1.cell? ⟨n + 1, 6, none⟩ = some u6 ∧ Below w0.heap.size w0 w1 := by
  obtain ⟨a0, a1, a2, a3, a4, b0, b1, b2, b3, b4, b5, b6, h⟩ := h
  have c {a : Addr} {v : Value} (e : q.cell? a = some v) : w1.cell? a = some v := (hb.cell (World.block_lt_of_cell? _ _ e)).trans e
  exact ⟨c a0, c a1, c a2, c a3, c a4, c b0, c b1, c b2, c b3, c b4, c b5, c b6, h.trans (hb.mono h.size)⟩
set_option maxRecDepth 100000 in
set_option maxHeartbeats 8000000 in
theorem asks_no_at (kind : Int) (t : S30) (key : ByteArray) (A4 : Option Addr) (n4 c4 : Nat) (cm : Bool) (A5 : Option Addr) (n5 c5 : Nat) (A0 : Option Addr) (c0 : Nat) (A1 : Option Addr) (c1 : Nat) (A2 : Option Addr) (c2 : Nat) (A3 : Option Addr) (c3 : Nat) (rs : List S50) (hs : List S75) (os : List S48) (ds : List S68) (ver : Int) (w : World) (hr0 : Kd.C k50 w A0 rs.length rs) (hc0 : rs.length ≤ c0) (hr1 : Kd.C k75 w A1 hs.length hs) (hc1 : hs.length ≤ c1) (hr2 : Kd.C k48 w A2 os.length os) (hc2 : os.length ≤ c2) (hr3 : Kd.C k68 w A3 ds.length ds) (hc3 : ds.length ≤ c3) (hd : ¬ 0 ≤ findI (qz25 t) ds) (hk1 : 1 ≤ key.size) (hk2 : key.size ≤ 16) (ii : Nat) (hii : ii < os.length) (hfi : findI (qz16 t) os = (ii : Int)) (hf1 : (os[ii]!).f1 = false) (hf2 : (os[ii]!).f2 = false) (hlim : os.length + ds.length ≤ 2000000000000) (hlh : hs.length * 40 ≤ 140737488355288) (hok : ∀ x ∈ hs, okTx x.f1) (hoko : ∀ x ∈ os, okTx x.f0) (er : Int) (her : (askV hs t key (kind == 2) (firmV os)).2.2 = er) (hne : er ≠ 0) :
    Calls Try.prog 21 #[.agg (shv A0 rs.length c0 A1 hs.length c1 A2 os.length c2 A3 ds.length c3 ver), .agg #[.int .i64 kind, .int .u64 t.f0, .int .u64 t.f1, .string key, .slice A4 n4 c4, .bool cm, .slice A5 n5 c5]] w (qz32 w (⟨rs, hs, os, ds, ver⟩, errA er)) := by
  obtain ⟨bS, bO, bZ, bA⟩ := qz38 w (.cells #[.slice A0 rs.length c0, .slice A1 hs.length c1, .slice A2 os.length c2, .slice A3 ds.length c3, .int .u64 ver] 28) (.cells #[.int .i64 kind, .int .u64 t.f0, .int .u64 t.f1, .string key, .slice A4 n4 c4, .bool cm, .slice A5 n5 c5] 34) (.cells #[.slice none 0 0, .slice none 0 0, .slice none 0 0, .slice none 0 0, .int .u64 0] 28) (.cells #[.int .i64 0, .string ⟨#[]⟩, .int .u64 0, .bool false, .bool false] 38)
  have hb4 : Below w.heap.size w ((((w.alloc (.cells #[.slice A0 rs.length c0, .slice A1 hs.length c1, .slice A2 os.length c2, .slice A3 ds.length c3, .int .u64 ver] 28)).alloc (.cells #[.int .i64 kind, .int .u64 t.f0, .int .u64 t.f1, .string key, .slice A4 n4 c4, .bool cm, .slice A5 n5 c5] 34)).alloc (.cells #[.slice none 0 0, .slice none 0 0, .slice none 0 0, .slice none 0 0, .int .u64 0] 28)).alloc (.cells #[.int .i64 0, .string ⟨#[]⟩, .int .u64 0, .bool false, .bool false] 38)) := ((((Below.refl w.heap.size w).alloc (Nat.le_refl _) _).alloc (by simp) _).alloc (by simp; omega) _).alloc (by simp; omega) _
  have HW4 : qza (((((w.alloc (.cells #[.slice A0 rs.length c0, .slice A1 hs.length c1, .slice A2 os.length c2, .slice A3 ds.length c3, .int .u64 ver] 28)).alloc (.cells #[.int .i64 kind, .int .u64 t.f0, .int .u64 t.f1, .string key, .slice A4 n4 c4, .bool cm, .slice A5 n5 c5] 34)).alloc (.cells #[.slice none 0 0, .slice none 0 0, .slice none 0 0, .slice none 0 0, .int .u64 0] 28)).alloc (.cells #[.int .i64 0, .string ⟨#[]⟩, .int .u64 0, .bool false, .bool false] 38)).heap.size = w.heap.size + 1 + 1 + 1 + 1) := ⟨by simp⟩
  have BS := qza.mk bS
  have BO := qza.mk bO
  have BZ := qza.mk bZ
  have BA := qza.mk bA
  have HB4 := qza.mk hb4
  have HOV := qza.mk (fun (W : World) (h : Below w.heap.size w W) => qz27 A0 rs.length c0 A1 hs.length c1 A2 os.length c2 A3 c3 ver ds t W (Kd.C_below hr3 h) hc3)
  have HKN := qza.mk (fun (W : World) (h : Below w.heap.size w W) => qz24 A0 rs.length c0 A1 hs.length c1 A2 c2 A3 ds.length c3 ver os t W (Kd.C_below hr2 h) hc2)
  have HR0 := qza.mk hr0
  have HR1 := qza.mk hr1
  have HR2 := qza.mk hr2
  have HR3 := qza.mk hr3
  have HC0 := qza.mk hc0
  have HC1 := qza.mk hc1
  have HC2 := qza.mk hc2
  have HC3 := qza.mk hc3
  clear hr0 hc0 hr1 hc1 hr2 hc2 hr3 hc3 bS bO bZ bA hb4
  rw [decide_eq_false hd] at HOV
  clear hd
  generalize overV ds t = dv at *
  obtain ⟨⟨dA, dI⟩, dC⟩ := dv
  have HNO := qza.mk (fun (W : World) (e0 : Int) => qz35 A0 rs.length c0 A1 hs.length c1 A2 os.length c2 A3 ds.length c3 ver e0 W)
  have hkz : ¬ (key.size : Int) < 1 := by omega
  have hkz2 : ¬ (16 : Int) < (key.size : Int) := by omega
  clear hk1 hk2
  have HFI := qza.mk (fun (W : World) (h : Below w.heap.size w W) => qz77 A0 c0 A1 c1 A2 c2 A3 c3 rs hs os ds ver W (Kd.C_below HR0.out h) HC0.out (Kd.C_below HR1.out h) HC1.out (Kd.C_below HR2.out h) HC2.out (Kd.C_below HR3.out h) HC3.out (by omega))
  have HAK := qza.mk (fun (W : World) (FA : Option Addr) (fc : Nat) (h : Below w.heap.size w W) (h1 : (firmV os).length ≤ fc) (h2 : Kd.C k30 W FA (firmV os).length (firmV os)) => qz80 A1 c1 hs t key (kind == 2) FA fc (firmV os) W (Kd.C_below HR1.out h) HC1.out hlh h2 h1 (by have := firmV_len os; omega) hok (fun x hx => by unfold firmV at hx; obtain ⟨y, hy, rfl⟩ := List.mem_map.1 hx; exact hoko y ((List.mem_filter.1 hy).1)))
  clear hlim hlh hok hoko
  generalize askV hs t key (kind == 2) (firmV os) = R at *
  obtain ⟨rh, rw_, re⟩ := R
  subst her
  rw [hfi] at HKN
  obtain ⟨ob, oo, hA, pB, pc, _, _, _, _, hp2, hp3, _⟩ := qz53 HR2.out ii hii
  have hiz : (0 : Int) ≤ (ii : Int) := by omega
  have hiz2 : (ii : Int) < (os.length : Int) := by omega
  rw [hf1] at hp2
  rw [hf2] at hp3
  have HP2 := qza.mk hp2
  have HP3 := qza.mk hp3
  subst hA
  clear hp2 hp3 hf1 hf2 hfi hii
  obtain ⟨ta, ti⟩ := t
  unfold shv at *
  dsimp only at *
  go_enter Try.func21, Try.ntmps21
  go_wp2_with (first
    | (go_at_call 51; refine (HOV.out _ HB4.out).mono ?_; rintro e w5 ⟨rfl, hb5⟩; have HW5 := qza.mk hb5.size; have SB5 := qza.mk (stay hb5 BS.out (by rw [HW4.out]; omega)); have OB5 := qza.mk (stay hb5 BO.out (by rw [HW4.out]; omega)); have ZB5 := qza.mk (stay hb5 BZ.out (by rw [HW4.out]; omega)); have AB5 := qza.mk (stay hb5 BA.out (by rw [HW4.out]; omega)); obtain ⟨hs0, hs1, hs2, hs3, hs4⟩ := qz4 (stayA SB5.out (.cells #[.int .u64 dA, .int .u64 dI, .bool dC] 68)); obtain ⟨ho0, ho1, ho2, ho3, ho4, ho5, ho6⟩ := qz12 (stayA OB5.out (.cells #[.int .u64 dA, .int .u64 dI, .bool dC] 68)); have HB5 := qza.mk (HB4.out.trans (hb5.mono HB4.out.size)); clear hb5)
    | (go_at_call 52; refine (HKN.out _ (HB5.out.alloc HB5.out.size (.cells #[.int .u64 dA, .int .u64 dI, .bool dC] 68))).mono ?_; rintro e w6 ⟨rfl, hb6⟩; clear hs0 hs1 hs2 hs3 hs4 ho0 ho1 ho2 ho3 ho4 ho5 ho6; have SB6 := qza.mk (stay hb6 (stayA SB5.out (.cells #[.int .u64 dA, .int .u64 dI, .bool dC] 68)) (by have := HW4.out; have := HW5.out; simp; omega)); have OB6 := qza.mk (stay hb6 (stayA OB5.out (.cells #[.int .u64 dA, .int .u64 dI, .bool dC] 68)) (by have := HW4.out; have := HW5.out; simp; omega)); have ZB6 := qza.mk (stay hb6 (stayA ZB5.out (.cells #[.int .u64 dA, .int .u64 dI, .bool dC] 68)) (by have := HW4.out; have := HW5.out; simp; omega)); have AB6 := qza.mk (stay hb6 (stayA AB5.out (.cells #[.int .u64 dA, .int .u64 dI, .bool dC] 68)) (by have := HW4.out; have := HW5.out; simp; omega)); have DB6 := qza.mk (stay hb6 (heap_alloc_new w5 (.cells #[.int .u64 dA, .int .u64 dI, .bool dC] 68)) (by simp)); obtain ⟨hs0, hs1, hs2, hs3, hs4⟩ := qz4 SB6.out; obtain ⟨ho0, ho1, ho2, ho3, ho4, ho5, ho6⟩ := qz12 OB6.out; obtain ⟨hd0, hd1, hd2⟩ := qz39 DB6.out; have HB6 := qza.mk ((HB5.out.alloc HB5.out.size (.cells #[.int .u64 dA, .int .u64 dI, .bool dC] 68)).trans (hb6.mono (HB5.out.alloc HB5.out.size (.cells #[.int .u64 dA, .int .u64 dI, .bool dC] 68)).size)); have HW6 : qza (w.heap.size + 1 + 1 + 1 + 1 ≤ w6.heap.size) := ⟨by have := HW4.out; have := HW5.out; have := hb6.size; simp at this; omega⟩; clear hb6; have hq2 := (HB6.out.cell (World.block_lt_of_cell? _ _ HP2.out)).trans HP2.out; have hq3 := (HB6.out.cell (World.block_lt_of_cell? _ _ HP3.out)).trans HP3.out))
  clear hd0 hd1 hd2 hq2 hq3
  have hS0 := keepS (w0 := w6) ⟨hs0, hs1, hs2, hs3, hs4, ho0, ho1, ho2, ho3, ho4, ho5, ho6, Below.refl _ _⟩ ((Below.refl _ _).drew)
  clear hs0 hs1 hs2 hs3 hs4 ho0 ho1 ho2 ho3 ho4 ho5 ho6
  go_region_held3 (fun w' => w'.cell? ⟨w.heap.size, 0, none⟩ = some (.slice A0 rs.length c0) ∧ w'.cell? ⟨w.heap.size, 1, none⟩ = some (.slice A1 hs.length c1) ∧ w'.cell? ⟨w.heap.size, 2, none⟩ = some (.slice (some ⟨ob, oo, none⟩) os.length c2) ∧ w'.cell? ⟨w.heap.size, 3, none⟩ = some (.slice A3 ds.length c3) ∧ w'.cell? ⟨w.heap.size, 4, none⟩ = some (.int .u64 ver) ∧ w'.cell? ⟨w.heap.size + 1, 0, none⟩ = some (.int .i64 kind) ∧ w'.cell? ⟨w.heap.size + 1, 1, none⟩ = some (.int .u64 ta) ∧ w'.cell? ⟨w.heap.size + 1, 2, none⟩ = some (.int .u64 ti) ∧ w'.cell? ⟨w.heap.size + 1, 3, none⟩ = some (.string key) ∧ w'.cell? ⟨w.heap.size + 1, 4, none⟩ = some (.slice A4 n4 c4) ∧ w'.cell? ⟨w.heap.size + 1, 5, none⟩ = some (.bool cm) ∧ w'.cell? ⟨w.heap.size + 1, 6, none⟩ = some (.slice A5 n5 c5) ∧ Below w6.heap.size w6 w') (first | exact hS0 | exact keepS (by assumption) (by assumption)) ((first
    | (go_at_call 55; with_reducible refine (HFI.out _ HB6.out.drew).mono ?_; rintro e w9 ⟨⟨FA, fc, rfl, hf1, hf2⟩, hb9⟩; have HF1 := qza.mk hf1; have HF2 := qza.mk hf2; have HB9 := qza.mk (HB6.out.drew.trans (hb9.mono HB6.out.drew.size)); clear hf1 hf2)
    | (go_at_call 54; with_reducible refine (HAK.out _ _ _ HB9.out HF1.out HF2.out).mono ?_; intro e w10 hpost; obtain ⟨v1, v2, rfl, hw1, hw2, hb10⟩ := askOut hpost; have HO1 := qza.mk hw1; have HO2 := qza.mk hw2; clear hw1 hw2)))
  obtain ⟨hs0, hs1, hs2, hs3, hs4, ho0, ho1, ho2, ho3, ho4, ho5, ho6, hb10⟩ := (show w10.cell? ⟨w.heap.size, 0, none⟩ = some (.slice A0 rs.length c0) ∧ w10.cell? ⟨w.heap.size, 1, none⟩ = some (.slice A1 hs.length c1) ∧ w10.cell? ⟨w.heap.size, 2, none⟩ = some (.slice (some ⟨ob, oo, none⟩) os.length c2) ∧ w10.cell? ⟨w.heap.size, 3, none⟩ = some (.slice A3 ds.length c3) ∧ w10.cell? ⟨w.heap.size, 4, none⟩ = some (.int .u64 ver) ∧ w10.cell? ⟨w.heap.size + 1, 0, none⟩ = some (.int .i64 kind) ∧ w10.cell? ⟨w.heap.size + 1, 1, none⟩ = some (.int .u64 ta) ∧ w10.cell? ⟨w.heap.size + 1, 2, none⟩ = some (.int .u64 ti) ∧ w10.cell? ⟨w.heap.size + 1, 3, none⟩ = some (.string key) ∧ w10.cell? ⟨w.heap.size + 1, 4, none⟩ = some (.slice A4 n4 c4) ∧ w10.cell? ⟨w.heap.size + 1, 5, none⟩ = some (.bool cm) ∧ w10.cell? ⟨w.heap.size + 1, 6, none⟩ = some (.slice A5 n5 c5) ∧ Below w6.heap.size w6 w10 from by assumption)
  have HW10 : qza (w.heap.size + 1 + 1 + 1 + 1 ≤ w10.heap.size) := ⟨Nat.le_trans HW6.out hb10.size⟩
  have ZB10 := qza.mk (stay hb10 ZB6.out (by have := HW6.out; omega))
  have AB10 := qza.mk (stay hb10 AB6.out (by have := HW6.out; omega))
  have HB10 := qza.mk (HB6.out.trans (hb10.mono HB6.out.size))
  clear hb10
  go_wp2_with (go_at_call 24; refine (HNO.out _ _).mono ?_; rintro e w7 ⟨rfl, hb7⟩; clear hs0 hs1 hs2 hs3 hs4 ho0 ho1 ho2 ho3 ho4 ho5 ho6; have ZB7 := qza.mk (stay hb7 ZB10.out (by have := HW10.out; omega)); have AB7 := qza.mk (stay hb7 AB10.out (by have := HW10.out; omega)); obtain ⟨hz0, hz1, hz2, hz3, hz4⟩ := qz4 ZB7.out; obtain ⟨ha0, ha1, ha2, ha3, ha4⟩ := qz4 AB7.out; obtain ⟨hy0, hy1, hy2, hy3, hy4⟩ := qz14 ZB7.out; obtain ⟨hx0, hx1, hx2, hx3, hx4⟩ := qz14 AB7.out; have HB7 := qza.mk (HB10.out.trans (hb7.mono HB10.out.size)); clear hb7)
  refine qz40 rfl rfl rfl rfl ZB7.out AB7.out (by omega) ?_
  exact qz30 HR0.out HC0.out HR1.out HC1.out HR2.out HC2.out HR3.out HC3.out (qz7 (qz7 HB7.out (show w.heap.size ≤ w.heap.size + 1 + 1 by omega) _ _ _ _ _) (show w.heap.size ≤ w.heap.size + 1 + 1 + 1 by omega) _ _ _ _ _) _ _ _ _ _
set_option maxRecDepth 100000 in
set_option maxHeartbeats 8000000 in
theorem asks_no_none (kind : Int) (t : S30) (key : ByteArray) (A4 : Option Addr) (n4 c4 : Nat) (cm : Bool) (A5 : Option Addr) (n5 c5 : Nat) (A0 : Option Addr) (c0 : Nat) (A1 : Option Addr) (c1 : Nat) (A2 : Option Addr) (c2 : Nat) (A3 : Option Addr) (c3 : Nat) (rs : List S50) (hs : List S75) (os : List S48) (ds : List S68) (ver : Int) (w : World) (hr0 : Kd.C k50 w A0 rs.length rs) (hc0 : rs.length ≤ c0) (hr1 : Kd.C k75 w A1 hs.length hs) (hc1 : hs.length ≤ c1) (hr2 : Kd.C k48 w A2 os.length os) (hc2 : os.length ≤ c2) (hr3 : Kd.C k68 w A3 ds.length ds) (hc3 : ds.length ≤ c3) (hd : ¬ 0 ≤ findI (qz25 t) ds) (hk1 : 1 ≤ key.size) (hk2 : key.size ≤ 16) (hfi : findI (qz16 t) os = -1) (hnf : ¬ 64 ≤ os.length + ds.length) (hlim : os.length + ds.length ≤ 2000000000000) (hlh : hs.length * 40 ≤ 140737488355288) (hok : ∀ x ∈ hs, okTx x.f1) (hoko : ∀ x ∈ os, okTx x.f0) (er : Int) (her : (askV hs t key (kind == 2) (firmV os)).2.2 = er) (hne : er ≠ 0) :
    Calls Try.prog 21 #[.agg (shv A0 rs.length c0 A1 hs.length c1 A2 os.length c2 A3 ds.length c3 ver), .agg #[.int .i64 kind, .int .u64 t.f0, .int .u64 t.f1, .string key, .slice A4 n4 c4, .bool cm, .slice A5 n5 c5]] w (qz32 w (⟨rs, hs, os, ds, ver⟩, errA er)) := by
  obtain ⟨bS, bO, bZ, bA⟩ := qz38 w (.cells #[.slice A0 rs.length c0, .slice A1 hs.length c1, .slice A2 os.length c2, .slice A3 ds.length c3, .int .u64 ver] 28) (.cells #[.int .i64 kind, .int .u64 t.f0, .int .u64 t.f1, .string key, .slice A4 n4 c4, .bool cm, .slice A5 n5 c5] 34) (.cells #[.slice none 0 0, .slice none 0 0, .slice none 0 0, .slice none 0 0, .int .u64 0] 28) (.cells #[.int .i64 0, .string ⟨#[]⟩, .int .u64 0, .bool false, .bool false] 38)
  have hb4 : Below w.heap.size w ((((w.alloc (.cells #[.slice A0 rs.length c0, .slice A1 hs.length c1, .slice A2 os.length c2, .slice A3 ds.length c3, .int .u64 ver] 28)).alloc (.cells #[.int .i64 kind, .int .u64 t.f0, .int .u64 t.f1, .string key, .slice A4 n4 c4, .bool cm, .slice A5 n5 c5] 34)).alloc (.cells #[.slice none 0 0, .slice none 0 0, .slice none 0 0, .slice none 0 0, .int .u64 0] 28)).alloc (.cells #[.int .i64 0, .string ⟨#[]⟩, .int .u64 0, .bool false, .bool false] 38)) := ((((Below.refl w.heap.size w).alloc (Nat.le_refl _) _).alloc (by simp) _).alloc (by simp; omega) _).alloc (by simp; omega) _
  have HW4 : qza (((((w.alloc (.cells #[.slice A0 rs.length c0, .slice A1 hs.length c1, .slice A2 os.length c2, .slice A3 ds.length c3, .int .u64 ver] 28)).alloc (.cells #[.int .i64 kind, .int .u64 t.f0, .int .u64 t.f1, .string key, .slice A4 n4 c4, .bool cm, .slice A5 n5 c5] 34)).alloc (.cells #[.slice none 0 0, .slice none 0 0, .slice none 0 0, .slice none 0 0, .int .u64 0] 28)).alloc (.cells #[.int .i64 0, .string ⟨#[]⟩, .int .u64 0, .bool false, .bool false] 38)).heap.size = w.heap.size + 1 + 1 + 1 + 1) := ⟨by simp⟩
  have BS := qza.mk bS
  have BO := qza.mk bO
  have BZ := qza.mk bZ
  have BA := qza.mk bA
  have HB4 := qza.mk hb4
  have HOV := qza.mk (fun (W : World) (h : Below w.heap.size w W) => qz27 A0 rs.length c0 A1 hs.length c1 A2 os.length c2 A3 c3 ver ds t W (Kd.C_below hr3 h) hc3)
  have HKN := qza.mk (fun (W : World) (h : Below w.heap.size w W) => qz24 A0 rs.length c0 A1 hs.length c1 A2 c2 A3 ds.length c3 ver os t W (Kd.C_below hr2 h) hc2)
  have HR0 := qza.mk hr0
  have HR1 := qza.mk hr1
  have HR2 := qza.mk hr2
  have HR3 := qza.mk hr3
  have HC0 := qza.mk hc0
  have HC1 := qza.mk hc1
  have HC2 := qza.mk hc2
  have HC3 := qza.mk hc3
  clear hr0 hc0 hr1 hc1 hr2 hc2 hr3 hc3 bS bO bZ bA hb4
  rw [decide_eq_false hd] at HOV
  clear hd
  generalize overV ds t = dv at *
  obtain ⟨⟨dA, dI⟩, dC⟩ := dv
  have HNO := qza.mk (fun (W : World) (e0 : Int) => qz35 A0 rs.length c0 A1 hs.length c1 A2 os.length c2 A3 ds.length c3 ver e0 W)
  have hkz : ¬ (key.size : Int) < 1 := by omega
  have hkz2 : ¬ (16 : Int) < (key.size : Int) := by omega
  clear hk1 hk2
  have HFI := qza.mk (fun (W : World) (h : Below w.heap.size w W) => qz77 A0 c0 A1 c1 A2 c2 A3 c3 rs hs os ds ver W (Kd.C_below HR0.out h) HC0.out (Kd.C_below HR1.out h) HC1.out (Kd.C_below HR2.out h) HC2.out (Kd.C_below HR3.out h) HC3.out (by omega))
  have HAK := qza.mk (fun (W : World) (FA : Option Addr) (fc : Nat) (h : Below w.heap.size w W) (h1 : (firmV os).length ≤ fc) (h2 : Kd.C k30 W FA (firmV os).length (firmV os)) => qz80 A1 c1 hs t key (kind == 2) FA fc (firmV os) W (Kd.C_below HR1.out h) HC1.out hlh h2 h1 (by have := firmV_len os; omega) hok (fun x hx => by unfold firmV at hx; obtain ⟨y, hy, rfl⟩ := List.mem_map.1 hx; exact hoko y ((List.mem_filter.1 hy).1)))
  have HFU := qza.mk (fun (W : World) (h : Below w.heap.size w W) => qz78 A0 c0 A1 c1 A2 c2 A3 c3 rs hs os ds ver W (Kd.C_below HR0.out h) HC0.out (Kd.C_below HR1.out h) HC1.out (Kd.C_below HR2.out h) HC2.out (Kd.C_below HR3.out h) HC3.out (by omega))
  rw [decide_eq_false hnf] at HFU
  rw [hfi] at HKN
  clear hnf hfi
  clear hlim hlh hok hoko
  generalize askV hs t key (kind == 2) (firmV os) = R at *
  obtain ⟨rh, rw_, re⟩ := R
  subst her
  obtain ⟨ta, ti⟩ := t
  unfold shv at *
  dsimp only at *
  go_enter Try.func21, Try.ntmps21
  go_wp2_with (first
    | (go_at_call 51; refine (HOV.out _ HB4.out).mono ?_; rintro e w5 ⟨rfl, hb5⟩; have HW5 := qza.mk hb5.size; have SB5 := qza.mk (stay hb5 BS.out (by rw [HW4.out]; omega)); have OB5 := qza.mk (stay hb5 BO.out (by rw [HW4.out]; omega)); have ZB5 := qza.mk (stay hb5 BZ.out (by rw [HW4.out]; omega)); have AB5 := qza.mk (stay hb5 BA.out (by rw [HW4.out]; omega)); obtain ⟨hs0, hs1, hs2, hs3, hs4⟩ := qz4 (stayA SB5.out (.cells #[.int .u64 dA, .int .u64 dI, .bool dC] 68)); obtain ⟨ho0, ho1, ho2, ho3, ho4, ho5, ho6⟩ := qz12 (stayA OB5.out (.cells #[.int .u64 dA, .int .u64 dI, .bool dC] 68)); have HB5 := qza.mk (HB4.out.trans (hb5.mono HB4.out.size)); clear hb5)
    | (go_at_call 52; refine (HKN.out _ (HB5.out.alloc HB5.out.size (.cells #[.int .u64 dA, .int .u64 dI, .bool dC] 68))).mono ?_; rintro e w6 ⟨rfl, hb6⟩; clear hs0 hs1 hs2 hs3 hs4 ho0 ho1 ho2 ho3 ho4 ho5 ho6; have SB6 := qza.mk (stay hb6 (stayA SB5.out (.cells #[.int .u64 dA, .int .u64 dI, .bool dC] 68)) (by have := HW4.out; have := HW5.out; simp; omega)); have OB6 := qza.mk (stay hb6 (stayA OB5.out (.cells #[.int .u64 dA, .int .u64 dI, .bool dC] 68)) (by have := HW4.out; have := HW5.out; simp; omega)); have ZB6 := qza.mk (stay hb6 (stayA ZB5.out (.cells #[.int .u64 dA, .int .u64 dI, .bool dC] 68)) (by have := HW4.out; have := HW5.out; simp; omega)); have AB6 := qza.mk (stay hb6 (stayA AB5.out (.cells #[.int .u64 dA, .int .u64 dI, .bool dC] 68)) (by have := HW4.out; have := HW5.out; simp; omega)); have DB6 := qza.mk (stay hb6 (heap_alloc_new w5 (.cells #[.int .u64 dA, .int .u64 dI, .bool dC] 68)) (by simp)); obtain ⟨hs0, hs1, hs2, hs3, hs4⟩ := qz4 SB6.out; obtain ⟨ho0, ho1, ho2, ho3, ho4, ho5, ho6⟩ := qz12 OB6.out; obtain ⟨hd0, hd1, hd2⟩ := qz39 DB6.out; have HB6 := qza.mk ((HB5.out.alloc HB5.out.size (.cells #[.int .u64 dA, .int .u64 dI, .bool dC] 68)).trans (hb6.mono (HB5.out.alloc HB5.out.size (.cells #[.int .u64 dA, .int .u64 dI, .bool dC] 68)).size)); have HW6 : qza (w.heap.size + 1 + 1 + 1 + 1 ≤ w6.heap.size) := ⟨by have := HW4.out; have := HW5.out; have := hb6.size; simp at this; omega⟩; clear hb6)
    | (go_at_call 53; refine (HFU.out _ HB6.out).mono ?_; rintro e w8 ⟨rfl, hb8⟩; clear hs0 hs1 hs2 hs3 hs4 ho0 ho1 ho2 ho3 ho4 ho5 ho6; have SB8 := qza.mk (stay hb8 SB6.out (by have := HW6.out; omega)); have OB8 := qza.mk (stay hb8 OB6.out (by have := HW6.out; omega)); have ZB8 := qza.mk (stay hb8 ZB6.out (by have := HW6.out; omega)); have AB8 := qza.mk (stay hb8 AB6.out (by have := HW6.out; omega)); have HW8 : qza (w.heap.size + 1 + 1 + 1 + 1 ≤ w8.heap.size) := ⟨Nat.le_trans HW6.out hb8.size⟩; obtain ⟨hs0, hs1, hs2, hs3, hs4⟩ := qz4 SB8.out; obtain ⟨ho0, ho1, ho2, ho3, ho4, ho5, ho6⟩ := qz12 OB8.out; have HB8 := qza.mk (HB6.out.trans (hb8.mono HB6.out.size)); clear hb8))
  clear hd0 hd1 hd2
  have hS0 := keepS (w0 := w8) ⟨hs0, hs1, hs2, hs3, hs4, ho0, ho1, ho2, ho3, ho4, ho5, ho6, Below.refl _ _⟩ ((Below.refl _ _).drew)
  clear hs0 hs1 hs2 hs3 hs4 ho0 ho1 ho2 ho3 ho4 ho5 ho6
  go_region_held3 (fun w' => w'.cell? ⟨w.heap.size, 0, none⟩ = some (.slice A0 rs.length c0) ∧ w'.cell? ⟨w.heap.size, 1, none⟩ = some (.slice A1 hs.length c1) ∧ w'.cell? ⟨w.heap.size, 2, none⟩ = some (.slice A2 os.length c2) ∧ w'.cell? ⟨w.heap.size, 3, none⟩ = some (.slice A3 ds.length c3) ∧ w'.cell? ⟨w.heap.size, 4, none⟩ = some (.int .u64 ver) ∧ w'.cell? ⟨w.heap.size + 1, 0, none⟩ = some (.int .i64 kind) ∧ w'.cell? ⟨w.heap.size + 1, 1, none⟩ = some (.int .u64 ta) ∧ w'.cell? ⟨w.heap.size + 1, 2, none⟩ = some (.int .u64 ti) ∧ w'.cell? ⟨w.heap.size + 1, 3, none⟩ = some (.string key) ∧ w'.cell? ⟨w.heap.size + 1, 4, none⟩ = some (.slice A4 n4 c4) ∧ w'.cell? ⟨w.heap.size + 1, 5, none⟩ = some (.bool cm) ∧ w'.cell? ⟨w.heap.size + 1, 6, none⟩ = some (.slice A5 n5 c5) ∧ Below w8.heap.size w8 w') (first | exact hS0 | exact keepS (by assumption) (by assumption)) ((first
    | (go_at_call 55; with_reducible refine (HFI.out _ HB8.out.drew).mono ?_; rintro e w9 ⟨⟨FA, fc, rfl, hf1, hf2⟩, hb9⟩; have HF1 := qza.mk hf1; have HF2 := qza.mk hf2; have HB9 := qza.mk (HB8.out.drew.trans (hb9.mono HB8.out.drew.size)); clear hf1 hf2)
    | (go_at_call 54; with_reducible refine (HAK.out _ _ _ HB9.out HF1.out HF2.out).mono ?_; intro e w10 hpost; obtain ⟨v1, v2, rfl, hw1, hw2, hb10⟩ := askOut hpost; have HO1 := qza.mk hw1; have HO2 := qza.mk hw2; clear hw1 hw2)))
  obtain ⟨hs0, hs1, hs2, hs3, hs4, ho0, ho1, ho2, ho3, ho4, ho5, ho6, hb10⟩ := (show w10.cell? ⟨w.heap.size, 0, none⟩ = some (.slice A0 rs.length c0) ∧ w10.cell? ⟨w.heap.size, 1, none⟩ = some (.slice A1 hs.length c1) ∧ w10.cell? ⟨w.heap.size, 2, none⟩ = some (.slice A2 os.length c2) ∧ w10.cell? ⟨w.heap.size, 3, none⟩ = some (.slice A3 ds.length c3) ∧ w10.cell? ⟨w.heap.size, 4, none⟩ = some (.int .u64 ver) ∧ w10.cell? ⟨w.heap.size + 1, 0, none⟩ = some (.int .i64 kind) ∧ w10.cell? ⟨w.heap.size + 1, 1, none⟩ = some (.int .u64 ta) ∧ w10.cell? ⟨w.heap.size + 1, 2, none⟩ = some (.int .u64 ti) ∧ w10.cell? ⟨w.heap.size + 1, 3, none⟩ = some (.string key) ∧ w10.cell? ⟨w.heap.size + 1, 4, none⟩ = some (.slice A4 n4 c4) ∧ w10.cell? ⟨w.heap.size + 1, 5, none⟩ = some (.bool cm) ∧ w10.cell? ⟨w.heap.size + 1, 6, none⟩ = some (.slice A5 n5 c5) ∧ Below w8.heap.size w8 w10 from by assumption)
  have HW10 : qza (w.heap.size + 1 + 1 + 1 + 1 ≤ w10.heap.size) := ⟨Nat.le_trans HW8.out hb10.size⟩
  have ZB10 := qza.mk (stay hb10 ZB8.out (by have := HW8.out; omega))
  have AB10 := qza.mk (stay hb10 AB8.out (by have := HW8.out; omega))
  have HB10 := qza.mk (HB8.out.trans (hb10.mono HB8.out.size))
  clear hb10
  go_wp2_with (go_at_call 24; refine (HNO.out _ _).mono ?_; rintro e w7 ⟨rfl, hb7⟩; clear hs0 hs1 hs2 hs3 hs4 ho0 ho1 ho2 ho3 ho4 ho5 ho6; have ZB7 := qza.mk (stay hb7 ZB10.out (by have := HW10.out; omega)); have AB7 := qza.mk (stay hb7 AB10.out (by have := HW10.out; omega)); obtain ⟨hz0, hz1, hz2, hz3, hz4⟩ := qz4 ZB7.out; obtain ⟨ha0, ha1, ha2, ha3, ha4⟩ := qz4 AB7.out; obtain ⟨hy0, hy1, hy2, hy3, hy4⟩ := qz14 ZB7.out; obtain ⟨hx0, hx1, hx2, hx3, hx4⟩ := qz14 AB7.out; have HB7 := qza.mk (HB10.out.trans (hb7.mono HB10.out.size)); clear hb7)
  refine qz40 rfl rfl rfl rfl ZB7.out AB7.out (by omega) ?_
  exact qz30 HR0.out HC0.out HR1.out HC1.out HR2.out HC2.out HR3.out HC3.out (qz7 (qz7 HB7.out (show w.heap.size ≤ w.heap.size + 1 + 1 by omega) _ _ _ _ _) (show w.heap.size ≤ w.heap.size + 1 + 1 + 1 by omega) _ _ _ _ _) _ _ _ _ _
def openC (x : S48) (B : Option Addr) (c : Nat) : List Value := [.int .u64 x.f0.f0, .int .u64 x.f0.f1, .bool x.f1, .bool x.f2, .slice B x.f3.length c]
theorem openK_mk {W : World} {x : S48} {B : Option Addr} {c : Nat} (h1 : x.f3.length ≤ c) (h2 : Kd.C k54 W B x.f3.length x.f3) : k48.K W x (openC x B c) :=
  ⟨_, _, rfl, ⟨_, _, rfl, rfl, rfl⟩, ⟨_, _, rfl, rfl, ⟨_, _, rfl, rfl, ⟨B, c, rfl, h1, h2⟩⟩⟩⟩
def qz54 (w : World) (l : List S48) (css : List (List Value)) : Prop := css.length = l.length ∧ ∀ j, j < l.length → k48.K w l[j]! css[j]!
theorem qz54.cells {w : World} {l : List S48} {css : List (List Value)} (h : qz54 w l css) (j : Nat) (hj : j < l.length) : ∃ B c, css[j]! = openC (l[j]!) B c ∧ (l[j]!).f3.length ≤ c ∧ Kd.C k54 w B (l[j]!).f3.length (l[j]!).f3 := by
  obtain ⟨B, c, h1, h2, h3⟩ := openCells (h.2 j hj)
  exact ⟨B, c, h1, h2, h3⟩
theorem opens_raw {w : World} {v : Value} {l : List S48} (h : Sl k48 w v l) : ∃ css, qz54 w l css ∧ Sl (raw 5) w v css := by
  obtain ⟨A, c, rfl, hc, h⟩ := h
  by_cases hl : l.length = 0
  · have : l = [] := List.length_eq_zero_iff.1 hl
    subst this
    exact ⟨[], ⟨rfl, fun j hj => by simp at hj⟩, ⟨A, c, rfl, hc, rfl, h.2.1, fun hn => by simp at hn⟩⟩
  · obtain ⟨b, o, rfl, hrow⟩ := C_row h (by decide) (by omega)
    have hf : ∀ j, ∃ cs : List Value, j < l.length → cs.length = 5 ∧ k48.K w l[j]! cs ∧ w.rangeAt b (o + j * 5) cs := fun j => by
      by_cases hj : j < l.length
      · obtain ⟨cs, h1, h2, h3⟩ := hrow j hj
        exact ⟨cs, fun _ => ⟨h1, h2, h3⟩⟩
      · exact ⟨[], fun h => absurd h hj⟩
    obtain ⟨f, hf⟩ := Classical.axiomOfChoice hf
    have hlen : ((List.range l.length).map f).length = l.length := by simp
    refine ⟨(List.range l.length).map f, ⟨hlen, fun j hj => ?_⟩, ⟨some ⟨b, o, none⟩, c, by rw [hlen], by rw [hlen]; exact hc, rfl, by rw [hlen]; exact h.2.1, fun hn => ⟨_, rfl, fun j p hj => ?_⟩⟩⟩
    · rw [getElem!_pos ((List.range l.length).map f) j (by rw [hlen]; exact hj)]
      simp only [List.getElem_map, List.getElem_range]
      exact (hf j hj).2.1
    · have hjl : j < l.length := by have := (List.getElem?_eq_some_iff.1 hj).1; rwa [hlen] at this
      have hp : p = f j := by
        have := (List.getElem?_eq_some_iff.1 hj).2
        rw [← this]
        simp
      subst hp
      obtain ⟨h1, h2, h3⟩ := hf j hjl
      exact ⟨f j, h1, ⟨rfl, h1, k48.K_one h2⟩, fun i u hu => by
        have h := h3 i u hu
        show w.cell? (Addr.add ⟨b, o, none⟩ (j * 5 + i)) = some u
        have e : Addr.add ⟨b, o, none⟩ (j * 5 + i) = ⟨b, o + j * 5 + i, none⟩ := by
          unfold Addr.add
          by_cases c : j * 5 + i = 0
          · rw [if_pos c, Nat.add_assoc, c]; rfl
          · rw [if_neg c, Nat.add_assoc]
        rw [e]
        exact h⟩
theorem qz64 {w W : World} {v : Value} {l : List S48} {css : List (List Value)} (h1 : qz54 w l css) (hb : Below w.heap.size w W) (h2 : Sl (raw 5) W v css) : Sl k48 W v l := by
  obtain ⟨A, c, rfl, hc, h⟩ := h2
  have hlen := h1.1
  rw [hlen] at hc h
  refine ⟨A, c, by rw [hlen], hc, rfl, h.2.1, fun hn => ?_⟩
  obtain ⟨ad, e, hcell⟩ := h.2.2 hn
  refine ⟨ad, e, fun j p hj => ?_⟩
  have hjl := (List.getElem?_eq_some_iff.1 hj).1
  have hp : l[j]! = p := by rw [getElem!_pos l j hjl]; exact (List.getElem?_eq_some_iff.1 hj).2
  have hq : css[j]? = some (css[j]!) := by rw [getElem!_pos css j (by omega)]; exact List.getElem?_eq_getElem (by omega)
  obtain ⟨cs, hl, hK, hcc⟩ := hcell j _ hq
  obtain ⟨rfl, _, _⟩ := hK
  have hk := k48.K_below hb (h1.2 j hjl)
  rw [hp] at hk
  exact ⟨_, hl, hk, fun i u hu => by have := hcc i u hu; exact this⟩
theorem qz54.push {w : World} {l : List S48} {css : List (List Value)} (h : qz54 w l css) {x : S48} {cs : List Value} (hx : k48.K w x cs) : qz54 w (l ++ [x]) (css ++ [cs]) := by
  refine ⟨by simp [h.1], fun j hj => ?_⟩
  rw [List.length_append, List.length_singleton] at hj
  by_cases c : j < l.length
  · have := h.2 j c
    rw [getElem!_pos (l ++ [x]) j (by simp; omega), getElem!_pos (css ++ [cs]) j (by simp [h.1]; omega), List.getElem_append_left c, List.getElem_append_left (by rw [h.1]; exact c)]
    rwa [getElem!_pos l j c, getElem!_pos css j (by rw [h.1]; exact c)] at this
  · obtain rfl : j = l.length := by omega
    rw [getElem!_pos (l ++ [x]) _ (by simp), getElem!_pos (css ++ [cs]) _ (by simp [h.1]), List.getElem_append_right (Nat.le_refl _), List.getElem_append_right (by rw [h.1]; exact Nat.le_refl _)]
    simp [h.1]
    exact hx
theorem qz54.put {w : World} {l : List S48} {css : List (List Value)} (h : qz54 w l css) (i : Nat) {x : S48} {cs : List Value} (hx : k48.K w x cs) : qz54 w (l.set i x) (css.set i cs) := by
  refine ⟨by simp [h.1], fun j hj => ?_⟩
  rw [List.length_set] at hj
  rw [getElem!_pos (l.set i x) j (by simp; omega), getElem!_pos (css.set i cs) j (by simp [h.1]; omega), List.getElem_set, List.getElem_set]
  by_cases c : i = j
  · rw [if_pos c, if_pos c]
    exact hx
  · rw [if_neg c, if_neg c]
    have := h.2 j hj
    rwa [getElem!_pos l j hj, getElem!_pos css j (by rw [h.1]; exact hj)] at this
def woundV (wd : List S30) (x : S48) : S48 := if hasTx wd x.f0 then ⟨x.f0, x.f1, true, x.f3⟩ else x
def markTo (wd : List S30) (l : List S48) (j : Nat) : List S48 := (l.take j).map (woundV wd) ++ l.drop j
theorem markTo_zero (wd : List S30) (l : List S48) : markTo wd l 0 = l := by simp [markTo]
theorem markTo_all (wd : List S30) (l : List S48) : markTo wd l l.length = l.map (woundV wd) := by simp [markTo]
theorem qz75 (wd : List S30) (l : List S48) (j : Nat) : (markTo wd l j).length = l.length := by
  unfold markTo
  rw [List.length_append, List.length_map, List.length_take, List.length_drop]
  omega
theorem markTo_at (wd : List S30) (l : List S48) (j : Nat) (hj : j < l.length) : (markTo wd l j)[j]! = l[j]! := by
  rw [getElem!_pos _ j (by rw [qz75]; exact hj), getElem!_pos l j hj]
  unfold markTo
  rw [List.getElem_append_right (by simp; omega)]
  simp [Nat.min_eq_left (Nat.le_of_lt hj)]
theorem markTo_step (wd : List S30) (l : List S48) (j : Nat) (hj : j < l.length) : markTo wd l (j + 1) = (markTo wd l j).set j (woundV wd (l[j]!)) := by
  unfold markTo
  rw [List.set_append_right _ _ (by simp; omega), List.length_map, List.length_take, Nat.min_eq_left (Nat.le_of_lt hj), Nat.sub_self, List.drop_eq_getElem_cons hj, List.set_cons_zero, List.take_succ_eq_append_getElem hj, List.map_append, getElem!_pos l j hj, List.append_assoc]
  rfl
theorem markTo_skip (wd : List S30) (l : List S48) (j : Nat) (hj : j < l.length) (h : hasTx wd (l[j]!).f0 = false) : markTo wd l (j + 1) = markTo wd l j := by
  rw [markTo_step wd l j hj]
  have : woundV wd (l[j]!) = (markTo wd l j)[j]! := by rw [markTo_at wd l j hj]; unfold woundV; rw [if_neg (by rw [h]; decide)]
  rw [this, getElem!_pos _ j (by rw [qz75]; exact hj)]
  exact List.set_getElem_self _
end Go.Proofs.Ytmcgcdpiceikeaa.PAll
end
