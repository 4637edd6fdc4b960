/- Joined texts of the claim ShardRight (part 33): contracts of functions and plain laws. -/
import Derived.BigRegion
import Derived.Test.YtmcgcdpiceikeaaJShardRight32
section
/- shard.prepares where it goes well. -/
namespace Go.Proofs.Ytmcgcdpiceikeaa.PAll
open Go.RowKit Go.Proofs.YtmcgcdpiceikeaaW.PrintWords Go.Proofs.YtmcgcdpiceikeaaW.PrintMore Go.Proofs.Ytmcgcdpiceikeaa
set_option linter.unusedVariables false
set_option linter.unusedSimpArgs false
theorem OpenRow.below {w w' : World} {l : List S48} {css : List (List Value)} (h : OpenRow w l css) (hb : Below w.heap.size w w') : OpenRow w' l css :=
  ⟨h.1, fun j hj => k48.K_below hb (h.2 j hj)⟩
theorem Kd.C_own3 {base : Nat} {w : World} {A : Option Addr} {l : List S54} {n c : Nat} (h : Own 3 54 w base (.slice A n c) (l.map enc54)) : Kd.C k54 w A l.length l := by
  obtain ⟨A', c', e, _, h2⟩ := flat54.ofsl h.sl
  cases e
  exact h2
theorem keepG {w0 : World} {g n : Nat} {v0 v1 v2 v3 v4 u0 u1 u2 u3 u4 u5 u6 : Value} {q w1 : World} (h : q.cell? ⟨n, 0, none⟩ = some v0 ∧ q.cell? ⟨n, 1, none⟩ = some v1 ∧ q.cell? ⟨n, 2, none⟩ = some v2 ∧ q.cell? ⟨n, 3, none⟩ = some v3 ∧ q.cell? ⟨n, 4, none⟩ = some v4 ∧ q.cell? ⟨n + 1, 0, none⟩ = some u0 ∧ q.cell? ⟨n + 1, 1, none⟩ = some u1 ∧ q.cell? ⟨n + 1, 2, none⟩ = some u2 ∧ q.cell? ⟨n + 1, 3, none⟩ = some u3 ∧ q.cell? ⟨n + 1, 4, none⟩ = some u4 ∧ q.cell? ⟨n + 1, 5, none⟩ = some u5 ∧ q.cell? ⟨n + 1, 6, none⟩ = some u6 ∧ w0.grownBy q (some g)) (hg : q.grownBy w1 (some g)) (h0 : n + 1 < g) :
    w1.cell? ⟨n, 0, none⟩ = some v0 ∧ w1.cell? ⟨n, 1, none⟩ = some v1 ∧ w1.cell? ⟨n, 2, none⟩ = some v2 ∧ w1.cell? ⟨n, 3, none⟩ = some v3 ∧ w1.cell? ⟨n, 4, none⟩ = some v4 ∧ w1.cell? ⟨n + 1, 0, none⟩ = some u0 ∧ w1.cell? ⟨n + 1, 1, none⟩ = some u1 ∧ w1.cell? ⟨n + 1, 2, none⟩ = some u2 ∧ w1.cell? ⟨n + 1, 3, none⟩ = some u3 ∧ w1.cell? ⟨n + 1, 4, none⟩ = some u4 ∧ w1.cell? ⟨n + 1, 5, none⟩ = some u5 ∧ w1.cell? ⟨n + 1, 6, none⟩ = some u6 ∧ w0.grownBy w1 (some g) := by
  obtain ⟨a0, a1, a2, a3, a4, b0, b1, b2, b3, b4, b5, b6, h⟩ := h
  have hn : some n ≠ some g := fun e => by have := Option.some.inj e; omega
  have hn1 : some (n + 1) ≠ some g := fun e => by have := Option.some.inj e; omega
  exact ⟨cell_grown_u a0 hg hn, cell_grown_u a1 hg hn, cell_grown_u a2 hg hn, cell_grown_u a3 hg hn, cell_grown_u a4 hg hn, cell_grown_u b0 hg hn1, cell_grown_u b1 hg hn1, cell_grown_u b2 hg hn1, cell_grown_u b3 hg hn1, cell_grown_u b4 hg hn1, cell_grown_u b5 hg hn1, cell_grown_u b6 hg hn1, h.trans hg⟩
theorem own_put_u {k e base n : Nat} {w : World} {v : Value} {css : List (List Value)} (h : Own k e w base v css) (hn : n + 1 + 1 + 1 + 1 ≤ base) (a0 a1 a2 a3 a4 b0 b1 b2 b3 b4 : Value) : Own k e (put5 (put5 w (n + 1 + 1) a0 a1 a2 a3 a4) (n + 1 + 1 + 1) b0 b1 b2 b3 b4) base v css := by
  have h3 := h.kept (put5_grown _ (n + 1 + 1) a0 a1 a2 a3 a4) (fun b e e2 => by have := h.base b e; have := Option.some.inj e2; omega)
  exact h3.kept (put5_grown _ (n + 1 + 1 + 1) b0 b1 b2 b3 b4) (fun b e e2 => by have := h3.base b e; have := Option.some.inj e2; omega)
theorem grown_drew (w : World) (r : Option Nat) : w.grownBy w.drew r := Lib.grownBy_below (World.grownBy.refl _ _) ((Below.refl _ _).drew)
set_option maxRecDepth 100000 in
set_option maxHeartbeats 8000000 in
theorem prep_ok (kind : Int) (t : S30) (key : ByteArray) (A4 : Option Addr) (n4 c4 : Nat) (cm : Bool) (A5 : Option Addr) (n5 c5 : Nat) (A0 : Option Addr) (c0 : Nat) (A1 : Option Addr) (c1 : Nat) (A2 : Option Addr) (c2 : Nat) (A3 : Option Addr) (c3 : Nat) (rs : List S50) (hs : List S75) (os : List S48) (ds : List S68) (ver : Int) (w : World) (hr0 : Kd.C k50 w A0 rs.length rs) (hc0 : rs.length ≤ c0) (hr1 : Kd.C k75 w A1 hs.length hs) (hc1 : hs.length ≤ c1) (hr2 : Kd.C k48 w A2 os.length os) (hc2 : os.length ≤ c2) (hr3 : Kd.C k68 w A3 ds.length ds) (hc3 : ds.length ≤ c3) (hd : ¬ 0 ≤ findI (isDoneT t) ds) (ii : Nat) (hii : ii < os.length) (hfi : findI (isOpenT t) os = (ii : Int)) (hf1 : (os[ii]!).f1 = false) (hf2 : (os[ii]!).f2 = false) (ps : List S54) (hn4 : n4 = ps.length) (hr4 : Kd.C k54 w A4 ps.length ps) (hc4 : ps.length ≤ c4) (hfit : fitsV ps = 0) (hlk : lacksV hs t ps = false) (hkn : rs.length + openCount os + ps.length ≤ maxLen) (hk0 : ∀ r ∈ rs, r.f0.size ≤ maxLen) (hk2 : ∀ x ∈ os, ∀ p ∈ x.f3, p.f0.size ≤ maxLen) (hk4 : ∀ p ∈ ps, p.f0.size ≤ maxLen) (hfull : ¬ 32 < keysV rs os ps) (hlim : os.length ≤ 2000000000000) (hp8 : ps.length ≤ 2000000000000) :
    Calls Try.prog 22 #[.agg (shv A0 rs.length c0 A1 hs.length c1 A2 os.length c2 A3 ds.length c3 ver), .agg #[.int .i64 kind, .int .u64 t.f0, .int .u64 t.f1, .string key, .slice A4 n4 c4, .bool cm, .slice A5 n5 c5]] w (DoPost w (⟨rs, hs, os.set ii ⟨(os[ii]!).f0, true, false, ps⟩, ds, ver⟩, errA 0)) := by
  obtain ⟨bS, bO, bZ, bA⟩ := alloc4 w (.cells #[.slice A0 rs.length c0, .slice A1 hs.length c1, .slice A2 os.length c2, .slice A3 ds.length c3, .int .u64 ver] 28) (.cells #[.int .i64 kind, .int .u64 t.f0, .int .u64 t.f1, .string key, .slice A4 n4 c4, .bool cm, .slice A5 n5 c5] 34) (.cells #[.slice none 0 0, .slice none 0 0, .slice none 0 0, .slice none 0 0, .int .u64 0] 28) (.cells #[.int .i64 0, .string ⟨#[]⟩, .int .u64 0, .bool false, .bool false] 38)
  have hb4 : Below w.heap.size w ((((w.alloc (.cells #[.slice A0 rs.length c0, .slice A1 hs.length c1, .slice A2 os.length c2, .slice A3 ds.length c3, .int .u64 ver] 28)).alloc (.cells #[.int .i64 kind, .int .u64 t.f0, .int .u64 t.f1, .string key, .slice A4 n4 c4, .bool cm, .slice A5 n5 c5] 34)).alloc (.cells #[.slice none 0 0, .slice none 0 0, .slice none 0 0, .slice none 0 0, .int .u64 0] 28)).alloc (.cells #[.int .i64 0, .string ⟨#[]⟩, .int .u64 0, .bool false, .bool false] 38)) := ((((Below.refl w.heap.size w).alloc (Nat.le_refl _) _).alloc (by simp) _).alloc (by simp; omega) _).alloc (by simp; omega) _
  have HW4 : Aside0 (((((w.alloc (.cells #[.slice A0 rs.length c0, .slice A1 hs.length c1, .slice A2 os.length c2, .slice A3 ds.length c3, .int .u64 ver] 28)).alloc (.cells #[.int .i64 kind, .int .u64 t.f0, .int .u64 t.f1, .string key, .slice A4 n4 c4, .bool cm, .slice A5 n5 c5] 34)).alloc (.cells #[.slice none 0 0, .slice none 0 0, .slice none 0 0, .slice none 0 0, .int .u64 0] 28)).alloc (.cells #[.int .i64 0, .string ⟨#[]⟩, .int .u64 0, .bool false, .bool false] 38)).heap.size = w.heap.size + 1 + 1 + 1 + 1) := ⟨by simp⟩
  have BS := Aside0.mk bS
  have BO := Aside0.mk bO
  have BZ := Aside0.mk bZ
  have BA := Aside0.mk bA
  have HB4 := Aside0.mk hb4
  have HOV := Aside0.mk (fun (W : World) (h : Below w.heap.size w W) => shardOver_sl A0 rs.length c0 A1 hs.length c1 A2 os.length c2 A3 c3 ver ds t W (Kd.C_below hr3 h) hc3)
  have HKN := Aside0.mk (fun (W : World) (h : Below w.heap.size w W) => shardKnown_sl A0 rs.length c0 A1 hs.length c1 A2 c2 A3 ds.length c3 ver os t W (Kd.C_below hr2 h) hc2)
  have HR0 := Aside0.mk hr0
  have HR1 := Aside0.mk hr1
  have HR2 := Aside0.mk hr2
  have HR3 := Aside0.mk hr3
  have HC0 := Aside0.mk hc0
  have HC1 := Aside0.mk hc1
  have HC2 := Aside0.mk hc2
  have HC3 := Aside0.mk hc3
  clear hr0 hc0 hr1 hc1 hr2 hc2 hr3 hc3 bS bO bZ bA hb4
  subst hn4
  rw [decide_eq_false hd] at HOV
  clear hd
  generalize overV ds t = dv at *
  obtain ⟨⟨dA, dI⟩, dC⟩ := dv
  have HNO := Aside0.mk (fun (W : World) (e0 : Int) => shardNo2 A0 rs.length c0 A1 hs.length c1 A2 os.length c2 A3 ds.length c3 ver e0 W)
  rw [hfi] at HKN
  obtain ⟨ob, oo, hA, pB, pc, _, _, _, _, hp2, hp3, hp4⟩ := openRow HR2.out ii hii
  have hiz : (0 : Int) ≤ (ii : Int) := by omega
  have hiz2 : (ii : Int) < (os.length : Int) := by omega
  have HF2E := Aside0.mk hf2
  rw [hf1] at hp2
  rw [hf2] at hp3
  have HP2 := Aside0.mk hp2
  have HP3 := Aside0.mk hp3
  have HR4 := Aside0.mk hr4
  have HC4 := Aside0.mk hc4
  have HFT := Aside0.mk (fun (W : World) (h : Below w.heap.size w W) => rows_Fits.calls A4 c4 ps (fitsV ps) W (Kd.C_below HR4.out h) HC4.out rfl)
  subst hA
  clear hp2 hp3 hp4 hf1 hf2 hfi hr4 hc4
  have HCF := Aside0.mk (fun (W : World) (h : Below w.heap.size w W) hS hO => prepLacks (n := w.heap.size) (A0 := A0) (n0 := rs.length) (c0 := c0) (A2 := some ⟨ob, oo, none⟩) (n2 := os.length) (c2 := c2) (A3 := A3) (n3 := ds.length) (c3 := c3) (ver := ver) (kind := kind) (key := key) (cm := cm) (A5 := A5) (n5 := n5) (c5 := c5) hs t ps W hS hO (Kd.C_below HR1.out h) HC1.out (Kd.C_below HR4.out h) HC4.out)
  have HKY := Aside0.mk (fun (W : World) (h : Below w.heap.size w W) => shardKeys_calls A0 c0 A1 hs.length c1 (some ⟨ob, oo, none⟩) c2 A3 ds.length c3 A4 c4 ver rs os ps W (Kd.C_below HR0.out h) (Kd.C_below HR2.out h) (Kd.C_below HR4.out h) hkn hk0 hk2 hk4)
  clear hkn hk0 hk2 hk4
  obtain ⟨css, HRW0, hraw⟩ := opens_raw (w := w) ⟨_, _, rfl, HC2.out, HR2.out⟩
  have HRW := Aside0.mk HRW0
  have HCSS := Aside0.mk HRW0.1
  have HCL := Aside0.mk (fun (W : World) (h : Below w.heap.size w W) => CloneOpen (.slice (some ⟨ob, oo, none⟩) os.length c2) css W (hraw.below h) (by rw [HRW0.1]; omega))
  have HCP := Aside0.mk (fun (W : World) (h : Below w.heap.size w W) => ClonePut (.slice A4 ps.length c4) (ps.map enc54) W (flat54.sl ⟨_, _, rfl, HC4.out, Kd.C_below HR4.out h⟩) (by rw [List.length_map]; omega))
  clear hraw HRW0
  rw [hfit] at HFT
  rw [hlk] at HCF
  clear hfit hlk
  generalize keysV rs os ps = kn at *
  have hfullz : ¬ (32 : Int) < (kn : Int) := by omega
  obtain ⟨ta, ti⟩ := t
  unfold shv at *
  dsimp only at *
  go_enter Try.func22, Try.ntmps22
  go_wp2_with (first
    | (go_at_call 51; refine (HOV.out _ HB4.out).mono ?_; rintro e w5 ⟨rfl, hb5⟩; have HW5 := Aside0.mk hb5.size; have SB5 := Aside0.mk (stay hb5 BS.out (by rw [HW4.out]; omega)); have OB5 := Aside0.mk (stay hb5 BO.out (by rw [HW4.out]; omega)); have ZB5 := Aside0.mk (stay hb5 BZ.out (by rw [HW4.out]; omega)); have AB5 := Aside0.mk (stay hb5 BA.out (by rw [HW4.out]; omega)); obtain ⟨hs0, hs1, hs2, hs3, hs4⟩ := cells_5 (stayA SB5.out (.cells #[.int .u64 dA, .int .u64 dI, .bool dC] 68)); obtain ⟨ho0, ho1, ho2, ho3, ho4, ho5, ho6⟩ := cells_7 (stayA OB5.out (.cells #[.int .u64 dA, .int .u64 dI, .bool dC] 68)); have HB5 := Aside0.mk (HB4.out.trans (hb5.mono HB4.out.size)); clear hb5)
    | (go_at_call 52; refine (HKN.out _ (HB5.out.alloc HB5.out.size (.cells #[.int .u64 dA, .int .u64 dI, .bool dC] 68))).mono ?_; rintro e w6 ⟨rfl, hb6⟩; clear hs0 hs1 hs2 hs3 hs4 ho0 ho1 ho2 ho3 ho4 ho5 ho6; have SB6 := Aside0.mk (stay hb6 (stayA SB5.out (.cells #[.int .u64 dA, .int .u64 dI, .bool dC] 68)) (by have := HW4.out; have := HW5.out; simp; omega)); have OB6 := Aside0.mk (stay hb6 (stayA OB5.out (.cells #[.int .u64 dA, .int .u64 dI, .bool dC] 68)) (by have := HW4.out; have := HW5.out; simp; omega)); have ZB6 := Aside0.mk (stay hb6 (stayA ZB5.out (.cells #[.int .u64 dA, .int .u64 dI, .bool dC] 68)) (by have := HW4.out; have := HW5.out; simp; omega)); have AB6 := Aside0.mk (stay hb6 (stayA AB5.out (.cells #[.int .u64 dA, .int .u64 dI, .bool dC] 68)) (by have := HW4.out; have := HW5.out; simp; omega)); have DB6 := Aside0.mk (stay hb6 (heap_alloc_new w5 (.cells #[.int .u64 dA, .int .u64 dI, .bool dC] 68)) (by simp)); obtain ⟨hs0, hs1, hs2, hs3, hs4⟩ := cells_5 SB6.out; obtain ⟨ho0, ho1, ho2, ho3, ho4, ho5, ho6⟩ := cells_7 OB6.out; obtain ⟨hd0, hd1, hd2⟩ := cells_3 DB6.out; have HB6 := Aside0.mk ((HB5.out.alloc HB5.out.size (.cells #[.int .u64 dA, .int .u64 dI, .bool dC] 68)).trans (hb6.mono (HB5.out.alloc HB5.out.size (.cells #[.int .u64 dA, .int .u64 dI, .bool dC] 68)).size)); have HW6 : Aside0 (w.heap.size + 1 + 1 + 1 + 1 ≤ w6.heap.size) := ⟨by have := HW4.out; have := HW5.out; have := hb6.size; simp at this; omega⟩; clear hb6; have hq2 := (HB6.out.cell (World.block_lt_of_cell? _ _ HP2.out)).trans HP2.out; have hq3 := (HB6.out.cell (World.block_lt_of_cell? _ _ HP3.out)).trans HP3.out))
  clear hd0 hd1 hd2
  have hS0 := keepS2 (w0 := w6) ⟨hq2, hq3, hs0, hs1, hs2, hs3, hs4, ho0, ho1, ho2, ho3, ho4, ho5, ho6, Below.refl _ _⟩ ((Below.refl _ _).drew)
  clear hs0 hs1 hs2 hs3 hs4 ho0 ho1 ho2 ho3 ho4 ho5 ho6 hq2 hq3
  refine wp_region_noPanic ?_
  refine wp_region_held_drew (S := (fun w' => w'.cell? ⟨ob, oo + ii * 5 + 2, none⟩ = some (.bool false) ∧ w'.cell? ⟨ob, oo + ii * 5 + 3, none⟩ = some (.bool false) ∧ w'.cell? ⟨w.heap.size, 0, none⟩ = some (.slice A0 rs.length c0) ∧ w'.cell? ⟨w.heap.size, 1, none⟩ = some (.slice A1 hs.length c1) ∧ w'.cell? ⟨w.heap.size, 2, none⟩ = some (.slice (some ⟨ob, oo, none⟩) os.length c2) ∧ w'.cell? ⟨w.heap.size, 3, none⟩ = some (.slice A3 ds.length c3) ∧ w'.cell? ⟨w.heap.size, 4, none⟩ = some (.int .u64 ver) ∧ w'.cell? ⟨w.heap.size + 1, 0, none⟩ = some (.int .i64 kind) ∧ w'.cell? ⟨w.heap.size + 1, 1, none⟩ = some (.int .u64 ta) ∧ w'.cell? ⟨w.heap.size + 1, 2, none⟩ = some (.int .u64 ti) ∧ w'.cell? ⟨w.heap.size + 1, 3, none⟩ = some (.string key) ∧ w'.cell? ⟨w.heap.size + 1, 4, none⟩ = some (.slice A4 ps.length c4) ∧ w'.cell? ⟨w.heap.size + 1, 5, none⟩ = some (.bool cm) ∧ w'.cell? ⟨w.heap.size + 1, 6, none⟩ = some (.slice A5 n5 c5) ∧ Below w6.heap.size w6 w')) (by kernel_rfl) hS0 (fun hHeld => ?_)
  refine wpAnyH_take (i := 0) (oi := _) (v := .pointer (some ⟨w.heap.size, 2, none⟩)) rfl (by kernel_rfl) (by kernel_rfl) (by kernel_rfl) (fun _ _ _ h => h) (Or.inl ⟨by kernel_rfl, ?_⟩) (by assumption) ?_
  · intro w hSw; (try dsimp only at hSw); go_simp
  try simp only [Act.put, List.setIfInBounds_toArray, List.set_cons_zero, List.set_cons_succ]
  refine wpAnyH_take (i := 1) (oi := _) (v := .slice (some ⟨ob, oo, none⟩) os.length c2) rfl (by kernel_rfl) (by kernel_rfl) (by kernel_rfl) (fun _ _ _ h => h) (Or.inl ⟨by kernel_rfl, ?_⟩) (by assumption) ?_
  · intro w hSw; (try dsimp only at hSw); go_simp
  try simp only [Act.put, List.setIfInBounds_toArray, List.set_cons_zero, List.set_cons_succ]
  refine wpAnyH_take (i := 2) (oi := _) (v := .int .i64 ii) rfl (by kernel_rfl) (by kernel_rfl) (by kernel_rfl) (fun _ _ _ h => h) (Or.inl ⟨by kernel_rfl, ?_⟩) (by assumption) ?_
  · intro w hSw; (try dsimp only at hSw); go_simp
  try simp only [Act.put, List.setIfInBounds_toArray, List.set_cons_zero, List.set_cons_succ]
  refine wpAnyH_take (i := 3) (oi := _) (v := .pointer (some ⟨ob, oo + ii * 5, none⟩)) rfl (by kernel_rfl) (by kernel_rfl) (by kernel_rfl) (fun _ _ _ h => h) (Or.inl ⟨by kernel_rfl, ?_⟩) (by assumption) ?_
  · intro w hSw; (try dsimp only at hSw); go_simp
  try simp only [Act.put, List.setIfInBounds_toArray, List.set_cons_zero, List.set_cons_succ]
  refine wpAnyH_take (i := 4) (oi := _) (v := .pointer (some ⟨ob, oo + ii * 5 + 2, none⟩)) rfl (by kernel_rfl) (by kernel_rfl) (by kernel_rfl) (fun _ _ _ h => h) (Or.inl ⟨by kernel_rfl, ?_⟩) (by assumption) ?_
  · intro w hSw; (try dsimp only at hSw); go_simp
  try simp only [Act.put, List.setIfInBounds_toArray, List.set_cons_zero, List.set_cons_succ]
  refine wpAnyH_take (i := 5) (oi := _) (v := .bool false) rfl (by kernel_rfl) (by kernel_rfl) (by kernel_rfl) (fun _ _ _ h => h) (Or.inl ⟨by kernel_rfl, ?_⟩) (by assumption) ?_
  · intro w hSw; (try dsimp only at hSw); go_simp
  try simp only [Act.put, List.setIfInBounds_toArray, List.set_cons_zero, List.set_cons_succ]
  refine wpAnyH_take (i := 6) (oi := _) (v := .bool false) rfl (by kernel_rfl) (by kernel_rfl) (by kernel_rfl) (fun _ _ _ h => h) (Or.inl ⟨by kernel_rfl, ?_⟩) (by assumption) ?_
  · intro w hSw; (try dsimp only at hSw); go_simp
  try simp only [Act.put, List.setIfInBounds_toArray, List.set_cons_zero, List.set_cons_succ]
  refine wpAnyH_take (i := 7) (oi := _) (v := undef) rfl (by kernel_rfl) (by kernel_rfl) (by kernel_rfl) (fun _ _ _ h => h) (Or.inr ⟨by kernel_rfl, rfl⟩) (by assumption) ?_
  try simp only [Act.put, List.setIfInBounds_toArray, List.set_cons_zero, List.set_cons_succ]
  refine wpAnyH_take (i := 8) (oi := _) (v := undef) rfl (by kernel_rfl) (by kernel_rfl) (by kernel_rfl) (fun _ _ _ h => h) (Or.inr ⟨by kernel_rfl, rfl⟩) (by assumption) ?_
  try simp only [Act.put, List.setIfInBounds_toArray, List.set_cons_zero, List.set_cons_succ]
  refine wpAnyH_take (i := 9) (oi := _) (v := undef) rfl (by kernel_rfl) (by kernel_rfl) (by kernel_rfl) (fun _ _ _ h => h) (Or.inr ⟨by kernel_rfl, rfl⟩) (by assumption) ?_
  try simp only [Act.put, List.setIfInBounds_toArray, List.set_cons_zero, List.set_cons_succ]
  refine wpAnyH_take (i := 10) (oi := _) (v := undef) rfl (by kernel_rfl) (by kernel_rfl) (by kernel_rfl) (fun _ _ _ h => h) (Or.inr ⟨by kernel_rfl, rfl⟩) (by assumption) ?_
  try simp only [Act.put, List.setIfInBounds_toArray, List.set_cons_zero, List.set_cons_succ]
  refine wpAnyH_take (i := 11) (oi := _) (v := undef) rfl (by kernel_rfl) (by kernel_rfl) (by kernel_rfl) (fun _ _ _ h => h) (Or.inr ⟨by kernel_rfl, rfl⟩) (by assumption) ?_
  try simp only [Act.put, List.setIfInBounds_toArray, List.set_cons_zero, List.set_cons_succ]
  refine wpAnyH_take (i := 12) (oi := _) (v := undef) rfl (by kernel_rfl) (by kernel_rfl) (by kernel_rfl) (fun _ _ _ h => h) (Or.inr ⟨by kernel_rfl, rfl⟩) (by assumption) ?_
  try simp only [Act.put, List.setIfInBounds_toArray, List.set_cons_zero, List.set_cons_succ]
  refine wpAnyH_take (i := 13) (oi := _) (v := undef) rfl (by kernel_rfl) (by kernel_rfl) (by kernel_rfl) (fun _ _ _ h => h) (Or.inr ⟨by kernel_rfl, rfl⟩) (by assumption) ?_
  try simp only [Act.put, List.setIfInBounds_toArray, List.set_cons_zero, List.set_cons_succ]
  refine wpAnyH_take (i := 14) (oi := _) (v := undef) rfl (by kernel_rfl) (by kernel_rfl) (by kernel_rfl) (fun _ _ _ h => h) (Or.inr ⟨by kernel_rfl, rfl⟩) (by assumption) ?_
  try simp only [Act.put, List.setIfInBounds_toArray, List.set_cons_zero, List.set_cons_succ]
  refine wpAnyH_take (i := 15) (oi := _) (v := undef) rfl (by kernel_rfl) (by kernel_rfl) (by kernel_rfl) (fun _ _ _ h => h) (Or.inr ⟨by kernel_rfl, rfl⟩) (by assumption) ?_
  try simp only [Act.put, List.setIfInBounds_toArray, List.set_cons_zero, List.set_cons_succ]
  refine wpAnyH_ready (rs := [16]) (by kernel_rfl) (by simp) ?_
  refine AllReadyH.cons (o := _) rfl (fun K hK => ?_) AllReadyH.nil
  go_simp
  refine hK.out _ _ (by assumption) (fun hHeld16 => ?_)
  clear hK K
  try simp only [Act.put, List.setIfInBounds_toArray, List.set_cons_zero, List.set_cons_succ]
  refine wpAnyH_ready (rs := [17]) (by kernel_rfl) (by simp) ?_
  refine AllReadyH.cons (o := _) rfl (fun K hK => ?_) AllReadyH.nil
  go_simp
  refine hK.out _ _ (by assumption) (fun hHeld17 => ?_)
  clear hK K
  try simp only [Act.put, List.setIfInBounds_toArray, List.set_cons_zero, List.set_cons_succ]
  refine wpAnyH_done (by kernel_rfl) ?_ _
  refine NoPanic.normal ?_
  clear hHeld hHeld16 hHeld17
  generalize w6.drew = w8 at *
  obtain ⟨hq2, hq3, hs0, hs1, hs2, hs3, hs4, ho0, ho1, ho2, ho3, ho4, ho5, ho6, hb8⟩ := hS0
  clear hq3
  have SB8 := Aside0.mk (stay hb8 SB6.out (by have := HW6.out; omega)); have OB8 := Aside0.mk (stay hb8 OB6.out (by have := HW6.out; omega)); have ZB8 := Aside0.mk (stay hb8 ZB6.out (by have := HW6.out; omega)); have AB8 := Aside0.mk (stay hb8 AB6.out (by have := HW6.out; omega))
  have HW8 : Aside0 (w.heap.size + 1 + 1 + 1 + 1 ≤ w8.heap.size) := ⟨Nat.le_trans HW6.out hb8.size⟩
  have HB8 := Aside0.mk (HB6.out.trans (hb8.mono HB6.out.size))
  clear hb8
  go_wp2_with (first
    | (go_at_call 42; refine (HFT.out _ HB8.out).mono ?_; rintro e w10 ⟨rfl, hb10⟩; clear hs0 hs1 hs2 hs3 hs4 ho0 ho1 ho2 ho3 ho4 ho5 ho6; have SB10 := Aside0.mk (stay hb10 SB8.out (by have := HW8.out; omega)); have OB10 := Aside0.mk (stay hb10 OB8.out (by have := HW8.out; omega)); have ZB10 := Aside0.mk (stay hb10 ZB8.out (by have := HW8.out; omega)); have AB10 := Aside0.mk (stay hb10 AB8.out (by have := HW8.out; omega)); have HW10 : Aside0 (w.heap.size + 1 + 1 + 1 + 1 ≤ w10.heap.size) := ⟨Nat.le_trans HW8.out hb10.size⟩; obtain ⟨hs0, hs1, hs2, hs3, hs4⟩ := cells_5 SB10.out; obtain ⟨ho0, ho1, ho2, ho3, ho4, ho5, ho6⟩ := cells_7 OB10.out; have HB10 := Aside0.mk (HB8.out.trans (hb10.mono HB8.out.size)); clear hb10)
    | (go_at_call 43; refine (HCF.out _ HB10.out SB10.out OB10.out).mono ?_; rintro e w11 ⟨rfl, hb11⟩; clear hs0 hs1 hs2 hs3 hs4 ho0 ho1 ho2 ho3 ho4 ho5 ho6; have SB11 := Aside0.mk (stay hb11 SB10.out (by have := HW10.out; omega)); have OB11 := Aside0.mk (stay hb11 OB10.out (by have := HW10.out; omega)); have ZB11 := Aside0.mk (stay hb11 ZB10.out (by have := HW10.out; omega)); have AB11 := Aside0.mk (stay hb11 AB10.out (by have := HW10.out; omega)); have HW11 : Aside0 (w.heap.size + 1 + 1 + 1 + 1 ≤ w11.heap.size) := ⟨Nat.le_trans HW10.out hb11.size⟩; obtain ⟨hs0, hs1, hs2, hs3, hs4⟩ := cells_5 SB11.out; obtain ⟨ho0, ho1, ho2, ho3, ho4, ho5, ho6⟩ := cells_7 OB11.out; have HB11 := Aside0.mk (HB10.out.trans (hb11.mono HB10.out.size)); clear hb11)
    | (go_at_call 44; refine (HKY.out _ HB11.out).mono ?_; rintro e w12 ⟨rfl, hb12⟩; clear hs0 hs1 hs2 hs3 hs4 ho0 ho1 ho2 ho3 ho4 ho5 ho6; have SB12 := Aside0.mk (stay hb12 SB11.out (by have := HW11.out; omega)); have OB12 := Aside0.mk (stay hb12 OB11.out (by have := HW11.out; omega)); have ZB12 := Aside0.mk (stay hb12 ZB11.out (by have := HW11.out; omega)); have AB12 := Aside0.mk (stay hb12 AB11.out (by have := HW11.out; omega)); have HW12 : Aside0 (w.heap.size + 1 + 1 + 1 + 1 ≤ w12.heap.size) := ⟨Nat.le_trans HW11.out hb12.size⟩; obtain ⟨hs0, hs1, hs2, hs3, hs4⟩ := cells_5 SB12.out; obtain ⟨ho0, ho1, ho2, ho3, ho4, ho5, ho6⟩ := cells_7 OB12.out; have HB12 := Aside0.mk (HB11.out.trans (hb12.mono HB11.out.size)); clear hb12)
    | (go_at_call 56; refine (HCL.out _ HB12.out).mono ?_; rintro e w13 ⟨v3, rfl, ho13, hb13⟩; clear hs0 hs1 hs2 hs3 hs4 ho0 ho1 ho2 ho3 ho4 ho5 ho6; have SB13 := Aside0.mk (stay hb13 SB12.out (by have := HW12.out; omega)); have OB13 := Aside0.mk (stay hb13 OB12.out (by have := HW12.out; omega)); have ZB13 := Aside0.mk (stay hb13 ZB12.out (by have := HW12.out; omega)); have AB13 := Aside0.mk (stay hb13 AB12.out (by have := HW12.out; omega)); obtain ⟨hs0, hs1, hs2, hs3, hs4⟩ := cells_5 SB13.out; obtain ⟨hz0, hz1, hz2, hz3, hz4⟩ := froz_5 SB13.out; obtain ⟨Ac, cc, hv3, hcc⟩ := own_sl2 ho13; rw [HCSS.out] at hv3; subst hv3; have HO13 := Aside0.mk ho13; have HW13 : Aside0 (w.heap.size + 1 + 1 + 1 + 1 ≤ w13.heap.size) := ⟨Nat.le_trans HW12.out hb13.size⟩; have HB13 := Aside0.mk (HB12.out.trans (hb13.mono HB12.out.size)); clear ho13 hb13))
  have SB14 := Aside0.mk (blk_put (cs := #[.slice A0 rs.length c0, .slice A1 hs.length c1, .slice (some ⟨ob, oo, none⟩) os.length c2, .slice A3 ds.length c3, .int .u64 ver]) SB13.out 2 (.slice Ac os.length cc) rfl)
  have HG14 := Aside0.mk (Lib.grownBy_setCell w13 w.heap.size 2 (.slice Ac os.length cc))
  have OB14 := Aside0.mk ((HG14.out.block (w.heap.size + 1) (by have := HW13.out; omega) (fun e => by have := Option.some.inj e; omega)).trans OB13.out)
  have ZB14 := Aside0.mk ((HG14.out.block (w.heap.size + 1 + 1) (by have := HW13.out; omega) (fun e => by have := Option.some.inj e; omega)).trans ZB13.out)
  have AB14 := Aside0.mk ((HG14.out.block (w.heap.size + 1 + 1 + 1) (by have := HW13.out; omega) (fun e => by have := Option.some.inj e; omega)).trans AB13.out)
  have HB14 := Aside0.mk (HB13.out.setCell (p := ⟨w.heap.size, 2, none⟩) (Nat.le_refl _) (.slice Ac os.length cc))
  have HW14 : Aside0 (w.heap.size + 1 + 1 + 1 + 1 ≤ (w13.setCell ⟨w.heap.size, 2, none⟩ (.slice Ac os.length cc)).heap.size) := ⟨Nat.le_trans HW13.out HG14.out.size⟩
  have HO14 := Aside0.mk (HO13.out.kept HG14.out (fun b e e2 => by have := HO13.out.base b e; have := HW12.out; have := Option.some.inj e2; omega))
  clear hs0 hs1 hs2 hs3 hs4 hz0 hz1 hz2 hz3 hz4
  change Code.wp _ _ _ _ (w13.setCell ⟨w.heap.size, 2, none⟩ (.slice Ac os.length cc))
  generalize w13.setCell ⟨w.heap.size, 2, none⟩ (.slice Ac os.length cc) = w14 at *
  obtain ⟨hs0, hs1, hs2, hs3, hs4⟩ := cells_5 SB14.out
  obtain ⟨ho0, ho1, ho2, ho3, ho4, ho5, ho6⟩ := cells_7 OB14.out
  obtain ⟨g, hAc⟩ : ∃ g, Ac = some ⟨g, 0, none⟩ := by
    rcases HO14.out.cases with ⟨_, h0⟩ | ⟨g, cap, cur, e, _⟩
    · have := HCSS.out; rw [h0] at this; simp at this; omega
    · exact ⟨g, (Value.slice.inj e).1⟩
  subst hAc
  have hgn : w.heap.size + 1 < g := by have := HO14.out.base g rfl; have := HW12.out; omega
  have HGL := Aside0.mk (HO14.out.lt g rfl)
  have HNO2 := Aside0.mk (fun (W : World) (e0 : Int) => shardNo2 A0 rs.length c0 A1 hs.length c1 (some ⟨g, 0, none⟩) os.length cc A3 ds.length c3 ver e0 W)
  have hS0 := keepG (w0 := w14) (g := g) ⟨hs0, hs1, hs2, hs3, hs4, ho0, ho1, ho2, ho3, ho4, ho5, ho6, World.grownBy.refl _ _⟩ (grown_drew w14 _) hgn
  clear hs0 hs1 hs2 hs3 hs4 ho0 ho1 ho2 ho3 ho4 ho5 ho6
  refine wp_region_noPanic ?_
  refine wp_region_held_drew (S := (fun w' => w'.cell? ⟨w.heap.size, 0, none⟩ = some (.slice A0 rs.length c0) ∧ w'.cell? ⟨w.heap.size, 1, none⟩ = some (.slice A1 hs.length c1) ∧ w'.cell? ⟨w.heap.size, 2, none⟩ = some (.slice (some ⟨g, 0, none⟩) os.length cc) ∧ w'.cell? ⟨w.heap.size, 3, none⟩ = some (.slice A3 ds.length c3) ∧ w'.cell? ⟨w.heap.size, 4, none⟩ = some (.int .u64 ver) ∧ w'.cell? ⟨w.heap.size + 1, 0, none⟩ = some (.int .i64 kind) ∧ w'.cell? ⟨w.heap.size + 1, 1, none⟩ = some (.int .u64 ta) ∧ w'.cell? ⟨w.heap.size + 1, 2, none⟩ = some (.int .u64 ti) ∧ w'.cell? ⟨w.heap.size + 1, 3, none⟩ = some (.string key) ∧ w'.cell? ⟨w.heap.size + 1, 4, none⟩ = some (.slice A4 ps.length c4) ∧ w'.cell? ⟨w.heap.size + 1, 5, none⟩ = some (.bool cm) ∧ w'.cell? ⟨w.heap.size + 1, 6, none⟩ = some (.slice A5 n5 c5) ∧ w14.grownBy w' (some g))) (by kernel_rfl) hS0 (fun hHeld => ?_)
  refine wpAnyH_take (i := 0) (oi := _) (v := .pointer (some ⟨w.heap.size, 2, none⟩)) rfl (by kernel_rfl) (by kernel_rfl) (by kernel_rfl) (fun _ _ _ h => h) (Or.inl ⟨by kernel_rfl, ?_⟩) (by assumption) ?_
  · intro w hSw; (try dsimp only at hSw); go_simp
  try simp only [Act.put, List.setIfInBounds_toArray, List.set_cons_zero, List.set_cons_succ]
  refine wpAnyH_take (i := 1) (oi := _) (v := .slice (some ⟨g, 0, none⟩) os.length cc) rfl (by kernel_rfl) (by kernel_rfl) (by kernel_rfl) (fun _ _ _ h => h) (Or.inl ⟨by kernel_rfl, ?_⟩) (by assumption) ?_
  · intro w hSw; (try dsimp only at hSw); go_simp
  try simp only [Act.put, List.setIfInBounds_toArray, List.set_cons_zero, List.set_cons_succ]
  refine wpAnyH_take (i := 2) (oi := _) (v := .int .i64 ii) rfl (by kernel_rfl) (by kernel_rfl) (by kernel_rfl) (fun _ _ _ h => h) (Or.inl ⟨by kernel_rfl, ?_⟩) (by assumption) ?_
  · intro w hSw; (try dsimp only at hSw); go_simp
  try simp only [Act.put, List.setIfInBounds_toArray, List.set_cons_zero, List.set_cons_succ]
  refine wpAnyH_take (i := 3) (oi := _) (v := .pointer (some ⟨w.heap.size, 2, none⟩)) rfl (by kernel_rfl) (by kernel_rfl) (by kernel_rfl) (fun _ _ _ h => h) (Or.inl ⟨by kernel_rfl, ?_⟩) (by assumption) ?_
  · intro w hSw; (try dsimp only at hSw); go_simp
  try simp only [Act.put, List.setIfInBounds_toArray, List.set_cons_zero, List.set_cons_succ]
  refine wpAnyH_take (i := 4) (oi := _) (v := .slice (some ⟨g, 0, none⟩) os.length cc) rfl (by kernel_rfl) (by kernel_rfl) (by kernel_rfl) (fun _ _ _ h => h) (Or.inl ⟨by kernel_rfl, ?_⟩) (by assumption) ?_
  · intro w hSw; (try dsimp only at hSw); go_simp
  try simp only [Act.put, List.setIfInBounds_toArray, List.set_cons_zero, List.set_cons_succ]
  refine wpAnyH_take (i := 5) (oi := _) (v := .int .i64 ii) rfl (by kernel_rfl) (by kernel_rfl) (by kernel_rfl) (fun _ _ _ h => h) (Or.inl ⟨by kernel_rfl, ?_⟩) (by assumption) ?_
  · intro w hSw; (try dsimp only at hSw); go_simp
  try simp only [Act.put, List.setIfInBounds_toArray, List.set_cons_zero, List.set_cons_succ]
  refine wpAnyH_take (i := 6) (oi := _) (v := .pointer (some ⟨w.heap.size + 1, 4, none⟩)) rfl (by kernel_rfl) (by kernel_rfl) (by kernel_rfl) (fun _ _ _ h => h) (Or.inl ⟨by kernel_rfl, ?_⟩) (by assumption) ?_
  · intro w hSw; (try dsimp only at hSw); go_simp
  try simp only [Act.put, List.setIfInBounds_toArray, List.set_cons_zero, List.set_cons_succ]
  refine wpAnyH_take (i := 7) (oi := _) (v := .slice A4 ps.length c4) rfl (by kernel_rfl) (by kernel_rfl) (by kernel_rfl) (fun _ _ _ h => h) (Or.inl ⟨by kernel_rfl, ?_⟩) (by assumption) ?_
  · intro w hSw; (try dsimp only at hSw); go_simp
  try simp only [Act.put, List.setIfInBounds_toArray, List.set_cons_zero, List.set_cons_succ]
  refine wpAnyH_ready (rs := [8]) (by kernel_rfl) (by simp) ?_
  refine AllReadyH.cons (o := _) rfl (fun K hK => ?_) AllReadyH.nil
  go_simp; go_at_call 60; with_reducible refine (HCP.out _ HB14.out.drew).mono ?_; rintro e w15 ⟨v4, rfl, ho15, hb15⟩; go_simp
  have hS15 := keepG hS0 (Lib.grownBy_below (World.grownBy.refl _ _) hb15) hgn
  have HOX := Aside0.mk ((HO14.out.below ((Below.refl _ _).drew)).below hb15)
  obtain ⟨Ap, cp, hv4, hcp⟩ := own_sl2 ho15
  rw [List.length_map] at hv4
  subst hv4
  have hx2 : w15.cell? ⟨g, ii * 5 + 2, none⟩ = some _ := (HOX.out.get ii 2 (by rw [HCSS.out]; exact hii) (by decide)).1
  have hy2 := (HOX.out.get ii 2 (by rw [HCSS.out]; exact hii) (by decide)).2.1
  have hx4 : w15.cell? ⟨g, ii * 5 + 4, none⟩ = some _ := (HOX.out.get ii 4 (by rw [HCSS.out]; exact hii) (by decide)).1
  have hy4 := (HOX.out.get ii 4 (by rw [HCSS.out]; exact hii) (by decide)).2.1
  have HCPL : Aside0 (ps.length ≤ cp) := ⟨by rwa [List.length_map] at hcp⟩
  have HO15 := Aside0.mk ho15
  have HB15 := Aside0.mk hb15
  clear ho15 hb15
  refine hK.out _ _ hS15 (fun hHeld8 => ?_)
  clear hK K
  try simp only [Act.put, List.setIfInBounds_toArray, List.set_cons_zero, List.set_cons_succ]
  have hst1 := HOX.out.store ii 2 (by rw [HCSS.out]; exact hii) (by decide) (.bool true) rfl
  have hl1 : (css.set ii ((css[ii]!).set 2 (.bool true))).length = os.length := by rw [List.length_set]; exact HCSS.out
  have hst2 := hst1.1.store ii 4 (by rw [hl1]; exact hii) (by decide) (.slice Ap ps.length cp) rfl
  have hS16 := keepG hS15 hst1.2 hgn
  have hS17 := keepG hS16 hst2.2 hgn
  have hx4' := (hst1.1.get ii 4 (by rw [hl1]; exact hii) (by decide)).1
  have hy4' := (hst1.1.get ii 4 (by rw [hl1]; exact hii) (by decide)).2.1
  have HT1 := Aside0.mk hst1
  have HT2 := Aside0.mk hst2
  clear hst1 hst2 hl1 hx4 hy4
  refine wpAnyH_take (i := 9) (oi := _) (v := .pointer (some ⟨g, ii * 5, none⟩)) rfl (by kernel_rfl) (by kernel_rfl) (by kernel_rfl) (fun _ _ _ h => h) (Or.inl ⟨by kernel_rfl, ?_⟩) (by assumption) ?_
  · intro w hSw; (try dsimp only at hSw); go_simp
  try simp only [Act.put, List.setIfInBounds_toArray, List.set_cons_zero, List.set_cons_succ]
  refine wpAnyH_take (i := 10) (oi := _) (v := .pointer (some ⟨g, ii * 5 + 2, none⟩)) rfl (by kernel_rfl) (by kernel_rfl) (by kernel_rfl) (fun _ _ _ h => h) (Or.inl ⟨by kernel_rfl, ?_⟩) (by assumption) ?_
  · intro w hSw; (try dsimp only at hSw); go_simp
  try simp only [Act.put, List.setIfInBounds_toArray, List.set_cons_zero, List.set_cons_succ]
  refine wpAnyH_ready (rs := [11]) (by kernel_rfl) (by simp) ?_
  refine AllReadyH.cons (o := _) rfl (fun K hK => ?_) AllReadyH.nil
  go_simp
  refine hK.out _ _ hS16 (fun hHeld11 => ?_)
  clear hK K
  try simp only [Act.put, List.setIfInBounds_toArray, List.set_cons_zero, List.set_cons_succ]
  refine wpAnyH_take (i := 12) (oi := _) (v := .pointer (some ⟨g, ii * 5, none⟩)) rfl (by kernel_rfl) (by kernel_rfl) (by kernel_rfl) (fun _ _ _ h => h) (Or.inl ⟨by kernel_rfl, ?_⟩) (by assumption) ?_
  · intro w hSw; (try dsimp only at hSw); go_simp
  try simp only [Act.put, List.setIfInBounds_toArray, List.set_cons_zero, List.set_cons_succ]
  refine wpAnyH_take (i := 13) (oi := _) (v := .pointer (some ⟨g, ii * 5 + 4, none⟩)) rfl (by kernel_rfl) (by kernel_rfl) (by kernel_rfl) (fun _ _ _ h => h) (Or.inl ⟨by kernel_rfl, ?_⟩) (by assumption) ?_
  · intro w hSw; (try dsimp only at hSw); go_simp
  try simp only [Act.put, List.setIfInBounds_toArray, List.set_cons_zero, List.set_cons_succ]
  refine wpAnyH_ready (rs := [14]) (by kernel_rfl) (by simp) ?_
  refine AllReadyH.cons (o := _) rfl (fun K hK => ?_) AllReadyH.nil
  go_simp
  refine hK.out _ _ hS17 (fun hHeld14 => ?_)
  clear hK K
  try simp only [Act.put, List.setIfInBounds_toArray, List.set_cons_zero, List.set_cons_succ]
  refine wpAnyH_done (by kernel_rfl) ?_ _
  refine NoPanic.normal ?_
  clear hHeld hHeld8 hHeld11 hHeld14 hS0 hS15 hS16 hx2 hy2 hx4' hy4'
  have HG17 := Aside0.mk (HT1.out.2.trans HT2.out.2)
  have HO17 := Aside0.mk HT2.out.1
  have HP17 := Aside0.mk (HO15.out.kept HG17.out (fun b e e2 => by have := HO15.out.base b e; rw [drewHeap] at this; have := HGL.out; have := Option.some.inj e2; omega))
  clear HT1 HT2
  obtain ⟨hs0, hs1, hs2, hs3, hs4, ho0, ho1, ho2, ho3, ho4, ho5, ho6, hg17⟩ := hS17
  clear hg17
  generalize (w15.setCell ⟨g, ii * 5 + 2, none⟩ (.bool true)).setCell ⟨g, ii * 5 + 4, none⟩ (.slice Ap ps.length cp) = w17 at *
  have HGA : Aside0 (w14.grownBy w17 (some g)) := ⟨(Lib.grownBy_below (grown_drew w14 (some g)) HB15.out).trans HG17.out⟩
  have ZB17 := Aside0.mk ((HGA.out.block (w.heap.size + 1 + 1) (by have := HW14.out; omega) (fun e => by have := Option.some.inj e; have := HO14.out.base g rfl; have := HW12.out; omega)).trans ZB14.out)
  have AB17 := Aside0.mk ((HGA.out.block (w.heap.size + 1 + 1 + 1) (by have := HW14.out; omega) (fun e => by have := Option.some.inj e; have := HO14.out.base g rfl; have := HW12.out; omega)).trans AB14.out)
  have HW17 : Aside0 (w.heap.size + 1 + 1 + 1 + 1 ≤ w17.heap.size) := ⟨Nat.le_trans HW14.out HGA.out.size⟩
  have HB17 : Aside0 (Below w.heap.size w w17) := ⟨HB14.out.grown HGA.out HB14.out.size (fun k e => by have := Option.some.inj e; omega)⟩
  go_wp2_with (go_at_call 24; refine (HNO2.out _ _).mono ?_; rintro e w7 ⟨rfl, hb7⟩; clear hs0 hs1 hs2 hs3 hs4 ho0 ho1 ho2 ho3 ho4 ho5 ho6; have HBX := Aside0.mk hb7; have ZB7 := Aside0.mk (stay hb7 ZB17.out (by have := HW17.out; omega)); have AB7 := Aside0.mk (stay hb7 AB17.out (by have := HW17.out; omega)); obtain ⟨hz0, hz1, hz2, hz3, hz4⟩ := cells_5 ZB7.out; obtain ⟨ha0, ha1, ha2, ha3, ha4⟩ := cells_5 AB7.out; obtain ⟨hy0, hy1, hy2, hy3, hy4⟩ := froz_5 ZB7.out; obtain ⟨hx0, hx1, hx2, hx3, hx4⟩ := froz_5 AB7.out; have HB7 := Aside0.mk (HB17.out.trans (hb7.mono HB17.out.size)); clear hb7)
  have hW14 := HW14.out
  have hW12 := HW12.out
  refine twoBoxes rfl rfl rfl rfl ZB7.out AB7.out (by omega) ?_
  have hbW := fun (a0 a1 a2 a3 a4 b0 b1 b2 b3 b4 : Value) => put5_below (put5_below HB7.out (show w.heap.size ≤ w.heap.size + 1 + 1 by omega) a0 a1 a2 a3 a4) (show w.heap.size ≤ w.heap.size + 1 + 1 + 1 by omega) b0 b1 b2 b3 b4
  refine ⟨_, rfl, ⟨_, _, _, _, rfl, ⟨_, _, rfl, HC0.out, Kd.C_below HR0.out (hbW _ _ _ _ _ _ _ _ _ _)⟩, ⟨_, _, rfl, HC1.out, Kd.C_below HR1.out (hbW _ _ _ _ _ _ _ _ _ _)⟩, ?_, ⟨_, _, rfl, HC3.out, Kd.C_below HR3.out (hbW _ _ _ _ _ _ _ _ _ _)⟩⟩, hbW _ _ _ _ _ _ _ _ _ _⟩
  have hOw := own_put_u (n := w.heap.size) (HO17.out.below HBX.out) hW12
  have hPw := own_put_u (n := w.heap.size) (HP17.out.below HBX.out) (show w.heap.size + 1 + 1 + 1 + 1 ≤ w14.drew.heap.size from hW14)
  obtain ⟨pB', pc', hpe, _, _⟩ := HRW.out.cells ii hii
  have HPE := Aside0.mk hpe
  have hset : ((css.set ii ((css[ii]!).set 2 (.bool true)))[ii]!).set 4 (.slice Ap ps.length cp) = openC ⟨(os[ii]!).f0, true, false, ps⟩ Ap cp := by
    rw [getElem!_pos (css.set ii ((css[ii]!).set 2 (.bool true))) ii (by rw [List.length_set, HCSS.out]; exact hii), List.getElem_set_self, hpe]
    unfold openC
    rw [HF2E.out]
    rfl
  rw [hset, List.set_set] at hOw
  exact opens_back ((HRW.out.below (hbW _ _ _ _ _ _ _ _ _ _)).put ii (openK_mk (x := ⟨(os[ii]!).f0, true, false, ps⟩) (HCPL.out) (Kd.C_own3 (hPw _ _ _ _ _ _ _ _ _ _)))) (Below.refl _ _) (hOw _ _ _ _ _ _ _ _ _ _).sl
end Go.Proofs.Ytmcgcdpiceikeaa.PAll
end
