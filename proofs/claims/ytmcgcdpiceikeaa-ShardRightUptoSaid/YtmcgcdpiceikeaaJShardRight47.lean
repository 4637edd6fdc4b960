/- Joined texts of the claim ShardRight (part 47): contracts of functions and plain laws. -/
import Derived.BigQuiet
import Derived.BigRegion
import Derived.Deep.CutRange
import Derived.Deep.DeepCutAuto
import Derived.Deep.QuietTactic
import Derived.Test.YtmcgcdpiceikeaaJShardRight32
import Derived.Test.YtmcgcdpiceikeaaJShardRight45
import Derived.Test.YtmcgcdpiceikeaaJShardRight46
section
/- shard.Right: which shards are right: the walk. -/
namespace Go.Proofs.Ytmcgcdpiceikeaa.PAll
open Go.RowKit Go.WideMaps Go.Maps Go.Proofs.YtmcgcdpiceikeaaW.PrintWords Go.Proofs.YtmcgcdpiceikeaaW.PrintMore Go.Proofs.Ytmcgcdpiceikeaa
set_option linter.unusedVariables false
set_option linter.unusedSimpArgs false
theorem contLacks (bs bx : Nat) (A1 : Option Addr) (c1 : Nat) (hs : List S75) (t : S30) (A4 : Option Addr) (c4 : Nat) (ps : List S54) (W : World) (h1 : W.cell? ⟨bs, 1, none⟩ = some (.slice A1 hs.length c1)) (hr : Kd.C k75 W A1 hs.length hs) (hc : hs.length ≤ c1) (x0 : W.cell? ⟨bx, 0, none⟩ = some (.int .u64 t.f0)) (x1 : W.cell? ⟨bx, 1, none⟩ = some (.int .u64 t.f1)) (hr4 : Kd.C k54 W A4 ps.length ps) (hc4 : ps.length ≤ c4) :
    Calls Try.prog 43 #[.slice A4 ps.length c4, .func (.func 40) #[] #[.pointer (some ⟨bs, 0, none⟩), .pointer (some ⟨bx, 0, none⟩)]] W fun e w' => e = .returned (.bool (ps.any (fun p => !hasV hs t p.f0 true))) ∧ Below W.heap.size W w' := by
  have g1 := World.block_lt_of_cell? _ _ h1
  have g2 := World.block_lt_of_cell? _ _ x0
  have g3 := World.block_lt_of_cell? _ _ x1
  exact ContainsFuncPut k54 rfl (fun p => !hasV hs t p.f0 true) 40 #[.pointer (some ⟨bs, 0, none⟩), .pointer (some ⟨bx, 0, none⟩)] (enters_of Try.func40 (by kernel_rfl) rfl) (.slice A4 ps.length c4) ps W ⟨A4, c4, rfl, hc4, hr4⟩ (fun W' x cs hb _ hK => by
    obtain rfl := flat54.openK _ _ _ hK
    exact rightLacks bs bx A1 c1 hs t x W' ((hb.cell g1).trans h1) (Kd.C_below hr hb) hc ((hb.cell g2).trans x0) ((hb.cell g3).trans x1))
theorem rightStart (W0 : World) (n : Nat) (hn : W0.heap.size = n) : Below n W0 (((W0.alloc (.map #[] 0)).alloc (.cells #[.map (some n)] 76)).alloc (.map #[] 0)) ∧ (((W0.alloc (.map #[] 0)).alloc (.cells #[.map (some n)] 76)).alloc (.map #[] 0)).heap.size = n + 1 + 1 + 1 ∧ (((W0.alloc (.map #[] 0)).alloc (.cells #[.map (some n)] 76)).alloc (.map #[] 0)).heap[n + 1]? = some (.cells #[.map (some n)] 76 (0, 0)) ∧ BoolMap txLit 30 (((W0.alloc (.map #[] 0)).alloc (.cells #[.map (some n)] 76)).alloc (.map #[] 0)) n 0 (setOfTx []) ∧ BoolMap txLit 30 (((W0.alloc (.map #[] 0)).alloc (.cells #[.map (some n)] 76)).alloc (.map #[] 0)) (n + 1 + 1) 0 (freeF []) := by
  subst hn
  refine ⟨(((Below.refl _ _).alloc (Nat.le_refl _) _).alloc (by simp) _).alloc (by simp; omega) _, by simp, ?_, ?_, ?_⟩
  · have h := heap_alloc_new (W0.alloc (.map #[] 0)) (.cells #[.map (some W0.heap.size)] 76)
    rw [World.size_alloc] at h
    exact (Below.heap_alloc _ _ _ (by simp)).trans h
  · have h : BoolMap txLit 30 (W0.alloc (.map #[] 0)) W0.heap.size 0 (setOfTx []) := BoolMap.made txLit 30 (World.ownsMap_made (H := Nat) (P := Try.prog) (k := 30) (R := plainElem Try.prog 4) W0)
    exact h.kept (((Below.refl _ _).alloc (Nat.le_refl _) _).alloc (by simp) _)
  · have h : BoolMap txLit 30 (((W0.alloc (.map #[] 0)).alloc (.cells #[.map (some W0.heap.size)] 76)).alloc (.map #[] 0)) ((W0.alloc (.map #[] 0)).alloc (.cells #[.map (some W0.heap.size)] 76)).heap.size 0 (freeF []) := BoolMap.made txLit 30 (World.ownsMap_made (H := Nat) (P := Try.prog) (k := 30) (R := plainElem Try.prog 4) ((W0.alloc (.map #[] 0)).alloc (.cells #[.map (some W0.heap.size)] 76)))
    simp only [World.size_alloc] at h
    exact h
theorem rightEnd (a o d h k : Bool) : (a && (o && (d && h)) && k) = ((((a && o) && d) && h) && k) := by cases a <;> cases o <;> cases d <;> cases h <;> cases k <;> rfl
set_option maxHeartbeats 16000000 in
set_option maxRecDepth 100000 in
theorem right13c_calls (A0 : Option Addr) (c0 : Nat) (A1 : Option Addr) (c1 : Nat) (A2 : Option Addr) (c2 : Nat) (A3 : Option Addr) (c3 : Nat) (ver : Int) (rs : List S50) (hs : List S75) (os : List S48) (ds : List S68) (w : World)
    (hr0 : Kd.C k50 w A0 rs.length rs) (hc0 : rs.length ≤ c0) (hr1 : Kd.C k75 w A1 hs.length hs) (hc1 : hs.length ≤ c1) (hr2 : Kd.C k48 w A2 os.length os) (hc2 : os.length ≤ c2) (hr3 : Kd.C k68 w A3 ds.length ds) (hc3 : ds.length ≤ c3)
    (hok : rs.length + openCount os ≤ 4000000) (hol : os.length + ds.length ≤ 4000000) (hhl : hs.length ≤ 4000000) (hk0 : ∀ r ∈ rs, r.f0.size ≤ maxLen) (hk2 : ∀ x ∈ os, ∀ p ∈ x.f3, p.f0.size ≤ maxLen) (hot : ∀ x ∈ os, okTx x.f0) (hdt : ∀ x ∈ ds, okTx x.f0) (hht : ∀ x ∈ hs, okPl x) :
    Calls Try.prog 19 #[.agg (shv A0 rs.length c0 A1 hs.length c1 A2 os.length c2 A3 ds.length c3 ver)] w fun e w' => e = .returned (.bool (rightCV rs hs os ds)) ∧ Below w.heap.size w w' := by
  have HXA := Aside0.mk (fun (W : World) (h : Below (w.alloc (.cells #[.slice A0 rs.length c0, .slice A1 hs.length c1, .slice A2 os.length c2, .slice A3 ds.length c3, .int .u64 ver] 28)).heap.size (w.alloc (.cells #[.slice A0 rs.length c0, .slice A1 hs.length c1, .slice A2 os.length c2, .slice A3 ds.length c3, .int .u64 ver] 28)) W) => (h.block w.heap.size (by simp)).trans (heap_alloc_new w (.cells #[.slice A0 rs.length c0, .slice A1 hs.length c1, .slice A2 os.length c2, .slice A3 ds.length c3, .int .u64 ver] 28)))
  have HB0 := Aside0.mk ((Below.refl w.heap.size w).alloc (Nat.le_refl _) (.cells #[.slice A0 rs.length c0, .slice A1 hs.length c1, .slice A2 os.length c2, .slice A3 ds.length c3, .int .u64 ver] 28))
  have hcl : hs.length < maxLen := by unfold maxLen; omega
  have H11 := Aside0.mk (fun (W : World) (h : Below w.heap.size w W) => rows_Right.calls A0 c0 rs (rightR rs) W (Kd.C_below hr0 h) hc0 rfl)
  have H12 := Aside0.mk (fun (W : World) (h : Below w.heap.size w W) => lockRight_calls A1 c1 hs W (Kd.C_below hr1 h) hc1 hcl hht)
  have HKY := Aside0.mk (fun (W : World) (h : Below w.heap.size w W) => shardKeys_calls A0 c0 A1 hs.length c1 A2 c2 A3 ds.length c3 none 0 ver rs os [] W (Kd.C_below hr0 h) (Kd.C_below hr2 h) (Kd.C_nil _ _) (by unfold maxLen; simp; omega) hk0 hk2 (by simp))
  have HA1 := Aside0.mk hr1
  have HA2 := Aside0.mk hr2
  have HA3 := Aside0.mk hr3
  have HC1 := Aside0.mk hc1
  have HOT := Aside0.mk hot
  have HDT := Aside0.mk hdt
  have HHT := Aside0.mk hht
  have ho63 : os.length ≤ 9223372036854775807 := by omega
  have hd63 : ds.length ≤ 9223372036854775807 := by omega
  have hh63 : hs.length ≤ 9223372036854775807 := by omega
  have HOL := Aside0.mk hol
  have HHL := Aside0.mk hhl
  have hosum : IntKind.i64.wrap ((os.length : Int) + (ds.length : Int)) = (os.length : Int) + (ds.length : Int) := by rw [IntKind.wrap_i64]; omega
  obtain ⟨hB4, hZ4, hC4, hM1, hM3⟩ := rightStart (w.alloc (.cells #[.slice A0 rs.length c0, .slice A1 hs.length c1, .slice A2 os.length c2, .slice A3 ds.length c3, .int .u64 ver] 28)) (w.heap.size + 1) (World.size_alloc _ _)
  have HB4 := Aside0.mk hB4
  have HZ4 := Aside0.mk hZ4
  have HC4 := Aside0.mk hC4
  have HM1 := Aside0.mk hM1
  have HM3 := Aside0.mk hM3
  have HZW : Aside0 ((w.alloc (.cells #[.slice A0 rs.length c0, .slice A1 hs.length c1, .slice A2 os.length c2, .slice A3 ds.length c3, .int .u64 ver] 28)).heap.size = w.heap.size + 1) := ⟨World.size_alloc _ _⟩
  clear hB4 hZ4 hC4 hM1 hM3
  obtain ⟨ha0, ha1, ha2, ha3, ha4⟩ := cells_5 (HXA.out _ (Below.refl _ _))
  have hmm := @run_makeMap Try.prog
  clear hr0 hr1 hr2 hr3 hc0 hc1 hc2 hc3 hok hol hhl hk0 hk2 hot hdt hht hcl
  unfold shv
  go_enter Try.func19, Try.ntmps19
  go_upto_region 4 with (fail)
  generalize (((w.alloc (.cells #[.slice A0 rs.length c0, .slice A1 hs.length c1, .slice A2 os.length c2, .slice A3 ds.length c3, .int .u64 ver] 28)).alloc (.map #[] 0)).alloc (.cells #[.map (some (w.heap.size + 1))] 76)).alloc (.map #[] 0) = w4 at *
  generalize w.alloc (.cells #[.slice A0 rs.length c0, .slice A1 hs.length c1, .slice A2 os.length c2, .slice A3 ds.length c3, .int .u64 ver] 28) = W0 at *
  have HBW : Aside0 (Below W0.heap.size W0 w4) := ⟨by rw [HZW.out]; exact HB4.out⟩
  clear ha0 ha1 ha2 ha3 ha4
  obtain ⟨ha0, ha1, ha2, ha3, ha4⟩ := cells_5 (HXA.out _ HBW.out)
  have HV : Aside0 (rightCV rs hs os ds = ((rightR rs && rlCV hs && decide (os.length + ds.length ≤ 64)) && ((List.range os.length).all (okO hs os) && ((List.range ds.length).all (okD os ds) && (List.range hs.length).all (okH hs os))) && decide (keysV rs os [] ≤ 32))) := ⟨by unfold rightCV; rw [rlCV_eq]⟩
  generalize rightR rs = e1 at *
  generalize rlCV hs = e2 at *
  go_cut [6] from 17 to 34 (fun v6 wx => v6 = .bool (e1 && e2 && decide (os.length + ds.length ≤ 64)) ∧ Aside0 (Below w4.heap.size w4 wx))
  case first =>
    cases e1 with
    | false =>
      go_wp2_with (first
        | (go_at_call 38; refine (H11.out _ (HB0.out.trans (HBW.out.mono HB0.out.size))).mono ?_; rintro e w5 ⟨rfl, hb5⟩; have HB5 := Aside0.mk hb5; clear ha0 ha1 ha2 ha3 ha4; obtain ⟨ha0, ha1, ha2, ha3, ha4⟩ := cells_5 (HXA.out _ (HBW.out.trans (hb5.mono HBW.out.size))); clear hb5))
      go_meet
      exact ⟨rfl, HB5⟩
    | true =>
      cases e2 with
      | false =>
        go_wp2_with (first
          | (go_at_call 38; refine (H11.out _ (HB0.out.trans (HBW.out.mono HB0.out.size))).mono ?_; rintro e w5 ⟨rfl, hb5⟩; have HB5 := Aside0.mk hb5; clear ha0 ha1 ha2 ha3 ha4; obtain ⟨ha0, ha1, ha2, ha3, ha4⟩ := cells_5 (HXA.out _ (HBW.out.trans (hb5.mono HBW.out.size))); clear hb5)
          | (go_at_call 39; refine (H12.out _ (HB0.out.trans ((HBW.out.trans (HB5.out.mono HBW.out.size)).mono HB0.out.size))).mono ?_; rintro e w6 ⟨rfl, hb6'⟩; have hb6 := HB5.out.trans (hb6'.mono HB5.out.size); have HB6 := Aside0.mk hb6; clear ha0 ha1 ha2 ha3 ha4; obtain ⟨ha0, ha1, ha2, ha3, ha4⟩ := cells_5 (HXA.out _ (HBW.out.trans (hb6.mono HBW.out.size))); clear hb6 hb6'))
        go_meet
        exact ⟨rfl, HB6⟩
      | true =>
        have HS : Aside0 (decide ((os.length : Int) + (ds.length : Int) ≤ 64) = (true && true && decide (os.length + ds.length ≤ 64))) := ⟨by simp; omega⟩
        go_wp2_with (first
          | (go_at_call 38; refine (H11.out _ (HB0.out.trans (HBW.out.mono HB0.out.size))).mono ?_; rintro e w5 ⟨rfl, hb5⟩; have HB5 := Aside0.mk hb5; clear ha0 ha1 ha2 ha3 ha4; obtain ⟨ha0, ha1, ha2, ha3, ha4⟩ := cells_5 (HXA.out _ (HBW.out.trans (hb5.mono HBW.out.size))); clear hb5)
          | (go_at_call 39; refine (H12.out _ (HB0.out.trans ((HBW.out.trans (HB5.out.mono HBW.out.size)).mono HB0.out.size))).mono ?_; rintro e w6 ⟨rfl, hb6'⟩; have hb6 := HB5.out.trans (hb6'.mono HB5.out.size); have HB6 := Aside0.mk hb6; clear ha0 ha1 ha2 ha3 ha4; obtain ⟨ha0, ha1, ha2, ha3, ha4⟩ := cells_5 (HXA.out _ (HBW.out.trans (hb6.mono HBW.out.size))); clear hb6 hb6'))
        go_meet
        exact ⟨congrArg Value.bool (by rw [← HS.out]; first | done | rfl | simp), HB6⟩
  case rest =>
    obtain ⟨rfl, HBc⟩ := hcut
    clear ha0 ha1 ha2 ha3 ha4
    generalize (e1 && e2 && decide (os.length + ds.length ≤ 64)) = ok0 at *
    have HBd := Aside0.mk (HBW.out.trans (HBc.out.mono HBW.out.size))
    have HC5 := Aside0.mk (stay HBc.out HC4.out (Array.getElem?_eq_some_iff.1 HC4.out).1)
    have HM5 := Aside0.mk (HM1.out.kept HBc.out)
    have HF5 := Aside0.mk (HM3.out.kept HBc.out)
    obtain ⟨ha0, ha1, ha2, ha3, ha4⟩ := cells_5 (HXA.out _ HBd.out)
    go_wp2
    clear ha0 ha1 ha2 ha3 ha4
    go_loopg [6, 38] os.length (fun gg s6 s38 wv => ∃ (kk : Nat) (ok : Bool), kk ≤ os.length ∧ os.length - kk ≤ gg ∧ s6 = .bool ok ∧ s38 = .int .i64 kk ∧ Aside0 (Below W0.heap.size W0 wv) ∧ Aside0 (wv.heap[(w.heap.size + 1 + 1)]? = some (.cells #[.map (some (w.heap.size + 1))] 76 (0, 0))) ∧ Aside0 (BoolMap txLit 30 wv (w.heap.size + 1 + 1 + 1) kk (freeF (os.take kk))) ∧ Aside0 (ok = true → BoolMap txLit 30 wv (w.heap.size + 1) kk (setOfTx ((os.take kk).map (fun x => x.f0)))) ∧ Aside0 (ok = (ok0 && (List.range kk).all (okO hs os))))
    case atStart => exact ⟨0, ok0, Nat.zero_le _, by omega, rfl, rfl, HBd, HC5, HF5, ⟨fun _ => HM5.out⟩, ⟨by simp⟩⟩
    case round =>
      obtain ⟨kk, ok, hkk, hgk, rfl, rfl, HB, HC, HF, HM, HOK⟩ := hrel
      have HW := Aside0.mk (HB0.out.trans (HB.out.mono HB0.out.size))
      by_cases hlt : kk < os.length
      · have hltz : (kk : Int) < (os.length : Int) := by omega
        have hkz : (0 : Int) ≤ (kk : Int) := by omega
        obtain ⟨ob, oo, rfl, P, pc, hpc, hpr, hq0, hq1, hq2, hq3, hq4⟩ := openRow HA2.out kk hlt
        have ho0 := (HW.out.cell (World.block_lt_of_cell? _ _ hq0)).trans hq0
        have ho1 := (HW.out.cell (World.block_lt_of_cell? _ _ hq1)).trans hq1
        have ho2 := (HW.out.cell (World.block_lt_of_cell? _ _ hq2)).trans hq2
        have ho3 := (HW.out.cell (World.block_lt_of_cell? _ _ hq3)).trans hq3
        have ho4 := (HW.out.cell (World.block_lt_of_cell? _ _ hq4)).trans hq4
        clear hq0 hq1 hq2 hq3 hq4
        have HTX := Aside0.mk (HOT.out _ (bangMem os kk hlt))
        have HK := Aside0.mk (txKey HTX.out)
        have HOO : Aside0 (okO hs os kk = (!(os.take kk).any (fun x => sameTx x.f0 (os[kk]!).f0) && (!((os[kk]!).f1 && (os[kk]!).f2) && (((os[kk]!).f1 || decide ((os[kk]!).f3.length = 0)) && (decide (fitsV (os[kk]!).f3 = 0) && !(os[kk]!).f3.any (fun p => !hasV hs (os[kk]!).f0 p.f0 true)))))) := ⟨rfl⟩
        have HSV := Aside0.mk (setOf_any (l := os.take kk) (t := (os[kk]!).f0) (fun x hx => HOT.out x (List.mem_of_mem_take hx)) HTX.out)
        have HTK := Aside0.mk (take_map_snoc (fun x : S48 => x.f0) os kk hlt)
        have HTL := Aside0.mk (take_snoc os kk hlt)
        have HRS := Aside0.mk (range_snoc (n := kk) (p := okO hs os))
        have HFT := Aside0.mk (fun (W : World) (h : Below w.heap.size w W) => rows_Fits.calls P pc (os[kk]!).f3 (fitsV (os[kk]!).f3) W (Kd.C_below hpr h) hpc rfl)
        have HCO := Aside0.mk (fun (W : World) (h : Below W0.heap.size W0 W) (bx : Nat) x0 x1 => contLacks w.heap.size bx A1 c1 hs (os[kk]!).f0 P pc (os[kk]!).f3 W (cells_5 (HXA.out _ h)).2.1 (Kd.C_below HA1.out (HB0.out.trans (h.mono HB0.out.size))) HC1.out x0 x1 (Kd.C_below hpr (HB0.out.trans (h.mono HB0.out.size))) hpc)
        have HON := Aside0.mk (fun (bh b1 n : Nat) (S : UInt64 × UInt64 → Bool) (W : World) => rightOnce bh b1 n S (os[kk]!).f0 W HTX.out)
        have HLIM : Aside0 (kk < maxLen) := ⟨by have := HOL.out; unfold maxLen; omega⟩
        have hpl : (os[kk]!).f3.length ≤ 9223372036854775807 := hpr.2.1
        clear hpr hpc
        have HWA := Aside0.mk (heap_alloc_new wr (.cells #[.int .u64 (os[kk]!).f0.f0, .int .u64 (os[kk]!).f0.f1, .bool (os[kk]!).f1, .bool (os[kk]!).f2, .slice P (os[kk]!).f3.length pc] 48))
        have HWB := Aside0.mk ((Below.refl wr.heap.size wr).alloc (Nat.le_refl _) (.cells #[.int .u64 (os[kk]!).f0.f0, .int .u64 (os[kk]!).f0.f1, .bool (os[kk]!).f1, .bool (os[kk]!).f2, .slice P (os[kk]!).f3.length pc] 48))
        generalize okO hs os kk = okv at *
        generalize (os.take kk).any (fun x => sameTx x.f0 (os[kk]!).f0) = dup at *
        generalize (os[kk]!).f3.any (fun p => !hasV hs (os[kk]!).f0 p.f0 true) = lk at *
        generalize fitsV (os[kk]!).f3 = fv at *
        generalize os[kk]! = x at *
        generalize hS : setOfTx ((os.take kk).map (fun x => x.f0)) = S at *
        have HS := Aside0.mk hS
        clear hS
        generalize htw : txw x.f0 = tw at *
        have HTW := Aside0.mk htw
        clear htw
        obtain ⟨⟨ya, yi⟩, xf, xw, xp⟩ := x
        dsimp only at *
        go_upto_region 9 with (fail)
        clear ho0 ho1 ho2 ho3 ho4
        generalize wr.alloc (.cells #[.int .u64 ya, .int .u64 yi, .bool xf, .bool xw, .slice P xp.length pc] 48) = w8 at *
        have HBV8 := Aside0.mk (HB.out.trans (HWB.out.mono HB.out.size))
        have HC8 := Aside0.mk (stay HWB.out HC.out (Array.getElem?_eq_some_iff.1 HC.out).1)
        have HF8 := Aside0.mk (HF.out.kept HWB.out)
        have HZ3 := Aside0.mk (HF.out.lt)
        have HM8 : Aside0 (ok = true → BoolMap txLit 30 w8 (w.heap.size + 1) kk S) := ⟨fun h => (HM.out h).kept HWB.out⟩
        generalize wr.heap.size = bx at *
        obtain ⟨hx0, hx1, hx2, hx3, hx4⟩ := cells_5 HWA.out
        clear HB HC HF HM HWB
        go_cut [6] from 43 to 81 (fun v6 wx => v6 = .bool (ok && okv) ∧ Aside0 (Below W0.heap.size W0 wx) ∧ Aside0 (wx.heap[bx]? = some (.cells #[.int .u64 ya, .int .u64 yi, .bool xf, .bool xw, .slice P xp.length pc] 48 (0, 0))) ∧ Aside0 (wx.heap[(w.heap.size + 1 + 1)]? = some (.cells #[.map (some (w.heap.size + 1))] 76 (0, 0))) ∧ Aside0 (BoolMap txLit 30 wx (w.heap.size + 1 + 1 + 1) kk (freeF (os.take kk))) ∧ Aside0 ((ok && okv) = true → BoolMap txLit 30 wx (w.heap.size + 1) (kk + 1) (fun z => if z = tw then true else S z)))
        case first =>
          cases ok with
          | false =>
            go_wp2
            go_meet
            exact ⟨rfl, HBV8, HWA, HC8, HF8, ⟨fun h => by simp at h⟩⟩
          | true =>
            have HM9a := Aside0.mk (HM8.out rfl)
            have HON2 := Aside0.mk (fun (W : World) => HON.out (w.heap.size + 1 + 1) (w.heap.size + 1) kk S W)
            rw [HSV.out] at HON2
            clear HM8
            cases dup with
            | true =>
              go_wp2_with (first
                | (go_at_call 37; refine (HON2.out _ HC8.out HM9a.out HLIM.out).mono ?_; rintro e w9 ⟨rfl, hM9, hg9⟩; have HM9 := Aside0.mk hM9; have HB9 := Aside0.mk (HBV8.out.grown hg9 HBV8.out.size (fun k e => by cases e; exact Nat.le_of_eq HZW.out)); have HX9 := Aside0.mk ((hg9.block bx (Array.getElem?_eq_some_iff.1 HWA.out).1 (by intro e; have := Option.some.inj e; have := HZ3.out; omega)).trans HWA.out); have HC9 := Aside0.mk ((hg9.block (w.heap.size + 1 + 1) (Array.getElem?_eq_some_iff.1 HC8.out).1 (by intro e; have := Option.some.inj e; omega)).trans HC8.out); have HF9 := Aside0.mk (HF8.out.grown hg9 (by intro e; have := Option.some.inj e; omega)); clear hM9 hg9 hx0 hx1 hx2 hx3 hx4; obtain ⟨hx0, hx1, hx2, hx3, hx4⟩ := cells_5 HX9.out))
              go_meet
              exact ⟨congrArg Value.bool (by rw [HOO.out]; first | done | rfl | simp), HB9, HX9, HC9, HF9, ⟨fun _ => HM9.out⟩⟩
            | false =>
              rw [Bool.not_false, Bool.true_and] at HOO
              cases xf with
              | true =>
                cases xw with
                | true =>
                  go_wp2_with (first
                    | (go_at_call 37; refine (HON2.out _ HC8.out HM9a.out HLIM.out).mono ?_; rintro e w9 ⟨rfl, hM9, hg9⟩; have HM9 := Aside0.mk hM9; have HB9 := Aside0.mk (HBV8.out.grown hg9 HBV8.out.size (fun k e => by cases e; exact Nat.le_of_eq HZW.out)); have HX9 := Aside0.mk ((hg9.block bx (Array.getElem?_eq_some_iff.1 HWA.out).1 (by intro e; have := Option.some.inj e; have := HZ3.out; omega)).trans HWA.out); have HC9 := Aside0.mk ((hg9.block (w.heap.size + 1 + 1) (Array.getElem?_eq_some_iff.1 HC8.out).1 (by intro e; have := Option.some.inj e; omega)).trans HC8.out); have HF9 := Aside0.mk (HF8.out.grown hg9 (by intro e; have := Option.some.inj e; omega)); clear hM9 hg9 hx0 hx1 hx2 hx3 hx4; obtain ⟨hx0, hx1, hx2, hx3, hx4⟩ := cells_5 HX9.out))
                  go_meet
                  exact ⟨congrArg Value.bool (by rw [HOO.out]; first | done | rfl | simp), HB9, HX9, HC9, HF9, ⟨fun _ => HM9.out⟩⟩
                | false =>
                  have HO2 : Aside0 (okv = (decide (fv = 0) && !lk)) := ⟨by rw [HOO.out]; simp⟩
                  clear HOO
                  obtain ⟨HOO⟩ : Aside0 (Aside0 (okv = (decide (fv = 0) && !lk))) := ⟨HO2⟩
                  clear HO2
                  by_cases hfz : fv = 0
                  · rw [hfz] at HFT HOO
                    go_wp2_with (first
                      | (go_at_call 37; refine (HON2.out _ HC8.out HM9a.out HLIM.out).mono ?_; rintro e w9 ⟨rfl, hM9, hg9⟩; have HM9 := Aside0.mk hM9; have HB9 := Aside0.mk (HBV8.out.grown hg9 HBV8.out.size (fun k e => by cases e; exact Nat.le_of_eq HZW.out)); have HX9 := Aside0.mk ((hg9.block bx (Array.getElem?_eq_some_iff.1 HWA.out).1 (by intro e; have := Option.some.inj e; have := HZ3.out; omega)).trans HWA.out); have HC9 := Aside0.mk ((hg9.block (w.heap.size + 1 + 1) (Array.getElem?_eq_some_iff.1 HC8.out).1 (by intro e; have := Option.some.inj e; omega)).trans HC8.out); have HF9 := Aside0.mk (HF8.out.grown hg9 (by intro e; have := Option.some.inj e; omega)); clear hM9 hg9 hx0 hx1 hx2 hx3 hx4; obtain ⟨hx0, hx1, hx2, hx3, hx4⟩ := cells_5 HX9.out)
                      | (go_at_call 42; refine (HFT.out _ (HB0.out.trans (HB9.out.mono HB0.out.size))).mono ?_; rintro e w10 ⟨rfl, hb10⟩; have HV10 := Aside0.mk (show Below w9.heap.size w9 w10 from by first | exact hb10 | exact hb10.below); clear hb10 hx0 hx1 hx2 hx3 hx4; obtain ⟨hx0, hx1, hx2, hx3, hx4⟩ := cells_5 (stay HV10.out HX9.out (Array.getElem?_eq_some_iff.1 HX9.out).1))
                      | (go_at_call 43; refine (HCO.out _ (HB9.out.trans (HV10.out.mono HB9.out.size)) bx hx0 hx1).mono ?_; rintro e w11 ⟨rfl, hb11⟩; have HV11 := Aside0.mk (HV10.out.trans (hb11.mono HV10.out.size)); clear hb11))
                    go_meet
                    exact ⟨congrArg Value.bool (by rw [HOO.out]; first | done | rfl | simp), ⟨HB9.out.trans (HV11.out.mono HB9.out.size)⟩, ⟨stay HV11.out HX9.out (Array.getElem?_eq_some_iff.1 HX9.out).1⟩, ⟨stay HV11.out HC9.out (Array.getElem?_eq_some_iff.1 HC9.out).1⟩, ⟨HF9.out.kept HV11.out⟩, ⟨fun _ => HM9.out.kept HV11.out⟩⟩
                  · have hfb : (fv == 0) = false := beq_eq_false_iff_ne.2 hfz
                    have HFD : Aside0 (decide (fv = 0) = false) := ⟨decide_eq_false hfz⟩
                    rw [HFD.out] at HOO
                    go_wp2_with (first
                      | (go_at_call 37; refine (HON2.out _ HC8.out HM9a.out HLIM.out).mono ?_; rintro e w9 ⟨rfl, hM9, hg9⟩; have HM9 := Aside0.mk hM9; have HB9 := Aside0.mk (HBV8.out.grown hg9 HBV8.out.size (fun k e => by cases e; exact Nat.le_of_eq HZW.out)); have HX9 := Aside0.mk ((hg9.block bx (Array.getElem?_eq_some_iff.1 HWA.out).1 (by intro e; have := Option.some.inj e; have := HZ3.out; omega)).trans HWA.out); have HC9 := Aside0.mk ((hg9.block (w.heap.size + 1 + 1) (Array.getElem?_eq_some_iff.1 HC8.out).1 (by intro e; have := Option.some.inj e; omega)).trans HC8.out); have HF9 := Aside0.mk (HF8.out.grown hg9 (by intro e; have := Option.some.inj e; omega)); clear hM9 hg9 hx0 hx1 hx2 hx3 hx4; obtain ⟨hx0, hx1, hx2, hx3, hx4⟩ := cells_5 HX9.out)
                      | (go_at_call 42; refine (HFT.out _ (HB0.out.trans (HB9.out.mono HB0.out.size))).mono ?_; rintro e w10 ⟨rfl, hb10⟩; have HV10 := Aside0.mk (show Below w9.heap.size w9 w10 from by first | exact hb10 | exact hb10.below); clear hb10 hx0 hx1 hx2 hx3 hx4; obtain ⟨hx0, hx1, hx2, hx3, hx4⟩ := cells_5 (stay HV10.out HX9.out (Array.getElem?_eq_some_iff.1 HX9.out).1)))
                    go_meet
                    exact ⟨congrArg Value.bool (by rw [HOO.out]; first | done | rfl | simp), ⟨HB9.out.trans (HV10.out.mono HB9.out.size)⟩, ⟨stay HV10.out HX9.out (Array.getElem?_eq_some_iff.1 HX9.out).1⟩, ⟨stay HV10.out HC9.out (Array.getElem?_eq_some_iff.1 HC9.out).1⟩, ⟨HF9.out.kept HV10.out⟩, ⟨fun _ => HM9.out.kept HV10.out⟩⟩
              | false =>
                by_cases hpz : xp.length = 0
                · have hpi : ((xp.length : Int) == 0) = true := by rw [beq_iff_eq]; omega
                  have HO2 : Aside0 (okv = (decide (fv = 0) && !lk)) := ⟨by rw [HOO.out]; simp [hpz]⟩
                  clear HOO
                  obtain ⟨HOO⟩ : Aside0 (Aside0 (okv = (decide (fv = 0) && !lk))) := ⟨HO2⟩
                  clear HO2 hpz
                  by_cases hfz : fv = 0
                  · rw [hfz] at HFT HOO
                    go_wp2_with (first
                      | (go_at_call 37; refine (HON2.out _ HC8.out HM9a.out HLIM.out).mono ?_; rintro e w9 ⟨rfl, hM9, hg9⟩; have HM9 := Aside0.mk hM9; have HB9 := Aside0.mk (HBV8.out.grown hg9 HBV8.out.size (fun k e => by cases e; exact Nat.le_of_eq HZW.out)); have HX9 := Aside0.mk ((hg9.block bx (Array.getElem?_eq_some_iff.1 HWA.out).1 (by intro e; have := Option.some.inj e; have := HZ3.out; omega)).trans HWA.out); have HC9 := Aside0.mk ((hg9.block (w.heap.size + 1 + 1) (Array.getElem?_eq_some_iff.1 HC8.out).1 (by intro e; have := Option.some.inj e; omega)).trans HC8.out); have HF9 := Aside0.mk (HF8.out.grown hg9 (by intro e; have := Option.some.inj e; omega)); clear hM9 hg9 hx0 hx1 hx2 hx3 hx4; obtain ⟨hx0, hx1, hx2, hx3, hx4⟩ := cells_5 HX9.out)
                      | (go_at_call 42; refine (HFT.out _ (HB0.out.trans (HB9.out.mono HB0.out.size))).mono ?_; rintro e w10 ⟨rfl, hb10⟩; have HV10 := Aside0.mk (show Below w9.heap.size w9 w10 from by first | exact hb10 | exact hb10.below); clear hb10 hx0 hx1 hx2 hx3 hx4; obtain ⟨hx0, hx1, hx2, hx3, hx4⟩ := cells_5 (stay HV10.out HX9.out (Array.getElem?_eq_some_iff.1 HX9.out).1))
                      | (go_at_call 43; refine (HCO.out _ (HB9.out.trans (HV10.out.mono HB9.out.size)) bx hx0 hx1).mono ?_; rintro e w11 ⟨rfl, hb11⟩; have HV11 := Aside0.mk (HV10.out.trans (hb11.mono HV10.out.size)); clear hb11))
                    go_meet
                    exact ⟨congrArg Value.bool (by rw [HOO.out]; first | done | rfl | simp), ⟨HB9.out.trans (HV11.out.mono HB9.out.size)⟩, ⟨stay HV11.out HX9.out (Array.getElem?_eq_some_iff.1 HX9.out).1⟩, ⟨stay HV11.out HC9.out (Array.getElem?_eq_some_iff.1 HC9.out).1⟩, ⟨HF9.out.kept HV11.out⟩, ⟨fun _ => HM9.out.kept HV11.out⟩⟩
                  · have hfb : (fv == 0) = false := beq_eq_false_iff_ne.2 hfz
                    have HFD : Aside0 (decide (fv = 0) = false) := ⟨decide_eq_false hfz⟩
                    rw [HFD.out] at HOO
                    go_wp2_with (first
                      | (go_at_call 37; refine (HON2.out _ HC8.out HM9a.out HLIM.out).mono ?_; rintro e w9 ⟨rfl, hM9, hg9⟩; have HM9 := Aside0.mk hM9; have HB9 := Aside0.mk (HBV8.out.grown hg9 HBV8.out.size (fun k e => by cases e; exact Nat.le_of_eq HZW.out)); have HX9 := Aside0.mk ((hg9.block bx (Array.getElem?_eq_some_iff.1 HWA.out).1 (by intro e; have := Option.some.inj e; have := HZ3.out; omega)).trans HWA.out); have HC9 := Aside0.mk ((hg9.block (w.heap.size + 1 + 1) (Array.getElem?_eq_some_iff.1 HC8.out).1 (by intro e; have := Option.some.inj e; omega)).trans HC8.out); have HF9 := Aside0.mk (HF8.out.grown hg9 (by intro e; have := Option.some.inj e; omega)); clear hM9 hg9 hx0 hx1 hx2 hx3 hx4; obtain ⟨hx0, hx1, hx2, hx3, hx4⟩ := cells_5 HX9.out)
                      | (go_at_call 42; refine (HFT.out _ (HB0.out.trans (HB9.out.mono HB0.out.size))).mono ?_; rintro e w10 ⟨rfl, hb10⟩; have HV10 := Aside0.mk (show Below w9.heap.size w9 w10 from by first | exact hb10 | exact hb10.below); clear hb10 hx0 hx1 hx2 hx3 hx4; obtain ⟨hx0, hx1, hx2, hx3, hx4⟩ := cells_5 (stay HV10.out HX9.out (Array.getElem?_eq_some_iff.1 HX9.out).1)))
                    go_meet
                    exact ⟨congrArg Value.bool (by rw [HOO.out]; first | done | rfl | simp), ⟨HB9.out.trans (HV10.out.mono HB9.out.size)⟩, ⟨stay HV10.out HX9.out (Array.getElem?_eq_some_iff.1 HX9.out).1⟩, ⟨stay HV10.out HC9.out (Array.getElem?_eq_some_iff.1 HC9.out).1⟩, ⟨HF9.out.kept HV10.out⟩, ⟨fun _ => HM9.out.kept HV10.out⟩⟩
                · have hpi : ((xp.length : Int) == 0) = false := by rw [beq_eq_false_iff_ne]; omega
                  have HO2 : Aside0 (okv = false) := ⟨by rw [HOO.out]; simp [hpz]⟩
                  clear HOO
                  obtain ⟨HOO⟩ : Aside0 (Aside0 (okv = false)) := ⟨HO2⟩
                  clear HO2 hpz
                  go_wp2_with (first
                    | (go_at_call 37; refine (HON2.out _ HC8.out HM9a.out HLIM.out).mono ?_; rintro e w9 ⟨rfl, hM9, hg9⟩; have HM9 := Aside0.mk hM9; have HB9 := Aside0.mk (HBV8.out.grown hg9 HBV8.out.size (fun k e => by cases e; exact Nat.le_of_eq HZW.out)); have HX9 := Aside0.mk ((hg9.block bx (Array.getElem?_eq_some_iff.1 HWA.out).1 (by intro e; have := Option.some.inj e; have := HZ3.out; omega)).trans HWA.out); have HC9 := Aside0.mk ((hg9.block (w.heap.size + 1 + 1) (Array.getElem?_eq_some_iff.1 HC8.out).1 (by intro e; have := Option.some.inj e; omega)).trans HC8.out); have HF9 := Aside0.mk (HF8.out.grown hg9 (by intro e; have := Option.some.inj e; omega)); clear hM9 hg9 hx0 hx1 hx2 hx3 hx4; obtain ⟨hx0, hx1, hx2, hx3, hx4⟩ := cells_5 HX9.out))
                  go_meet
                  exact ⟨congrArg Value.bool (by rw [HOO.out]; first | done | rfl | simp), HB9, HX9, HC9, HF9, ⟨fun _ => HM9.out⟩⟩
        case rest =>
          clear hx0 hx1 hx2 hx3 hx4
          obtain ⟨rfl, HBc, HXc, HCc, HFc, HMc⟩ := hcut
          obtain ⟨hx0, hx1, hx2, hx3, hx4⟩ := cells_5 HXc.out
          go_wp2_with (at_mapUpdate; refine wpList_put_bool _ rfl _ _ _ 76 rfl txKeyed Try.underlying76 txLit_inj txLit_key2 rfl HFc.out HLIM.out _ _ (!xw) rfl rfl HK.out ?_; intro w12 hM12 hg12; have HM12 := Aside0.mk hM12; have HG12 := Aside0.mk hg12; clear hM12 hg12)
          go_roundg (os.length - (kk + 1))
          case measure => omega
          case rel => exact ⟨kk + 1, ok && okv, by omega, by omega, rfl, by go_num, ⟨HBc.out.grown HG12.out HBc.out.size (fun k e => by cases e; have := HZW.out; omega)⟩, ⟨(HG12.out.block (w.heap.size + 1 + 1) (Array.getElem?_eq_some_iff.1 HCc.out).1 (by intro e; have := Option.some.inj e; omega)).trans HCc.out⟩, ⟨by rw [HTL.out, freeF_snoc]; dsimp only; rw [HTW.out]; exact HM12.out⟩, ⟨fun h => by rw [HTK.out, ← setOf_snoc, HS.out, HTW.out]; exact (HMc.out h).grown HG12.out (by intro e; have := Option.some.inj e; omega)⟩, ⟨by rw [HRS.out, HOK.out, Bool.and_assoc]⟩⟩
      · have hltz : ¬ (kk : Int) < (os.length : Int) := by omega
        obtain rfl : kk = os.length := by omega
        rw [List.take_length] at HF HM
        generalize (List.range os.length).all (okO hs os) = vO at *
        obtain ⟨ha0, ha1, ha2, ha3, ha4⟩ := cells_5 (HXA.out _ HB.out)
        go_wp2
        clear ha0 ha1 ha2 ha3 ha4
        go_loopg [6, 92] ds.length (fun gg s6 s92 wv => ∃ (jj : Nat) (ok' : Bool), jj ≤ ds.length ∧ ds.length - jj ≤ gg ∧ s6 = .bool ok' ∧ s92 = .int .i64 jj ∧ Aside0 (Below W0.heap.size W0 wv) ∧ Aside0 (wv.heap[(w.heap.size + 1 + 1)]? = some (.cells #[.map (some (w.heap.size + 1))] 76 (0, 0))) ∧ Aside0 (BoolMap txLit 30 wv (w.heap.size + 1 + 1 + 1) os.length (freeF os)) ∧ Aside0 (ok' = true → BoolMap txLit 30 wv (w.heap.size + 1) (os.length + jj) (setOfTx (os.map (fun x => x.f0) ++ (ds.take jj).map (fun x => x.f0)))) ∧ Aside0 (ok' = (ok && (List.range jj).all (okD os ds))))
        case atStart => exact ⟨0, ok, Nat.zero_le _, by omega, rfl, rfl, HB, HC, HF, ⟨fun h => by rw [List.take_zero, List.map_nil, List.append_nil]; exact HM.out h⟩, ⟨by simp⟩⟩
        case round =>
          clear HB HC HF HM HW
          obtain ⟨jj, ok2, hjj, hgj, rfl, rfl, HB2, HC2, HF2, HM2, HOK2⟩ := hrel
          have HW2 := Aside0.mk (HB0.out.trans (HB2.out.mono HB0.out.size))
          by_cases hlt2 : jj < ds.length
          · have hltz2 : (jj : Int) < (ds.length : Int) := by omega
            have hjz : (0 : Int) ≤ (jj : Int) := by omega
            obtain ⟨ob, oo, rfl, hq0, hq1, hq2⟩ := doneRow HA3.out jj hlt2
            have ho0 := (HW2.out.cell (World.block_lt_of_cell? _ _ hq0)).trans hq0
            have ho1 := (HW2.out.cell (World.block_lt_of_cell? _ _ hq1)).trans hq1
            have ho2 := (HW2.out.cell (World.block_lt_of_cell? _ _ hq2)).trans hq2
            clear hq0 hq1 hq2
            have HTX := Aside0.mk (HDT.out _ (bangMem ds jj hlt2))
            have HRS := Aside0.mk (range_snoc (n := jj) (p := okD os ds))
            have HOO : Aside0 (okD os ds jj = !(os.any (fun x => sameTx x.f0 (ds[jj]!).f0) || (ds.take jj).any (fun x => sameTx x.f0 (ds[jj]!).f0))) := ⟨rfl⟩
            have HSV := Aside0.mk (setOf_any2 (l := os) (d := ds.take jj) (t := (ds[jj]!).f0) HOT.out (fun x hx => HDT.out x (List.mem_of_mem_take hx)) HTX.out)
            rw [← HSV.out] at HOO
            clear HSV
            have HTK := Aside0.mk (take_map_snoc (fun x : S68 => x.f0) ds jj hlt2)
            have HON := Aside0.mk (fun (bh b1 n : Nat) (S : UInt64 × UInt64 → Bool) (W : World) => rightOnce bh b1 n S (ds[jj]!).f0 W HTX.out)
            have HLIM : Aside0 (os.length + jj < maxLen) := ⟨by have := HOL.out; unfold maxLen; omega⟩
            have HWB := Aside0.mk ((Below.refl wr.heap.size wr).alloc (Nat.le_refl _) (.cells #[.int .u64 (ds[jj]!).f0.f0, .int .u64 (ds[jj]!).f0.f1, .bool (ds[jj]!).f1] 68))
            have HSN := Aside0.mk (setOf_snoc (os.map (fun x => x.f0) ++ (ds.take jj).map (fun x => x.f0)) (ds[jj]!).f0)
            generalize okD os ds jj = okv at *
            generalize ds[jj]! = x at *
            obtain ⟨⟨ya, yi⟩, yc⟩ := x
            dsimp only at *
            have HBV8 := Aside0.mk (HB2.out.trans (HWB.out.mono HB2.out.size))
            have HC8 := Aside0.mk (stay HWB.out HC2.out (Array.getElem?_eq_some_iff.1 HC2.out).1)
            have HF8 := Aside0.mk (HF2.out.kept HWB.out)
            cases ok2 with
            | false =>
              go_wp2
              go_roundg (ds.length - (jj + 1))
              case measure => omega
              case rel => exact ⟨jj + 1, false, by omega, by omega, rfl, by go_num, HBV8, HC8, HF8, ⟨fun h => by cases h⟩, ⟨by rw [HRS.out, ← Bool.and_assoc, ← HOK2.out]; first | done | rfl⟩⟩
            | true =>
              have HM9a := Aside0.mk ((HM2.out rfl).kept HWB.out)
              have HON2 := Aside0.mk (fun (W : World) => HON.out (w.heap.size + 1 + 1) (w.heap.size + 1) (os.length + jj) (setOfTx (os.map (fun x => x.f0) ++ (ds.take jj).map (fun x => x.f0))) W)
              rw [← HOO.out, HSN.out] at HON2
              clear HON
              go_wp2_with (go_at_call 37; refine (HON2.out _ HC8.out HM9a.out HLIM.out).mono ?_; rintro e w9 ⟨rfl, hM9, hg9⟩; have HM9 := Aside0.mk hM9; have HB9 := Aside0.mk (HBV8.out.grown hg9 HBV8.out.size (fun k e => by cases e; exact Nat.le_of_eq HZW.out)); have HC9 := Aside0.mk ((hg9.block (w.heap.size + 1 + 1) (Array.getElem?_eq_some_iff.1 HC8.out).1 (by intro e; have := Option.some.inj e; omega)).trans HC8.out); have HF9 := Aside0.mk (HF8.out.grown hg9 (by intro e; have := Option.some.inj e; omega)); clear hM9 hg9)
              go_roundg (ds.length - (jj + 1))
              case measure => omega
              case rel => exact ⟨jj + 1, okv, by omega, by omega, rfl, by go_num, HB9, HC9, HF9, ⟨fun h => by rw [HTK.out, ← List.append_assoc]; exact HM9.out⟩, ⟨by rw [HRS.out, ← Bool.and_assoc, ← HOK2.out]; first | done | rfl⟩⟩
          · have hltz2 : ¬ (jj : Int) < (ds.length : Int) := by omega
            obtain rfl : jj = ds.length := by omega
            generalize (List.range ds.length).all (okD os ds) = vD at *
            obtain ⟨ha0, ha1, ha2, ha3, ha4⟩ := cells_5 (HXA.out _ HB2.out)
            go_wp2
            clear ha0 ha1 ha2 ha3 ha4
            go_loopg [6, 107] hs.length (fun gg s6 s107 wv => ∃ (ii : Nat) (ok : Bool), ii ≤ hs.length ∧ hs.length - ii ≤ gg ∧ s6 = .bool ok ∧ s107 = .int .i64 ii ∧ Aside0 (Below W0.heap.size W0 wv) ∧ Aside0 (BoolMap txLit 30 wv (w.heap.size + 1 + 1 + 1) os.length (freeF os)) ∧ Aside0 (ok = (ok2 && (List.range ii).all (okH hs os))))
            case atStart => exact ⟨0, ok2, Nat.zero_le _, by omega, rfl, rfl, HB2, HF2, ⟨by simp⟩⟩
            case round =>
              obtain ⟨ii, ok3, hii, hgi, rfl, rfl, HB3, HF3, HOK3⟩ := hrel
              have HW3 := Aside0.mk (HB0.out.trans (HB3.out.mono HB0.out.size))
              by_cases hlt3 : ii < hs.length
              · have hltz3 : (ii : Int) < (hs.length : Int) := by omega
                have hiz : (0 : Int) ≤ (ii : Int) := by omega
                obtain ⟨lb, lo, rfl, hq0, hq1, hq2, hq3⟩ := holdCells HA1.out ii hlt3
                have ho0 := (HW3.out.cell (World.block_lt_of_cell? _ _ hq0)).trans hq0
                have ho1 := (HW3.out.cell (World.block_lt_of_cell? _ _ hq1)).trans hq1
                have ho2 := (HW3.out.cell (World.block_lt_of_cell? _ _ hq2)).trans hq2
                have ho3 := (HW3.out.cell (World.block_lt_of_cell? _ _ hq3)).trans hq3
                clear hq0 hq1 hq2 hq3
                have HTX := Aside0.mk (HHT.out _ (bangMem hs ii hlt3)).1
                have HK := Aside0.mk (txKey HTX.out)
                have HRS := Aside0.mk (range_snoc (n := ii) (p := okH hs os))
                have HOO : Aside0 (okH hs os ii = freeF os (txw (hs[ii]!).f1)) := ⟨(freeF_at HOT.out HTX.out).symm⟩
                have HWB := Aside0.mk ((Below.refl wr.heap.size wr).alloc (Nat.le_refl _) (.cells #[.string (hs[ii]!).f0, .int .u64 (hs[ii]!).f1.f0, .int .u64 (hs[ii]!).f1.f1, .bool (hs[ii]!).f2] 75))
                generalize okH hs os ii = okv at *
                generalize hs[ii]! = x at *
                obtain ⟨xk, ⟨xa, xi⟩, xw⟩ := x
                dsimp only at *
                have HBV8 := Aside0.mk (HB3.out.trans (HWB.out.mono HB3.out.size))
                have HF8 := Aside0.mk (HF3.out.kept HWB.out)
                have hlk := HF8.out.lookup txKeyed Try.underlying76 HK.out
                rw [← HOO.out] at hlk
                cases ok3 with
                | false =>
                  go_wp2
                  go_roundg (hs.length - (ii + 1))
                  case measure => omega
                  case rel => exact ⟨ii + 1, false, by omega, by omega, rfl, by go_num, HBV8, HF8, ⟨by rw [HRS.out, ← Bool.and_assoc, ← HOK3.out]; first | done | rfl⟩⟩
                | true =>
                  go_wp2
                  go_roundg (hs.length - (ii + 1))
                  case measure => omega
                  case rel => exact ⟨ii + 1, okv, by omega, by omega, rfl, by go_num, HBV8, HF8, ⟨by rw [HRS.out, ← Bool.and_assoc, ← HOK3.out]; first | done | rfl⟩⟩
              · have hltz3 : ¬ (ii : Int) < (hs.length : Int) := by omega
                obtain rfl : ii = hs.length := by omega
                generalize (List.range hs.length).all (okH hs os) = vH at *
                have HRR : Aside0 (rightCV rs hs os ds = (ok3 && decide (keysV rs os [] ≤ 32))) := ⟨by rw [HV.out, rightEnd, ← HOK.out, ← HOK2.out, ← HOK3.out]⟩
                clear HV HOK HOK2 HOK3
                generalize keysV rs os [] = kv at *
                obtain ⟨ha0, ha1, ha2, ha3, ha4⟩ := cells_5 (HXA.out _ HB3.out)
                cases ok3 with
                | false =>
                  go_wp2
                  go_ret
                  exact ⟨by rw [HRR.out]; first | done | rfl, HW3.out⟩
                | true =>
                  have HS2 : Aside0 (decide ((kv : Int) ≤ 32) = decide (kv ≤ 32)) := ⟨by simp; omega⟩
                  go_wp2_with (go_at_call 44; refine (HKY.out _ HW3.out).mono ?_; rintro e w14 ⟨rfl, hb14⟩; have HB14 := Aside0.mk hb14; clear hb14)
                  go_ret
                  exact ⟨by rw [HRR.out, Bool.true_and, ← HS2.out]; first | done | rfl, HW3.out.trans (HB14.out.mono HW3.out.size)⟩
end Go.Proofs.Ytmcgcdpiceikeaa.PAll
end
