/- A transaction that is prepared stays so, whatever others order, and can be committed then: its puts are there. No condition beside the form's own. -/
import Derived.BigQuiet
import Derived.BigRegion
import Derived.Deep.CutRange
import Derived.Deep.DeepCutAuto
import Derived.Deep.QuietTactic
import Derived.Deep.RegionWith
import Derived.Test.YtmcgcdpiceikeaaJShardFirm12
import Derived.Test.YtmcgcdpiceikeaaJShardFirm17
import Derived.Test.YtmcgcdpiceikeaaJShardFirm21
import Derived.Test.YtmcgcdpiceikeaaJShardFirm22
import Derived.Test.YtmcgcdpiceikeaaJShardFirm28
import Derived.Test.YtmcgcdpiceikeaaJShardFirm31
import Derived.Test.YtmcgcdpiceikeaaJShardFirm49
import Derived.Test.YtmcgcdpiceikeaaJShardFirm50
import Derived.Test.YtmcgcdpiceikeaaJShardFirm51
import Derived.Below
import Derived.ChangeOld
import Derived.OpenShut
import Derived.ProofKit
import Derived.ShutString
import Derived.SizedLaws
import Derived.Test.YtmcgcdpiceikeaaRows
import Derived.WalkKit
section
/- The law ShardFirm, walked. -/
namespace Go.Proofs.Ytmcgcdpiceikeaa.PAll
open Go.RowKit Go.Proofs.YtmcgcdpiceikeaaW.PrintWords Go.Proofs.YtmcgcdpiceikeaaW.PrintMore Go.Proofs.Ytmcgcdpiceikeaa
set_option linter.unusedVariables false
theorem idx_uniq {α β : Type} [Inhabited α] {f : α → β} {l : List α} (h : (l.map f).Nodup) {i j : Nat} (hi : i < l.length) (hj : j < l.length) (e : f (l[i]!) = f (l[j]!)) : i = j := by
  unfold List.Nodup at h
  rw [List.pairwise_map, List.pairwise_iff_getElem] at h
  rw [getElem!_pos l i hi, getElem!_pos l j hj] at e
  rcases Nat.lt_trichotomy i j with c | c | c
  · exact absurd e (h i j hi hj c)
  · exact c
  · exact absurd e.symm (h j i hj hi c)
/-- One of two values, as i has been met before jx or not. -/
def selV (i jx : Nat) (A B : Value) : Value := if i < jx then A else B
theorem selV_step {i jx : Nat} (h : ¬ jx = i) (A B : Value) : selV i jx A B = selV i (jx + 1) A B := by
  unfold selV
  by_cases c : i < jx
  · rw [if_pos c, if_pos (by omega)]
  · rw [if_neg c, if_neg (by omega)]
theorem selV_hit {i jx : Nat} (h : i < jx) (A B : Value) : selV i jx A B = A := if_pos h
theorem selV_zero (i : Nat) (A B : Value) : selV i 0 A B = B := if_neg (by omega)
theorem get11f_calls (A : Option Addr) (c : Nat) (l : List S50) (k : ByteArray) (g1 g2 : ByteArray) (g3 : Int) (g4 : Bool) (w : World) (hr : Kd.C k50 w A l.length l) (hc : l.length ≤ c) (hl : l.length < 9223372036854775806) (hg : getV l k = (g1, g2, g3, g4)) : Calls Try.prog 16 #[.slice A l.length c, .string k] w fun e w' => e = .returned (.tuple #[.agg #[.string g1, .string g2, .int .u64 g3], .bool g4]) ∧ Below w.heap.size w w' := by
  obtain ⟨n, hn⟩ := (rGet_ev l k hl).rounds
  rw [hg] at hn
  exact ferruleref11_Get.calls n A c l k g1 g2 g3 g4 w hr hc hn
set_option maxHeartbeats 8000000 in
set_option maxRecDepth 100000 in
theorem ShardFirm_walk {w : World} (A : Option Addr) (c : Nat) (l : List S34) (hr : Kd.C k34 w A l.length l) (hc : l.length ≤ c) (hs : l.length * Try.prog.bytesOf 34 ≤ 140737488351232 ∧ ∀ x ∈ l, ok34 x) (cs : Array Value) (x0 : S30) (hx : k30.K w x0 cs.toList) (hsx : ok30 x0) (M : Option Addr) (d : Nat) (more : List S34) (hrm : Kd.C k34 w M more.length more) (hd : more.length ≤ d) (hsm : more.length * Try.prog.bytesOf 34 ≤ 140737488351232 ∧ ∀ x ∈ more, ok34 x) :
    Calls Try.prog 5 #[.slice A l.length c, .agg cs, .slice M more.length d] w fun e w' => e = .returned (.bool true) ∧ Below w.heap.size w w' := by
  obtain rfl := txCellsA hx
  have HOK := Aside0.mk (okTx_orders hs.2)
  have HOM := Aside0.mk (okTx_orders hsm.2)
  have HT := Aside0.mk (okTx_of hsx)
  have HR := Aside0.mk hr
  have HM := Aside0.mk hrm
  have hll : l.length ≤ 9223372036854775807 := hr.2.1
  have hlm : more.length ≤ 9223372036854775807 := hrm.2.1
  obtain ⟨ta, ti⟩ := x0
  clear hx hsx hs hr hrm hsm
  have HT0 := Aside0.mk (heap_alloc_new w (.cells #[.int .u64 ta, .int .u64 ti] 30))
  have HB0 := Aside0.mk ((Below.refl w.heap.size w).alloc (Nat.le_refl _) (.cells #[.int .u64 ta, .int .u64 ti] 30))
  have HS0 : Aside0 (w.heap.size < (w.alloc (.cells #[.int .u64 ta, .int .u64 ti] 30)).heap.size) := ⟨by simp⟩
  go_enter Try.func5, Try.ntmps5
  go_wp2_with (go_at_call 10; refine (shown13 _).mono ?_; rintro e w1 ⟨rfl, hb1⟩; have HBB1 := Aside0.mk hb1; clear hb1)
  have HT1 := Aside0.mk (stayA (stay HBB1.out HT0.out HS0.out) (.cells #[.slice none 0 0, .slice none 0 0, .slice none 0 0, .slice none 0 0, .int .u64 0] 28))
  have HB1 := Aside0.mk (HB0.out.trans (HBB1.out.mono HB0.out.size))
  have HB2 := Aside0.mk (HB1.out.alloc HB1.out.size (.cells #[.slice none 0 0, .slice none 0 0, .slice none 0 0, .slice none 0 0, .int .u64 0] 28))
  have hq : w.heap.size < w1.heap.size := Nat.lt_of_lt_of_le HS0.out HBB1.out.size
  have HX1 := Aside0.mk (emptyAt w1)
  generalize w1.alloc (.cells #[.slice none 0 0, .slice none 0 0, .slice none 0 0, .slice none 0 0, .int .u64 0] 28) = w2 at *
  generalize w1.heap.size = q at *
  clear HT0 HB0 HS0 HBB1 HB1
  go_loopg [9] l.length (fun gg s9 wr => ∃ jj : Nat, jj ≤ l.length ∧ l.length - jj ≤ gg ∧ s9 = .int .i64 jj ∧ Aside0 (Below w.heap.size w wr) ∧ Aside0 (∃ s, InvS s ∧ ShdAt wr q s) ∧ Aside0 (wr.heap[w.heap.size]? = some (.cells #[.int .u64 ta, .int .u64 ti] 30 (0, 0))))
  case atStart => exact ⟨0, Nat.zero_le _, by omega, rfl, HB2, ⟨_, InvS.empty, HX1.out⟩, HT1⟩
  case round =>
    obtain ⟨jj, hjj, hgk, rfl, HBr, HSr, HTr⟩ := hrel
    obtain ⟨S, hI, hXr⟩ := HSr.out
    have HI := Aside0.mk hI
    have HXr := Aside0.mk hXr
    clear hI hXr HSr
    by_cases hlt : jj < l.length
    · have hltz : (jj : Int) < (l.length : Int) := by omega
      have hjz : (0 : Int) ≤ (jj : Int) := by omega
      obtain ⟨b, o, rfl, B, cB, D, nD, dD, hpl, hpr, ho0, ho1, ho2, ho3, ho4, ho5, ho6⟩ := orderRow (Kd.C_below HR.out HBr.out) jj hlt
      obtain ⟨A0, m0, c0, A1, m1, c1, A2, m2, c2, A3, m3, c3, hX, hDO⟩ := do_at HXr.out
      obtain ⟨hs0, hs1, hs2, hs3, hs4⟩ := cells_5 hX
      have HC := Aside0.mk (hDO (l[jj]!).f0 (l[jj]!).f1 (l[jj]!).f2 B _ cB (l[jj]!).f4 D nD dD (l[jj]!).f3 wr.drew rfl (Kd.C_below hpr (Below.refl _ _).drew) hpl HI.out.ok (Below.refl _ _).drew)
      have HIN := Aside0.mk (HI.out.doS (l[jj]!).f0 (HOK.out _ (bang_mem hlt)) (l[jj]!).f2 (l[jj]!).f3 (l[jj]!).f4).1
      have HX := Aside0.mk hX
      have HXL := Aside0.mk HXr.out.lt
      clear hX hDO hpl hpr
      generalize l[jj]! = od at *
      obtain ⟨od0, ⟨od1, od2⟩, od3, odp, od5, odq⟩ := od
      dsimp only at *
      generalize doS S od0 ⟨od1, od2⟩ od3 odp od5 = R at *
      generalize odp.length = np at *
      go_wp2
      go_region_with (go_at_call 11; refine (HC.out).mono ?_; intro e w5 hp; obtain ⟨E0, n0, d0, E1, n1, d1, E2, n2, d2, E3, n3, d3, rfl, hv5, hb5⟩ := doOut hp; clear hp ho0 ho1 ho2 ho3 ho4 ho5 ho6 hs0 hs1 hs2 hs3 hs4; have XB5 := stay hb5 (show (World.drew wr).heap[q]? = _ from HX.out) (by rw [drewHeap]; exact HXL.out); obtain ⟨hz0, hz1, hz2, hz3, hz4⟩ := cells_5 XB5; obtain ⟨hy0, hy1, hy2, hy3, hy4⟩ := froz_5 XB5)
      · go_wp2
        go_roundg (l.length - (jj + 1))
        case measure => omega
        case rel => exact ⟨jj + 1, by omega, by omega, by go_num, ⟨put5_below (HBr.out.drew.trans (hb5.mono HBr.out.drew.size)) (by omega) _ _ _ _ _⟩, ⟨_, HIN.out, ShdAt.put XB5 hv5⟩, ⟨put5_other (b := w.heap.size) (g := q) (by omega) (stay hb5 (show (World.drew wr).heap[w.heap.size]? = _ from HTr.out) (by rw [drewHeap]; have := HXL.out; omega)) _ _ _ _ _⟩⟩
      · go_wp2
        go_roundg (l.length - (jj + 1))
        case measure => omega
        case rel => exact ⟨jj + 1, by omega, by omega, by go_num, ⟨put5_below (HBr.out.drew.trans (hb5.mono HBr.out.drew.size)) (by omega) _ _ _ _ _⟩, ⟨_, HIN.out, ShdAt.put XB5 hv5⟩, ⟨put5_other (b := w.heap.size) (g := q) (by omega) (stay hb5 (show (World.drew wr).heap[w.heap.size]? = _ from HTr.out) (by rw [drewHeap]; have := HXL.out; omega)) _ _ _ _ _⟩⟩
    · have hltz : ¬ (jj : Int) < (l.length : Int) := by omega
      obtain rfl : jj = l.length := by omega
      obtain ⟨A0, m0, c0, A1, m1, c1, A2, m2, c2, A3, m3, c3, hX, hFI⟩ := firm15_at HXr.out ⟨ta, ti⟩
      obtain ⟨hs0, hs1, hs2, hs3, hs4⟩ := cells_5 hX
      have ht0 := cell_row (cs := [.int .u64 ta, .int .u64 ti]) HTr.out 0
      have ht1 := cell_row (cs := [.int .u64 ta, .int .u64 ti]) HTr.out 1
      have HFI := Aside0.mk hFI
      clear hX hFI HX1 HT1 HB2 HR HOK hc
      cases hfv : firmT S.opens ⟨ta, ti⟩ with
      | false =>
        rw [hfv] at HFI
        go_wp2_with (go_at_call 15; refine (HFI.out).mono ?_; rintro e w7 ⟨rfl, hb7⟩; have HBB7 := Aside0.mk hb7; clear hb7)
        go_ret
        exact ⟨rfl, HBr.out.trans (HBB7.out.mono HBr.out.size)⟩
      | true =>
        rw [hfv] at HFI
        obtain ⟨x, hxm, hx0, hx1⟩ := (firmT_iff HI.out ⟨ta, ti⟩).1 hfv
        have HXM := Aside0.mk hxm
        have HX0 := Aside0.mk hx0
        have HXF := Aside0.mk hx1
        clear hfv hxm hx0 hx1
        go_wp2_with (go_at_call 15; refine (HFI.out).mono ?_; rintro e w7 ⟨rfl, hb7⟩; have HBB7 := Aside0.mk hb7; clear hb7 hs0 hs1 hs2 hs3 hs4 ht0 ht1)
        have HB7 := Aside0.mk (HBr.out.trans (HBB7.out.mono HBr.out.size))
        have XS7 := Aside0.mk (HXr.out.below HBB7.out)
        have HT7 := Aside0.mk (stay HBB7.out HTr.out (Array.getElem?_eq_some_iff.1 HTr.out).1)
        clear HFI HBr HXr HTr HBB7 hltz hjj hgk hlt
        go_loopg [11] more.length (fun gg s11 wv => ∃ kk : Nat, kk ≤ more.length ∧ more.length - kk ≤ gg ∧ s11 = .int .i64 kk ∧ Aside0 (Below w.heap.size w wv) ∧ Aside0 (∃ s, InvS s ∧ x ∈ s.opens ∧ ShdAt wv q s) ∧ Aside0 (wv.heap[w.heap.size]? = some (.cells #[.int .u64 ta, .int .u64 ti] 30 (0, 0))))
        case atStart => exact ⟨0, Nat.zero_le _, by omega, rfl, HB7, ⟨_, HI.out, HXM.out, XS7.out⟩, HT7⟩
        case round =>
          clear HB7 XS7 HT7 HI HXM
          obtain ⟨kk, hkk, hgk, rfl, HBr, HSr, HTr⟩ := hrel
          obtain ⟨s', hI, hxm, hXr⟩ := HSr.out
          have HI' := Aside0.mk hI
          have HXr := Aside0.mk hXr
          have HXM := Aside0.mk hxm
          clear hI hXr hxm HSr
          by_cases hlt : kk < more.length
          · have hltz : (kk : Int) < (more.length : Int) := by omega
            have hkz : (0 : Int) ≤ (kk : Int) := by omega
            obtain ⟨b, o, rfl, B, cB, D, nD, dD, hpl, hpr, ho0, ho1, ho2, ho3, ho4, ho5, ho6⟩ := orderRow (Kd.C_below HM.out HBr.out) kk hlt
            have ht0 := cell_row (cs := [.int .u64 ta, .int .u64 ti]) HTr.out 0
            have ht1 := cell_row (cs := [.int .u64 ta, .int .u64 ti]) HTr.out 1
            have HPL := Aside0.mk hpl
            have HPR := Aside0.mk hpr
            have HOD := Aside0.mk (HOM.out _ (bang_mem hlt))
            clear hpl hpr
            generalize more[kk]! = od at *
            obtain ⟨od0, ⟨od1, od2⟩, od3, odp, od5, odq⟩ := od
            dsimp only at *
            go_upto_region 13 with (fail)
            go_cut [63] from 49 to 63 (fun v63 wx => v63 = .bool (decide (od1 = ta ∧ od2 = ti ∧ od0 = 4)) ∧ ∃ n, wx = wr.drewN n)
            case first =>
              by_cases e1 : od1 = ta
              · by_cases e2 : od2 = ti
                · by_cases e4 : od0 = 4
                  · subst e1 e2 e4
                    go_quiet (fail)
                    go_wp2
                    go_meet
                    exact ⟨by simp, _, rfl⟩
                  · subst e1 e2
                    go_quiet (fail)
                    go_wp2
                    go_meet
                    exact ⟨congrArg Value.bool (by have h1 : (od0 == 4) = false := beq_eq_false_iff_ne.2 e4; simp [h1, e4]), _, rfl⟩
                · subst e1
                  go_quiet (fail)
                  go_wp2
                  go_meet
                  exact ⟨congrArg Value.bool (decide_eq_false (fun h => e2 h.2.1)).symm, _, rfl⟩
              · go_quiet (fail)
                go_wp2
                go_meet
                exact ⟨congrArg Value.bool (decide_eq_false (fun h => e1 h.1)).symm, _, rfl⟩
            case rest =>
              obtain ⟨rfl, nq, rfl⟩ := hcut
              have hbq := pw_below_drewN (Below.refl wr.heap.size wr) nq
              have HBv := Aside0.mk (pw_below_drewN HBr.out nq)
              have HXv := Aside0.mk (HXr.out.below hbq)
              have HTv := Aside0.mk (stay hbq HTr.out (Array.getElem?_eq_some_iff.1 HTr.out).1)
              have hov0 := keepOne ho0 hbq
              have hov1 := keepOne ho1 hbq
              have hov2 := keepOne ho2 hbq
              have hov3 := keepOne ho3 hbq
              have hov4 := keepOne ho4 hbq
              have hov5 := keepOne ho5 hbq
              have hov6 := keepOne ho6 hbq
              have HPW := Aside0.mk (Kd.C_below HPR.out hbq)
              clear hbq HBr HXr HTr HPR ht0 ht1 ho0 ho1 ho2 ho3 ho4 ho5 ho6
              generalize World.drewN wr nq = wv at *
              by_cases hee : od1 = ta ∧ od2 = ti ∧ od0 = 4
              · rw [decide_eq_true hee]
                clear hee hov0 hov1 hov2 hov3 hov4 hov5 hov6
                go_wp2
                go_roundg (more.length - (kk + 1))
                case measure => omega
                case rel => exact ⟨kk + 1, by omega, by omega, by go_num, HBv, ⟨_, HI'.out, HXM.out, HXv.out⟩, HTv⟩
              · rw [decide_eq_false hee]
                have HST := Aside0.mk (firm_stays HI'.out HXM.out HX0.out HXF.out od0 (u := ⟨od1, od2⟩) (fun h => hee ⟨congrArg (·.f0) h.1, congrArg (·.f1) h.1, h.2⟩) od3 odp od5)
                clear hee
                obtain ⟨A0, m0, c0, A1, m1, c1, A2, m2, c2, A3, m3, c3, hX, hDO⟩ := do_at HXv.out
                obtain ⟨hs0, hs1, hs2, hs3, hs4⟩ := cells_5 hX
                have HC := Aside0.mk (hDO od0 ⟨od1, od2⟩ od3 B _ cB od5 D nD dD odp wv.drew rfl (Kd.C_below HPW.out (Below.refl _ _).drew) HPL.out HI'.out.ok (Below.refl _ _).drew)
                have HIN := Aside0.mk (HI'.out.doS od0 HOD.out od3 odp od5).1
                have HX := Aside0.mk hX
                have HXL := Aside0.mk HXv.out.lt
                clear hX hDO
                generalize doS s' od0 ⟨od1, od2⟩ od3 odp od5 = R at *
                generalize odp.length = np at *
                go_upto_region 14 with (fail)
                go_cut [64] from 64 to 72 (fun v64 wx => Aside0 (Below w.heap.size w wx) ∧ Aside0 (ShdAt wx q R.1) ∧ Aside0 (wx.heap[w.heap.size]? = some (.cells #[.int .u64 ta, .int .u64 ti] 30 (0, 0))))
                case first =>
                  go_region_with (go_at_call 11; refine (HC.out).mono ?_; intro e w5 hp; obtain ⟨E0, n0, d0, E1, n1, d1, E2, n2, d2, E3, n3, d3, rfl, hv5, hb5⟩ := doOut hp; clear hp hov0 hov1 hov2 hov3 hov4 hov5 hov6 hs0 hs1 hs2 hs3 hs4; have XB5 := stay hb5 (show (World.drew wv).heap[q]? = _ from HX.out) (by rw [drewHeap]; exact HXL.out); obtain ⟨hz0, hz1, hz2, hz3, hz4⟩ := cells_5 XB5; obtain ⟨hy0, hy1, hy2, hy3, hy4⟩ := froz_5 XB5)
                  · go_wp2
                    go_meet
                    exact ⟨⟨put5_below (HBv.out.drew.trans (hb5.mono HBv.out.drew.size)) (by omega) _ _ _ _ _⟩, ⟨ShdAt.put XB5 hv5⟩, ⟨put5_other (b := w.heap.size) (g := q) (by omega) (stay hb5 (show (World.drew wv).heap[w.heap.size]? = _ from HTv.out) (Array.getElem?_eq_some_iff.1 (show (World.drew wv).heap[w.heap.size]? = _ from HTv.out)).1) _ _ _ _ _⟩⟩
                  · go_wp2
                    go_meet
                    exact ⟨⟨put5_below (HBv.out.drew.trans (hb5.mono HBv.out.drew.size)) (by omega) _ _ _ _ _⟩, ⟨ShdAt.put XB5 hv5⟩, ⟨put5_other (b := w.heap.size) (g := q) (by omega) (stay hb5 (show (World.drew wv).heap[w.heap.size]? = _ from HTv.out) (Array.getElem?_eq_some_iff.1 (show (World.drew wv).heap[w.heap.size]? = _ from HTv.out)).1) _ _ _ _ _⟩⟩
                case rest =>
                  obtain ⟨HB7, XS7, HT7⟩ := hcut
                  obtain ⟨C0, f0, g0, C1, f1, g1, C2, f2, g2, C3, f3, g3, hX7, hFI⟩ := firm15_at XS7.out ⟨ta, ti⟩
                  rw [(firmT_iff HIN.out ⟨ta, ti⟩).2 ⟨x, HST.out, HX0.out, HXF.out⟩] at hFI
                  clear hov0 hov1 hov2 hov3 hov4 hov5 hov6 hs0 hs1 hs2 hs3 hs4
                  obtain ⟨hs0, hs1, hs2, hs3, hs4⟩ := cells_5 hX7
                  have ht0 := cell_row (cs := [.int .u64 ta, .int .u64 ti]) HT7.out 0
                  have ht1 := cell_row (cs := [.int .u64 ta, .int .u64 ti]) HT7.out 1
                  have HFI := Aside0.mk hFI
                  clear hX7 hFI HC HX
                  go_wp2_with (go_at_call 15; refine (HFI.out).mono ?_; rintro e w8 ⟨rfl, hb8⟩; have HB8 := Aside0.mk hb8; clear hb8)
                  go_roundg (more.length - (kk + 1))
                  case measure => omega
                  case rel => exact ⟨kk + 1, by omega, by omega, by go_num, ⟨HB7.out.trans (HB8.out.mono HB7.out.size)⟩, ⟨_, HIN.out, HST.out, XS7.out.below HB8.out⟩, ⟨stay HB8.out HT7.out (Array.getElem?_eq_some_iff.1 HT7.out).1⟩⟩
          · have hltz : ¬ (kk : Int) < (more.length : Int) := by omega
            obtain ⟨w9, hw9⟩ : ∃ w9, w9 = wr := ⟨_, rfl⟩
            subst hw9
            obtain ⟨i, hi, hfi, hxi⟩ := known_at HI'.out HXM.out
            have XS9 := HXr
            have HT9 := HTr
            have HB9 := HBr
            obtain ⟨D0, e0, D1, e1, D2, e2, D3, e3, hX, ⟨ra, ra'⟩, ⟨rh, rh'⟩, ⟨ro, ro'⟩, ⟨rd, rd'⟩⟩ := HXr.out
            obtain ⟨ob, oo, hob, P, pc, hpl, hpr, _, _, _, _, hp4⟩ := openRow ro i hi
            subst hob
            rw [hxi] at hpl hpr hp4
            have HRO := Aside0.mk ro
            have HPL := Aside0.mk hpl
            have HPR := Aside0.mk hpr
            have HP4 := Aside0.mk hp4
            have HX := Aside0.mk hX
            have HUN := Aside0.mk (fun (j : Nat) (hj : j < s'.opens.length) (e : (s'.opens[j]!).f0 = ⟨ta, ti⟩) => (idx_uniq (f := fun y : S48 => y.f0) HI'.out.uniq hj hi (by rw [hxi, HX0.out]; exact e) : j = i))
            have HXI := Aside0.mk hxi
            have HCO := Aside0.mk (firm_commits HI'.out HXM.out HX0.out HXF.out)
            have hol : s'.opens.length ≤ 9223372036854775807 := ro.2.1
            have hpn : x.f3.length ≤ 9223372036854775807 := hpr.2.1
            obtain ⟨hs0, hs1, hs2, hs3, hs4⟩ := cells_5 hX
            clear hX ra ra' rh rh' ro ro' rd rd' hpl hpr hp4 hfi hxi HXr HTr HBr
            go_wp2
            clear hs0 hs1 hs2 hs3 hs4
            go_loopg [13, 14] s'.opens.length (fun gg s13 s14 wv => ∃ jx : Nat, jx ≤ s'.opens.length ∧ s'.opens.length - jx ≤ gg ∧ s14 = .int .i64 jx ∧ s13 = selV i jx (.slice P x.f3.length pc) (.slice none 0 0) ∧ Aside0 (Below w9.heap.size w9 wv))
            case atStart => exact ⟨0, Nat.zero_le _, by omega, rfl, (selV_zero _ _ _).symm, ⟨Below.refl _ _⟩⟩
            case round =>
              obtain ⟨jx, hjx, hgx, rfl, rfl, HBv⟩ := hrel
              obtain ⟨hs0, hs1, hs2, hs3, hs4⟩ := cells_5 (stay HBv.out HX.out (Array.getElem?_eq_some_iff.1 HX.out).1)
              have ht0 := cell_row (cs := [.int .u64 ta, .int .u64 ti]) (stay HBv.out HT9.out (Array.getElem?_eq_some_iff.1 HT9.out).1) 0
              have ht1 := cell_row (cs := [.int .u64 ta, .int .u64 ti]) (stay HBv.out HT9.out (Array.getElem?_eq_some_iff.1 HT9.out).1) 1
              by_cases hlt3 : jx < s'.opens.length
              · have hltz3 : (jx : Int) < (s'.opens.length : Int) := by omega
                have hjxz : (0 : Int) ≤ (jx : Int) := by omega
                obtain ⟨xb, xo, hxo, P2, pc2, _, _, hx0, hx1, hx2, hx3, hx4⟩ := openRow (Kd.C_below HRO.out HBv.out) jx hlt3
                cases hxo
                by_cases hji : jx = i
                · subst hji
                  rw [HXI.out, HX0.out] at hx0 hx1
                  clear hx4
                  have hx4 := keepOne HP4.out HBv.out
                  go_wp2
                  go_quiet (fail)
                  have hx4q := keepOne hx4 (pw_below_drewN (Below.refl wr.heap.size wr) nq)
                  have hs2q := keepOne hs2 (pw_below_drewN (Below.refl wr.heap.size wr) nq)
                  go_wp2
                  go_roundg (s'.opens.length - (jx + 1))
                  case measure => omega
                  case rel => exact ⟨jx + 1, by omega, by omega, by go_num, (selV_hit (by omega) _ _).symm, ⟨pw_below_drewN HBv.out _⟩⟩
                · have hne := fun e => hji (HUN.out jx hlt3 e)
                  generalize s'.opens[jx]! = y at *
                  obtain ⟨⟨ya, yi⟩, yf, yw, yp⟩ := y
                  dsimp only at *
                  by_cases e1 : ya = ta
                  · subst e1
                    have e2 : ¬ yi = ti := fun e => hne (by rw [e])
                    clear hne
                    go_wp2
                    go_quiet (fail)
                    go_wp2
                    go_roundg (s'.opens.length - (jx + 1))
                    case measure => omega
                    case rel => exact ⟨jx + 1, by omega, by omega, by go_num, selV_step hji _ _, ⟨pw_below_drewN HBv.out _⟩⟩
                  · clear hne
                    go_wp2
                    go_quiet (fail)
                    go_wp2
                    go_roundg (s'.opens.length - (jx + 1))
                    case measure => omega
                    case rel => exact ⟨jx + 1, by omega, by omega, by go_num, selV_step hji _ _, ⟨pw_below_drewN HBv.out _⟩⟩
              · have hltz3 : ¬ (jx : Int) < (s'.opens.length : Int) := by omega
                rw [selV_hit (show i < jx by omega)]
                clear hs0 hs1 hs2 hs3 hs4
                obtain ⟨A0, m0, c0, A1, m1, c1, A2, m2, c2, A3, m3, c3, hX2, hDO⟩ := do_at (XS9.out.below HBv.out)
                obtain ⟨hs0, hs1, hs2, hs3, hs4⟩ := cells_5 hX2
                have hs2' := (cells_5 (stay HBv.out HX.out (Array.getElem?_eq_some_iff.1 HX.out).1)).2.2.1
                obtain ⟨rfl, rfl, rfl⟩ : A2 = some ⟨ob, oo, none⟩ ∧ m2 = s'.opens.length ∧ c2 = e2 := by
                  rw [hs2] at hs2'
                  simpa using hs2'
                have HC := Aside0.mk (hDO 4 ⟨ta, ti⟩ ⟨#[]⟩ none 0 0 true none 0 0 [] wr rfl (Kd.C_nil _ _) (Nat.le_refl _) HI'.out.ok (Below.refl _ _))
                have HIU := Aside0.mk (HI'.out.doS 4 HT.out ⟨#[]⟩ [] true).1
                clear hX2 hDO hs2'
                generalize doS s' 4 ⟨ta, ti⟩ ⟨#[]⟩ [] true = R at *
                obtain ⟨U, an⟩ := R
                obtain ⟨hc1, hc2⟩ := HCO.out
                dsimp only at hc1 hc2
                subst hc1
                have HGV := Aside0.mk hc2
                clear hc2 HCO
                dsimp only at HIU
                go_upto_region 25 with (go_at_call 11; refine (HC.out).mono ?_; intro e w5 hp; obtain ⟨E0, n0, d0, E1, n1, d1, E2, n2, d2, E3, n3, d3, rfl, hv5, hb5⟩ := doOut hp; dsimp only at hv5; clear hp hs0 hs1 hs2 hs3 hs4 ht0 ht1; have HV5 := Aside0.mk hv5; have HBB5 := Aside0.mk hb5; clear hv5 hb5)
                have XU6 := Aside0.mk ((ShdAt.made HV5.out).below ((Below.refl _ _).alloc (Nat.le_refl _) (.cells #[.int .i64 0, .string ⟨#[]⟩, .int .u64 0, .bool false, .bool true] 38)))
                have ha6 := heap_alloc_new (w5.alloc (.cells #[.slice E0 n0 d0, .slice E1 n1 d1, .slice E2 n2 d2, .slice E3 n3 d3, .int .u64 U.ver] 28)) (.cells #[.int .i64 0, .string ⟨#[]⟩, .int .u64 0, .bool false, .bool true] 38)
                rw [World.size_alloc] at ha6
                have HB5 := HBv.out.trans (HBB5.out.mono HBv.out.size)
                have HB6 := Aside0.mk ((HB5.alloc HB5.size (.cells #[.slice E0 n0 d0, .slice E1 n1 d1, .slice E2 n2 d2, .slice E3 n3 d3, .int .u64 U.ver] 28)).alloc (by rw [World.size_alloc]; have := HB5.size; omega) (.cells #[.int .i64 0, .string ⟨#[]⟩, .int .u64 0, .bool false, .bool true] 38))
                obtain ⟨ha0, ha1, ha2, ha3, ha4⟩ := cells_5 ha6
                clear ha6 HB5 HC HBB5 HV5
                change Code.wp _ _ _ _ ((w5.alloc (.cells #[.slice E0 n0 d0, .slice E1 n1 d1, .slice E2 n2 d2, .slice E3 n3 d3, .int .u64 U.ver] 28)).alloc (.cells #[.int .i64 0, .string ⟨#[]⟩, .int .u64 0, .bool false, .bool true] 38))
                generalize (w5.alloc (.cells #[.slice E0 n0 d0, .slice E1 n1 d1, .slice E2 n2 d2, .slice E3 n3 d3, .int .u64 U.ver] 28)).alloc (.cells #[.int .i64 0, .string ⟨#[]⟩, .int .u64 0, .bool false, .bool true] 38) = W6 at *
                generalize w5.heap.size = q2 at *
                obtain ⟨F0, f0, F1, f1, F2, f2, F3, f3, hXU, ⟨ua, ua'⟩, _⟩ := XU6.out
                have HXU := Aside0.mk hXU
                have HUA := Aside0.mk ua
                have HUA' := Aside0.mk ua'
                have HUL := Aside0.mk HIU.out.ok.rl
                clear hXU ua ua' XU6 XS9 HT9 HX HUN HXI HRO HP4 HI' HXM
                go_wp2
                clear ha0 ha1 ha2 ha3 ha4
                clear hltz hltz3 hlt3 hgx hlt
                go_loopg [17] x.f3.length (fun gg s17 wv => ∃ jp : Nat, jp ≤ x.f3.length ∧ x.f3.length - jp ≤ gg ∧ s17 = .int .i64 jp ∧ Aside0 (Below W6.heap.size W6 wv))
                case atStart => exact ⟨0, Nat.zero_le _, by omega, rfl, ⟨Below.refl _ _⟩⟩
                case round =>
                  clear HBv
                  obtain ⟨jp, hjp, hgp, rfl, HBu⟩ := hrel
                  by_cases hlt4 : jp < x.f3.length
                  · have hltz4 : (jp : Int) < (x.f3.length : Int) := by omega
                    have hjpz : (0 : Int) ≤ (jp : Int) := by omega
                    obtain ⟨pb, po, rfl, hp0, hp1, hp2⟩ := putCells (Kd.C_below HPR.out (HB6.out.trans (HBu.out.mono HB6.out.size))) jp hlt4
                    obtain ⟨hu0, hu1, hu2, hu3, hu4⟩ := cells_5 (stay HBu.out HXU.out (Array.getElem?_eq_some_iff.1 HXU.out).1)
                    obtain ⟨g1, g2, g3, g4, hg⟩ : ∃ g1 g2 g3 g4, getV U.rows (x.f3[jp]!).f0 = (g1, g2, g3, g4) := ⟨_, _, _, _, rfl⟩
                    have hge := HGV.out _ (bang_mem hlt4)
                    rw [hg] at hge
                    have HGE := Aside0.mk hge
                    have HGC := Aside0.mk (fun (W : World) (h : Below wr.heap.size wr W) => get11f_calls F0 f0 U.rows (x.f3[jp]!).f0 g1 g2 g3 g4 W (Kd.C_below HUA.out (HBu.out.trans (h.mono HBu.out.size))) HUA'.out (by have := HUL.out; omega) hg)
                    clear hg hge
                    generalize x.f3[jp]! = p at *
                    obtain ⟨pk, pv, pg⟩ := p
                    dsimp only at *
                    have hpbl : pb < wr.heap.size := World.block_lt_of_cell? _ _ hp0
                    have hq2l : q2 < wr.heap.size := World.block_lt_of_cell? _ _ hu0
                    go_upto_region 30 with (fail)
                    go_cut [18, 19] from 120 to 130 (fun v18 v19 wx => ∃ rb, v18 = .pointer (some ⟨rb, 0, none⟩) ∧ v19 = .bool g4 ∧ Aside0 (wx.heap[rb]? = some (.cells #[.string g1, .string g2, .int .u64 g3] 50 (0, 0))) ∧ Aside0 (Below wr.heap.size wr wx))
                    case first =>
                      go_region_with (go_at_call 16; refine (HGC.out _ (by first | exact (Below.refl _ _).drew | exact ((Below.refl _ _).alloc (Nat.le_refl _) _).drew)).mono ?_; rintro e w5 ⟨rfl, hb5⟩; (first | (have hrz := stay hb5 (show (World.drew (wr.alloc (.cells #[.string ⟨#[]⟩, .string ⟨#[]⟩, .int .u64 0] 50))).heap[wr.heap.size]? = _ from heap_alloc_new wr (.cells #[.string ⟨#[]⟩, .string ⟨#[]⟩, .int .u64 0] 50)) (by rw [drewHeap, World.size_alloc]; exact Nat.lt_succ_self _); obtain ⟨hr0, hr1, hr2⟩ := cells_3 hrz; have hw0 := frozen_row hrz 0; have hw1 := frozen_row hrz 1; have hw2 := frozen_row hrz 2) | skip))
                      all_goals (go_wp2; go_meet; first
                        | exact ⟨_, rfl, rfl, ⟨heap_alloc_new w5 (.cells #[.string g1, .string g2, .int .u64 g3] 50)⟩, ⟨((Below.refl wr.heap.size wr).drew.trans (hb5.mono (Below.refl wr.heap.size wr).drew.size)).alloc (by have := hb5.size; rw [drewHeap] at this; exact this) _⟩⟩
                        | exact ⟨_, rfl, rfl, ⟨blk_put (blk_put (blk_put hrz 0 _ rfl) 1 _ rfl) 2 _ rfl⟩, ⟨((((((Below.refl wr.heap.size wr).alloc (Nat.le_refl _) (.cells #[.string ⟨#[]⟩, .string ⟨#[]⟩, .int .u64 0] 50)).drew).trans (hb5.mono (((Below.refl wr.heap.size wr).alloc (Nat.le_refl _) (.cells #[.string ⟨#[]⟩, .string ⟨#[]⟩, .int .u64 0] 50)).drew.size))).setCell (p := ⟨wr.heap.size, 0, none⟩) (Nat.le_refl _) _).setCell (p := ⟨wr.heap.size, 1, none⟩) (Nat.le_refl _) _).setCell (p := ⟨wr.heap.size, 2, none⟩) (Nat.le_refl _) _⟩⟩
                        | skip)
                    case rest =>
                      obtain ⟨rb, rfl, rfl, HRB, HBx⟩ := hcut
                      obtain ⟨hr0, hr1, hr2⟩ := cells_3 HRB.out
                      have hpx1 := keepOne hp1 HBx.out
                      have hpx2 := keepOne hp2 HBx.out
                      have hux4 := keepOne hu4 HBx.out
                      clear hp0 hp1 hp2 hu0 hu1 hu2 hu3 hu4
                      have hge := HGE.out
                      cases pg with
                      | true =>
                        rw [if_pos rfl] at hge
                        simp only [Prod.mk.injEq] at hge
                        obtain ⟨rfl, rfl, rfl, rfl⟩ := hge
                        go_wp2
                        go_quiet (fail)
                        go_wp2
                        go_roundg (x.f3.length - (jp + 1))
                        case measure => omega
                        case rel => exact ⟨jp + 1, by omega, by omega, by go_num, ⟨pw_below_drewN (HBu.out.trans (HBx.out.mono HBu.out.size)) _⟩⟩
                      | false =>
                        rw [if_neg (by decide)] at hge
                        simp only [Prod.mk.injEq] at hge
                        obtain ⟨rfl, rfl, rfl, rfl⟩ := hge
                        go_wp2
                        go_quiet (fail)
                        go_wp2
                        go_roundg (x.f3.length - (jp + 1))
                        case measure => omega
                        case rel => exact ⟨jp + 1, by omega, by omega, by go_num, ⟨pw_below_drewN (HBu.out.trans (HBx.out.mono HBu.out.size)) _⟩⟩
                  · have hltz4 : ¬ (jp : Int) < (x.f3.length : Int) := by omega
                    go_wp2
                    go_ret
                    exact ⟨rfl, HB9.out.trans ((HB6.out.trans (HBu.out.mono HB6.out.size)).mono HB9.out.size)⟩
end Go.Proofs.Ytmcgcdpiceikeaa.PAll
end
section
namespace Go.Proofs.Ytmcgcdpiceikeaa.shardFirm
open Go.ChangeShapes Go.WideShapes Go.ChangeAt Go.RowKit Go.Proofs.YtmcgcdpiceikeaaW.PrintWords Go.Proofs.Ytmcgcdpiceikeaa Go.Proofs.Ytmcgcdpiceikeaa.PAll
open Go.ChangeMaps (open_string shut_string)
set_option linter.unusedVariables false
set_option linter.unusedSimpArgs false
theorem own : ownKnob Try.prog.godebug = none := by kernel_rfl
theorem laidOut : laidOutB Try.prog = true := by kernel_rfl
set_option maxRecDepth 100000 in
theorem lifted (os : Os) (started : os.Started) (H : Type) (enc : TypeId × Value → H) :
    ReturnsInHanded {} Try.checked os 5 .any (Rows.shardFirmSpec.pre6 enc Try.prog Try.f5 Rows.shardFirmRow.domain false) (Rows.shardFirmSpec.post enc Try.prog Try.f5 false true false false) := by
  refine returnsInHanded_of_change_sized (C := Try.checked) own started (by kernel_rfl) Try.func5
    (ChangeSpec.witness6 (enc := enc) (C := Try.checked) false ⟨#[], #[.slice none 0 0, .agg #[.int .u64 0, .int .u64 0], .slice none 0 0], []⟩ 8 (by kernel_rfl) (by kernel_rfl) (by kernel_rfl) (by kernel_rfl)) ?_
  intro W base args ds gs before hval0 hW hcnd hsz0 _
  have hsz : (DataW.weightsEach Try.prog (Try.f5.params.toList ++ Rows.shardFirmSpec.plain.varTypes Try.prog) (ds ++ gs)).all (· ≤ reachBytes) = true := hsz0
  have hval : ∀ (j : Nat) t v, Try.f5.params[j]? = some t → args[j]? = some v → Value.okWide Try.prog W .any base t v := hval0
  have hW' := hW
  obtain ⟨p, q, hA0, hV, rfl, hfz, hnd⟩ := hW
  have hA : DataW.TrodAll enc Try.prog W 0 (fun _ => true) true Try.f5.params.toList args.toList ds p := hA0
  rw [Try.params5] at hA hval hsz
  obtain ⟨v0, vs0, d0, ds0, p0, q0, hargs, rfl, rfl, h0, r0⟩ := trodAll_cons hA
  obtain ⟨v1, vs1, d1, ds1, p1, q1, rfl, rfl, rfl, h1, r1⟩ := trodAll_cons r0
  obtain ⟨v2, vs2, d2, ds2, p2, q2, rfl, rfl, rfl, h2, r2⟩ := trodAll_cons r1
  obtain ⟨rfl, rfl, rfl⟩ := trodAll_nil r2
  obtain rfl : args = #[v0, v1, v2] := by cases args; simp_all
  obtain ⟨rfl, rfl⟩ := trodVars_none hV
  have hw0 := weights_of 0 hsz (t := 43) (d := d0) rfl rfl
  obtain ⟨a0, len0, cap0, rfl⟩ := okWide_slice Try.underlying43 (hval 0 43 v0 rfl rfl)
  have k0 := h0
  have lt0 : ∀ x ∈ p0, x.block < W.heap.size := by obtain ⟨m, hm⟩ := k0; exact DataW.trod_lt m _ _ _ hm
  obtain ⟨l0, hl0, hr0, hc0, hs0⟩ : ∃ l, len0 = l.length ∧ Kd.C k34 W a0 l.length l ∧ l.length ≤ cap0 ∧ (fun l => l.length * Try.prog.bytesOf 34 ≤ 140737488351232 ∧ ∀ x ∈ l, ok34 x) l := by
    obtain ⟨fuel, hf⟩ := h0
    obtain ⟨l, ⟨A, c, hv, hc, hr⟩, hS⟩ := (Opens.slice Try.underlying43 (by kernel_rfl) opens34) H enc W 0 _ _ fuel _ _ _ hf hw0
    simp [Value.cells] at hv
    obtain ⟨rfl, rfl, rfl⟩ := hv
    exact ⟨l, rfl, hr, hc, hS⟩
  subst hl0
  have hw1 := weights_of 1 hsz (t := 30) (d := d1) rfl rfl
  have k1 := h1
  have lt1 : ∀ x ∈ p1, x.block < W.heap.size := by obtain ⟨m, hm⟩ := k1; exact DataW.trod_lt m _ _ _ hm
  obtain ⟨cs1, rfl, hcz1⟩ := okWide_struct Try.underlying30 (hval 1 30 v1 rfl rfl)
  obtain ⟨x1, hx1, hs1⟩ : ∃ x, k30.K W x cs1.toList ∧ ok30 x := by
    obtain ⟨fuel, hf⟩ := h1
    exact opens30 H enc W 0 _ _ fuel _ _ _ hf hw1
  have hw2 := weights_of 2 hsz (t := 43) (d := d2) rfl rfl
  obtain ⟨a2, len2, cap2, rfl⟩ := okWide_slice Try.underlying43 (hval 2 43 v2 rfl rfl)
  have k2 := h2
  have lt2 : ∀ x ∈ p2, x.block < W.heap.size := by obtain ⟨m, hm⟩ := k2; exact DataW.trod_lt m _ _ _ hm
  obtain ⟨l2, hl2, hr2, hc2, hs2⟩ : ∃ l, len2 = l.length ∧ Kd.C k34 W a2 l.length l ∧ l.length ≤ cap2 ∧ (fun l => l.length * Try.prog.bytesOf 34 ≤ 140737488351232 ∧ ∀ x ∈ l, ok34 x) l := by
    obtain ⟨fuel, hf⟩ := h2
    obtain ⟨l, ⟨A, c, hv, hc, hr⟩, hS⟩ := (Opens.slice Try.underlying43 (by kernel_rfl) opens34) H enc W 0 _ _ fuel _ _ _ hf hw2
    simp [Value.cells] at hv
    obtain ⟨rfl, rfl, rfl⟩ := hv
    exact ⟨l, rfl, hr, hc, hS⟩
  subst hl2
  clear hA0 hval0 hsz0 hsz
  refine (ShardFirm_walk (w := W) a0 cap0 l0 hr0 hc0 hs0 cs1 x1 hx1 hs1 a2 cap2 l2 hr2 hc2 hs2).mono fun e W' ⟨he, bel⟩ => ?_
  subst he
  exact ⟨_, rfl, _, _, _, [], _, [], hW', trodAll_mk1 (shut_bool Try.underlying4 _), (trodAll_cons_mk (Below.trod laidOut (by kernel_rfl) (of_decide_eq_true (by kernel_rfl)) k0 bel lt0) (trodAll_cons_mk (Below.trod laidOut (by kernel_rfl) (of_decide_eq_true (by kernel_rfl)) k1 bel lt1) (trodAll_cons_mk (Below.trod laidOut (by kernel_rfl) (of_decide_eq_true (by kernel_rfl)) k2 bel lt2) trodAll_mk0))), rfl, bel.frame _, fun h => by cases h⟩
theorem over : Rows.shardFirmRow.holds Try.pinned (OpenSpec.ofChange Rows.shardFirmSpec) :=
  OpenClaim.holds_of_wide 5 Try.f5 rfl rfl rfl rfl rfl rfl rfl ⟨rfl, rfl, rfl, rfl, rfl⟩ rfl rfl rfl rfl rfl (by kernel_rfl) Try.func5 (by kernel_rfl)
    (of_decide_eq_true (by kernel_rfl)) (by unfold Func.isWrapper; first | (rw [if_pos (by decide +kernel)]; kernel_rfl) | (rw [if_neg (by decide +kernel)]; exact ⟨rfl, rfl⟩))
    (fun os started H enc _ => lifted os started H enc)
theorem proved : Rows.ShardFirmSaid := over
#print axioms proved
end Go.Proofs.Ytmcgcdpiceikeaa.shardFirm
namespace Go.Proofs.Ytmcgcdpiceikeaa
/-- The row, under a short name, for the claim. -/
theorem shardFirm_holds : Rows.ShardFirmSaid := shardFirm.proved
end Go.Proofs.Ytmcgcdpiceikeaa
end
