/- Joined texts of the claim DriveCommits (part 50): contracts of functions and plain laws. -/
import Derived.BigQuiet
import Derived.BigRegion
import Derived.Deep.CutRange
import Derived.Deep.DeepCutAuto
import Derived.Deep.QuietTactic
import Derived.Deep.RegionHeld3
import Derived.Deep.RegionWith
import Derived.Test.YtkennobdoldlkaaJDriveCommits4
import Derived.Test.YtkennobdoldlkaaJDriveCommits48
import Derived.Test.YtkennobdoldlkaaJDriveCommits49
section
/- The law DriveCommits, walked. -/
namespace Go.Proofs.Ytkennobdoldlkaa.PAll
open Go.RowKit Go.Proofs.YtkennobdoldlkaaW.PrintWords Go.Proofs.YtkennobdoldlkaaW.PrintLast Go.Proofs.Ytkennobdoldlkaa
set_option linter.unusedVariables false
set_option linter.unusedSimpArgs false
set_option maxHeartbeats 40000000 in
set_option maxRecDepth 100000 in
theorem DriveCommits_walk {w : World} (cs : Array Value) (x : S27) (hx : k27.K w x cs.toList) (hsx : ok27 x) (B0 : Option Addr) (cB : Nat) (l : List S33) (hr : Kd.C k33 w B0 l.length l) (hc : l.length ≤ cB) (hs : l.length * Try.prog.bytesOf 33 ≤ 140737488351232 ∧ ∀ x ∈ l, ok33 x) :
    Calls Try.prog 4 #[.agg cs, .slice B0 l.length cB] w fun e w' => e = .returned (.bool true) ∧ Below w.heap.size w w' := by
  obtain ⟨hl3, hg3⟩ := planOk hsx
  obtain ⟨A, c, rfl, hc3, hC3⟩ := planArg hx
  obtain ⟨⟨ta, ti⟩, st⟩ := x
  dsimp only at *
  have HST := Aside0.mk hC3
  have HR := Aside0.mk hr
  have hll : l.length ≤ 9223372036854775807 := hr.2.1
  clear hx hsx hC3 hr hs
  have hx0 := heap_alloc_new w (.cells #[.int .u64 ta, .int .u64 ti, .slice A st.length c] 27)
  have HB0 := Aside0.mk ((Below.refl w.heap.size w).alloc (Nat.le_refl _) (.cells #[.int .u64 ta, .int .u64 ti, .slice A st.length c] 27))
  go_enter Try.func4, Try.ntmps4
  have HP0 := Aside0.mk hx0
  clear hx0
  go_upto_region 1 with (fail)
  change Code.wp _ _ _ _ (w.alloc (.cells #[.int .u64 ta, .int .u64 ti, .slice A st.length c] 27))
  generalize w.alloc (.cells #[.int .u64 ta, .int .u64 ti, .slice A st.length c] 27) = w1 at *
  go_upto_region 2 with (go_at_call 9; refine (shown20 _).mono ?_; rintro e w2 ⟨rfl, hb2⟩; have HB2a := Aside0.mk hb2; clear hb2)
  have HP2 := Aside0.mk (stay20 HB2a.out HP0.out)
  have HB2 := Aside0.mk (HB0.out.trans (HB2a.out.mono HB0.out.size))
  obtain ⟨hp0, hp1, hp2⟩ := cellsB3 HP2.out
  have HBC := Aside0.mk (begin_calls ta ti A c st w2 (Kd.C_below HST.out HB2.out) hc3 hl3 hg3)
  have HBB : Aside0 (beginV ta ti st = if mayV ta ti st = true then (⟨ta, ti, st, 0, 0, false, false, false, []⟩, 0) else (zDrv, 1)) := ⟨rfl⟩
  clear HP0 HB0 HB2a
  cases hm : mayV ta ti st with
  | false =>
    have hmf : ¬ mayV ta ti st = true := by rw [hm]; simp
    rw [if_neg hmf] at HBB
    rw [HBB.out] at HBC
    unfold BPost zDrv dagg at HBC
    dsimp only at HBC
    clear HBB
    go_wp2_with (go_at_call 16; refine (HBC.out).mono ?_; rintro e w3 ⟨vs, rfl, _, ho3, hb3⟩; obtain ⟨A3, n3, c3, rfl⟩ := ownSlice20 ho3; have HB3 := Aside0.mk hb3; clear ho3 hb3)
    go_ret
    exact ⟨rfl, (HB2.out.trans (HB3.out.mono HB2.out.size)).alloc (HB2.out.trans (HB3.out.mono HB2.out.size)).size _⟩
  | true =>
    rw [if_pos hm] at HBB
    rw [HBB.out] at HBC
    unfold BPost dagg at HBC
    dsimp only at HBC
    clear HBB
    go_upto_region 3 with (go_at_call 16; refine (HBC.out).mono ?_; rintro e w3 ⟨vs, rfl, _, ho3, hb3⟩; obtain ⟨A3, c3, rfl, hc4⟩ := own_sl20 ho3; have HO3 := Aside0.mk ho3; have HB3 := Aside0.mk hb3; clear ho3 hb3)
    rw [List.length_map] at HO3
    have HD4 := Aside0.mk (DrvAt.made (w0 := w2) (w := w3) (r := ⟨ta, ti, st, 0, 0, false, false, false, []⟩) rfl HO3.out rfl)
    have HB3b := Aside0.mk (HB2.out.trans (HB3.out.mono HB2.out.size))
    have HB4 := Aside0.mk (HB3b.out.alloc HB3b.out.size (.cells #[.int .u64 ta, .int .u64 ti, .slice A3 st.length c3, .int .i64 0, .int .i64 0, .bool false, .bool false, .bool false, .slice none 0 0] 30))
    have HP4 := Aside0.mk (stayA20 (stay20 HB3.out HP2.out) (.cells #[.int .u64 ta, .int .u64 ti, .slice A3 st.length c3, .int .i64 0, .int .i64 0, .bool false, .bool false, .bool false, .slice none 0 0] 30))
    have hq : w.heap.size ≤ w3.heap.size := HB3b.out.size
    have hq2 : w.heap.size < w3.heap.size := Nat.lt_of_lt_of_le (Array.getElem?_eq_some_iff.1 HP2.out).1 HB3.out.size
    dsimp only at HD4
    change Code.wp _ _ _ _ (w3.alloc (.cells #[.int .u64 ta, .int .u64 ti, .slice A3 st.length c3, .int .i64 0, .int .i64 0, .bool false, .bool false, .bool false, .slice none 0 0] 30))
    generalize w3.alloc (.cells #[.int .u64 ta, .int .u64 ti, .slice A3 st.length c3, .int .i64 0, .int .i64 0, .bool false, .bool false, .bool false, .slice none 0 0] 30) = w4 at *
    generalize w3.heap.size = q at *
    clear HO3 HB3 HB3b HP2 HB2 HBC hp0 hp1 hp2
    have HM := Aside0.mk hm
    clear hm
    go_wp2
    go_loopg [8, 9, 10, 11, 12] l.length (fun gg s8 s9 s10 s11 s12 wr => ∃ (jj : Nat) (d : Drv) (A5 : Option Addr) (c5 : Nat) (B5 : Option Addr) (e5 : Nat) (fa sa cm : Bool) (k : Nat), jj ≤ l.length ∧ l.length - jj ≤ gg ∧ s8 = .bool fa ∧ s9 = .bool sa ∧ s10 = .bool cm ∧ s11 = .int .i64 k ∧ s12 = .int .i64 jj ∧ Aside0 (CI ta ti st d fa sa cm k) ∧ Aside0 (DI st d) ∧ Aside0 (DrvAt w3 wr q d A5 c5 B5 e5) ∧ Aside0 (wr.heap[w.heap.size]? = some (.cells #[.int .u64 ta, .int .u64 ti, .slice A st.length c] 27 (0, 0))) ∧ Aside0 (Below w.heap.size w wr))
    case atStart => exact ⟨0, _, A3, c3, none, 0, false, false, false, 0, Nat.zero_le _, by omega, rfl, rfl, rfl, rfl, rfl, ⟨begin_ci ta ti st⟩, ⟨begin_di HM.out⟩, HD4, HP4, HB4⟩
    case round =>
      clear HD4 HP4 HB4
      obtain ⟨jj, d, A5, c5, B5, e5, fa, sa, cm, k, hjj, hgk, rfl, rfl, rfl, rfl, rfl, HCI, HDI, HD, HP, HB⟩ := hrel
      obtain ⟨hd0, hd1, hd2, hd3, hd4, hd5, hd6, hd7, hd8⟩ := cellsB9 HD.out.cells
      obtain ⟨m1, m2, m3, _⟩ := may_facts HM.out
      have hkb := HCI.out.hkb
      by_cases hlt : jj < l.length
      · have hltz : (jj : Int) < (l.length : Int) := by omega
        have hjz : (0 : Int) ≤ (jj : Int) := by omega
        have HNX := Aside0.mk (HD.out.next (HDI.out.ok HM.out hg3) wr (Below.refl _ _))
        unfold NextPost at HNX
        by_cases h5 : d.ph = 5
        · have hn1 := ci_over HM.out HDI.out HCI.out h5
          clear h5
          generalize nextV d = nv at *
          obtain ⟨ng, ⟨nk, n1, n2, nkey, npu, ncm, npa⟩, nis⟩ := nv
          unfold oagg at HNX
          dsimp only at *
          subst hn1
          go_upto_region 13 with (go_at_call 10; refine (HNX.out).mono ?_; rintro e w6 ⟨vp, vq, rfl, hp6, hq6, hb6⟩; obtain ⟨Ap, cp, rfl, _, hCp⟩ := Sl.of_R hp6; obtain ⟨Aq, cq, rfl, _, hCq⟩ := Sl.of_R hq6; clear hCp hCq hp6 hq6; have HB6 := Aside0.mk hb6; clear hb6)
          have HB7 := Aside0.mk (HB6.out.alloc HB6.out.size (.cells #[.int .i64 nk, .int .u64 n1, .int .u64 n2, .string nkey, .slice Ap npu.length cp, .bool ncm, .slice Aq npa.length cq] 38))
          change Code.wp _ _ _ _ (w6.alloc (.cells #[.int .i64 nk, .int .u64 n1, .int .u64 n2, .string nkey, .slice Ap npu.length cp, .bool ncm, .slice Aq npa.length cq] 38))
          generalize w6.alloc (.cells #[.int .i64 nk, .int .u64 n1, .int .u64 n2, .string nkey, .slice Ap npu.length cp, .bool ncm, .slice Aq npa.length cq] 38) = w7 at *
          clear hd0 hd1 hd2 hd3 hd4 hd5 hd6 hd7 hd8
          go_wp2
          go_ret
          exact ⟨rfl, HB.out.trans (HB7.out.mono HB.out.size)⟩
        · obtain ⟨hn1, hn2, hn3⟩ := ci_is HM.out HDI.out HCI.out h5
          have HKC : Aside0 ((d.ph = 3 ∧ (nextV d).2.1.kind = 6 ∧ (nextV d).2.1.commit = !fa ∧ sa = false) ∨ (d.ph = 4 ∧ (nextV d).2.1.kind = 4 ∧ (nextV d).2.1.commit = cm ∧ sa = true) ∨ ((d.ph = 0 ∨ d.ph = 1 ∨ d.ph = 2) ∧ ¬ (nextV d).2.1.kind = 6 ∧ ¬ (nextV d).2.1.kind = 4 ∧ ((nextV d).2.1.kind > 2 ↔ ¬ d.ph = 0) ∧ fa = false ∧ sa = false)) := ⟨by
            by_cases h3 : d.ph = 3
            · exact Or.inl ⟨h3, ci_kind3 HM.out HDI.out HCI.out h3⟩
            · by_cases h4 : d.ph = 4
              · exact Or.inr (Or.inl ⟨h4, ci_kind4 HM.out HDI.out HCI.out h4⟩)
              · obtain ⟨p1, _, p3, p4⟩ := ci_low HM.out HDI.out HCI.out h5 h3 h4
                obtain ⟨q1, q2, q3⟩ := ci_kindL HM.out HDI.out HCI.out p1
                exact Or.inr (Or.inr ⟨p1, q1, q2, q3, p3, p4⟩)⟩
          clear h5
          generalize nextV d = nv at *
          obtain ⟨ng, ⟨nk, n1, n2, nkey, npu, ncm, npa⟩, nis⟩ := nv
          unfold oagg at HNX
          dsimp only at *
          subst hn1
          obtain rfl : ta = n1 := hn2.symm
          obtain rfl : ti = n2 := hn3.symm
          go_upto_region 13 with (go_at_call 10; refine (HNX.out).mono ?_; rintro e w6 ⟨vp, vq, rfl, hp6, hq6, hb6⟩; obtain ⟨Ap, cp, rfl, _, hCp⟩ := Sl.of_R hp6; obtain ⟨Aq, cq, rfl, _, hCq⟩ := Sl.of_R hq6; clear hCp hCq hp6 hq6; have HB6 := Aside0.mk hb6; clear hb6)
          have HO := Aside0.mk (heap_alloc_new w6 (.cells #[.int .i64 nk, .int .u64 ta, .int .u64 ti, .string nkey, .slice Ap npu.length cp, .bool ncm, .slice Aq npa.length cq] 38))
          have HB7 := Aside0.mk (HB6.out.alloc HB6.out.size (.cells #[.int .i64 nk, .int .u64 ta, .int .u64 ti, .string nkey, .slice Ap npu.length cp, .bool ncm, .slice Aq npa.length cq] 38))
          change Code.wp _ _ _ _ (w6.alloc (.cells #[.int .i64 nk, .int .u64 ta, .int .u64 ti, .string nkey, .slice Ap npu.length cp, .bool ncm, .slice Aq npa.length cq] 38))
          generalize w6.alloc (.cells #[.int .i64 nk, .int .u64 ta, .int .u64 ti, .string nkey, .slice Ap npu.length cp, .bool ncm, .slice Aq npa.length cq] 38) = w7 at *
          generalize w6.heap.size = ob at *
          clear hd0 hd1 hd2 hd3 hd4 hd5 hd6 hd7 hd8 HNX HB6
          have HD := Aside0.mk (HD.out.below HB7.out)
          have HP := Aside0.mk (stay20 HB7.out HP.out)
          have HB := Aside0.mk (HB.out.trans ((HB7.out).mono HB.out.size))
          generalize hxe : l[jj]! = x at *
          have HXE := Aside0.mk hxe
          clear hxe
          obtain ⟨er, va, ve, fo, co⟩ := x
          clear HB7
          obtain ⟨hd0, hd1, hd2, hd3, hd4, hd5, hd6, hd7, hd8⟩ := cellsB9 HD.out.cells
          obtain ⟨ab, ao, rfl, ha0, ha1, ha2, ha3, ha4⟩ := ansRow (Kd.C_below HR.out HB.out) jj hlt
          rw [HXE.out] at ha0 ha1 ha2 ha3 ha4
          try dsimp only at ha0 ha1 ha2 ha3 ha4
          obtain ⟨hx0, hx1, hx2, hx3, hx4, hx5, hx6⟩ := cellsB7 HO.out
          obtain ⟨hp0, hp1, hp2⟩ := cellsB3 HP.out
          go_upto_region 17 with (fail)
          rcases HKC.out with ⟨hp, hk, hc, hs⟩ | ⟨hp, hk, hc, hs⟩ | ⟨hp, hk6, hk4, hk2, hf, hs⟩
          · have HPH := Aside0.mk hp
            subst hk hc hs
            clear hp
            cases hfa : fa with
            | true =>
              subst hfa
              go_upto_region 25 with (fail)
              go_quiet (fail)
              all_goals
                generalize hw8 : World.drewN _ _ = w8 at *
                have HB8 := Aside0.mk (show Below w7.heap.size w7 w8 by rw [← hw8]; exact pw_below_drewN (Below.refl _ _) _)
                clear hw8 hx0 hx1 hx2 hx3 hx4 hx5 hx6 hp0 hp1 hp2 ha0 ha1 ha2 ha3 ha4 hd0 hd1 hd2 hd3 hd4 hd5 hd6 hd7 hd8
                have HD := Aside0.mk (HD.out.below HB8.out)
                have HP := Aside0.mk (stay20 HB8.out HP.out)
                have HB := Aside0.mk (HB.out.trans ((HB8.out).mono HB.out.size))
                obtain ⟨hd0, hd1, hd2, hd3, hd4, hd5, hd6, hd7, hd8⟩ := cellsB9 HD.out.cells
                obtain ⟨ab2, ao2, hab, ha0, ha1, ha2, ha3, ha4⟩ := ansRow (Kd.C_below HR.out HB.out) jj hlt
                cases hab
                rw [HXE.out] at ha0 ha1 ha2 ha3 ha4
                try dsimp only at ha0 ha1 ha2 ha3 ha4
                by_cases he : er = 0
                · have heb : (er == 0) = true := by rw [he]; rfl
                  have HE := Aside0.mk he
                  clear he
                  go_upto_region 32 with (fail)
                  have HC := Aside0.mk (HD.out.hear (HDI.out.ok HM.out hg3) er va ve fo co w8.drew ((Below.refl _ _).drew))
                  have HDN := Aside0.mk (hear_di HM.out HDI.out er va ve fo co)
                  have HCN := Aside0.mk (show CI ta ti st (hearV d er va ve fo co) true true co k from by have := ci_dec HM.out HDI.out HCI.out HPH.out er va ve fo co; rw [decide_eq_true HE.out, Bool.true_and] at this; exact this)
                  have HA0 := Aside0.mk ha0
                  have HA1 := Aside0.mk ha1
                  have HA2 := Aside0.mk ha2
                  have HA3 := Aside0.mk ha3
                  have HA4 := Aside0.mk ha4
                  clear ha0 ha1 ha2 ha3 ha4 hd0 hd1 hd2 hd3 hd4 hd5 hd6 hd7 hd8
                  refine wp_region_noPanic ?_
                  refine wp_region_last_drew (ds := [6]) (S := (fun wz => Below w8.heap.size w8 wz)) (by kernel_rfl) ((Below.refl _ _).drew) (fun hHeld => ?_)
                  refine wpAnyLast_take (i := 1) (oi := _) (v := .slice (some ⟨ab, ao, none⟩) l.length cB) rfl (by kernel_rfl) (by kernel_rfl) (by kernel_rfl) (by kernel_rfl) (by kernel_rfl) (fun _ _ _ h => h) (Or.inl ⟨by kernel_rfl, ?_⟩) (by assumption) ?_
                  · intro wz hSw; (try dsimp only at hSw); go_simp
                  try simp only [Act.put, List.setIfInBounds_toArray, List.set_cons_zero, List.set_cons_succ, List.getElem_toArray, List.getElem_cons_succ, List.getElem_cons_zero]
                  refine wpAnyLast_take (i := 2) (oi := _) (v := .int .i64 jj) rfl (by kernel_rfl) (by kernel_rfl) (by kernel_rfl) (by kernel_rfl) (by kernel_rfl) (fun _ _ _ h => h) (Or.inl ⟨by kernel_rfl, ?_⟩) (by assumption) ?_
                  · intro wz hSw; (try dsimp only at hSw); go_simp
                  try simp only [Act.put, List.setIfInBounds_toArray, List.set_cons_zero, List.set_cons_succ, List.getElem_toArray, List.getElem_cons_succ, List.getElem_cons_zero]
                  refine wpAnyLast_take (i := 3) (oi := _) (v := .pointer (some ⟨ab, ao + jj * 5, none⟩)) rfl (by kernel_rfl) (by kernel_rfl) (by kernel_rfl) (by kernel_rfl) (by kernel_rfl) (fun _ _ _ h => h) (Or.inl ⟨by kernel_rfl, ?_⟩) (by assumption) ?_
                  · intro wz hSw; (try dsimp only at hSw); go_simp
                  try simp only [Act.put, List.setIfInBounds_toArray, List.set_cons_zero, List.set_cons_succ, List.getElem_toArray, List.getElem_cons_succ, List.getElem_cons_zero]
                  refine wpAnyLast_take (i := 0) (oi := _) (v := .agg #[.int .u64 d.ta, .int .u64 d.ti, .slice A5 d.st.length c5, .int .i64 d.ph, .int .i64 d.ap, .bool d.fa, .bool d.og, .bool d.cm, .slice B5 d.sw.length e5]) rfl (by kernel_rfl) (by kernel_rfl) (by kernel_rfl) (by kernel_rfl) (by kernel_rfl) (fun _ _ _ h => h) (Or.inl ⟨by kernel_rfl, ?_⟩) (by assumption) ?_
                  · intro wz hSw; (try dsimp only at hSw); obtain ⟨hd0, hd1, hd2, hd3, hd4, hd5, hd6, hd7, hd8⟩ := cellsB9 (HD.out.below hSw).cells; go_simp
                  try simp only [Act.put, List.setIfInBounds_toArray, List.set_cons_zero, List.set_cons_succ, List.getElem_toArray, List.getElem_cons_succ, List.getElem_cons_zero]
                  refine wpAnyLast_take (i := 4) (oi := _) (v := .agg #[.int .i64 er, .string va, .int .u64 ve, .bool fo, .bool co]) rfl (by kernel_rfl) (by kernel_rfl) (by kernel_rfl) (by kernel_rfl) (by kernel_rfl) (fun _ _ _ h => h) (Or.inl ⟨by kernel_rfl, ?_⟩) (by assumption) ?_
                  · intro wz hSw; (try dsimp only at hSw); have hb0 := (hSw.cell (World.block_lt_of_cell? _ _ HA0.out)).trans HA0.out; have hb1 := (hSw.cell (World.block_lt_of_cell? _ _ HA1.out)).trans HA1.out; have hb2 := (hSw.cell (World.block_lt_of_cell? _ _ HA2.out)).trans HA2.out; have hb3 := (hSw.cell (World.block_lt_of_cell? _ _ HA3.out)).trans HA3.out; have hb4 := (hSw.cell (World.block_lt_of_cell? _ _ HA4.out)).trans HA4.out; go_simp
                  try simp only [Act.put, List.setIfInBounds_toArray, List.set_cons_zero, List.set_cons_succ, List.getElem_toArray, List.getElem_cons_succ, List.getElem_cons_zero]
                  refine wpAnyLast_ready (rs := [5]) (by kernel_rfl) (by simp) ?_
                  refine AllReadyL.cons (o := _) rfl (by decide) (fun K hK => ?_) AllReadyL.nil
                  go_simp; go_at_call 14; refine (HC.out).mono ?_; rintro e w5 ⟨B6, e6, rfl, hb5, ho5⟩; go_simp
                  have HB5 := Aside0.mk (((Below.refl _ _).drew).trans hb5 : Below w8.heap.size w8 w5)
                  have HO5 := Aside0.mk ho5
                  clear ho5 hb5 hHeld
                  refine hK.out _ _ HB5.out (fun hHeld5 => ?_)
                  clear hK K
                  try simp only [Act.put, List.setIfInBounds_toArray, List.set_cons_zero, List.set_cons_succ, List.getElem_toArray, List.getElem_cons_succ, List.getElem_cons_zero]
                  obtain ⟨hd0, hd1, hd2, hd3, hd4, hd5, hd6, hd7, hd8⟩ := cellsB9 (HD.out.below HB5.out).cells
                  obtain ⟨hf0, hf1, hf2, hf3, hf4, hf5, hf6, hf7, hf8⟩ := frozB9 (HD.out.below HB5.out).cells
                  refine wpAnyLast_ready (rs := [6]) (by kernel_rfl) (by simp) ?_
                  refine AllReadyL.cons_last (o := _) rfl (by decide) (fun K hK => ?_) AllReadyL.nil
                  go_simp
                  refine hK.out _ _ ?_
                  clear hK K hHeld5
                  try simp only [Act.put, List.setIfInBounds_toArray, List.set_cons_zero, List.set_cons_succ, List.getElem_toArray, List.getElem_cons_succ, List.getElem_cons_zero]
                  refine wpAnyLast_done (by kernel_rfl) ?_ _
                  refine NoPanic.normal ?_
                  have HD6 := Aside0.mk (HD.out.put (hear_st d er va ve fo co) HB5.out HO5.out)
                  have HP6 := Aside0.mk (putB9_other (b := w.heap.size) (g := q) (by omega) (stay20 HB5.out HP.out) (.int .u64 (hearV d er va ve fo co).ta) (.int .u64 (hearV d er va ve fo co).ti) (.slice A5 (hearV d er va ve fo co).st.length c5) (.int .i64 (hearV d er va ve fo co).ph) (.int .i64 (hearV d er va ve fo co).ap) (.bool (hearV d er va ve fo co).fa) (.bool (hearV d er va ve fo co).og) (.bool (hearV d er va ve fo co).cm) (.slice B6 (hearV d er va ve fo co).sw.length e6))
                  have HB6 := Aside0.mk (putB9_below (HB.out.trans (HB5.out.mono HB.out.size)) hq (.int .u64 (hearV d er va ve fo co).ta) (.int .u64 (hearV d er va ve fo co).ti) (.slice A5 (hearV d er va ve fo co).st.length c5) (.int .i64 (hearV d er va ve fo co).ph) (.int .i64 (hearV d er va ve fo co).ap) (.bool (hearV d er va ve fo co).fa) (.bool (hearV d er va ve fo co).og) (.bool (hearV d er va ve fo co).cm) (.slice B6 (hearV d er va ve fo co).sw.length e6))
                  go_upto_region 11 with (fail)
                  change Code.wp _ _ _ _ (putB9 w5 q (.int .u64 (hearV d er va ve fo co).ta) (.int .u64 (hearV d er va ve fo co).ti) (.slice A5 (hearV d er va ve fo co).st.length c5) (.int .i64 (hearV d er va ve fo co).ph) (.int .i64 (hearV d er va ve fo co).ap) (.bool (hearV d er va ve fo co).fa) (.bool (hearV d er va ve fo co).og) (.bool (hearV d er va ve fo co).cm) (.slice B6 (hearV d er va ve fo co).sw.length e6))
                  generalize (putB9 w5 q (.int .u64 (hearV d er va ve fo co).ta) (.int .u64 (hearV d er va ve fo co).ti) (.slice A5 (hearV d er va ve fo co).st.length c5) (.int .i64 (hearV d er va ve fo co).ph) (.int .i64 (hearV d er va ve fo co).ap) (.bool (hearV d er va ve fo co).fa) (.bool (hearV d er va ve fo co).og) (.bool (hearV d er va ve fo co).cm) (.slice B6 (hearV d er va ve fo co).sw.length e6)) = w6 at *
                  clear hd0 hd1 hd2 hd3 hd4 hd5 hd6 hd7 hd8 hf0 hf1 hf2 hf3 hf4 hf5 hf6 hf7 hf8 HO5 HB5 HC
                  go_wp2
                  go_roundg (l.length - (jj + 1))
                  case measure => omega
                  case rel => exact ⟨jj + 1, hearV d er va ve fo co, A5, c5, B6, e6, true, true, co, k, by omega, by omega, rfl, rfl, rfl, by go_num, by go_num, HCN, HDN, HD6, HP6, HB6⟩
                · have heb : (er == 0) = false := beq_eq_false_iff_ne.2 he
                  have HE := Aside0.mk he
                  clear he
                  go_upto_region 32 with (fail)
                  have HC := Aside0.mk (HD.out.hear (HDI.out.ok HM.out hg3) er va ve fo co w8.drew ((Below.refl _ _).drew))
                  have HDN := Aside0.mk (hear_di HM.out HDI.out er va ve fo co)
                  have HCN := Aside0.mk (show CI ta ti st (hearV d er va ve fo co) true true false k from by have := ci_dec HM.out HDI.out HCI.out HPH.out er va ve fo co; rw [decide_eq_false HE.out, Bool.false_and] at this; exact this)
                  have HA0 := Aside0.mk ha0
                  have HA1 := Aside0.mk ha1
                  have HA2 := Aside0.mk ha2
                  have HA3 := Aside0.mk ha3
                  have HA4 := Aside0.mk ha4
                  clear ha0 ha1 ha2 ha3 ha4 hd0 hd1 hd2 hd3 hd4 hd5 hd6 hd7 hd8
                  refine wp_region_noPanic ?_
                  refine wp_region_last_drew (ds := [6]) (S := (fun wz => Below w8.heap.size w8 wz)) (by kernel_rfl) ((Below.refl _ _).drew) (fun hHeld => ?_)
                  refine wpAnyLast_take (i := 1) (oi := _) (v := .slice (some ⟨ab, ao, none⟩) l.length cB) rfl (by kernel_rfl) (by kernel_rfl) (by kernel_rfl) (by kernel_rfl) (by kernel_rfl) (fun _ _ _ h => h) (Or.inl ⟨by kernel_rfl, ?_⟩) (by assumption) ?_
                  · intro wz hSw; (try dsimp only at hSw); go_simp
                  try simp only [Act.put, List.setIfInBounds_toArray, List.set_cons_zero, List.set_cons_succ, List.getElem_toArray, List.getElem_cons_succ, List.getElem_cons_zero]
                  refine wpAnyLast_take (i := 2) (oi := _) (v := .int .i64 jj) rfl (by kernel_rfl) (by kernel_rfl) (by kernel_rfl) (by kernel_rfl) (by kernel_rfl) (fun _ _ _ h => h) (Or.inl ⟨by kernel_rfl, ?_⟩) (by assumption) ?_
                  · intro wz hSw; (try dsimp only at hSw); go_simp
                  try simp only [Act.put, List.setIfInBounds_toArray, List.set_cons_zero, List.set_cons_succ, List.getElem_toArray, List.getElem_cons_succ, List.getElem_cons_zero]
                  refine wpAnyLast_take (i := 3) (oi := _) (v := .pointer (some ⟨ab, ao + jj * 5, none⟩)) rfl (by kernel_rfl) (by kernel_rfl) (by kernel_rfl) (by kernel_rfl) (by kernel_rfl) (fun _ _ _ h => h) (Or.inl ⟨by kernel_rfl, ?_⟩) (by assumption) ?_
                  · intro wz hSw; (try dsimp only at hSw); go_simp
                  try simp only [Act.put, List.setIfInBounds_toArray, List.set_cons_zero, List.set_cons_succ, List.getElem_toArray, List.getElem_cons_succ, List.getElem_cons_zero]
                  refine wpAnyLast_take (i := 0) (oi := _) (v := .agg #[.int .u64 d.ta, .int .u64 d.ti, .slice A5 d.st.length c5, .int .i64 d.ph, .int .i64 d.ap, .bool d.fa, .bool d.og, .bool d.cm, .slice B5 d.sw.length e5]) rfl (by kernel_rfl) (by kernel_rfl) (by kernel_rfl) (by kernel_rfl) (by kernel_rfl) (fun _ _ _ h => h) (Or.inl ⟨by kernel_rfl, ?_⟩) (by assumption) ?_
                  · intro wz hSw; (try dsimp only at hSw); obtain ⟨hd0, hd1, hd2, hd3, hd4, hd5, hd6, hd7, hd8⟩ := cellsB9 (HD.out.below hSw).cells; go_simp
                  try simp only [Act.put, List.setIfInBounds_toArray, List.set_cons_zero, List.set_cons_succ, List.getElem_toArray, List.getElem_cons_succ, List.getElem_cons_zero]
                  refine wpAnyLast_take (i := 4) (oi := _) (v := .agg #[.int .i64 er, .string va, .int .u64 ve, .bool fo, .bool co]) rfl (by kernel_rfl) (by kernel_rfl) (by kernel_rfl) (by kernel_rfl) (by kernel_rfl) (fun _ _ _ h => h) (Or.inl ⟨by kernel_rfl, ?_⟩) (by assumption) ?_
                  · intro wz hSw; (try dsimp only at hSw); have hb0 := (hSw.cell (World.block_lt_of_cell? _ _ HA0.out)).trans HA0.out; have hb1 := (hSw.cell (World.block_lt_of_cell? _ _ HA1.out)).trans HA1.out; have hb2 := (hSw.cell (World.block_lt_of_cell? _ _ HA2.out)).trans HA2.out; have hb3 := (hSw.cell (World.block_lt_of_cell? _ _ HA3.out)).trans HA3.out; have hb4 := (hSw.cell (World.block_lt_of_cell? _ _ HA4.out)).trans HA4.out; go_simp
                  try simp only [Act.put, List.setIfInBounds_toArray, List.set_cons_zero, List.set_cons_succ, List.getElem_toArray, List.getElem_cons_succ, List.getElem_cons_zero]
                  refine wpAnyLast_ready (rs := [5]) (by kernel_rfl) (by simp) ?_
                  refine AllReadyL.cons (o := _) rfl (by decide) (fun K hK => ?_) AllReadyL.nil
                  go_simp; go_at_call 14; refine (HC.out).mono ?_; rintro e w5 ⟨B6, e6, rfl, hb5, ho5⟩; go_simp
                  have HB5 := Aside0.mk (((Below.refl _ _).drew).trans hb5 : Below w8.heap.size w8 w5)
                  have HO5 := Aside0.mk ho5
                  clear ho5 hb5 hHeld
                  refine hK.out _ _ HB5.out (fun hHeld5 => ?_)
                  clear hK K
                  try simp only [Act.put, List.setIfInBounds_toArray, List.set_cons_zero, List.set_cons_succ, List.getElem_toArray, List.getElem_cons_succ, List.getElem_cons_zero]
                  obtain ⟨hd0, hd1, hd2, hd3, hd4, hd5, hd6, hd7, hd8⟩ := cellsB9 (HD.out.below HB5.out).cells
                  obtain ⟨hf0, hf1, hf2, hf3, hf4, hf5, hf6, hf7, hf8⟩ := frozB9 (HD.out.below HB5.out).cells
                  refine wpAnyLast_ready (rs := [6]) (by kernel_rfl) (by simp) ?_
                  refine AllReadyL.cons_last (o := _) rfl (by decide) (fun K hK => ?_) AllReadyL.nil
                  go_simp
                  refine hK.out _ _ ?_
                  clear hK K hHeld5
                  try simp only [Act.put, List.setIfInBounds_toArray, List.set_cons_zero, List.set_cons_succ, List.getElem_toArray, List.getElem_cons_succ, List.getElem_cons_zero]
                  refine wpAnyLast_done (by kernel_rfl) ?_ _
                  refine NoPanic.normal ?_
                  have HD6 := Aside0.mk (HD.out.put (hear_st d er va ve fo co) HB5.out HO5.out)
                  have HP6 := Aside0.mk (putB9_other (b := w.heap.size) (g := q) (by omega) (stay20 HB5.out HP.out) (.int .u64 (hearV d er va ve fo co).ta) (.int .u64 (hearV d er va ve fo co).ti) (.slice A5 (hearV d er va ve fo co).st.length c5) (.int .i64 (hearV d er va ve fo co).ph) (.int .i64 (hearV d er va ve fo co).ap) (.bool (hearV d er va ve fo co).fa) (.bool (hearV d er va ve fo co).og) (.bool (hearV d er va ve fo co).cm) (.slice B6 (hearV d er va ve fo co).sw.length e6))
                  have HB6 := Aside0.mk (putB9_below (HB.out.trans (HB5.out.mono HB.out.size)) hq (.int .u64 (hearV d er va ve fo co).ta) (.int .u64 (hearV d er va ve fo co).ti) (.slice A5 (hearV d er va ve fo co).st.length c5) (.int .i64 (hearV d er va ve fo co).ph) (.int .i64 (hearV d er va ve fo co).ap) (.bool (hearV d er va ve fo co).fa) (.bool (hearV d er va ve fo co).og) (.bool (hearV d er va ve fo co).cm) (.slice B6 (hearV d er va ve fo co).sw.length e6))
                  go_upto_region 11 with (fail)
                  change Code.wp _ _ _ _ (putB9 w5 q (.int .u64 (hearV d er va ve fo co).ta) (.int .u64 (hearV d er va ve fo co).ti) (.slice A5 (hearV d er va ve fo co).st.length c5) (.int .i64 (hearV d er va ve fo co).ph) (.int .i64 (hearV d er va ve fo co).ap) (.bool (hearV d er va ve fo co).fa) (.bool (hearV d er va ve fo co).og) (.bool (hearV d er va ve fo co).cm) (.slice B6 (hearV d er va ve fo co).sw.length e6))
                  generalize (putB9 w5 q (.int .u64 (hearV d er va ve fo co).ta) (.int .u64 (hearV d er va ve fo co).ti) (.slice A5 (hearV d er va ve fo co).st.length c5) (.int .i64 (hearV d er va ve fo co).ph) (.int .i64 (hearV d er va ve fo co).ap) (.bool (hearV d er va ve fo co).fa) (.bool (hearV d er va ve fo co).og) (.bool (hearV d er va ve fo co).cm) (.slice B6 (hearV d er va ve fo co).sw.length e6)) = w6 at *
                  clear hd0 hd1 hd2 hd3 hd4 hd5 hd6 hd7 hd8 hf0 hf1 hf2 hf3 hf4 hf5 hf6 hf7 hf8 HO5 HB5 HC
                  go_wp2
                  go_roundg (l.length - (jj + 1))
                  case measure => omega
                  case rel => exact ⟨jj + 1, hearV d er va ve fo co, A5, c5, B6, e6, true, true, false, k, by omega, by omega, rfl, rfl, rfl, by go_num, by go_num, HCN, HDN, HD6, HP6, HB6⟩
            | false =>
              subst hfa
              have hask := ci_asked HM.out HDI.out HCI.out HPH.out rfl
              have hask2 : ((k : Int) != (st.length : Int) + 1 + ((partsV st).length : Int)) = false := by rw [hask]; simp
              clear hask
              go_upto_region 25 with (fail)
              by_cases he : er = 0
              · have heb : (er == 0) = true := by rw [he]; rfl
                have HE := Aside0.mk he
                clear he
                have hw1 : IntKind.i64.wrap ((st.length : Int) + 1) = (st.length : Int) + 1 := by rw [IntKind.wrap_i64]; omega
                have hw2 : IntKind.i64.wrap ((st.length : Int) + 1 + ((partsV st).length : Int)) = (st.length : Int) + 1 + ((partsV st).length : Int) := by rw [IntKind.wrap_i64]; omega
                have HPT := Aside0.mk (parts_walk ta ti A c st w7.drew (Kd.C_below HST.out HB.out.drew) hc3 (by omega) hg3)
                have HZ0 := Aside0.mk ha0
                have HZ1 := Aside0.mk ha1
                have HZ2 := Aside0.mk ha2
                have HZ3 := Aside0.mk ha3
                have HZ4 := Aside0.mk ha4
                clear ha0 ha1 ha2 ha3 ha4 hx0 hx1 hx2 hx3 hx4 hx5 hx6 hp0 hp1 hp2 hd0 hd1 hd2 hd3 hd4 hd5 hd6 hd7 hd8
                refine wp_region_noPanic ?_
                refine wp_region_last_drew (ds := []) (S := (fun wz => Below w7.heap.size w7 wz)) (by kernel_rfl) ((Below.refl _ _).drew) (fun hHeld => ?_)
                refine wpAnyLast_take (i := 0) (oi := _) (v := .pointer (some ⟨ob, 5, none⟩)) rfl (by kernel_rfl) (by kernel_rfl) (by kernel_rfl) (by kernel_rfl) (by kernel_rfl) (fun _ _ _ h => h) (Or.inl ⟨by kernel_rfl, ?_⟩) (by assumption) ?_
                · intro wz hSw; (try dsimp only at hSw); go_simp
                try simp only [Act.put, List.setIfInBounds_toArray, List.set_cons_zero, List.set_cons_succ, List.getElem_toArray, List.getElem_cons_succ, List.getElem_cons_zero]
                refine wpAnyLast_take (i := 1) (oi := _) (v := .bool true) rfl (by kernel_rfl) (by kernel_rfl) (by kernel_rfl) (by kernel_rfl) (by kernel_rfl) (fun _ _ _ h => h) (Or.inl ⟨by kernel_rfl, ?_⟩) (by assumption) ?_
                · intro wz hSw; (try dsimp only at hSw); obtain ⟨hx0, hx1, hx2, hx3, hx4, hx5, hx6⟩ := cellsB7 (stay20 hSw HO.out); go_simp
                try simp only [Act.put, List.setIfInBounds_toArray, List.set_cons_zero, List.set_cons_succ, List.getElem_toArray, List.getElem_cons_succ, List.getElem_cons_zero]
                refine wpAnyLast_take (i := 2) (oi := _) (v := .bool true) rfl (by kernel_rfl) (by kernel_rfl) (by kernel_rfl) (by kernel_rfl) (by kernel_rfl) (fun _ _ _ h => h) (Or.inl ⟨by kernel_rfl, ?_⟩) (by assumption) ?_
                · intro wz hSw; (try dsimp only at hSw); go_simp
                try simp only [Act.put, List.setIfInBounds_toArray, List.set_cons_zero, List.set_cons_succ, List.getElem_toArray, List.getElem_cons_succ, List.getElem_cons_zero]
                refine wpAnyLast_take (i := 3) (oi := _) (v := .bool false) rfl (by kernel_rfl) (by kernel_rfl) (by kernel_rfl) (by kernel_rfl) (by kernel_rfl) (fun _ _ _ h => h) (Or.inl ⟨by kernel_rfl, ?_⟩) (by assumption) ?_
                · intro wz hSw; (try dsimp only at hSw); go_simp
                try simp only [Act.put, List.setIfInBounds_toArray, List.set_cons_zero, List.set_cons_succ, List.getElem_toArray, List.getElem_cons_succ, List.getElem_cons_zero]
                refine wpAnyLast_take (i := 4) (oi := _) (v := .bool false) rfl (by kernel_rfl) (by kernel_rfl) (by kernel_rfl) (by kernel_rfl) (by kernel_rfl) (fun _ _ _ h => h) (Or.inl ⟨by kernel_rfl, ?_⟩) (by assumption) ?_
                · intro wz hSw; (try dsimp only at hSw); go_simp
                try simp only [Act.put, List.setIfInBounds_toArray, List.set_cons_zero, List.set_cons_succ, List.getElem_toArray, List.getElem_cons_succ, List.getElem_cons_zero]
                refine wpAnyLast_take (i := 5) (oi := _) (v := .int .i64 k) rfl (by kernel_rfl) (by kernel_rfl) (by kernel_rfl) (by kernel_rfl) (by kernel_rfl) (fun _ _ _ h => h) (Or.inl ⟨by kernel_rfl, ?_⟩) (by assumption) ?_
                · intro wz hSw; (try dsimp only at hSw); go_simp
                try simp only [Act.put, List.setIfInBounds_toArray, List.set_cons_zero, List.set_cons_succ, List.getElem_toArray, List.getElem_cons_succ, List.getElem_cons_zero]
                refine wpAnyLast_take (i := 6) (oi := _) (v := .pointer (some ⟨w.heap.size, 2, none⟩)) rfl (by kernel_rfl) (by kernel_rfl) (by kernel_rfl) (by kernel_rfl) (by kernel_rfl) (fun _ _ _ h => h) (Or.inl ⟨by kernel_rfl, ?_⟩) (by assumption) ?_
                · intro wz hSw; (try dsimp only at hSw); go_simp
                try simp only [Act.put, List.setIfInBounds_toArray, List.set_cons_zero, List.set_cons_succ, List.getElem_toArray, List.getElem_cons_succ, List.getElem_cons_zero]
                refine wpAnyLast_take (i := 7) (oi := _) (v := .slice A st.length c) rfl (by kernel_rfl) (by kernel_rfl) (by kernel_rfl) (by kernel_rfl) (by kernel_rfl) (fun _ _ _ h => h) (Or.inl ⟨by kernel_rfl, ?_⟩) (by assumption) ?_
                · intro wz hSw; (try dsimp only at hSw); obtain ⟨hp0, hp1, hp2⟩ := cellsB3 (stay20 hSw HP.out); go_simp
                try simp only [Act.put, List.setIfInBounds_toArray, List.set_cons_zero, List.set_cons_succ, List.getElem_toArray, List.getElem_cons_succ, List.getElem_cons_zero]
                refine wpAnyLast_take (i := 8) (oi := _) (v := .int .i64 st.length) rfl (by kernel_rfl) (by kernel_rfl) (by kernel_rfl) (by kernel_rfl) (by kernel_rfl) (fun _ _ _ h => h) (Or.inl ⟨by kernel_rfl, ?_⟩) (by assumption) ?_
                · intro wz hSw; (try dsimp only at hSw); go_simp
                try simp only [Act.put, List.setIfInBounds_toArray, List.set_cons_zero, List.set_cons_succ, List.getElem_toArray, List.getElem_cons_succ, List.getElem_cons_zero]
                refine wpAnyLast_take (i := 9) (oi := _) (v := .int .i64 (st.length + 1)) rfl (by kernel_rfl) (by kernel_rfl) (by kernel_rfl) (by kernel_rfl) (by kernel_rfl) (fun _ _ _ h => h) (Or.inl ⟨by kernel_rfl, ?_⟩) (by assumption) ?_
                · intro wz hSw; (try dsimp only at hSw); go_simp
                try simp only [Act.put, List.setIfInBounds_toArray, List.set_cons_zero, List.set_cons_succ, List.getElem_toArray, List.getElem_cons_succ, List.getElem_cons_zero]
                refine wpAnyLast_take (i := 10) (oi := _) (v := .agg #[.int .u64 ta, .int .u64 ti, .slice A st.length c]) rfl (by kernel_rfl) (by kernel_rfl) (by kernel_rfl) (by kernel_rfl) (by kernel_rfl) (fun _ _ _ h => h) (Or.inl ⟨by kernel_rfl, ?_⟩) (by assumption) ?_
                · intro wz hSw; (try dsimp only at hSw); obtain ⟨hp0, hp1, hp2⟩ := cellsB3 (stay20 hSw HP.out); go_simp
                try simp only [Act.put, List.setIfInBounds_toArray, List.set_cons_zero, List.set_cons_succ, List.getElem_toArray, List.getElem_cons_succ, List.getElem_cons_zero]
                refine wpAnyLast_ready (rs := [11]) (by kernel_rfl) (by simp) ?_
                refine AllReadyL.cons (o := _) rfl (by decide) (fun K hK => ?_) AllReadyL.nil
                go_simp; go_at_call 17; refine (HPT.out).mono ?_; rintro e w8 ⟨v8, rfl, hR8, hb8⟩; obtain ⟨A9, c9, rfl, hc9, hC9⟩ := Sl.of_R hR8; clear hR8 hC9; go_simp
                have HB8 := Aside0.mk (((Below.refl _ _).drew).trans hb8 : Below w7.heap.size w7 w8)
                clear hb8 hHeld
                have HD8 := Aside0.mk (HD.out.below HB8.out)
                have HP8 := Aside0.mk (stay20 HB8.out HP.out)
                have HBW8 := Aside0.mk (HB.out.trans ((HB8.out).mono HB.out.size))
                obtain ⟨hd0, hd1, hd2, hd3, hd4, hd5, hd6, hd7, hd8⟩ := cellsB9 HD8.out.cells
                have ha0 := (HB8.out.cell (World.block_lt_of_cell? _ _ HZ0.out)).trans HZ0.out
                have ha1 := (HB8.out.cell (World.block_lt_of_cell? _ _ HZ1.out)).trans HZ1.out
                have ha2 := (HB8.out.cell (World.block_lt_of_cell? _ _ HZ2.out)).trans HZ2.out
                have ha3 := (HB8.out.cell (World.block_lt_of_cell? _ _ HZ3.out)).trans HZ3.out
                have ha4 := (HB8.out.cell (World.block_lt_of_cell? _ _ HZ4.out)).trans HZ4.out
                refine hK.out _ _ HB8.out (fun hHeld8 => ?_)
                clear hK K
                try simp only [Act.put, List.setIfInBounds_toArray, List.set_cons_zero, List.set_cons_succ, List.getElem_toArray, List.getElem_cons_succ, List.getElem_cons_zero]
                refine wpAnyLast_take (i := 12) (oi := _) (v := .int .i64 (partsV st).length) rfl (by kernel_rfl) (by kernel_rfl) (by kernel_rfl) (by kernel_rfl) (by kernel_rfl) (fun _ _ _ h => h) (Or.inl ⟨by kernel_rfl, ?_⟩) (by assumption) ?_
                · intro wz hSw; (try dsimp only at hSw); go_simp
                try simp only [Act.put, List.setIfInBounds_toArray, List.set_cons_zero, List.set_cons_succ, List.getElem_toArray, List.getElem_cons_succ, List.getElem_cons_zero]
                refine wpAnyLast_take (i := 13) (oi := _) (v := .int .i64 (st.length + 1 + (partsV st).length)) rfl (by kernel_rfl) (by kernel_rfl) (by kernel_rfl) (by kernel_rfl) (by kernel_rfl) (fun _ _ _ h => h) (Or.inl ⟨by kernel_rfl, ?_⟩) (by assumption) ?_
                · intro wz hSw; (try dsimp only at hSw); go_simp
                try simp only [Act.put, List.setIfInBounds_toArray, List.set_cons_zero, List.set_cons_succ, List.getElem_toArray, List.getElem_cons_succ, List.getElem_cons_zero]
                refine wpAnyLast_take (i := 14) (oi := _) (v := .bool false) rfl (by kernel_rfl) (by kernel_rfl) (by kernel_rfl) (by kernel_rfl) (by kernel_rfl) (fun _ _ _ h => h) (Or.inl ⟨by kernel_rfl, ?_⟩) (by assumption) ?_
                · intro wz hSw; (try dsimp only at hSw); go_simp
                try simp only [Act.put, List.setIfInBounds_toArray, List.set_cons_zero, List.set_cons_succ, List.getElem_toArray, List.getElem_cons_succ, List.getElem_cons_zero]
                refine wpAnyLast_take (i := 15) (oi := _) (v := .bool false) rfl (by kernel_rfl) (by kernel_rfl) (by kernel_rfl) (by kernel_rfl) (by kernel_rfl) (fun _ _ _ h => h) (Or.inl ⟨by kernel_rfl, ?_⟩) (by assumption) ?_
                · intro wz hSw; (try dsimp only at hSw); go_simp
                try simp only [Act.put, List.setIfInBounds_toArray, List.set_cons_zero, List.set_cons_succ, List.getElem_toArray, List.getElem_cons_succ, List.getElem_cons_zero]
                refine wpAnyLast_take (i := 16) (oi := _) (v := .bool false) rfl (by kernel_rfl) (by kernel_rfl) (by kernel_rfl) (by kernel_rfl) (by kernel_rfl) (fun _ _ _ h => h) (Or.inl ⟨by kernel_rfl, ?_⟩) (by assumption) ?_
                · intro wz hSw; (try dsimp only at hSw); go_simp
                try simp only [Act.put, List.setIfInBounds_toArray, List.set_cons_zero, List.set_cons_succ, List.getElem_toArray, List.getElem_cons_succ, List.getElem_cons_zero]
                refine wpAnyLast_take (i := 17) (oi := _) (v := .bool false) rfl (by kernel_rfl) (by kernel_rfl) (by kernel_rfl) (by kernel_rfl) (by kernel_rfl) (fun _ _ _ h => h) (Or.inl ⟨by kernel_rfl, ?_⟩) (by assumption) ?_
                · intro wz hSw; (try dsimp only at hSw); go_simp
                try simp only [Act.put, List.setIfInBounds_toArray, List.set_cons_zero, List.set_cons_succ, List.getElem_toArray, List.getElem_cons_succ, List.getElem_cons_zero]
                refine wpAnyLast_take (i := 18) (oi := _) (v := .pointer (some ⟨ob, 5, none⟩)) rfl (by kernel_rfl) (by kernel_rfl) (by kernel_rfl) (by kernel_rfl) (by kernel_rfl) (fun _ _ _ h => h) (Or.inl ⟨by kernel_rfl, ?_⟩) (by assumption) ?_
                · intro wz hSw; (try dsimp only at hSw); go_simp
                try simp only [Act.put, List.setIfInBounds_toArray, List.set_cons_zero, List.set_cons_succ, List.getElem_toArray, List.getElem_cons_succ, List.getElem_cons_zero]
                refine wpAnyLast_take (i := 19) (oi := _) (v := .bool true) rfl (by kernel_rfl) (by kernel_rfl) (by kernel_rfl) (by kernel_rfl) (by kernel_rfl) (fun _ _ _ h => h) (Or.inl ⟨by kernel_rfl, ?_⟩) (by assumption) ?_
                · intro wz hSw; (try dsimp only at hSw); obtain ⟨hx0, hx1, hx2, hx3, hx4, hx5, hx6⟩ := cellsB7 (stay20 hSw HO.out); go_simp
                try simp only [Act.put, List.setIfInBounds_toArray, List.set_cons_zero, List.set_cons_succ, List.getElem_toArray, List.getElem_cons_succ, List.getElem_cons_zero]
                refine wpAnyLast_take (i := 20) (oi := _) (v := .bool false) rfl (by kernel_rfl) (by kernel_rfl) (by kernel_rfl) (by kernel_rfl) (by kernel_rfl) (fun _ _ _ h => h) (Or.inl ⟨by kernel_rfl, ?_⟩) (by assumption) ?_
                · intro wz hSw; (try dsimp only at hSw); go_simp
                try simp only [Act.put, List.setIfInBounds_toArray, List.set_cons_zero, List.set_cons_succ, List.getElem_toArray, List.getElem_cons_succ, List.getElem_cons_zero]
                refine wpAnyLast_take (i := 21) (oi := _) (v := .bool false) rfl (by kernel_rfl) (by kernel_rfl) (by kernel_rfl) (by kernel_rfl) (by kernel_rfl) (fun _ _ _ h => h) (Or.inl ⟨by kernel_rfl, ?_⟩) (by assumption) ?_
                · intro wz hSw; (try dsimp only at hSw); go_simp
                try simp only [Act.put, List.setIfInBounds_toArray, List.set_cons_zero, List.set_cons_succ, List.getElem_toArray, List.getElem_cons_succ, List.getElem_cons_zero]
                refine wpAnyLast_take (i := 22) (oi := _) (v := undef) rfl (by kernel_rfl) (by kernel_rfl) (by kernel_rfl) (by kernel_rfl) (by kernel_rfl) (fun _ _ _ h => h) (Or.inr ⟨by kernel_rfl, rfl⟩) (by assumption) ?_
                try simp only [Act.put, List.setIfInBounds_toArray, List.set_cons_zero, List.set_cons_succ, List.getElem_toArray, List.getElem_cons_succ, List.getElem_cons_zero]
                refine wpAnyLast_take (i := 23) (oi := _) (v := undef) rfl (by kernel_rfl) (by kernel_rfl) (by kernel_rfl) (by kernel_rfl) (by kernel_rfl) (fun _ _ _ h => h) (Or.inr ⟨by kernel_rfl, rfl⟩) (by assumption) ?_
                try simp only [Act.put, List.setIfInBounds_toArray, List.set_cons_zero, List.set_cons_succ, List.getElem_toArray, List.getElem_cons_succ, List.getElem_cons_zero]
                refine wpAnyLast_take (i := 24) (oi := _) (v := .bool false) rfl (by kernel_rfl) (by kernel_rfl) (by kernel_rfl) (by kernel_rfl) (by kernel_rfl) (fun _ _ _ h => h) (Or.inl ⟨by kernel_rfl, ?_⟩) (by assumption) ?_
                · intro wz hSw; (try dsimp only at hSw); go_simp
                try simp only [Act.put, List.setIfInBounds_toArray, List.set_cons_zero, List.set_cons_succ, List.getElem_toArray, List.getElem_cons_succ, List.getElem_cons_zero]
                refine wpAnyLast_take (i := 25) (oi := _) (v := .bool false) rfl (by kernel_rfl) (by kernel_rfl) (by kernel_rfl) (by kernel_rfl) (by kernel_rfl) (fun _ _ _ h => h) (Or.inl ⟨by kernel_rfl, ?_⟩) (by assumption) ?_
                · intro wz hSw; (try dsimp only at hSw); go_simp
                try simp only [Act.put, List.setIfInBounds_toArray, List.set_cons_zero, List.set_cons_succ, List.getElem_toArray, List.getElem_cons_succ, List.getElem_cons_zero]
                refine wpAnyLast_done (by kernel_rfl) ?_ _
                refine NoPanic.normal ?_
                clear hHeld8 hask2 hw1 hw2 HD HP HB HZ0 HZ1 HZ2 HZ3 HZ4
                go_upto_region 32 with (fail)
                have HC := Aside0.mk (HD8.out.hear (HDI.out.ok HM.out hg3) er va ve fo co w8.drew ((Below.refl _ _).drew))
                have HDN := Aside0.mk (hear_di HM.out HDI.out er va ve fo co)
                have HCN := Aside0.mk (show CI ta ti st (hearV d er va ve fo co) false true co k from by have := ci_dec HM.out HDI.out HCI.out HPH.out er va ve fo co; rw [decide_eq_true HE.out, Bool.true_and] at this; exact this)
                have HA0 := Aside0.mk ha0
                have HA1 := Aside0.mk ha1
                have HA2 := Aside0.mk ha2
                have HA3 := Aside0.mk ha3
                have HA4 := Aside0.mk ha4
                clear ha0 ha1 ha2 ha3 ha4 hd0 hd1 hd2 hd3 hd4 hd5 hd6 hd7 hd8
                refine wp_region_noPanic ?_
                refine wp_region_last_drew (ds := [6]) (S := (fun wz => Below w8.heap.size w8 wz)) (by kernel_rfl) ((Below.refl _ _).drew) (fun hHeld => ?_)
                refine wpAnyLast_take (i := 1) (oi := _) (v := .slice (some ⟨ab, ao, none⟩) l.length cB) rfl (by kernel_rfl) (by kernel_rfl) (by kernel_rfl) (by kernel_rfl) (by kernel_rfl) (fun _ _ _ h => h) (Or.inl ⟨by kernel_rfl, ?_⟩) (by assumption) ?_
                · intro wz hSw; (try dsimp only at hSw); go_simp
                try simp only [Act.put, List.setIfInBounds_toArray, List.set_cons_zero, List.set_cons_succ, List.getElem_toArray, List.getElem_cons_succ, List.getElem_cons_zero]
                refine wpAnyLast_take (i := 2) (oi := _) (v := .int .i64 jj) rfl (by kernel_rfl) (by kernel_rfl) (by kernel_rfl) (by kernel_rfl) (by kernel_rfl) (fun _ _ _ h => h) (Or.inl ⟨by kernel_rfl, ?_⟩) (by assumption) ?_
                · intro wz hSw; (try dsimp only at hSw); go_simp
                try simp only [Act.put, List.setIfInBounds_toArray, List.set_cons_zero, List.set_cons_succ, List.getElem_toArray, List.getElem_cons_succ, List.getElem_cons_zero]
                refine wpAnyLast_take (i := 3) (oi := _) (v := .pointer (some ⟨ab, ao + jj * 5, none⟩)) rfl (by kernel_rfl) (by kernel_rfl) (by kernel_rfl) (by kernel_rfl) (by kernel_rfl) (fun _ _ _ h => h) (Or.inl ⟨by kernel_rfl, ?_⟩) (by assumption) ?_
                · intro wz hSw; (try dsimp only at hSw); go_simp
                try simp only [Act.put, List.setIfInBounds_toArray, List.set_cons_zero, List.set_cons_succ, List.getElem_toArray, List.getElem_cons_succ, List.getElem_cons_zero]
                refine wpAnyLast_take (i := 0) (oi := _) (v := .agg #[.int .u64 d.ta, .int .u64 d.ti, .slice A5 d.st.length c5, .int .i64 d.ph, .int .i64 d.ap, .bool d.fa, .bool d.og, .bool d.cm, .slice B5 d.sw.length e5]) rfl (by kernel_rfl) (by kernel_rfl) (by kernel_rfl) (by kernel_rfl) (by kernel_rfl) (fun _ _ _ h => h) (Or.inl ⟨by kernel_rfl, ?_⟩) (by assumption) ?_
                · intro wz hSw; (try dsimp only at hSw); obtain ⟨hd0, hd1, hd2, hd3, hd4, hd5, hd6, hd7, hd8⟩ := cellsB9 (HD8.out.below hSw).cells; go_simp
                try simp only [Act.put, List.setIfInBounds_toArray, List.set_cons_zero, List.set_cons_succ, List.getElem_toArray, List.getElem_cons_succ, List.getElem_cons_zero]
                refine wpAnyLast_take (i := 4) (oi := _) (v := .agg #[.int .i64 er, .string va, .int .u64 ve, .bool fo, .bool co]) rfl (by kernel_rfl) (by kernel_rfl) (by kernel_rfl) (by kernel_rfl) (by kernel_rfl) (fun _ _ _ h => h) (Or.inl ⟨by kernel_rfl, ?_⟩) (by assumption) ?_
                · intro wz hSw; (try dsimp only at hSw); have hb0 := (hSw.cell (World.block_lt_of_cell? _ _ HA0.out)).trans HA0.out; have hb1 := (hSw.cell (World.block_lt_of_cell? _ _ HA1.out)).trans HA1.out; have hb2 := (hSw.cell (World.block_lt_of_cell? _ _ HA2.out)).trans HA2.out; have hb3 := (hSw.cell (World.block_lt_of_cell? _ _ HA3.out)).trans HA3.out; have hb4 := (hSw.cell (World.block_lt_of_cell? _ _ HA4.out)).trans HA4.out; go_simp
                try simp only [Act.put, List.setIfInBounds_toArray, List.set_cons_zero, List.set_cons_succ, List.getElem_toArray, List.getElem_cons_succ, List.getElem_cons_zero]
                refine wpAnyLast_ready (rs := [5]) (by kernel_rfl) (by simp) ?_
                refine AllReadyL.cons (o := _) rfl (by decide) (fun K hK => ?_) AllReadyL.nil
                go_simp; go_at_call 14; refine (HC.out).mono ?_; rintro e w5 ⟨B6, e6, rfl, hb5, ho5⟩; go_simp
                have HB5 := Aside0.mk (((Below.refl _ _).drew).trans hb5 : Below w8.heap.size w8 w5)
                have HO5 := Aside0.mk ho5
                clear ho5 hb5 hHeld
                refine hK.out _ _ HB5.out (fun hHeld5 => ?_)
                clear hK K
                try simp only [Act.put, List.setIfInBounds_toArray, List.set_cons_zero, List.set_cons_succ, List.getElem_toArray, List.getElem_cons_succ, List.getElem_cons_zero]
                obtain ⟨hd0, hd1, hd2, hd3, hd4, hd5, hd6, hd7, hd8⟩ := cellsB9 (HD8.out.below HB5.out).cells
                obtain ⟨hf0, hf1, hf2, hf3, hf4, hf5, hf6, hf7, hf8⟩ := frozB9 (HD8.out.below HB5.out).cells
                refine wpAnyLast_ready (rs := [6]) (by kernel_rfl) (by simp) ?_
                refine AllReadyL.cons_last (o := _) rfl (by decide) (fun K hK => ?_) AllReadyL.nil
                go_simp
                refine hK.out _ _ ?_
                clear hK K hHeld5
                try simp only [Act.put, List.setIfInBounds_toArray, List.set_cons_zero, List.set_cons_succ, List.getElem_toArray, List.getElem_cons_succ, List.getElem_cons_zero]
                refine wpAnyLast_done (by kernel_rfl) ?_ _
                refine NoPanic.normal ?_
                have HD6 := Aside0.mk (HD8.out.put (hear_st d er va ve fo co) HB5.out HO5.out)
                have HP6 := Aside0.mk (putB9_other (b := w.heap.size) (g := q) (by omega) (stay20 HB5.out HP8.out) (.int .u64 (hearV d er va ve fo co).ta) (.int .u64 (hearV d er va ve fo co).ti) (.slice A5 (hearV d er va ve fo co).st.length c5) (.int .i64 (hearV d er va ve fo co).ph) (.int .i64 (hearV d er va ve fo co).ap) (.bool (hearV d er va ve fo co).fa) (.bool (hearV d er va ve fo co).og) (.bool (hearV d er va ve fo co).cm) (.slice B6 (hearV d er va ve fo co).sw.length e6))
                have HB6 := Aside0.mk (putB9_below (HBW8.out.trans (HB5.out.mono HBW8.out.size)) hq (.int .u64 (hearV d er va ve fo co).ta) (.int .u64 (hearV d er va ve fo co).ti) (.slice A5 (hearV d er va ve fo co).st.length c5) (.int .i64 (hearV d er va ve fo co).ph) (.int .i64 (hearV d er va ve fo co).ap) (.bool (hearV d er va ve fo co).fa) (.bool (hearV d er va ve fo co).og) (.bool (hearV d er va ve fo co).cm) (.slice B6 (hearV d er va ve fo co).sw.length e6))
                go_upto_region 11 with (fail)
                change Code.wp _ _ _ _ (putB9 w5 q (.int .u64 (hearV d er va ve fo co).ta) (.int .u64 (hearV d er va ve fo co).ti) (.slice A5 (hearV d er va ve fo co).st.length c5) (.int .i64 (hearV d er va ve fo co).ph) (.int .i64 (hearV d er va ve fo co).ap) (.bool (hearV d er va ve fo co).fa) (.bool (hearV d er va ve fo co).og) (.bool (hearV d er va ve fo co).cm) (.slice B6 (hearV d er va ve fo co).sw.length e6))
                generalize (putB9 w5 q (.int .u64 (hearV d er va ve fo co).ta) (.int .u64 (hearV d er va ve fo co).ti) (.slice A5 (hearV d er va ve fo co).st.length c5) (.int .i64 (hearV d er va ve fo co).ph) (.int .i64 (hearV d er va ve fo co).ap) (.bool (hearV d er va ve fo co).fa) (.bool (hearV d er va ve fo co).og) (.bool (hearV d er va ve fo co).cm) (.slice B6 (hearV d er va ve fo co).sw.length e6)) = w6 at *
                clear hd0 hd1 hd2 hd3 hd4 hd5 hd6 hd7 hd8 hf0 hf1 hf2 hf3 hf4 hf5 hf6 hf7 hf8 HO5 HB5 HC
                go_wp2
                go_roundg (l.length - (jj + 1))
                case measure => omega
                case rel => exact ⟨jj + 1, hearV d er va ve fo co, A5, c5, B6, e6, false, true, co, k, by omega, by omega, rfl, rfl, rfl, by go_num, by go_num, HCN, HDN, HD6, HP6, HB6⟩
              · have heb : (er == 0) = false := beq_eq_false_iff_ne.2 he
                have HE := Aside0.mk he
                clear he
                have hw1 : IntKind.i64.wrap ((st.length : Int) + 1) = (st.length : Int) + 1 := by rw [IntKind.wrap_i64]; omega
                have hw2 : IntKind.i64.wrap ((st.length : Int) + 1 + ((partsV st).length : Int)) = (st.length : Int) + 1 + ((partsV st).length : Int) := by rw [IntKind.wrap_i64]; omega
                have HPT := Aside0.mk (parts_walk ta ti A c st w7.drew (Kd.C_below HST.out HB.out.drew) hc3 (by omega) hg3)
                have HZ0 := Aside0.mk ha0
                have HZ1 := Aside0.mk ha1
                have HZ2 := Aside0.mk ha2
                have HZ3 := Aside0.mk ha3
                have HZ4 := Aside0.mk ha4
                clear ha0 ha1 ha2 ha3 ha4 hx0 hx1 hx2 hx3 hx4 hx5 hx6 hp0 hp1 hp2 hd0 hd1 hd2 hd3 hd4 hd5 hd6 hd7 hd8
                refine wp_region_noPanic ?_
                refine wp_region_last_drew (ds := []) (S := (fun wz => Below w7.heap.size w7 wz)) (by kernel_rfl) ((Below.refl _ _).drew) (fun hHeld => ?_)
                refine wpAnyLast_take (i := 0) (oi := _) (v := .pointer (some ⟨ob, 5, none⟩)) rfl (by kernel_rfl) (by kernel_rfl) (by kernel_rfl) (by kernel_rfl) (by kernel_rfl) (fun _ _ _ h => h) (Or.inl ⟨by kernel_rfl, ?_⟩) (by assumption) ?_
                · intro wz hSw; (try dsimp only at hSw); go_simp
                try simp only [Act.put, List.setIfInBounds_toArray, List.set_cons_zero, List.set_cons_succ, List.getElem_toArray, List.getElem_cons_succ, List.getElem_cons_zero]
                refine wpAnyLast_take (i := 1) (oi := _) (v := .bool true) rfl (by kernel_rfl) (by kernel_rfl) (by kernel_rfl) (by kernel_rfl) (by kernel_rfl) (fun _ _ _ h => h) (Or.inl ⟨by kernel_rfl, ?_⟩) (by assumption) ?_
                · intro wz hSw; (try dsimp only at hSw); obtain ⟨hx0, hx1, hx2, hx3, hx4, hx5, hx6⟩ := cellsB7 (stay20 hSw HO.out); go_simp
                try simp only [Act.put, List.setIfInBounds_toArray, List.set_cons_zero, List.set_cons_succ, List.getElem_toArray, List.getElem_cons_succ, List.getElem_cons_zero]
                refine wpAnyLast_take (i := 2) (oi := _) (v := .bool true) rfl (by kernel_rfl) (by kernel_rfl) (by kernel_rfl) (by kernel_rfl) (by kernel_rfl) (fun _ _ _ h => h) (Or.inl ⟨by kernel_rfl, ?_⟩) (by assumption) ?_
                · intro wz hSw; (try dsimp only at hSw); go_simp
                try simp only [Act.put, List.setIfInBounds_toArray, List.set_cons_zero, List.set_cons_succ, List.getElem_toArray, List.getElem_cons_succ, List.getElem_cons_zero]
                refine wpAnyLast_take (i := 3) (oi := _) (v := .bool false) rfl (by kernel_rfl) (by kernel_rfl) (by kernel_rfl) (by kernel_rfl) (by kernel_rfl) (fun _ _ _ h => h) (Or.inl ⟨by kernel_rfl, ?_⟩) (by assumption) ?_
                · intro wz hSw; (try dsimp only at hSw); go_simp
                try simp only [Act.put, List.setIfInBounds_toArray, List.set_cons_zero, List.set_cons_succ, List.getElem_toArray, List.getElem_cons_succ, List.getElem_cons_zero]
                refine wpAnyLast_take (i := 4) (oi := _) (v := .bool false) rfl (by kernel_rfl) (by kernel_rfl) (by kernel_rfl) (by kernel_rfl) (by kernel_rfl) (fun _ _ _ h => h) (Or.inl ⟨by kernel_rfl, ?_⟩) (by assumption) ?_
                · intro wz hSw; (try dsimp only at hSw); go_simp
                try simp only [Act.put, List.setIfInBounds_toArray, List.set_cons_zero, List.set_cons_succ, List.getElem_toArray, List.getElem_cons_succ, List.getElem_cons_zero]
                refine wpAnyLast_take (i := 5) (oi := _) (v := .int .i64 k) rfl (by kernel_rfl) (by kernel_rfl) (by kernel_rfl) (by kernel_rfl) (by kernel_rfl) (fun _ _ _ h => h) (Or.inl ⟨by kernel_rfl, ?_⟩) (by assumption) ?_
                · intro wz hSw; (try dsimp only at hSw); go_simp
                try simp only [Act.put, List.setIfInBounds_toArray, List.set_cons_zero, List.set_cons_succ, List.getElem_toArray, List.getElem_cons_succ, List.getElem_cons_zero]
                refine wpAnyLast_take (i := 6) (oi := _) (v := .pointer (some ⟨w.heap.size, 2, none⟩)) rfl (by kernel_rfl) (by kernel_rfl) (by kernel_rfl) (by kernel_rfl) (by kernel_rfl) (fun _ _ _ h => h) (Or.inl ⟨by kernel_rfl, ?_⟩) (by assumption) ?_
                · intro wz hSw; (try dsimp only at hSw); go_simp
                try simp only [Act.put, List.setIfInBounds_toArray, List.set_cons_zero, List.set_cons_succ, List.getElem_toArray, List.getElem_cons_succ, List.getElem_cons_zero]
                refine wpAnyLast_take (i := 7) (oi := _) (v := .slice A st.length c) rfl (by kernel_rfl) (by kernel_rfl) (by kernel_rfl) (by kernel_rfl) (by kernel_rfl) (fun _ _ _ h => h) (Or.inl ⟨by kernel_rfl, ?_⟩) (by assumption) ?_
                · intro wz hSw; (try dsimp only at hSw); obtain ⟨hp0, hp1, hp2⟩ := cellsB3 (stay20 hSw HP.out); go_simp
                try simp only [Act.put, List.setIfInBounds_toArray, List.set_cons_zero, List.set_cons_succ, List.getElem_toArray, List.getElem_cons_succ, List.getElem_cons_zero]
                refine wpAnyLast_take (i := 8) (oi := _) (v := .int .i64 st.length) rfl (by kernel_rfl) (by kernel_rfl) (by kernel_rfl) (by kernel_rfl) (by kernel_rfl) (fun _ _ _ h => h) (Or.inl ⟨by kernel_rfl, ?_⟩) (by assumption) ?_
                · intro wz hSw; (try dsimp only at hSw); go_simp
                try simp only [Act.put, List.setIfInBounds_toArray, List.set_cons_zero, List.set_cons_succ, List.getElem_toArray, List.getElem_cons_succ, List.getElem_cons_zero]
                refine wpAnyLast_take (i := 9) (oi := _) (v := .int .i64 (st.length + 1)) rfl (by kernel_rfl) (by kernel_rfl) (by kernel_rfl) (by kernel_rfl) (by kernel_rfl) (fun _ _ _ h => h) (Or.inl ⟨by kernel_rfl, ?_⟩) (by assumption) ?_
                · intro wz hSw; (try dsimp only at hSw); go_simp
                try simp only [Act.put, List.setIfInBounds_toArray, List.set_cons_zero, List.set_cons_succ, List.getElem_toArray, List.getElem_cons_succ, List.getElem_cons_zero]
                refine wpAnyLast_take (i := 10) (oi := _) (v := .agg #[.int .u64 ta, .int .u64 ti, .slice A st.length c]) rfl (by kernel_rfl) (by kernel_rfl) (by kernel_rfl) (by kernel_rfl) (by kernel_rfl) (fun _ _ _ h => h) (Or.inl ⟨by kernel_rfl, ?_⟩) (by assumption) ?_
                · intro wz hSw; (try dsimp only at hSw); obtain ⟨hp0, hp1, hp2⟩ := cellsB3 (stay20 hSw HP.out); go_simp
                try simp only [Act.put, List.setIfInBounds_toArray, List.set_cons_zero, List.set_cons_succ, List.getElem_toArray, List.getElem_cons_succ, List.getElem_cons_zero]
                refine wpAnyLast_ready (rs := [11]) (by kernel_rfl) (by simp) ?_
                refine AllReadyL.cons (o := _) rfl (by decide) (fun K hK => ?_) AllReadyL.nil
                go_simp; go_at_call 17; refine (HPT.out).mono ?_; rintro e w8 ⟨v8, rfl, hR8, hb8⟩; obtain ⟨A9, c9, rfl, hc9, hC9⟩ := Sl.of_R hR8; clear hR8 hC9; go_simp
                have HB8 := Aside0.mk (((Below.refl _ _).drew).trans hb8 : Below w7.heap.size w7 w8)
                clear hb8 hHeld
                have HD8 := Aside0.mk (HD.out.below HB8.out)
                have HP8 := Aside0.mk (stay20 HB8.out HP.out)
                have HBW8 := Aside0.mk (HB.out.trans ((HB8.out).mono HB.out.size))
                obtain ⟨hd0, hd1, hd2, hd3, hd4, hd5, hd6, hd7, hd8⟩ := cellsB9 HD8.out.cells
                have ha0 := (HB8.out.cell (World.block_lt_of_cell? _ _ HZ0.out)).trans HZ0.out
                have ha1 := (HB8.out.cell (World.block_lt_of_cell? _ _ HZ1.out)).trans HZ1.out
                have ha2 := (HB8.out.cell (World.block_lt_of_cell? _ _ HZ2.out)).trans HZ2.out
                have ha3 := (HB8.out.cell (World.block_lt_of_cell? _ _ HZ3.out)).trans HZ3.out
                have ha4 := (HB8.out.cell (World.block_lt_of_cell? _ _ HZ4.out)).trans HZ4.out
                refine hK.out _ _ HB8.out (fun hHeld8 => ?_)
                clear hK K
                try simp only [Act.put, List.setIfInBounds_toArray, List.set_cons_zero, List.set_cons_succ, List.getElem_toArray, List.getElem_cons_succ, List.getElem_cons_zero]
                refine wpAnyLast_take (i := 12) (oi := _) (v := .int .i64 (partsV st).length) rfl (by kernel_rfl) (by kernel_rfl) (by kernel_rfl) (by kernel_rfl) (by kernel_rfl) (fun _ _ _ h => h) (Or.inl ⟨by kernel_rfl, ?_⟩) (by assumption) ?_
                · intro wz hSw; (try dsimp only at hSw); go_simp
                try simp only [Act.put, List.setIfInBounds_toArray, List.set_cons_zero, List.set_cons_succ, List.getElem_toArray, List.getElem_cons_succ, List.getElem_cons_zero]
                refine wpAnyLast_take (i := 13) (oi := _) (v := .int .i64 (st.length + 1 + (partsV st).length)) rfl (by kernel_rfl) (by kernel_rfl) (by kernel_rfl) (by kernel_rfl) (by kernel_rfl) (fun _ _ _ h => h) (Or.inl ⟨by kernel_rfl, ?_⟩) (by assumption) ?_
                · intro wz hSw; (try dsimp only at hSw); go_simp
                try simp only [Act.put, List.setIfInBounds_toArray, List.set_cons_zero, List.set_cons_succ, List.getElem_toArray, List.getElem_cons_succ, List.getElem_cons_zero]
                refine wpAnyLast_take (i := 14) (oi := _) (v := .bool false) rfl (by kernel_rfl) (by kernel_rfl) (by kernel_rfl) (by kernel_rfl) (by kernel_rfl) (fun _ _ _ h => h) (Or.inl ⟨by kernel_rfl, ?_⟩) (by assumption) ?_
                · intro wz hSw; (try dsimp only at hSw); go_simp
                try simp only [Act.put, List.setIfInBounds_toArray, List.set_cons_zero, List.set_cons_succ, List.getElem_toArray, List.getElem_cons_succ, List.getElem_cons_zero]
                refine wpAnyLast_take (i := 15) (oi := _) (v := .bool false) rfl (by kernel_rfl) (by kernel_rfl) (by kernel_rfl) (by kernel_rfl) (by kernel_rfl) (fun _ _ _ h => h) (Or.inl ⟨by kernel_rfl, ?_⟩) (by assumption) ?_
                · intro wz hSw; (try dsimp only at hSw); go_simp
                try simp only [Act.put, List.setIfInBounds_toArray, List.set_cons_zero, List.set_cons_succ, List.getElem_toArray, List.getElem_cons_succ, List.getElem_cons_zero]
                refine wpAnyLast_take (i := 16) (oi := _) (v := .bool false) rfl (by kernel_rfl) (by kernel_rfl) (by kernel_rfl) (by kernel_rfl) (by kernel_rfl) (fun _ _ _ h => h) (Or.inl ⟨by kernel_rfl, ?_⟩) (by assumption) ?_
                · intro wz hSw; (try dsimp only at hSw); go_simp
                try simp only [Act.put, List.setIfInBounds_toArray, List.set_cons_zero, List.set_cons_succ, List.getElem_toArray, List.getElem_cons_succ, List.getElem_cons_zero]
                refine wpAnyLast_take (i := 17) (oi := _) (v := .bool false) rfl (by kernel_rfl) (by kernel_rfl) (by kernel_rfl) (by kernel_rfl) (by kernel_rfl) (fun _ _ _ h => h) (Or.inl ⟨by kernel_rfl, ?_⟩) (by assumption) ?_
                · intro wz hSw; (try dsimp only at hSw); go_simp
                try simp only [Act.put, List.setIfInBounds_toArray, List.set_cons_zero, List.set_cons_succ, List.getElem_toArray, List.getElem_cons_succ, List.getElem_cons_zero]
                refine wpAnyLast_take (i := 18) (oi := _) (v := .pointer (some ⟨ob, 5, none⟩)) rfl (by kernel_rfl) (by kernel_rfl) (by kernel_rfl) (by kernel_rfl) (by kernel_rfl) (fun _ _ _ h => h) (Or.inl ⟨by kernel_rfl, ?_⟩) (by assumption) ?_
                · intro wz hSw; (try dsimp only at hSw); go_simp
                try simp only [Act.put, List.setIfInBounds_toArray, List.set_cons_zero, List.set_cons_succ, List.getElem_toArray, List.getElem_cons_succ, List.getElem_cons_zero]
                refine wpAnyLast_take (i := 19) (oi := _) (v := .bool true) rfl (by kernel_rfl) (by kernel_rfl) (by kernel_rfl) (by kernel_rfl) (by kernel_rfl) (fun _ _ _ h => h) (Or.inl ⟨by kernel_rfl, ?_⟩) (by assumption) ?_
                · intro wz hSw; (try dsimp only at hSw); obtain ⟨hx0, hx1, hx2, hx3, hx4, hx5, hx6⟩ := cellsB7 (stay20 hSw HO.out); go_simp
                try simp only [Act.put, List.setIfInBounds_toArray, List.set_cons_zero, List.set_cons_succ, List.getElem_toArray, List.getElem_cons_succ, List.getElem_cons_zero]
                refine wpAnyLast_take (i := 20) (oi := _) (v := .bool false) rfl (by kernel_rfl) (by kernel_rfl) (by kernel_rfl) (by kernel_rfl) (by kernel_rfl) (fun _ _ _ h => h) (Or.inl ⟨by kernel_rfl, ?_⟩) (by assumption) ?_
                · intro wz hSw; (try dsimp only at hSw); go_simp
                try simp only [Act.put, List.setIfInBounds_toArray, List.set_cons_zero, List.set_cons_succ, List.getElem_toArray, List.getElem_cons_succ, List.getElem_cons_zero]
                refine wpAnyLast_take (i := 21) (oi := _) (v := .bool false) rfl (by kernel_rfl) (by kernel_rfl) (by kernel_rfl) (by kernel_rfl) (by kernel_rfl) (fun _ _ _ h => h) (Or.inl ⟨by kernel_rfl, ?_⟩) (by assumption) ?_
                · intro wz hSw; (try dsimp only at hSw); go_simp
                try simp only [Act.put, List.setIfInBounds_toArray, List.set_cons_zero, List.set_cons_succ, List.getElem_toArray, List.getElem_cons_succ, List.getElem_cons_zero]
                refine wpAnyLast_take (i := 22) (oi := _) (v := undef) rfl (by kernel_rfl) (by kernel_rfl) (by kernel_rfl) (by kernel_rfl) (by kernel_rfl) (fun _ _ _ h => h) (Or.inr ⟨by kernel_rfl, rfl⟩) (by assumption) ?_
                try simp only [Act.put, List.setIfInBounds_toArray, List.set_cons_zero, List.set_cons_succ, List.getElem_toArray, List.getElem_cons_succ, List.getElem_cons_zero]
                refine wpAnyLast_take (i := 23) (oi := _) (v := undef) rfl (by kernel_rfl) (by kernel_rfl) (by kernel_rfl) (by kernel_rfl) (by kernel_rfl) (fun _ _ _ h => h) (Or.inr ⟨by kernel_rfl, rfl⟩) (by assumption) ?_
                try simp only [Act.put, List.setIfInBounds_toArray, List.set_cons_zero, List.set_cons_succ, List.getElem_toArray, List.getElem_cons_succ, List.getElem_cons_zero]
                refine wpAnyLast_take (i := 24) (oi := _) (v := .bool false) rfl (by kernel_rfl) (by kernel_rfl) (by kernel_rfl) (by kernel_rfl) (by kernel_rfl) (fun _ _ _ h => h) (Or.inl ⟨by kernel_rfl, ?_⟩) (by assumption) ?_
                · intro wz hSw; (try dsimp only at hSw); go_simp
                try simp only [Act.put, List.setIfInBounds_toArray, List.set_cons_zero, List.set_cons_succ, List.getElem_toArray, List.getElem_cons_succ, List.getElem_cons_zero]
                refine wpAnyLast_take (i := 25) (oi := _) (v := .bool false) rfl (by kernel_rfl) (by kernel_rfl) (by kernel_rfl) (by kernel_rfl) (by kernel_rfl) (fun _ _ _ h => h) (Or.inl ⟨by kernel_rfl, ?_⟩) (by assumption) ?_
                · intro wz hSw; (try dsimp only at hSw); go_simp
                try simp only [Act.put, List.setIfInBounds_toArray, List.set_cons_zero, List.set_cons_succ, List.getElem_toArray, List.getElem_cons_succ, List.getElem_cons_zero]
                refine wpAnyLast_done (by kernel_rfl) ?_ _
                refine NoPanic.normal ?_
                clear hHeld8 hask2 hw1 hw2 HD HP HB HZ0 HZ1 HZ2 HZ3 HZ4
                go_upto_region 32 with (fail)
                have HC := Aside0.mk (HD8.out.hear (HDI.out.ok HM.out hg3) er va ve fo co w8.drew ((Below.refl _ _).drew))
                have HDN := Aside0.mk (hear_di HM.out HDI.out er va ve fo co)
                have HCN := Aside0.mk (show CI ta ti st (hearV d er va ve fo co) false true false k from by have := ci_dec HM.out HDI.out HCI.out HPH.out er va ve fo co; rw [decide_eq_false HE.out, Bool.false_and] at this; exact this)
                have HA0 := Aside0.mk ha0
                have HA1 := Aside0.mk ha1
                have HA2 := Aside0.mk ha2
                have HA3 := Aside0.mk ha3
                have HA4 := Aside0.mk ha4
                clear ha0 ha1 ha2 ha3 ha4 hd0 hd1 hd2 hd3 hd4 hd5 hd6 hd7 hd8
                refine wp_region_noPanic ?_
                refine wp_region_last_drew (ds := [6]) (S := (fun wz => Below w8.heap.size w8 wz)) (by kernel_rfl) ((Below.refl _ _).drew) (fun hHeld => ?_)
                refine wpAnyLast_take (i := 1) (oi := _) (v := .slice (some ⟨ab, ao, none⟩) l.length cB) rfl (by kernel_rfl) (by kernel_rfl) (by kernel_rfl) (by kernel_rfl) (by kernel_rfl) (fun _ _ _ h => h) (Or.inl ⟨by kernel_rfl, ?_⟩) (by assumption) ?_
                · intro wz hSw; (try dsimp only at hSw); go_simp
                try simp only [Act.put, List.setIfInBounds_toArray, List.set_cons_zero, List.set_cons_succ, List.getElem_toArray, List.getElem_cons_succ, List.getElem_cons_zero]
                refine wpAnyLast_take (i := 2) (oi := _) (v := .int .i64 jj) rfl (by kernel_rfl) (by kernel_rfl) (by kernel_rfl) (by kernel_rfl) (by kernel_rfl) (fun _ _ _ h => h) (Or.inl ⟨by kernel_rfl, ?_⟩) (by assumption) ?_
                · intro wz hSw; (try dsimp only at hSw); go_simp
                try simp only [Act.put, List.setIfInBounds_toArray, List.set_cons_zero, List.set_cons_succ, List.getElem_toArray, List.getElem_cons_succ, List.getElem_cons_zero]
                refine wpAnyLast_take (i := 3) (oi := _) (v := .pointer (some ⟨ab, ao + jj * 5, none⟩)) rfl (by kernel_rfl) (by kernel_rfl) (by kernel_rfl) (by kernel_rfl) (by kernel_rfl) (fun _ _ _ h => h) (Or.inl ⟨by kernel_rfl, ?_⟩) (by assumption) ?_
                · intro wz hSw; (try dsimp only at hSw); go_simp
                try simp only [Act.put, List.setIfInBounds_toArray, List.set_cons_zero, List.set_cons_succ, List.getElem_toArray, List.getElem_cons_succ, List.getElem_cons_zero]
                refine wpAnyLast_take (i := 0) (oi := _) (v := .agg #[.int .u64 d.ta, .int .u64 d.ti, .slice A5 d.st.length c5, .int .i64 d.ph, .int .i64 d.ap, .bool d.fa, .bool d.og, .bool d.cm, .slice B5 d.sw.length e5]) rfl (by kernel_rfl) (by kernel_rfl) (by kernel_rfl) (by kernel_rfl) (by kernel_rfl) (fun _ _ _ h => h) (Or.inl ⟨by kernel_rfl, ?_⟩) (by assumption) ?_
                · intro wz hSw; (try dsimp only at hSw); obtain ⟨hd0, hd1, hd2, hd3, hd4, hd5, hd6, hd7, hd8⟩ := cellsB9 (HD8.out.below hSw).cells; go_simp
                try simp only [Act.put, List.setIfInBounds_toArray, List.set_cons_zero, List.set_cons_succ, List.getElem_toArray, List.getElem_cons_succ, List.getElem_cons_zero]
                refine wpAnyLast_take (i := 4) (oi := _) (v := .agg #[.int .i64 er, .string va, .int .u64 ve, .bool fo, .bool co]) rfl (by kernel_rfl) (by kernel_rfl) (by kernel_rfl) (by kernel_rfl) (by kernel_rfl) (fun _ _ _ h => h) (Or.inl ⟨by kernel_rfl, ?_⟩) (by assumption) ?_
                · intro wz hSw; (try dsimp only at hSw); have hb0 := (hSw.cell (World.block_lt_of_cell? _ _ HA0.out)).trans HA0.out; have hb1 := (hSw.cell (World.block_lt_of_cell? _ _ HA1.out)).trans HA1.out; have hb2 := (hSw.cell (World.block_lt_of_cell? _ _ HA2.out)).trans HA2.out; have hb3 := (hSw.cell (World.block_lt_of_cell? _ _ HA3.out)).trans HA3.out; have hb4 := (hSw.cell (World.block_lt_of_cell? _ _ HA4.out)).trans HA4.out; go_simp
                try simp only [Act.put, List.setIfInBounds_toArray, List.set_cons_zero, List.set_cons_succ, List.getElem_toArray, List.getElem_cons_succ, List.getElem_cons_zero]
                refine wpAnyLast_ready (rs := [5]) (by kernel_rfl) (by simp) ?_
                refine AllReadyL.cons (o := _) rfl (by decide) (fun K hK => ?_) AllReadyL.nil
                go_simp; go_at_call 14; refine (HC.out).mono ?_; rintro e w5 ⟨B6, e6, rfl, hb5, ho5⟩; go_simp
                have HB5 := Aside0.mk (((Below.refl _ _).drew).trans hb5 : Below w8.heap.size w8 w5)
                have HO5 := Aside0.mk ho5
                clear ho5 hb5 hHeld
                refine hK.out _ _ HB5.out (fun hHeld5 => ?_)
                clear hK K
                try simp only [Act.put, List.setIfInBounds_toArray, List.set_cons_zero, List.set_cons_succ, List.getElem_toArray, List.getElem_cons_succ, List.getElem_cons_zero]
                obtain ⟨hd0, hd1, hd2, hd3, hd4, hd5, hd6, hd7, hd8⟩ := cellsB9 (HD8.out.below HB5.out).cells
                obtain ⟨hf0, hf1, hf2, hf3, hf4, hf5, hf6, hf7, hf8⟩ := frozB9 (HD8.out.below HB5.out).cells
                refine wpAnyLast_ready (rs := [6]) (by kernel_rfl) (by simp) ?_
                refine AllReadyL.cons_last (o := _) rfl (by decide) (fun K hK => ?_) AllReadyL.nil
                go_simp
                refine hK.out _ _ ?_
                clear hK K hHeld5
                try simp only [Act.put, List.setIfInBounds_toArray, List.set_cons_zero, List.set_cons_succ, List.getElem_toArray, List.getElem_cons_succ, List.getElem_cons_zero]
                refine wpAnyLast_done (by kernel_rfl) ?_ _
                refine NoPanic.normal ?_
                have HD6 := Aside0.mk (HD8.out.put (hear_st d er va ve fo co) HB5.out HO5.out)
                have HP6 := Aside0.mk (putB9_other (b := w.heap.size) (g := q) (by omega) (stay20 HB5.out HP8.out) (.int .u64 (hearV d er va ve fo co).ta) (.int .u64 (hearV d er va ve fo co).ti) (.slice A5 (hearV d er va ve fo co).st.length c5) (.int .i64 (hearV d er va ve fo co).ph) (.int .i64 (hearV d er va ve fo co).ap) (.bool (hearV d er va ve fo co).fa) (.bool (hearV d er va ve fo co).og) (.bool (hearV d er va ve fo co).cm) (.slice B6 (hearV d er va ve fo co).sw.length e6))
                have HB6 := Aside0.mk (putB9_below (HBW8.out.trans (HB5.out.mono HBW8.out.size)) hq (.int .u64 (hearV d er va ve fo co).ta) (.int .u64 (hearV d er va ve fo co).ti) (.slice A5 (hearV d er va ve fo co).st.length c5) (.int .i64 (hearV d er va ve fo co).ph) (.int .i64 (hearV d er va ve fo co).ap) (.bool (hearV d er va ve fo co).fa) (.bool (hearV d er va ve fo co).og) (.bool (hearV d er va ve fo co).cm) (.slice B6 (hearV d er va ve fo co).sw.length e6))
                go_upto_region 11 with (fail)
                change Code.wp _ _ _ _ (putB9 w5 q (.int .u64 (hearV d er va ve fo co).ta) (.int .u64 (hearV d er va ve fo co).ti) (.slice A5 (hearV d er va ve fo co).st.length c5) (.int .i64 (hearV d er va ve fo co).ph) (.int .i64 (hearV d er va ve fo co).ap) (.bool (hearV d er va ve fo co).fa) (.bool (hearV d er va ve fo co).og) (.bool (hearV d er va ve fo co).cm) (.slice B6 (hearV d er va ve fo co).sw.length e6))
                generalize (putB9 w5 q (.int .u64 (hearV d er va ve fo co).ta) (.int .u64 (hearV d er va ve fo co).ti) (.slice A5 (hearV d er va ve fo co).st.length c5) (.int .i64 (hearV d er va ve fo co).ph) (.int .i64 (hearV d er va ve fo co).ap) (.bool (hearV d er va ve fo co).fa) (.bool (hearV d er va ve fo co).og) (.bool (hearV d er va ve fo co).cm) (.slice B6 (hearV d er va ve fo co).sw.length e6)) = w6 at *
                clear hd0 hd1 hd2 hd3 hd4 hd5 hd6 hd7 hd8 hf0 hf1 hf2 hf3 hf4 hf5 hf6 hf7 hf8 HO5 HB5 HC
                go_wp2
                go_roundg (l.length - (jj + 1))
                case measure => omega
                case rel => exact ⟨jj + 1, hearV d er va ve fo co, A5, c5, B6, e6, false, true, false, k, by omega, by omega, rfl, rfl, rfl, by go_num, by go_num, HCN, HDN, HD6, HP6, HB6⟩
          · have HPH := Aside0.mk hp
            subst hk hc hs
            clear hp
            have hcc : (ncm != ncm) = false := by simp
            go_upto_region 32 with (fail)
            clear hx0 hx1 hx2 hx3 hx4 hx5 hx6 hp0 hp1 hp2
            have HC := Aside0.mk (HD.out.hear (HDI.out.ok HM.out hg3) er va ve fo co w7.drew ((Below.refl _ _).drew))
            have HDN := Aside0.mk (hear_di HM.out HDI.out er va ve fo co)
            have HCN := Aside0.mk (ci_fin HM.out HDI.out HCI.out HPH.out er va ve fo co)
            have HA0 := Aside0.mk ha0
            have HA1 := Aside0.mk ha1
            have HA2 := Aside0.mk ha2
            have HA3 := Aside0.mk ha3
            have HA4 := Aside0.mk ha4
            clear ha0 ha1 ha2 ha3 ha4 hd0 hd1 hd2 hd3 hd4 hd5 hd6 hd7 hd8
            refine wp_region_noPanic ?_
            refine wp_region_last_drew (ds := [6]) (S := (fun wz => Below w7.heap.size w7 wz)) (by kernel_rfl) ((Below.refl _ _).drew) (fun hHeld => ?_)
            refine wpAnyLast_take (i := 1) (oi := _) (v := .slice (some ⟨ab, ao, none⟩) l.length cB) rfl (by kernel_rfl) (by kernel_rfl) (by kernel_rfl) (by kernel_rfl) (by kernel_rfl) (fun _ _ _ h => h) (Or.inl ⟨by kernel_rfl, ?_⟩) (by assumption) ?_
            · intro wz hSw; (try dsimp only at hSw); go_simp
            try simp only [Act.put, List.setIfInBounds_toArray, List.set_cons_zero, List.set_cons_succ, List.getElem_toArray, List.getElem_cons_succ, List.getElem_cons_zero]
            refine wpAnyLast_take (i := 2) (oi := _) (v := .int .i64 jj) rfl (by kernel_rfl) (by kernel_rfl) (by kernel_rfl) (by kernel_rfl) (by kernel_rfl) (fun _ _ _ h => h) (Or.inl ⟨by kernel_rfl, ?_⟩) (by assumption) ?_
            · intro wz hSw; (try dsimp only at hSw); go_simp
            try simp only [Act.put, List.setIfInBounds_toArray, List.set_cons_zero, List.set_cons_succ, List.getElem_toArray, List.getElem_cons_succ, List.getElem_cons_zero]
            refine wpAnyLast_take (i := 3) (oi := _) (v := .pointer (some ⟨ab, ao + jj * 5, none⟩)) rfl (by kernel_rfl) (by kernel_rfl) (by kernel_rfl) (by kernel_rfl) (by kernel_rfl) (fun _ _ _ h => h) (Or.inl ⟨by kernel_rfl, ?_⟩) (by assumption) ?_
            · intro wz hSw; (try dsimp only at hSw); go_simp
            try simp only [Act.put, List.setIfInBounds_toArray, List.set_cons_zero, List.set_cons_succ, List.getElem_toArray, List.getElem_cons_succ, List.getElem_cons_zero]
            refine wpAnyLast_take (i := 0) (oi := _) (v := .agg #[.int .u64 d.ta, .int .u64 d.ti, .slice A5 d.st.length c5, .int .i64 d.ph, .int .i64 d.ap, .bool d.fa, .bool d.og, .bool d.cm, .slice B5 d.sw.length e5]) rfl (by kernel_rfl) (by kernel_rfl) (by kernel_rfl) (by kernel_rfl) (by kernel_rfl) (fun _ _ _ h => h) (Or.inl ⟨by kernel_rfl, ?_⟩) (by assumption) ?_
            · intro wz hSw; (try dsimp only at hSw); obtain ⟨hd0, hd1, hd2, hd3, hd4, hd5, hd6, hd7, hd8⟩ := cellsB9 (HD.out.below hSw).cells; go_simp
            try simp only [Act.put, List.setIfInBounds_toArray, List.set_cons_zero, List.set_cons_succ, List.getElem_toArray, List.getElem_cons_succ, List.getElem_cons_zero]
            refine wpAnyLast_take (i := 4) (oi := _) (v := .agg #[.int .i64 er, .string va, .int .u64 ve, .bool fo, .bool co]) rfl (by kernel_rfl) (by kernel_rfl) (by kernel_rfl) (by kernel_rfl) (by kernel_rfl) (fun _ _ _ h => h) (Or.inl ⟨by kernel_rfl, ?_⟩) (by assumption) ?_
            · intro wz hSw; (try dsimp only at hSw); have hb0 := (hSw.cell (World.block_lt_of_cell? _ _ HA0.out)).trans HA0.out; have hb1 := (hSw.cell (World.block_lt_of_cell? _ _ HA1.out)).trans HA1.out; have hb2 := (hSw.cell (World.block_lt_of_cell? _ _ HA2.out)).trans HA2.out; have hb3 := (hSw.cell (World.block_lt_of_cell? _ _ HA3.out)).trans HA3.out; have hb4 := (hSw.cell (World.block_lt_of_cell? _ _ HA4.out)).trans HA4.out; go_simp
            try simp only [Act.put, List.setIfInBounds_toArray, List.set_cons_zero, List.set_cons_succ, List.getElem_toArray, List.getElem_cons_succ, List.getElem_cons_zero]
            refine wpAnyLast_ready (rs := [5]) (by kernel_rfl) (by simp) ?_
            refine AllReadyL.cons (o := _) rfl (by decide) (fun K hK => ?_) AllReadyL.nil
            go_simp; go_at_call 14; refine (HC.out).mono ?_; rintro e w5 ⟨B6, e6, rfl, hb5, ho5⟩; go_simp
            have HB5 := Aside0.mk (((Below.refl _ _).drew).trans hb5 : Below w7.heap.size w7 w5)
            have HO5 := Aside0.mk ho5
            clear ho5 hb5 hHeld
            refine hK.out _ _ HB5.out (fun hHeld5 => ?_)
            clear hK K
            try simp only [Act.put, List.setIfInBounds_toArray, List.set_cons_zero, List.set_cons_succ, List.getElem_toArray, List.getElem_cons_succ, List.getElem_cons_zero]
            obtain ⟨hd0, hd1, hd2, hd3, hd4, hd5, hd6, hd7, hd8⟩ := cellsB9 (HD.out.below HB5.out).cells
            obtain ⟨hf0, hf1, hf2, hf3, hf4, hf5, hf6, hf7, hf8⟩ := frozB9 (HD.out.below HB5.out).cells
            refine wpAnyLast_ready (rs := [6]) (by kernel_rfl) (by simp) ?_
            refine AllReadyL.cons_last (o := _) rfl (by decide) (fun K hK => ?_) AllReadyL.nil
            go_simp
            refine hK.out _ _ ?_
            clear hK K hHeld5
            try simp only [Act.put, List.setIfInBounds_toArray, List.set_cons_zero, List.set_cons_succ, List.getElem_toArray, List.getElem_cons_succ, List.getElem_cons_zero]
            refine wpAnyLast_done (by kernel_rfl) ?_ _
            refine NoPanic.normal ?_
            have HD6 := Aside0.mk (HD.out.put (hear_st d er va ve fo co) HB5.out HO5.out)
            have HP6 := Aside0.mk (putB9_other (b := w.heap.size) (g := q) (by omega) (stay20 HB5.out HP.out) (.int .u64 (hearV d er va ve fo co).ta) (.int .u64 (hearV d er va ve fo co).ti) (.slice A5 (hearV d er va ve fo co).st.length c5) (.int .i64 (hearV d er va ve fo co).ph) (.int .i64 (hearV d er va ve fo co).ap) (.bool (hearV d er va ve fo co).fa) (.bool (hearV d er va ve fo co).og) (.bool (hearV d er va ve fo co).cm) (.slice B6 (hearV d er va ve fo co).sw.length e6))
            have HB6 := Aside0.mk (putB9_below (HB.out.trans (HB5.out.mono HB.out.size)) hq (.int .u64 (hearV d er va ve fo co).ta) (.int .u64 (hearV d er va ve fo co).ti) (.slice A5 (hearV d er va ve fo co).st.length c5) (.int .i64 (hearV d er va ve fo co).ph) (.int .i64 (hearV d er va ve fo co).ap) (.bool (hearV d er va ve fo co).fa) (.bool (hearV d er va ve fo co).og) (.bool (hearV d er va ve fo co).cm) (.slice B6 (hearV d er va ve fo co).sw.length e6))
            go_upto_region 11 with (fail)
            change Code.wp _ _ _ _ (putB9 w5 q (.int .u64 (hearV d er va ve fo co).ta) (.int .u64 (hearV d er va ve fo co).ti) (.slice A5 (hearV d er va ve fo co).st.length c5) (.int .i64 (hearV d er va ve fo co).ph) (.int .i64 (hearV d er va ve fo co).ap) (.bool (hearV d er va ve fo co).fa) (.bool (hearV d er va ve fo co).og) (.bool (hearV d er va ve fo co).cm) (.slice B6 (hearV d er va ve fo co).sw.length e6))
            generalize (putB9 w5 q (.int .u64 (hearV d er va ve fo co).ta) (.int .u64 (hearV d er va ve fo co).ti) (.slice A5 (hearV d er va ve fo co).st.length c5) (.int .i64 (hearV d er va ve fo co).ph) (.int .i64 (hearV d er va ve fo co).ap) (.bool (hearV d er va ve fo co).fa) (.bool (hearV d er va ve fo co).og) (.bool (hearV d er va ve fo co).cm) (.slice B6 (hearV d er va ve fo co).sw.length e6)) = w6 at *
            clear hd0 hd1 hd2 hd3 hd4 hd5 hd6 hd7 hd8 hf0 hf1 hf2 hf3 hf4 hf5 hf6 hf7 hf8 HO5 HB5 HC
            go_wp2
            go_roundg (l.length - (jj + 1))
            case measure => omega
            case rel => exact ⟨jj + 1, hearV d er va ve fo co, A5, c5, B6, e6, fa, true, ncm, k, by omega, by omega, rfl, rfl, rfl, by go_num, by go_num, HCN, HDN, HD6, HP6, HB6⟩
          · have hk6b : (nk == 6) = false := beq_eq_false_iff_ne.2 hk6
            have hk4b : (nk == 4) = false := beq_eq_false_iff_ne.2 hk4
            have HPH := Aside0.mk hp
            subst hf hs
            clear hp hk6 hk4
            by_cases he : er = 0
            · have heb : (er == 0) = true := by rw [he]; rfl
              have HE := Aside0.mk he
              clear he hk2
              go_upto_region 32 with (fail)
              clear hx0 hx1 hx2 hx3 hx4 hx5 hx6 hp0 hp1 hp2
              have HC := Aside0.mk (HD.out.hear (HDI.out.ok HM.out hg3) er va ve fo co w7.drew ((Below.refl _ _).drew))
              have HDN := Aside0.mk (hear_di HM.out HDI.out er va ve fo co)
              have HCN := Aside0.mk (ci_ok HM.out HDI.out HCI.out HPH.out er va ve fo co HE.out)
              have HA0 := Aside0.mk ha0
              have HA1 := Aside0.mk ha1
              have HA2 := Aside0.mk ha2
              have HA3 := Aside0.mk ha3
              have HA4 := Aside0.mk ha4
              clear ha0 ha1 ha2 ha3 ha4 hd0 hd1 hd2 hd3 hd4 hd5 hd6 hd7 hd8
              refine wp_region_noPanic ?_
              refine wp_region_last_drew (ds := [6]) (S := (fun wz => Below w7.heap.size w7 wz)) (by kernel_rfl) ((Below.refl _ _).drew) (fun hHeld => ?_)
              refine wpAnyLast_take (i := 1) (oi := _) (v := .slice (some ⟨ab, ao, none⟩) l.length cB) rfl (by kernel_rfl) (by kernel_rfl) (by kernel_rfl) (by kernel_rfl) (by kernel_rfl) (fun _ _ _ h => h) (Or.inl ⟨by kernel_rfl, ?_⟩) (by assumption) ?_
              · intro wz hSw; (try dsimp only at hSw); go_simp
              try simp only [Act.put, List.setIfInBounds_toArray, List.set_cons_zero, List.set_cons_succ, List.getElem_toArray, List.getElem_cons_succ, List.getElem_cons_zero]
              refine wpAnyLast_take (i := 2) (oi := _) (v := .int .i64 jj) rfl (by kernel_rfl) (by kernel_rfl) (by kernel_rfl) (by kernel_rfl) (by kernel_rfl) (fun _ _ _ h => h) (Or.inl ⟨by kernel_rfl, ?_⟩) (by assumption) ?_
              · intro wz hSw; (try dsimp only at hSw); go_simp
              try simp only [Act.put, List.setIfInBounds_toArray, List.set_cons_zero, List.set_cons_succ, List.getElem_toArray, List.getElem_cons_succ, List.getElem_cons_zero]
              refine wpAnyLast_take (i := 3) (oi := _) (v := .pointer (some ⟨ab, ao + jj * 5, none⟩)) rfl (by kernel_rfl) (by kernel_rfl) (by kernel_rfl) (by kernel_rfl) (by kernel_rfl) (fun _ _ _ h => h) (Or.inl ⟨by kernel_rfl, ?_⟩) (by assumption) ?_
              · intro wz hSw; (try dsimp only at hSw); go_simp
              try simp only [Act.put, List.setIfInBounds_toArray, List.set_cons_zero, List.set_cons_succ, List.getElem_toArray, List.getElem_cons_succ, List.getElem_cons_zero]
              refine wpAnyLast_take (i := 0) (oi := _) (v := .agg #[.int .u64 d.ta, .int .u64 d.ti, .slice A5 d.st.length c5, .int .i64 d.ph, .int .i64 d.ap, .bool d.fa, .bool d.og, .bool d.cm, .slice B5 d.sw.length e5]) rfl (by kernel_rfl) (by kernel_rfl) (by kernel_rfl) (by kernel_rfl) (by kernel_rfl) (fun _ _ _ h => h) (Or.inl ⟨by kernel_rfl, ?_⟩) (by assumption) ?_
              · intro wz hSw; (try dsimp only at hSw); obtain ⟨hd0, hd1, hd2, hd3, hd4, hd5, hd6, hd7, hd8⟩ := cellsB9 (HD.out.below hSw).cells; go_simp
              try simp only [Act.put, List.setIfInBounds_toArray, List.set_cons_zero, List.set_cons_succ, List.getElem_toArray, List.getElem_cons_succ, List.getElem_cons_zero]
              refine wpAnyLast_take (i := 4) (oi := _) (v := .agg #[.int .i64 er, .string va, .int .u64 ve, .bool fo, .bool co]) rfl (by kernel_rfl) (by kernel_rfl) (by kernel_rfl) (by kernel_rfl) (by kernel_rfl) (fun _ _ _ h => h) (Or.inl ⟨by kernel_rfl, ?_⟩) (by assumption) ?_
              · intro wz hSw; (try dsimp only at hSw); have hb0 := (hSw.cell (World.block_lt_of_cell? _ _ HA0.out)).trans HA0.out; have hb1 := (hSw.cell (World.block_lt_of_cell? _ _ HA1.out)).trans HA1.out; have hb2 := (hSw.cell (World.block_lt_of_cell? _ _ HA2.out)).trans HA2.out; have hb3 := (hSw.cell (World.block_lt_of_cell? _ _ HA3.out)).trans HA3.out; have hb4 := (hSw.cell (World.block_lt_of_cell? _ _ HA4.out)).trans HA4.out; go_simp
              try simp only [Act.put, List.setIfInBounds_toArray, List.set_cons_zero, List.set_cons_succ, List.getElem_toArray, List.getElem_cons_succ, List.getElem_cons_zero]
              refine wpAnyLast_ready (rs := [5]) (by kernel_rfl) (by simp) ?_
              refine AllReadyL.cons (o := _) rfl (by decide) (fun K hK => ?_) AllReadyL.nil
              go_simp; go_at_call 14; refine (HC.out).mono ?_; rintro e w5 ⟨B6, e6, rfl, hb5, ho5⟩; go_simp
              have HB5 := Aside0.mk (((Below.refl _ _).drew).trans hb5 : Below w7.heap.size w7 w5)
              have HO5 := Aside0.mk ho5
              clear ho5 hb5 hHeld
              refine hK.out _ _ HB5.out (fun hHeld5 => ?_)
              clear hK K
              try simp only [Act.put, List.setIfInBounds_toArray, List.set_cons_zero, List.set_cons_succ, List.getElem_toArray, List.getElem_cons_succ, List.getElem_cons_zero]
              obtain ⟨hd0, hd1, hd2, hd3, hd4, hd5, hd6, hd7, hd8⟩ := cellsB9 (HD.out.below HB5.out).cells
              obtain ⟨hf0, hf1, hf2, hf3, hf4, hf5, hf6, hf7, hf8⟩ := frozB9 (HD.out.below HB5.out).cells
              refine wpAnyLast_ready (rs := [6]) (by kernel_rfl) (by simp) ?_
              refine AllReadyL.cons_last (o := _) rfl (by decide) (fun K hK => ?_) AllReadyL.nil
              go_simp
              refine hK.out _ _ ?_
              clear hK K hHeld5
              try simp only [Act.put, List.setIfInBounds_toArray, List.set_cons_zero, List.set_cons_succ, List.getElem_toArray, List.getElem_cons_succ, List.getElem_cons_zero]
              refine wpAnyLast_done (by kernel_rfl) ?_ _
              refine NoPanic.normal ?_
              have HD6 := Aside0.mk (HD.out.put (hear_st d er va ve fo co) HB5.out HO5.out)
              have HP6 := Aside0.mk (putB9_other (b := w.heap.size) (g := q) (by omega) (stay20 HB5.out HP.out) (.int .u64 (hearV d er va ve fo co).ta) (.int .u64 (hearV d er va ve fo co).ti) (.slice A5 (hearV d er va ve fo co).st.length c5) (.int .i64 (hearV d er va ve fo co).ph) (.int .i64 (hearV d er va ve fo co).ap) (.bool (hearV d er va ve fo co).fa) (.bool (hearV d er va ve fo co).og) (.bool (hearV d er va ve fo co).cm) (.slice B6 (hearV d er va ve fo co).sw.length e6))
              have HB6 := Aside0.mk (putB9_below (HB.out.trans (HB5.out.mono HB.out.size)) hq (.int .u64 (hearV d er va ve fo co).ta) (.int .u64 (hearV d er va ve fo co).ti) (.slice A5 (hearV d er va ve fo co).st.length c5) (.int .i64 (hearV d er va ve fo co).ph) (.int .i64 (hearV d er va ve fo co).ap) (.bool (hearV d er va ve fo co).fa) (.bool (hearV d er va ve fo co).og) (.bool (hearV d er va ve fo co).cm) (.slice B6 (hearV d er va ve fo co).sw.length e6))
              go_upto_region 11 with (fail)
              change Code.wp _ _ _ _ (putB9 w5 q (.int .u64 (hearV d er va ve fo co).ta) (.int .u64 (hearV d er va ve fo co).ti) (.slice A5 (hearV d er va ve fo co).st.length c5) (.int .i64 (hearV d er va ve fo co).ph) (.int .i64 (hearV d er va ve fo co).ap) (.bool (hearV d er va ve fo co).fa) (.bool (hearV d er va ve fo co).og) (.bool (hearV d er va ve fo co).cm) (.slice B6 (hearV d er va ve fo co).sw.length e6))
              generalize (putB9 w5 q (.int .u64 (hearV d er va ve fo co).ta) (.int .u64 (hearV d er va ve fo co).ti) (.slice A5 (hearV d er va ve fo co).st.length c5) (.int .i64 (hearV d er va ve fo co).ph) (.int .i64 (hearV d er va ve fo co).ap) (.bool (hearV d er va ve fo co).fa) (.bool (hearV d er va ve fo co).og) (.bool (hearV d er va ve fo co).cm) (.slice B6 (hearV d er va ve fo co).sw.length e6)) = w6 at *
              clear hd0 hd1 hd2 hd3 hd4 hd5 hd6 hd7 hd8 hf0 hf1 hf2 hf3 hf4 hf5 hf6 hf7 hf8 HO5 HB5 HC
              go_wp2
              go_roundg (l.length - (jj + 1))
              case measure => omega
              case rel => exact ⟨jj + 1, hearV d er va ve fo co, A5, c5, B6, e6, false, false, cm, k + 1, by omega, by omega, rfl, rfl, rfl, by go_num, by go_num, HCN, HDN, HD6, HP6, HB6⟩
            · have heb : (er == 0) = false := beq_eq_false_iff_ne.2 he
              have HE := Aside0.mk he
              clear he
              by_cases h11 : er = 11
              · have h11b : (er != 11) = false := by rw [h11]; rfl
                by_cases hp0' : d.ph = 0
                · have hk2n : ¬ nk > 2 := fun h => hk2.1 h hp0'
                  have HP0 := Aside0.mk hp0'
                  have H11 := Aside0.mk h11
                  clear hp0' h11 hk2
                  go_upto_region 32 with (fail)
                  clear hx0 hx1 hx2 hx3 hx4 hx5 hx6 hp0 hp1 hp2
                  have HC := Aside0.mk (HD.out.hear (HDI.out.ok HM.out hg3) er va ve fo co w7.drew ((Below.refl _ _).drew))
                  have HDN := Aside0.mk (hear_di HM.out HDI.out er va ve fo co)
                  have HCN := Aside0.mk (ci_busy HM.out HDI.out HCI.out HP0.out er va ve fo co H11.out)
                  have HA0 := Aside0.mk ha0
                  have HA1 := Aside0.mk ha1
                  have HA2 := Aside0.mk ha2
                  have HA3 := Aside0.mk ha3
                  have HA4 := Aside0.mk ha4
                  clear ha0 ha1 ha2 ha3 ha4 hd0 hd1 hd2 hd3 hd4 hd5 hd6 hd7 hd8
                  refine wp_region_noPanic ?_
                  refine wp_region_last_drew (ds := [6]) (S := (fun wz => Below w7.heap.size w7 wz)) (by kernel_rfl) ((Below.refl _ _).drew) (fun hHeld => ?_)
                  refine wpAnyLast_take (i := 1) (oi := _) (v := .slice (some ⟨ab, ao, none⟩) l.length cB) rfl (by kernel_rfl) (by kernel_rfl) (by kernel_rfl) (by kernel_rfl) (by kernel_rfl) (fun _ _ _ h => h) (Or.inl ⟨by kernel_rfl, ?_⟩) (by assumption) ?_
                  · intro wz hSw; (try dsimp only at hSw); go_simp
                  try simp only [Act.put, List.setIfInBounds_toArray, List.set_cons_zero, List.set_cons_succ, List.getElem_toArray, List.getElem_cons_succ, List.getElem_cons_zero]
                  refine wpAnyLast_take (i := 2) (oi := _) (v := .int .i64 jj) rfl (by kernel_rfl) (by kernel_rfl) (by kernel_rfl) (by kernel_rfl) (by kernel_rfl) (fun _ _ _ h => h) (Or.inl ⟨by kernel_rfl, ?_⟩) (by assumption) ?_
                  · intro wz hSw; (try dsimp only at hSw); go_simp
                  try simp only [Act.put, List.setIfInBounds_toArray, List.set_cons_zero, List.set_cons_succ, List.getElem_toArray, List.getElem_cons_succ, List.getElem_cons_zero]
                  refine wpAnyLast_take (i := 3) (oi := _) (v := .pointer (some ⟨ab, ao + jj * 5, none⟩)) rfl (by kernel_rfl) (by kernel_rfl) (by kernel_rfl) (by kernel_rfl) (by kernel_rfl) (fun _ _ _ h => h) (Or.inl ⟨by kernel_rfl, ?_⟩) (by assumption) ?_
                  · intro wz hSw; (try dsimp only at hSw); go_simp
                  try simp only [Act.put, List.setIfInBounds_toArray, List.set_cons_zero, List.set_cons_succ, List.getElem_toArray, List.getElem_cons_succ, List.getElem_cons_zero]
                  refine wpAnyLast_take (i := 0) (oi := _) (v := .agg #[.int .u64 d.ta, .int .u64 d.ti, .slice A5 d.st.length c5, .int .i64 d.ph, .int .i64 d.ap, .bool d.fa, .bool d.og, .bool d.cm, .slice B5 d.sw.length e5]) rfl (by kernel_rfl) (by kernel_rfl) (by kernel_rfl) (by kernel_rfl) (by kernel_rfl) (fun _ _ _ h => h) (Or.inl ⟨by kernel_rfl, ?_⟩) (by assumption) ?_
                  · intro wz hSw; (try dsimp only at hSw); obtain ⟨hd0, hd1, hd2, hd3, hd4, hd5, hd6, hd7, hd8⟩ := cellsB9 (HD.out.below hSw).cells; go_simp
                  try simp only [Act.put, List.setIfInBounds_toArray, List.set_cons_zero, List.set_cons_succ, List.getElem_toArray, List.getElem_cons_succ, List.getElem_cons_zero]
                  refine wpAnyLast_take (i := 4) (oi := _) (v := .agg #[.int .i64 er, .string va, .int .u64 ve, .bool fo, .bool co]) rfl (by kernel_rfl) (by kernel_rfl) (by kernel_rfl) (by kernel_rfl) (by kernel_rfl) (fun _ _ _ h => h) (Or.inl ⟨by kernel_rfl, ?_⟩) (by assumption) ?_
                  · intro wz hSw; (try dsimp only at hSw); have hb0 := (hSw.cell (World.block_lt_of_cell? _ _ HA0.out)).trans HA0.out; have hb1 := (hSw.cell (World.block_lt_of_cell? _ _ HA1.out)).trans HA1.out; have hb2 := (hSw.cell (World.block_lt_of_cell? _ _ HA2.out)).trans HA2.out; have hb3 := (hSw.cell (World.block_lt_of_cell? _ _ HA3.out)).trans HA3.out; have hb4 := (hSw.cell (World.block_lt_of_cell? _ _ HA4.out)).trans HA4.out; go_simp
                  try simp only [Act.put, List.setIfInBounds_toArray, List.set_cons_zero, List.set_cons_succ, List.getElem_toArray, List.getElem_cons_succ, List.getElem_cons_zero]
                  refine wpAnyLast_ready (rs := [5]) (by kernel_rfl) (by simp) ?_
                  refine AllReadyL.cons (o := _) rfl (by decide) (fun K hK => ?_) AllReadyL.nil
                  go_simp; go_at_call 14; refine (HC.out).mono ?_; rintro e w5 ⟨B6, e6, rfl, hb5, ho5⟩; go_simp
                  have HB5 := Aside0.mk (((Below.refl _ _).drew).trans hb5 : Below w7.heap.size w7 w5)
                  have HO5 := Aside0.mk ho5
                  clear ho5 hb5 hHeld
                  refine hK.out _ _ HB5.out (fun hHeld5 => ?_)
                  clear hK K
                  try simp only [Act.put, List.setIfInBounds_toArray, List.set_cons_zero, List.set_cons_succ, List.getElem_toArray, List.getElem_cons_succ, List.getElem_cons_zero]
                  obtain ⟨hd0, hd1, hd2, hd3, hd4, hd5, hd6, hd7, hd8⟩ := cellsB9 (HD.out.below HB5.out).cells
                  obtain ⟨hf0, hf1, hf2, hf3, hf4, hf5, hf6, hf7, hf8⟩ := frozB9 (HD.out.below HB5.out).cells
                  refine wpAnyLast_ready (rs := [6]) (by kernel_rfl) (by simp) ?_
                  refine AllReadyL.cons_last (o := _) rfl (by decide) (fun K hK => ?_) AllReadyL.nil
                  go_simp
                  refine hK.out _ _ ?_
                  clear hK K hHeld5
                  try simp only [Act.put, List.setIfInBounds_toArray, List.set_cons_zero, List.set_cons_succ, List.getElem_toArray, List.getElem_cons_succ, List.getElem_cons_zero]
                  refine wpAnyLast_done (by kernel_rfl) ?_ _
                  refine NoPanic.normal ?_
                  have HD6 := Aside0.mk (HD.out.put (hear_st d er va ve fo co) HB5.out HO5.out)
                  have HP6 := Aside0.mk (putB9_other (b := w.heap.size) (g := q) (by omega) (stay20 HB5.out HP.out) (.int .u64 (hearV d er va ve fo co).ta) (.int .u64 (hearV d er va ve fo co).ti) (.slice A5 (hearV d er va ve fo co).st.length c5) (.int .i64 (hearV d er va ve fo co).ph) (.int .i64 (hearV d er va ve fo co).ap) (.bool (hearV d er va ve fo co).fa) (.bool (hearV d er va ve fo co).og) (.bool (hearV d er va ve fo co).cm) (.slice B6 (hearV d er va ve fo co).sw.length e6))
                  have HB6 := Aside0.mk (putB9_below (HB.out.trans (HB5.out.mono HB.out.size)) hq (.int .u64 (hearV d er va ve fo co).ta) (.int .u64 (hearV d er va ve fo co).ti) (.slice A5 (hearV d er va ve fo co).st.length c5) (.int .i64 (hearV d er va ve fo co).ph) (.int .i64 (hearV d er va ve fo co).ap) (.bool (hearV d er va ve fo co).fa) (.bool (hearV d er va ve fo co).og) (.bool (hearV d er va ve fo co).cm) (.slice B6 (hearV d er va ve fo co).sw.length e6))
                  go_upto_region 11 with (fail)
                  change Code.wp _ _ _ _ (putB9 w5 q (.int .u64 (hearV d er va ve fo co).ta) (.int .u64 (hearV d er va ve fo co).ti) (.slice A5 (hearV d er va ve fo co).st.length c5) (.int .i64 (hearV d er va ve fo co).ph) (.int .i64 (hearV d er va ve fo co).ap) (.bool (hearV d er va ve fo co).fa) (.bool (hearV d er va ve fo co).og) (.bool (hearV d er va ve fo co).cm) (.slice B6 (hearV d er va ve fo co).sw.length e6))
                  generalize (putB9 w5 q (.int .u64 (hearV d er va ve fo co).ta) (.int .u64 (hearV d er va ve fo co).ti) (.slice A5 (hearV d er va ve fo co).st.length c5) (.int .i64 (hearV d er va ve fo co).ph) (.int .i64 (hearV d er va ve fo co).ap) (.bool (hearV d er va ve fo co).fa) (.bool (hearV d er va ve fo co).og) (.bool (hearV d er va ve fo co).cm) (.slice B6 (hearV d er va ve fo co).sw.length e6)) = w6 at *
                  clear hd0 hd1 hd2 hd3 hd4 hd5 hd6 hd7 hd8 hf0 hf1 hf2 hf3 hf4 hf5 hf6 hf7 hf8 HO5 HB5 HC
                  go_wp2
                  go_roundg (l.length - (jj + 1))
                  case measure => omega
                  case rel => exact ⟨jj + 1, hearV d er va ve fo co, A5, c5, B6, e6, false, false, cm, k, by omega, by omega, rfl, rfl, rfl, by go_num, by go_num, HCN, HDN, HD6, HP6, HB6⟩
                · have hk2n : nk > 2 := hk2.2 hp0'
                  have HP0 := Aside0.mk hp0'
                  have H11 := Aside0.mk h11
                  clear hp0' h11 hk2
                  go_upto_region 32 with (fail)
                  clear hx0 hx1 hx2 hx3 hx4 hx5 hx6 hp0 hp1 hp2
                  have HC := Aside0.mk (HD.out.hear (HDI.out.ok HM.out hg3) er va ve fo co w7.drew ((Below.refl _ _).drew))
                  have HDN := Aside0.mk (hear_di HM.out HDI.out er va ve fo co)
                  have HCN := Aside0.mk (ci_bad HM.out HDI.out HCI.out HPH.out er va ve fo co HE.out (fun h => HP0.out h.1))
                  have HA0 := Aside0.mk ha0
                  have HA1 := Aside0.mk ha1
                  have HA2 := Aside0.mk ha2
                  have HA3 := Aside0.mk ha3
                  have HA4 := Aside0.mk ha4
                  clear ha0 ha1 ha2 ha3 ha4 hd0 hd1 hd2 hd3 hd4 hd5 hd6 hd7 hd8
                  refine wp_region_noPanic ?_
                  refine wp_region_last_drew (ds := [6]) (S := (fun wz => Below w7.heap.size w7 wz)) (by kernel_rfl) ((Below.refl _ _).drew) (fun hHeld => ?_)
                  refine wpAnyLast_take (i := 1) (oi := _) (v := .slice (some ⟨ab, ao, none⟩) l.length cB) rfl (by kernel_rfl) (by kernel_rfl) (by kernel_rfl) (by kernel_rfl) (by kernel_rfl) (fun _ _ _ h => h) (Or.inl ⟨by kernel_rfl, ?_⟩) (by assumption) ?_
                  · intro wz hSw; (try dsimp only at hSw); go_simp
                  try simp only [Act.put, List.setIfInBounds_toArray, List.set_cons_zero, List.set_cons_succ, List.getElem_toArray, List.getElem_cons_succ, List.getElem_cons_zero]
                  refine wpAnyLast_take (i := 2) (oi := _) (v := .int .i64 jj) rfl (by kernel_rfl) (by kernel_rfl) (by kernel_rfl) (by kernel_rfl) (by kernel_rfl) (fun _ _ _ h => h) (Or.inl ⟨by kernel_rfl, ?_⟩) (by assumption) ?_
                  · intro wz hSw; (try dsimp only at hSw); go_simp
                  try simp only [Act.put, List.setIfInBounds_toArray, List.set_cons_zero, List.set_cons_succ, List.getElem_toArray, List.getElem_cons_succ, List.getElem_cons_zero]
                  refine wpAnyLast_take (i := 3) (oi := _) (v := .pointer (some ⟨ab, ao + jj * 5, none⟩)) rfl (by kernel_rfl) (by kernel_rfl) (by kernel_rfl) (by kernel_rfl) (by kernel_rfl) (fun _ _ _ h => h) (Or.inl ⟨by kernel_rfl, ?_⟩) (by assumption) ?_
                  · intro wz hSw; (try dsimp only at hSw); go_simp
                  try simp only [Act.put, List.setIfInBounds_toArray, List.set_cons_zero, List.set_cons_succ, List.getElem_toArray, List.getElem_cons_succ, List.getElem_cons_zero]
                  refine wpAnyLast_take (i := 0) (oi := _) (v := .agg #[.int .u64 d.ta, .int .u64 d.ti, .slice A5 d.st.length c5, .int .i64 d.ph, .int .i64 d.ap, .bool d.fa, .bool d.og, .bool d.cm, .slice B5 d.sw.length e5]) rfl (by kernel_rfl) (by kernel_rfl) (by kernel_rfl) (by kernel_rfl) (by kernel_rfl) (fun _ _ _ h => h) (Or.inl ⟨by kernel_rfl, ?_⟩) (by assumption) ?_
                  · intro wz hSw; (try dsimp only at hSw); obtain ⟨hd0, hd1, hd2, hd3, hd4, hd5, hd6, hd7, hd8⟩ := cellsB9 (HD.out.below hSw).cells; go_simp
                  try simp only [Act.put, List.setIfInBounds_toArray, List.set_cons_zero, List.set_cons_succ, List.getElem_toArray, List.getElem_cons_succ, List.getElem_cons_zero]
                  refine wpAnyLast_take (i := 4) (oi := _) (v := .agg #[.int .i64 er, .string va, .int .u64 ve, .bool fo, .bool co]) rfl (by kernel_rfl) (by kernel_rfl) (by kernel_rfl) (by kernel_rfl) (by kernel_rfl) (fun _ _ _ h => h) (Or.inl ⟨by kernel_rfl, ?_⟩) (by assumption) ?_
                  · intro wz hSw; (try dsimp only at hSw); have hb0 := (hSw.cell (World.block_lt_of_cell? _ _ HA0.out)).trans HA0.out; have hb1 := (hSw.cell (World.block_lt_of_cell? _ _ HA1.out)).trans HA1.out; have hb2 := (hSw.cell (World.block_lt_of_cell? _ _ HA2.out)).trans HA2.out; have hb3 := (hSw.cell (World.block_lt_of_cell? _ _ HA3.out)).trans HA3.out; have hb4 := (hSw.cell (World.block_lt_of_cell? _ _ HA4.out)).trans HA4.out; go_simp
                  try simp only [Act.put, List.setIfInBounds_toArray, List.set_cons_zero, List.set_cons_succ, List.getElem_toArray, List.getElem_cons_succ, List.getElem_cons_zero]
                  refine wpAnyLast_ready (rs := [5]) (by kernel_rfl) (by simp) ?_
                  refine AllReadyL.cons (o := _) rfl (by decide) (fun K hK => ?_) AllReadyL.nil
                  go_simp; go_at_call 14; refine (HC.out).mono ?_; rintro e w5 ⟨B6, e6, rfl, hb5, ho5⟩; go_simp
                  have HB5 := Aside0.mk (((Below.refl _ _).drew).trans hb5 : Below w7.heap.size w7 w5)
                  have HO5 := Aside0.mk ho5
                  clear ho5 hb5 hHeld
                  refine hK.out _ _ HB5.out (fun hHeld5 => ?_)
                  clear hK K
                  try simp only [Act.put, List.setIfInBounds_toArray, List.set_cons_zero, List.set_cons_succ, List.getElem_toArray, List.getElem_cons_succ, List.getElem_cons_zero]
                  obtain ⟨hd0, hd1, hd2, hd3, hd4, hd5, hd6, hd7, hd8⟩ := cellsB9 (HD.out.below HB5.out).cells
                  obtain ⟨hf0, hf1, hf2, hf3, hf4, hf5, hf6, hf7, hf8⟩ := frozB9 (HD.out.below HB5.out).cells
                  refine wpAnyLast_ready (rs := [6]) (by kernel_rfl) (by simp) ?_
                  refine AllReadyL.cons_last (o := _) rfl (by decide) (fun K hK => ?_) AllReadyL.nil
                  go_simp
                  refine hK.out _ _ ?_
                  clear hK K hHeld5
                  try simp only [Act.put, List.setIfInBounds_toArray, List.set_cons_zero, List.set_cons_succ, List.getElem_toArray, List.getElem_cons_succ, List.getElem_cons_zero]
                  refine wpAnyLast_done (by kernel_rfl) ?_ _
                  refine NoPanic.normal ?_
                  have HD6 := Aside0.mk (HD.out.put (hear_st d er va ve fo co) HB5.out HO5.out)
                  have HP6 := Aside0.mk (putB9_other (b := w.heap.size) (g := q) (by omega) (stay20 HB5.out HP.out) (.int .u64 (hearV d er va ve fo co).ta) (.int .u64 (hearV d er va ve fo co).ti) (.slice A5 (hearV d er va ve fo co).st.length c5) (.int .i64 (hearV d er va ve fo co).ph) (.int .i64 (hearV d er va ve fo co).ap) (.bool (hearV d er va ve fo co).fa) (.bool (hearV d er va ve fo co).og) (.bool (hearV d er va ve fo co).cm) (.slice B6 (hearV d er va ve fo co).sw.length e6))
                  have HB6 := Aside0.mk (putB9_below (HB.out.trans (HB5.out.mono HB.out.size)) hq (.int .u64 (hearV d er va ve fo co).ta) (.int .u64 (hearV d er va ve fo co).ti) (.slice A5 (hearV d er va ve fo co).st.length c5) (.int .i64 (hearV d er va ve fo co).ph) (.int .i64 (hearV d er va ve fo co).ap) (.bool (hearV d er va ve fo co).fa) (.bool (hearV d er va ve fo co).og) (.bool (hearV d er va ve fo co).cm) (.slice B6 (hearV d er va ve fo co).sw.length e6))
                  go_upto_region 11 with (fail)
                  change Code.wp _ _ _ _ (putB9 w5 q (.int .u64 (hearV d er va ve fo co).ta) (.int .u64 (hearV d er va ve fo co).ti) (.slice A5 (hearV d er va ve fo co).st.length c5) (.int .i64 (hearV d er va ve fo co).ph) (.int .i64 (hearV d er va ve fo co).ap) (.bool (hearV d er va ve fo co).fa) (.bool (hearV d er va ve fo co).og) (.bool (hearV d er va ve fo co).cm) (.slice B6 (hearV d er va ve fo co).sw.length e6))
                  generalize (putB9 w5 q (.int .u64 (hearV d er va ve fo co).ta) (.int .u64 (hearV d er va ve fo co).ti) (.slice A5 (hearV d er va ve fo co).st.length c5) (.int .i64 (hearV d er va ve fo co).ph) (.int .i64 (hearV d er va ve fo co).ap) (.bool (hearV d er va ve fo co).fa) (.bool (hearV d er va ve fo co).og) (.bool (hearV d er va ve fo co).cm) (.slice B6 (hearV d er va ve fo co).sw.length e6)) = w6 at *
                  clear hd0 hd1 hd2 hd3 hd4 hd5 hd6 hd7 hd8 hf0 hf1 hf2 hf3 hf4 hf5 hf6 hf7 hf8 HO5 HB5 HC
                  go_wp2
                  go_roundg (l.length - (jj + 1))
                  case measure => omega
                  case rel => exact ⟨jj + 1, hearV d er va ve fo co, A5, c5, B6, e6, true, false, cm, k, by omega, by omega, rfl, rfl, rfl, by go_num, by go_num, HCN, HDN, HD6, HP6, HB6⟩
              · have h11b : (er != 11) = true := by simp [h11]
                have H11 := Aside0.mk h11
                clear h11 hk2
                go_upto_region 32 with (fail)
                clear hx0 hx1 hx2 hx3 hx4 hx5 hx6 hp0 hp1 hp2
                have HC := Aside0.mk (HD.out.hear (HDI.out.ok HM.out hg3) er va ve fo co w7.drew ((Below.refl _ _).drew))
                have HDN := Aside0.mk (hear_di HM.out HDI.out er va ve fo co)
                have HCN := Aside0.mk (ci_bad HM.out HDI.out HCI.out HPH.out er va ve fo co HE.out (fun h => H11.out h.2))
                have HA0 := Aside0.mk ha0
                have HA1 := Aside0.mk ha1
                have HA2 := Aside0.mk ha2
                have HA3 := Aside0.mk ha3
                have HA4 := Aside0.mk ha4
                clear ha0 ha1 ha2 ha3 ha4 hd0 hd1 hd2 hd3 hd4 hd5 hd6 hd7 hd8
                refine wp_region_noPanic ?_
                refine wp_region_last_drew (ds := [6]) (S := (fun wz => Below w7.heap.size w7 wz)) (by kernel_rfl) ((Below.refl _ _).drew) (fun hHeld => ?_)
                refine wpAnyLast_take (i := 1) (oi := _) (v := .slice (some ⟨ab, ao, none⟩) l.length cB) rfl (by kernel_rfl) (by kernel_rfl) (by kernel_rfl) (by kernel_rfl) (by kernel_rfl) (fun _ _ _ h => h) (Or.inl ⟨by kernel_rfl, ?_⟩) (by assumption) ?_
                · intro wz hSw; (try dsimp only at hSw); go_simp
                try simp only [Act.put, List.setIfInBounds_toArray, List.set_cons_zero, List.set_cons_succ, List.getElem_toArray, List.getElem_cons_succ, List.getElem_cons_zero]
                refine wpAnyLast_take (i := 2) (oi := _) (v := .int .i64 jj) rfl (by kernel_rfl) (by kernel_rfl) (by kernel_rfl) (by kernel_rfl) (by kernel_rfl) (fun _ _ _ h => h) (Or.inl ⟨by kernel_rfl, ?_⟩) (by assumption) ?_
                · intro wz hSw; (try dsimp only at hSw); go_simp
                try simp only [Act.put, List.setIfInBounds_toArray, List.set_cons_zero, List.set_cons_succ, List.getElem_toArray, List.getElem_cons_succ, List.getElem_cons_zero]
                refine wpAnyLast_take (i := 3) (oi := _) (v := .pointer (some ⟨ab, ao + jj * 5, none⟩)) rfl (by kernel_rfl) (by kernel_rfl) (by kernel_rfl) (by kernel_rfl) (by kernel_rfl) (fun _ _ _ h => h) (Or.inl ⟨by kernel_rfl, ?_⟩) (by assumption) ?_
                · intro wz hSw; (try dsimp only at hSw); go_simp
                try simp only [Act.put, List.setIfInBounds_toArray, List.set_cons_zero, List.set_cons_succ, List.getElem_toArray, List.getElem_cons_succ, List.getElem_cons_zero]
                refine wpAnyLast_take (i := 0) (oi := _) (v := .agg #[.int .u64 d.ta, .int .u64 d.ti, .slice A5 d.st.length c5, .int .i64 d.ph, .int .i64 d.ap, .bool d.fa, .bool d.og, .bool d.cm, .slice B5 d.sw.length e5]) rfl (by kernel_rfl) (by kernel_rfl) (by kernel_rfl) (by kernel_rfl) (by kernel_rfl) (fun _ _ _ h => h) (Or.inl ⟨by kernel_rfl, ?_⟩) (by assumption) ?_
                · intro wz hSw; (try dsimp only at hSw); obtain ⟨hd0, hd1, hd2, hd3, hd4, hd5, hd6, hd7, hd8⟩ := cellsB9 (HD.out.below hSw).cells; go_simp
                try simp only [Act.put, List.setIfInBounds_toArray, List.set_cons_zero, List.set_cons_succ, List.getElem_toArray, List.getElem_cons_succ, List.getElem_cons_zero]
                refine wpAnyLast_take (i := 4) (oi := _) (v := .agg #[.int .i64 er, .string va, .int .u64 ve, .bool fo, .bool co]) rfl (by kernel_rfl) (by kernel_rfl) (by kernel_rfl) (by kernel_rfl) (by kernel_rfl) (fun _ _ _ h => h) (Or.inl ⟨by kernel_rfl, ?_⟩) (by assumption) ?_
                · intro wz hSw; (try dsimp only at hSw); have hb0 := (hSw.cell (World.block_lt_of_cell? _ _ HA0.out)).trans HA0.out; have hb1 := (hSw.cell (World.block_lt_of_cell? _ _ HA1.out)).trans HA1.out; have hb2 := (hSw.cell (World.block_lt_of_cell? _ _ HA2.out)).trans HA2.out; have hb3 := (hSw.cell (World.block_lt_of_cell? _ _ HA3.out)).trans HA3.out; have hb4 := (hSw.cell (World.block_lt_of_cell? _ _ HA4.out)).trans HA4.out; go_simp
                try simp only [Act.put, List.setIfInBounds_toArray, List.set_cons_zero, List.set_cons_succ, List.getElem_toArray, List.getElem_cons_succ, List.getElem_cons_zero]
                refine wpAnyLast_ready (rs := [5]) (by kernel_rfl) (by simp) ?_
                refine AllReadyL.cons (o := _) rfl (by decide) (fun K hK => ?_) AllReadyL.nil
                go_simp; go_at_call 14; refine (HC.out).mono ?_; rintro e w5 ⟨B6, e6, rfl, hb5, ho5⟩; go_simp
                have HB5 := Aside0.mk (((Below.refl _ _).drew).trans hb5 : Below w7.heap.size w7 w5)
                have HO5 := Aside0.mk ho5
                clear ho5 hb5 hHeld
                refine hK.out _ _ HB5.out (fun hHeld5 => ?_)
                clear hK K
                try simp only [Act.put, List.setIfInBounds_toArray, List.set_cons_zero, List.set_cons_succ, List.getElem_toArray, List.getElem_cons_succ, List.getElem_cons_zero]
                obtain ⟨hd0, hd1, hd2, hd3, hd4, hd5, hd6, hd7, hd8⟩ := cellsB9 (HD.out.below HB5.out).cells
                obtain ⟨hf0, hf1, hf2, hf3, hf4, hf5, hf6, hf7, hf8⟩ := frozB9 (HD.out.below HB5.out).cells
                refine wpAnyLast_ready (rs := [6]) (by kernel_rfl) (by simp) ?_
                refine AllReadyL.cons_last (o := _) rfl (by decide) (fun K hK => ?_) AllReadyL.nil
                go_simp
                refine hK.out _ _ ?_
                clear hK K hHeld5
                try simp only [Act.put, List.setIfInBounds_toArray, List.set_cons_zero, List.set_cons_succ, List.getElem_toArray, List.getElem_cons_succ, List.getElem_cons_zero]
                refine wpAnyLast_done (by kernel_rfl) ?_ _
                refine NoPanic.normal ?_
                have HD6 := Aside0.mk (HD.out.put (hear_st d er va ve fo co) HB5.out HO5.out)
                have HP6 := Aside0.mk (putB9_other (b := w.heap.size) (g := q) (by omega) (stay20 HB5.out HP.out) (.int .u64 (hearV d er va ve fo co).ta) (.int .u64 (hearV d er va ve fo co).ti) (.slice A5 (hearV d er va ve fo co).st.length c5) (.int .i64 (hearV d er va ve fo co).ph) (.int .i64 (hearV d er va ve fo co).ap) (.bool (hearV d er va ve fo co).fa) (.bool (hearV d er va ve fo co).og) (.bool (hearV d er va ve fo co).cm) (.slice B6 (hearV d er va ve fo co).sw.length e6))
                have HB6 := Aside0.mk (putB9_below (HB.out.trans (HB5.out.mono HB.out.size)) hq (.int .u64 (hearV d er va ve fo co).ta) (.int .u64 (hearV d er va ve fo co).ti) (.slice A5 (hearV d er va ve fo co).st.length c5) (.int .i64 (hearV d er va ve fo co).ph) (.int .i64 (hearV d er va ve fo co).ap) (.bool (hearV d er va ve fo co).fa) (.bool (hearV d er va ve fo co).og) (.bool (hearV d er va ve fo co).cm) (.slice B6 (hearV d er va ve fo co).sw.length e6))
                go_upto_region 11 with (fail)
                change Code.wp _ _ _ _ (putB9 w5 q (.int .u64 (hearV d er va ve fo co).ta) (.int .u64 (hearV d er va ve fo co).ti) (.slice A5 (hearV d er va ve fo co).st.length c5) (.int .i64 (hearV d er va ve fo co).ph) (.int .i64 (hearV d er va ve fo co).ap) (.bool (hearV d er va ve fo co).fa) (.bool (hearV d er va ve fo co).og) (.bool (hearV d er va ve fo co).cm) (.slice B6 (hearV d er va ve fo co).sw.length e6))
                generalize (putB9 w5 q (.int .u64 (hearV d er va ve fo co).ta) (.int .u64 (hearV d er va ve fo co).ti) (.slice A5 (hearV d er va ve fo co).st.length c5) (.int .i64 (hearV d er va ve fo co).ph) (.int .i64 (hearV d er va ve fo co).ap) (.bool (hearV d er va ve fo co).fa) (.bool (hearV d er va ve fo co).og) (.bool (hearV d er va ve fo co).cm) (.slice B6 (hearV d er va ve fo co).sw.length e6)) = w6 at *
                clear hd0 hd1 hd2 hd3 hd4 hd5 hd6 hd7 hd8 hf0 hf1 hf2 hf3 hf4 hf5 hf6 hf7 hf8 HO5 HB5 HC
                go_wp2
                go_roundg (l.length - (jj + 1))
                case measure => omega
                case rel => exact ⟨jj + 1, hearV d er va ve fo co, A5, c5, B6, e6, true, false, cm, k, by omega, by omega, rfl, rfl, rfl, by go_num, by go_num, HCN, HDN, HD6, HP6, HB6⟩
      · have hltz : ¬ (jj : Int) < (l.length : Int) := by omega
        go_wp2
        go_ret
        exact ⟨rfl, HB.out⟩
end Go.Proofs.Ytkennobdoldlkaa.PAll
end
