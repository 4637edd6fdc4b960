/- Joined texts of the claim DriveSees (part 49): contracts of functions and plain laws. -/
import Derived.BigQuiet
import Derived.BigRegion
import Derived.Deep.CutRange
import Derived.Deep.DeepCutAuto
import Derived.Deep.QuietTactic
import Derived.Deep.RegionHeld3
import Derived.Deep.RegionWith
import Derived.Test.YtkennobdoldlkaaJDriveSees4
import Derived.Test.YtkennobdoldlkaaJDriveSees48
set_option linter.unusedVariables false
set_option linter.unusedSimpArgs false
section
namespace Go.Proofs.Ytkennobdoldlkaa.PAll
open Go.RowKit Go.Proofs.YtkennobdoldlkaaW.PrintWords Go.Proofs.YtkennobdoldlkaaW.PrintLast Go.Proofs.Ytkennobdoldlkaa
set_option maxHeartbeats 2000000 in
set_option maxRecDepth 100000 in
theorem DriveSees_walk {w : World} (cs : Array Value) (x : S27) (hx : k27.K w x cs.toList) (hsx : ok27 x) (B0 : Option Addr) (cB : Nat) (l : List S33) (hr : Kd.C k33 w B0 l.length l) (hc : l.length ≤ cB) (hs : l.length * Try.prog.bytesOf 33 ≤ 140737488351232 ∧ ∀ x ∈ l, ok33 x) :
    Calls Try.prog 5 #[.agg cs, .slice B0 l.length cB] w fun e w' => e = .returned (.bool true) ∧ Below w.heap.size w w' := by
  obtain ⟨hl3, hg3⟩ := planOk hsx
  obtain ⟨A, c, rfl, hc3, hC3⟩ := planArg hx
  obtain ⟨⟨ta, ti⟩, st⟩ := x
  dsimp only at *
  have HST := qza.mk hC3
  have HR := qza.mk hr
  have hll : l.length ≤ 9223372036854775807 := hr.2.1
  clear hx hsx hC3 hr hs
  have hx0 := heap_alloc_new w (.cells #[.int .u64 ta, .int .u64 ti, .slice A st.length c] 27)
  have HB0 := qza.mk ((Below.refl w.heap.size w).alloc (Nat.le_refl _) (.cells #[.int .u64 ta, .int .u64 ti, .slice A st.length c] 27))
  go_enter Try.func5, Try.ntmps5
  have HP0 := qza.mk hx0
  clear hx0
  go_upto_region 1 with (fail)
  change Code.wp _ _ _ _ (w.alloc (.cells #[.int .u64 ta, .int .u64 ti, .slice A st.length c] 27))
  generalize w.alloc (.cells #[.int .u64 ta, .int .u64 ti, .slice A st.length c] 27) = w1 at *
  go_upto_region 2 with (go_at_call 9; refine (shown20 _).mono ?_; rintro e w2 ⟨rfl, hb2⟩; have HB2a := qza.mk hb2; clear hb2)
  have HP2 := qza.mk (qz4 HB2a.out HP0.out)
  have HB2 := qza.mk (HB0.out.trans (HB2a.out.mono HB0.out.size))
  obtain ⟨hp0, hp1, hp2⟩ := cellsB3 HP2.out
  have HBC := qza.mk (begin_calls ta ti A c st w2 (Kd.C_below HST.out HB2.out) hc3 hl3 hg3)
  have HBB : qza (beginV ta ti st = if mayV ta ti st = true then (⟨ta, ti, st, 0, 0, false, false, false, []⟩, 0) else (zDrv, 1)) := ⟨rfl⟩
  clear HP0 HB0 HB2a
  cases hm : mayV ta ti st with
  | false =>
    have hmf : ¬ mayV ta ti st = true := by rw [hm]; simp
    rw [if_neg hmf] at HBB
    rw [HBB.out] at HBC
    unfold BPost zDrv dagg at HBC
    dsimp only at HBC
    clear HBB
    go_wp2_with (go_at_call 16; refine (HBC.out).mono ?_; rintro e w3 ⟨vs, rfl, _, ho3, hb3⟩; obtain ⟨A3, n3, c3, rfl⟩ := ownSlice20 ho3; have HB3 := qza.mk hb3; clear ho3 hb3)
    go_ret
    exact ⟨rfl, (HB2.out.trans (HB3.out.mono HB2.out.size)).alloc (HB2.out.trans (HB3.out.mono HB2.out.size)).size _⟩
  | true =>
    rw [if_pos hm] at HBB
    rw [HBB.out] at HBC
    unfold BPost dagg at HBC
    dsimp only at HBC
    clear HBB
    go_upto_region 3 with (go_at_call 16; refine (HBC.out).mono ?_; rintro e w3 ⟨vs, rfl, _, ho3, hb3⟩; obtain ⟨A3, c3, rfl, hc4⟩ := own_sl20 ho3; have HO3 := qza.mk ho3; have HB3 := qza.mk hb3; clear ho3 hb3)
    rw [List.length_map] at HO3
    have HD4 := qza.mk (DrvAt.made (w0 := w2) (w := w3) (r := ⟨ta, ti, st, 0, 0, false, false, false, []⟩) rfl HO3.out rfl)
    have HB3b := qza.mk (HB2.out.trans (HB3.out.mono HB2.out.size))
    have HB4 := qza.mk (HB3b.out.alloc HB3b.out.size (.cells #[.int .u64 ta, .int .u64 ti, .slice A3 st.length c3, .int .i64 0, .int .i64 0, .bool false, .bool false, .bool false, .slice none 0 0] 30))
    have HP4 := qza.mk (qz1 (qz4 HB3.out HP2.out) (.cells #[.int .u64 ta, .int .u64 ti, .slice A3 st.length c3, .int .i64 0, .int .i64 0, .bool false, .bool false, .bool false, .slice none 0 0] 30))
    have hq : w.heap.size ≤ w3.heap.size := HB3b.out.size
    have hq2 : w.heap.size < w3.heap.size := Nat.lt_of_lt_of_le (Array.getElem?_eq_some_iff.1 HP2.out).1 HB3.out.size
    dsimp only at HD4
    change Code.wp _ _ _ _ (w3.alloc (.cells #[.int .u64 ta, .int .u64 ti, .slice A3 st.length c3, .int .i64 0, .int .i64 0, .bool false, .bool false, .bool false, .slice none 0 0] 30))
    generalize w3.alloc (.cells #[.int .u64 ta, .int .u64 ti, .slice A3 st.length c3, .int .i64 0, .int .i64 0, .bool false, .bool false, .bool false, .slice none 0 0] 30) = w4 at *
    generalize w3.heap.size = q at *
    clear HO3 HB3 HB3b HP2 HB2 HBC hp0 hp1 hp2
    have HM := qza.mk hm
    clear hm
    go_wp2
    go_loopg [8, 9] l.length (fun gg s8 s9 wr => ∃ (jj : Nat) (d : Drv) (A5 : Option Addr) (c5 : Nat) (B5 : Option Addr) (e5 : Nat), jj ≤ l.length ∧ l.length - jj ≤ gg ∧ s9 = .int .i64 jj ∧ s8 = .int .i64 d.sw.length ∧ qza (DI st d) ∧ qza (DrvAt w3 wr q d A5 c5 B5 e5) ∧ qza (wr.heap[w.heap.size]? = some (.cells #[.int .u64 ta, .int .u64 ti, .slice A st.length c] 27 (0, 0))) ∧ qza (Below w.heap.size w wr))
    case atStart => exact ⟨0, _, A3, c3, none, 0, Nat.zero_le _, by omega, rfl, rfl, ⟨begin_di HM.out⟩, HD4, HP4, HB4⟩
    case round =>
      clear HD4 HP4 HB4
      obtain ⟨jj, d, A5, c5, B5, e5, hjj, hgk, rfl, rfl, HDI, HD, HP, HB⟩ := hrel
      obtain ⟨hd0, hd1, hd2, hd3, hd4, hd5, hd6, hd7, hd8⟩ := qz0 HD.out.cells
      have hsw := HDI.out.hsw
      obtain ⟨m1, m2, _, _⟩ := may_facts HM.out
      by_cases hlt : jj < l.length
      · have hltz : (jj : Int) < (l.length : Int) := by omega
        have hjz : (0 : Int) ≤ (jj : Int) := by omega
        obtain ⟨ab, ao, rfl, ha0, ha1, ha2, ha3, ha4⟩ := ansRow (Kd.C_below HR.out HB.out) jj hlt
        generalize hxe : l[jj]! = x at *
        have HXE := qza.mk hxe
        clear hxe
        obtain ⟨er, va, ve, fo, co⟩ := x
        dsimp only at *
        have HC := qza.mk (HD.out.hear (HDI.out.ok HM.out hg3) er va ve fo co wr.drew ((Below.refl _ _).drew))
        have HDN := qza.mk (hear_di HM.out HDI.out er va ve fo co)
        by_cases hpe : d.ph = 0 ∧ er = 0
        · obtain ⟨hp, he⟩ := hpe
          have hmore := sees_more HM.out HDI.out er va ve fo co hp he
          have HMO := qza.mk hmore
          have hnlt := hmore.1
          have hpb : (d.ph == 0) = true := by rw [hp]; rfl
          have HPH := qza.mk hp
          have heb : (er == 0) = true := by rw [he]; rfl
          clear hp he hmore
          go_upto_region 10 with (fail)
          have HA0 := qza.mk ha0
          have HA1 := qza.mk ha1
          have HA2 := qza.mk ha2
          have HA3 := qza.mk ha3
          have HA4 := qza.mk ha4
          clear ha0 ha1 ha2 ha3 ha4 hd0 hd1 hd2 hd3 hd4 hd5 hd6 hd7 hd8
          refine wp_region_noPanic ?_
          refine qz20 (ds := [6]) (S := (fun wz => Below wr.heap.size wr wz)) (by kernel_rfl) ((Below.refl _ _).drew) (fun hHeld => ?_)
          refine qz3 (i := 1) (oi := _) (v := .slice (some ⟨ab, ao, none⟩) l.length cB) rfl (by kernel_rfl) (by kernel_rfl) (by kernel_rfl) (by kernel_rfl) (by kernel_rfl) (fun _ _ _ h => h) (Or.inl ⟨by kernel_rfl, ?_⟩) (by assumption) ?_
          · intro wz hSw; (try dsimp only at hSw); go_simp
          try simp only [Act.put, List.setIfInBounds_toArray, List.set_cons_zero, List.set_cons_succ]
          refine qz3 (i := 2) (oi := _) (v := .int .i64 jj) rfl (by kernel_rfl) (by kernel_rfl) (by kernel_rfl) (by kernel_rfl) (by kernel_rfl) (fun _ _ _ h => h) (Or.inl ⟨by kernel_rfl, ?_⟩) (by assumption) ?_
          · intro wz hSw; (try dsimp only at hSw); go_simp
          try simp only [Act.put, List.setIfInBounds_toArray, List.set_cons_zero, List.set_cons_succ]
          refine qz3 (i := 3) (oi := _) (v := .pointer (some ⟨ab, ao + jj * 5, none⟩)) rfl (by kernel_rfl) (by kernel_rfl) (by kernel_rfl) (by kernel_rfl) (by kernel_rfl) (fun _ _ _ h => h) (Or.inl ⟨by kernel_rfl, ?_⟩) (by assumption) ?_
          · intro wz hSw; (try dsimp only at hSw); go_simp
          try simp only [Act.put, List.setIfInBounds_toArray, List.set_cons_zero, List.set_cons_succ]
          refine qz3 (i := 0) (oi := _) (v := .agg #[.int .u64 d.ta, .int .u64 d.ti, .slice A5 d.st.length c5, .int .i64 d.ph, .int .i64 d.ap, .bool d.fa, .bool d.og, .bool d.cm, .slice B5 d.sw.length e5]) rfl (by kernel_rfl) (by kernel_rfl) (by kernel_rfl) (by kernel_rfl) (by kernel_rfl) (fun _ _ _ h => h) (Or.inl ⟨by kernel_rfl, ?_⟩) (by assumption) ?_
          · intro wz hSw; (try dsimp only at hSw); obtain ⟨hd0, hd1, hd2, hd3, hd4, hd5, hd6, hd7, hd8⟩ := qz0 (HD.out.below hSw).cells; go_simp
          try simp only [Act.put, List.setIfInBounds_toArray, List.set_cons_zero, List.set_cons_succ]
          refine qz3 (i := 4) (oi := _) (v := .agg #[.int .i64 er, .string va, .int .u64 ve, .bool fo, .bool co]) rfl (by kernel_rfl) (by kernel_rfl) (by kernel_rfl) (by kernel_rfl) (by kernel_rfl) (fun _ _ _ h => h) (Or.inl ⟨by kernel_rfl, ?_⟩) (by assumption) ?_
          · intro wz hSw; (try dsimp only at hSw); have hb0 := (hSw.cell (World.block_lt_of_cell? _ _ HA0.out)).trans HA0.out; have hb1 := (hSw.cell (World.block_lt_of_cell? _ _ HA1.out)).trans HA1.out; have hb2 := (hSw.cell (World.block_lt_of_cell? _ _ HA2.out)).trans HA2.out; have hb3 := (hSw.cell (World.block_lt_of_cell? _ _ HA3.out)).trans HA3.out; have hb4 := (hSw.cell (World.block_lt_of_cell? _ _ HA4.out)).trans HA4.out; go_simp
          try simp only [Act.put, List.setIfInBounds_toArray, List.set_cons_zero, List.set_cons_succ]
          refine qz10 (rs := [5]) (by kernel_rfl) (by simp) ?_
          refine AllReadyL.cons (o := _) rfl (by decide) (fun K hK => ?_) AllReadyL.nil
          go_simp; go_at_call 14; refine (HC.out).mono ?_; rintro e w5 ⟨B6, e6, rfl, hb5, ho5⟩; go_simp
          have HB5 := qza.mk (((Below.refl _ _).drew).trans hb5 : Below wr.heap.size wr w5)
          have HO5 := qza.mk ho5
          clear ho5 hb5 hHeld
          refine hK.out _ _ HB5.out (fun hHeld5 => ?_)
          clear hK K
          try simp only [Act.put, List.setIfInBounds_toArray, List.set_cons_zero, List.set_cons_succ]
          obtain ⟨hd0, hd1, hd2, hd3, hd4, hd5, hd6, hd7, hd8⟩ := qz0 (HD.out.below HB5.out).cells
          obtain ⟨hf0, hf1, hf2, hf3, hf4, hf5, hf6, hf7, hf8⟩ := qz7 (HD.out.below HB5.out).cells
          refine qz10 (rs := [6]) (by kernel_rfl) (by simp) ?_
          refine AllReadyL.cons_last (o := _) rfl (by decide) (fun K hK => ?_) AllReadyL.nil
          go_simp
          refine hK.out _ _ ?_
          clear hK K hHeld5
          try simp only [Act.put, List.setIfInBounds_toArray, List.set_cons_zero, List.set_cons_succ]
          refine qz21 (by kernel_rfl) ?_ _
          refine NoPanic.normal ?_
          have HD6 := qza.mk (HD.out.put (hear_st d er va ve fo co) HB5.out HO5.out)
          have HP6 := qza.mk (putB9_other (b := w.heap.size) (g := q) (by omega) (qz4 HB5.out HP.out) (.int .u64 (hearV d er va ve fo co).ta) (.int .u64 (hearV d er va ve fo co).ti) (.slice A5 (hearV d er va ve fo co).st.length c5) (.int .i64 (hearV d er va ve fo co).ph) (.int .i64 (hearV d er va ve fo co).ap) (.bool (hearV d er va ve fo co).fa) (.bool (hearV d er va ve fo co).og) (.bool (hearV d er va ve fo co).cm) (.slice B6 (hearV d er va ve fo co).sw.length e6))
          have HB6 := qza.mk (qz6 (HB.out.trans (HB5.out.mono HB.out.size)) hq (.int .u64 (hearV d er va ve fo co).ta) (.int .u64 (hearV d er va ve fo co).ti) (.slice A5 (hearV d er va ve fo co).st.length c5) (.int .i64 (hearV d er va ve fo co).ph) (.int .i64 (hearV d er va ve fo co).ap) (.bool (hearV d er va ve fo co).fa) (.bool (hearV d er va ve fo co).og) (.bool (hearV d er va ve fo co).cm) (.slice B6 (hearV d er va ve fo co).sw.length e6))
          go_upto_region 11 with (fail)
          change Code.wp _ _ _ _ (putB9 w5 q (.int .u64 (hearV d er va ve fo co).ta) (.int .u64 (hearV d er va ve fo co).ti) (.slice A5 (hearV d er va ve fo co).st.length c5) (.int .i64 (hearV d er va ve fo co).ph) (.int .i64 (hearV d er va ve fo co).ap) (.bool (hearV d er va ve fo co).fa) (.bool (hearV d er va ve fo co).og) (.bool (hearV d er va ve fo co).cm) (.slice B6 (hearV d er va ve fo co).sw.length e6))
          generalize (putB9 w5 q (.int .u64 (hearV d er va ve fo co).ta) (.int .u64 (hearV d er va ve fo co).ti) (.slice A5 (hearV d er va ve fo co).st.length c5) (.int .i64 (hearV d er va ve fo co).ph) (.int .i64 (hearV d er va ve fo co).ap) (.bool (hearV d er va ve fo co).fa) (.bool (hearV d er va ve fo co).og) (.bool (hearV d er va ve fo co).cm) (.slice B6 (hearV d er va ve fo co).sw.length e6)) = w6 at *
          clear hd0 hd1 hd2 hd3 hd4 hd5 hd6 hd7 hd8 hf0 hf1 hf2 hf3 hf4 hf5 hf6 hf7 hf8 HO5 HB5 HC
          clear hjz
          obtain ⟨hsC, hsL⟩ := HD6.out.sawC
          have hlen : (hearV d er va ve fo co).sw.length = d.sw.length + 1 := by rw [HMO.out.2]; simp
          have hval : (hearV d er va ve fo co).sw[d.sw.length]! = ⟨(st[d.sw.length]!).f0, (st[d.sw.length]!).f1, va, ve, fo⟩ := by rw [HMO.out.2]; simp
          obtain ⟨sb, so, rfl, hs0, hs1, hs2, hs3, hs4⟩ := sawRow hsC d.sw.length (by omega)
          rw [hval] at hs0 hs1 hs2 hs3 hs4
          obtain ⟨pb, po, rfl, ht0, ht1, ht2, ht3, ht4⟩ := stepRow (Kd.C_below HST.out HB6.out) d.sw.length hnlt
          obtain ⟨ab2, ao2, hab, ha0, ha1, ha2, ha3, ha4⟩ := ansRow (Kd.C_below HR.out HB6.out) jj hlt
          cases hab
          rw [HXE.out] at ha0 ha1 ha2 ha3 ha4
          obtain ⟨hp0, hp1, hp2⟩ := cellsB3 HP6.out
          obtain ⟨hd0, hd1, hd2, hd3, hd4, hd5, hd6, hd7, hd8⟩ := qz0 HD6.out.cells
          rw [hlen] at hd8
          have hjz : (0 : Int) ≤ (jj : Int) := by omega
          have hnz : (0 : Int) ≤ (d.sw.length : Int) := by omega
          have hnst : (d.sw.length : Int) < (st.length : Int) := by omega
          have hngt : ¬ (st.length : Int) < (d.sw.length : Int) + 1 := by omega
          have HLEN := qza.mk hlen
          clear hval hsC hlen ht2 ht3 ht4
          dsimp only at hs0 hs1 hs2 hs3 hs4 ha0 ha1 ha2 ha3 ha4
          generalize (st[d.sw.length]!).f0 = sf0 at *
          generalize (st[d.sw.length]!).f1 = sf1 at *
          have hst3 : st.length ≤ 9223372036854775807 := by omega
          clear HMO HPH HD HP HB hsL hsw hl3 hg3
          generalize hearV d er va ve fo co = d2 at *
          generalize d.sw.length = n at *
          go_upto_region 12 with (fail)
          go_upto_region 13 with (fail)
          go_upto_region 15 with (fail)
          go_upto_region 16 with (fail)
          have HX7 := qza.mk (heap_alloc_new w6 (.cells #[.int .u64 sf0, .string sf1, .string va, .int .u64 ve, .bool fo] 51))
          have HB7 := qza.mk ((Below.refl w6.heap.size w6).alloc (Nat.le_refl _) (.cells #[.int .u64 sf0, .string sf1, .string va, .int .u64 ve, .bool fo] 51))
          have hp2' := HB7.out.cell (World.block_lt_of_cell? _ _ hp2) |>.trans hp2
          have ht0' := HB7.out.cell (World.block_lt_of_cell? _ _ ht0) |>.trans ht0
          have ht1' := HB7.out.cell (World.block_lt_of_cell? _ _ ht1) |>.trans ht1
          have ha1' := HB7.out.cell (World.block_lt_of_cell? _ _ ha1) |>.trans ha1
          have ha2' := HB7.out.cell (World.block_lt_of_cell? _ _ ha2) |>.trans ha2
          have ha3' := HB7.out.cell (World.block_lt_of_cell? _ _ ha3) |>.trans ha3
          clear hs0 hs1 hs2 hs3 hs4 ht0 ht1 ha0 ha1 ha2 ha3 ha4 hp0 hp1 hp2 hd0 hd1 hd2 hd3 hd4 hd5 hd6 hd7 hd8
          change Code.wp _ _ _ _ (w6.alloc (.cells #[.int .u64 sf0, .string sf1, .string va, .int .u64 ve, .bool fo] 51))
          generalize w6.alloc (.cells #[.int .u64 sf0, .string sf1, .string va, .int .u64 ve, .bool fo] 51) = w7 at *
          obtain ⟨hx0, hx1, hx2, hx3, hx4⟩ := qz14 HX7.out
          have hn1 : (n : Int) + 1 - 1 = (n : Int) := by omega
          have hsx1 : (sf1.toList != sf1.toList) = false := by simp
          have hsx0 : (sf0 != sf0) = false := by simp
          have hsva : (va.toList != va.toList) = false := by simp
          have hsve : (ve != ve) = false := by simp
          have hsfo : (fo != fo) = false := by simp
          go_quiet (fail)
          all_goals
            generalize hw8 : World.drewN _ _ = w8 at *
            have HB8 := qza.mk (show Below w6.heap.size w6 w8 by rw [← hw8]; exact qz12 HB7.out _)
            clear hw8
            go_wp2
            go_roundg (l.length - (jj + 1))
          case measure => omega
          case rel => exact ⟨jj + 1, d2, A5, c5, some ⟨sb, so, none⟩, e6, by omega, by omega, by go_num, by rw [HLEN.out]; go_num, HDN, ⟨HD6.out.below HB8.out⟩, ⟨qz4 HB8.out HP6.out⟩, ⟨HB6.out.trans (HB8.out.mono HB6.out.size)⟩⟩
        · have HSA := qza.mk (sees_same HM.out HDI.out er va ve fo co hpe)
          by_cases hp : d.ph = 0
          · have he : ¬ er = 0 := fun h => hpe ⟨hp, h⟩
            have hpb : (d.ph == 0) = true := by rw [hp]; rfl
            have heb : (er == 0) = false := beq_eq_false_iff_ne.2 he
            have HPH := qza.mk hp
            clear hpe hp
            go_upto_region 10 with (fail)
            have HA0 := qza.mk ha0
            have HA1 := qza.mk ha1
            have HA2 := qza.mk ha2
            have HA3 := qza.mk ha3
            have HA4 := qza.mk ha4
            clear ha0 ha1 ha2 ha3 ha4 hd0 hd1 hd2 hd3 hd4 hd5 hd6 hd7 hd8
            refine wp_region_noPanic ?_
            refine qz20 (ds := [6]) (S := (fun wz => Below wr.heap.size wr wz)) (by kernel_rfl) ((Below.refl _ _).drew) (fun hHeld => ?_)
            refine qz3 (i := 1) (oi := _) (v := .slice (some ⟨ab, ao, none⟩) l.length cB) rfl (by kernel_rfl) (by kernel_rfl) (by kernel_rfl) (by kernel_rfl) (by kernel_rfl) (fun _ _ _ h => h) (Or.inl ⟨by kernel_rfl, ?_⟩) (by assumption) ?_
            · intro wz hSw; (try dsimp only at hSw); go_simp
            try simp only [Act.put, List.setIfInBounds_toArray, List.set_cons_zero, List.set_cons_succ]
            refine qz3 (i := 2) (oi := _) (v := .int .i64 jj) rfl (by kernel_rfl) (by kernel_rfl) (by kernel_rfl) (by kernel_rfl) (by kernel_rfl) (fun _ _ _ h => h) (Or.inl ⟨by kernel_rfl, ?_⟩) (by assumption) ?_
            · intro wz hSw; (try dsimp only at hSw); go_simp
            try simp only [Act.put, List.setIfInBounds_toArray, List.set_cons_zero, List.set_cons_succ]
            refine qz3 (i := 3) (oi := _) (v := .pointer (some ⟨ab, ao + jj * 5, none⟩)) rfl (by kernel_rfl) (by kernel_rfl) (by kernel_rfl) (by kernel_rfl) (by kernel_rfl) (fun _ _ _ h => h) (Or.inl ⟨by kernel_rfl, ?_⟩) (by assumption) ?_
            · intro wz hSw; (try dsimp only at hSw); go_simp
            try simp only [Act.put, List.setIfInBounds_toArray, List.set_cons_zero, List.set_cons_succ]
            refine qz3 (i := 0) (oi := _) (v := .agg #[.int .u64 d.ta, .int .u64 d.ti, .slice A5 d.st.length c5, .int .i64 d.ph, .int .i64 d.ap, .bool d.fa, .bool d.og, .bool d.cm, .slice B5 d.sw.length e5]) rfl (by kernel_rfl) (by kernel_rfl) (by kernel_rfl) (by kernel_rfl) (by kernel_rfl) (fun _ _ _ h => h) (Or.inl ⟨by kernel_rfl, ?_⟩) (by assumption) ?_
            · intro wz hSw; (try dsimp only at hSw); obtain ⟨hd0, hd1, hd2, hd3, hd4, hd5, hd6, hd7, hd8⟩ := qz0 (HD.out.below hSw).cells; go_simp
            try simp only [Act.put, List.setIfInBounds_toArray, List.set_cons_zero, List.set_cons_succ]
            refine qz3 (i := 4) (oi := _) (v := .agg #[.int .i64 er, .string va, .int .u64 ve, .bool fo, .bool co]) rfl (by kernel_rfl) (by kernel_rfl) (by kernel_rfl) (by kernel_rfl) (by kernel_rfl) (fun _ _ _ h => h) (Or.inl ⟨by kernel_rfl, ?_⟩) (by assumption) ?_
            · intro wz hSw; (try dsimp only at hSw); have hb0 := (hSw.cell (World.block_lt_of_cell? _ _ HA0.out)).trans HA0.out; have hb1 := (hSw.cell (World.block_lt_of_cell? _ _ HA1.out)).trans HA1.out; have hb2 := (hSw.cell (World.block_lt_of_cell? _ _ HA2.out)).trans HA2.out; have hb3 := (hSw.cell (World.block_lt_of_cell? _ _ HA3.out)).trans HA3.out; have hb4 := (hSw.cell (World.block_lt_of_cell? _ _ HA4.out)).trans HA4.out; go_simp
            try simp only [Act.put, List.setIfInBounds_toArray, List.set_cons_zero, List.set_cons_succ]
            refine qz10 (rs := [5]) (by kernel_rfl) (by simp) ?_
            refine AllReadyL.cons (o := _) rfl (by decide) (fun K hK => ?_) AllReadyL.nil
            go_simp; go_at_call 14; refine (HC.out).mono ?_; rintro e w5 ⟨B6, e6, rfl, hb5, ho5⟩; go_simp
            have HB5 := qza.mk (((Below.refl _ _).drew).trans hb5 : Below wr.heap.size wr w5)
            have HO5 := qza.mk ho5
            clear ho5 hb5 hHeld
            refine hK.out _ _ HB5.out (fun hHeld5 => ?_)
            clear hK K
            try simp only [Act.put, List.setIfInBounds_toArray, List.set_cons_zero, List.set_cons_succ]
            obtain ⟨hd0, hd1, hd2, hd3, hd4, hd5, hd6, hd7, hd8⟩ := qz0 (HD.out.below HB5.out).cells
            obtain ⟨hf0, hf1, hf2, hf3, hf4, hf5, hf6, hf7, hf8⟩ := qz7 (HD.out.below HB5.out).cells
            refine qz10 (rs := [6]) (by kernel_rfl) (by simp) ?_
            refine AllReadyL.cons_last (o := _) rfl (by decide) (fun K hK => ?_) AllReadyL.nil
            go_simp
            refine hK.out _ _ ?_
            clear hK K hHeld5
            try simp only [Act.put, List.setIfInBounds_toArray, List.set_cons_zero, List.set_cons_succ]
            refine qz21 (by kernel_rfl) ?_ _
            refine NoPanic.normal ?_
            have HD6 := qza.mk (HD.out.put (hear_st d er va ve fo co) HB5.out HO5.out)
            have HP6 := qza.mk (putB9_other (b := w.heap.size) (g := q) (by omega) (qz4 HB5.out HP.out) (.int .u64 (hearV d er va ve fo co).ta) (.int .u64 (hearV d er va ve fo co).ti) (.slice A5 (hearV d er va ve fo co).st.length c5) (.int .i64 (hearV d er va ve fo co).ph) (.int .i64 (hearV d er va ve fo co).ap) (.bool (hearV d er va ve fo co).fa) (.bool (hearV d er va ve fo co).og) (.bool (hearV d er va ve fo co).cm) (.slice B6 (hearV d er va ve fo co).sw.length e6))
            have HB6 := qza.mk (qz6 (HB.out.trans (HB5.out.mono HB.out.size)) hq (.int .u64 (hearV d er va ve fo co).ta) (.int .u64 (hearV d er va ve fo co).ti) (.slice A5 (hearV d er va ve fo co).st.length c5) (.int .i64 (hearV d er va ve fo co).ph) (.int .i64 (hearV d er va ve fo co).ap) (.bool (hearV d er va ve fo co).fa) (.bool (hearV d er va ve fo co).og) (.bool (hearV d er va ve fo co).cm) (.slice B6 (hearV d er va ve fo co).sw.length e6))
            go_upto_region 11 with (fail)
            change Code.wp _ _ _ _ (putB9 w5 q (.int .u64 (hearV d er va ve fo co).ta) (.int .u64 (hearV d er va ve fo co).ti) (.slice A5 (hearV d er va ve fo co).st.length c5) (.int .i64 (hearV d er va ve fo co).ph) (.int .i64 (hearV d er va ve fo co).ap) (.bool (hearV d er va ve fo co).fa) (.bool (hearV d er va ve fo co).og) (.bool (hearV d er va ve fo co).cm) (.slice B6 (hearV d er va ve fo co).sw.length e6))
            generalize (putB9 w5 q (.int .u64 (hearV d er va ve fo co).ta) (.int .u64 (hearV d er va ve fo co).ti) (.slice A5 (hearV d er va ve fo co).st.length c5) (.int .i64 (hearV d er va ve fo co).ph) (.int .i64 (hearV d er va ve fo co).ap) (.bool (hearV d er va ve fo co).fa) (.bool (hearV d er va ve fo co).og) (.bool (hearV d er va ve fo co).cm) (.slice B6 (hearV d er va ve fo co).sw.length e6)) = w6 at *
            clear hd0 hd1 hd2 hd3 hd4 hd5 hd6 hd7 hd8 hf0 hf1 hf2 hf3 hf4 hf5 hf6 hf7 hf8 HO5 HB5 HC
            obtain ⟨ab2, ao2, hab, ha0, ha1, ha2, ha3, ha4⟩ := ansRow (Kd.C_below HR.out HB6.out) jj hlt
            cases hab
            rw [HXE.out] at ha0 ha1 ha2 ha3 ha4
            dsimp only at ha0
            go_wp2
            go_roundg (l.length - (jj + 1))
            case measure => omega
            case rel => exact ⟨jj + 1, hearV d er va ve fo co, A5, c5, B6, e6, by omega, by omega, by go_num, by rw [HSA.out], HDN, HD6, HP6, HB6⟩
          · have hpb : (d.ph == 0) = false := beq_eq_false_iff_ne.2 hp
            clear hpe
            go_upto_region 10 with (fail)
            have HA0 := qza.mk ha0
            have HA1 := qza.mk ha1
            have HA2 := qza.mk ha2
            have HA3 := qza.mk ha3
            have HA4 := qza.mk ha4
            clear ha0 ha1 ha2 ha3 ha4 hd0 hd1 hd2 hd3 hd4 hd5 hd6 hd7 hd8
            refine wp_region_noPanic ?_
            refine qz20 (ds := [6]) (S := (fun wz => Below wr.heap.size wr wz)) (by kernel_rfl) ((Below.refl _ _).drew) (fun hHeld => ?_)
            refine qz3 (i := 1) (oi := _) (v := .slice (some ⟨ab, ao, none⟩) l.length cB) rfl (by kernel_rfl) (by kernel_rfl) (by kernel_rfl) (by kernel_rfl) (by kernel_rfl) (fun _ _ _ h => h) (Or.inl ⟨by kernel_rfl, ?_⟩) (by assumption) ?_
            · intro wz hSw; (try dsimp only at hSw); go_simp
            try simp only [Act.put, List.setIfInBounds_toArray, List.set_cons_zero, List.set_cons_succ]
            refine qz3 (i := 2) (oi := _) (v := .int .i64 jj) rfl (by kernel_rfl) (by kernel_rfl) (by kernel_rfl) (by kernel_rfl) (by kernel_rfl) (fun _ _ _ h => h) (Or.inl ⟨by kernel_rfl, ?_⟩) (by assumption) ?_
            · intro wz hSw; (try dsimp only at hSw); go_simp
            try simp only [Act.put, List.setIfInBounds_toArray, List.set_cons_zero, List.set_cons_succ]
            refine qz3 (i := 3) (oi := _) (v := .pointer (some ⟨ab, ao + jj * 5, none⟩)) rfl (by kernel_rfl) (by kernel_rfl) (by kernel_rfl) (by kernel_rfl) (by kernel_rfl) (fun _ _ _ h => h) (Or.inl ⟨by kernel_rfl, ?_⟩) (by assumption) ?_
            · intro wz hSw; (try dsimp only at hSw); go_simp
            try simp only [Act.put, List.setIfInBounds_toArray, List.set_cons_zero, List.set_cons_succ]
            refine qz3 (i := 0) (oi := _) (v := .agg #[.int .u64 d.ta, .int .u64 d.ti, .slice A5 d.st.length c5, .int .i64 d.ph, .int .i64 d.ap, .bool d.fa, .bool d.og, .bool d.cm, .slice B5 d.sw.length e5]) rfl (by kernel_rfl) (by kernel_rfl) (by kernel_rfl) (by kernel_rfl) (by kernel_rfl) (fun _ _ _ h => h) (Or.inl ⟨by kernel_rfl, ?_⟩) (by assumption) ?_
            · intro wz hSw; (try dsimp only at hSw); obtain ⟨hd0, hd1, hd2, hd3, hd4, hd5, hd6, hd7, hd8⟩ := qz0 (HD.out.below hSw).cells; go_simp
            try simp only [Act.put, List.setIfInBounds_toArray, List.set_cons_zero, List.set_cons_succ]
            refine qz3 (i := 4) (oi := _) (v := .agg #[.int .i64 er, .string va, .int .u64 ve, .bool fo, .bool co]) rfl (by kernel_rfl) (by kernel_rfl) (by kernel_rfl) (by kernel_rfl) (by kernel_rfl) (fun _ _ _ h => h) (Or.inl ⟨by kernel_rfl, ?_⟩) (by assumption) ?_
            · intro wz hSw; (try dsimp only at hSw); have hb0 := (hSw.cell (World.block_lt_of_cell? _ _ HA0.out)).trans HA0.out; have hb1 := (hSw.cell (World.block_lt_of_cell? _ _ HA1.out)).trans HA1.out; have hb2 := (hSw.cell (World.block_lt_of_cell? _ _ HA2.out)).trans HA2.out; have hb3 := (hSw.cell (World.block_lt_of_cell? _ _ HA3.out)).trans HA3.out; have hb4 := (hSw.cell (World.block_lt_of_cell? _ _ HA4.out)).trans HA4.out; go_simp
            try simp only [Act.put, List.setIfInBounds_toArray, List.set_cons_zero, List.set_cons_succ]
            refine qz10 (rs := [5]) (by kernel_rfl) (by simp) ?_
            refine AllReadyL.cons (o := _) rfl (by decide) (fun K hK => ?_) AllReadyL.nil
            go_simp; go_at_call 14; refine (HC.out).mono ?_; rintro e w5 ⟨B6, e6, rfl, hb5, ho5⟩; go_simp
            have HB5 := qza.mk (((Below.refl _ _).drew).trans hb5 : Below wr.heap.size wr w5)
            have HO5 := qza.mk ho5
            clear ho5 hb5 hHeld
            refine hK.out _ _ HB5.out (fun hHeld5 => ?_)
            clear hK K
            try simp only [Act.put, List.setIfInBounds_toArray, List.set_cons_zero, List.set_cons_succ]
            obtain ⟨hd0, hd1, hd2, hd3, hd4, hd5, hd6, hd7, hd8⟩ := qz0 (HD.out.below HB5.out).cells
            obtain ⟨hf0, hf1, hf2, hf3, hf4, hf5, hf6, hf7, hf8⟩ := qz7 (HD.out.below HB5.out).cells
            refine qz10 (rs := [6]) (by kernel_rfl) (by simp) ?_
            refine AllReadyL.cons_last (o := _) rfl (by decide) (fun K hK => ?_) AllReadyL.nil
            go_simp
            refine hK.out _ _ ?_
            clear hK K hHeld5
            try simp only [Act.put, List.setIfInBounds_toArray, List.set_cons_zero, List.set_cons_succ]
            refine qz21 (by kernel_rfl) ?_ _
            refine NoPanic.normal ?_
            have HD6 := qza.mk (HD.out.put (hear_st d er va ve fo co) HB5.out HO5.out)
            have HP6 := qza.mk (putB9_other (b := w.heap.size) (g := q) (by omega) (qz4 HB5.out HP.out) (.int .u64 (hearV d er va ve fo co).ta) (.int .u64 (hearV d er va ve fo co).ti) (.slice A5 (hearV d er va ve fo co).st.length c5) (.int .i64 (hearV d er va ve fo co).ph) (.int .i64 (hearV d er va ve fo co).ap) (.bool (hearV d er va ve fo co).fa) (.bool (hearV d er va ve fo co).og) (.bool (hearV d er va ve fo co).cm) (.slice B6 (hearV d er va ve fo co).sw.length e6))
            have HB6 := qza.mk (qz6 (HB.out.trans (HB5.out.mono HB.out.size)) hq (.int .u64 (hearV d er va ve fo co).ta) (.int .u64 (hearV d er va ve fo co).ti) (.slice A5 (hearV d er va ve fo co).st.length c5) (.int .i64 (hearV d er va ve fo co).ph) (.int .i64 (hearV d er va ve fo co).ap) (.bool (hearV d er va ve fo co).fa) (.bool (hearV d er va ve fo co).og) (.bool (hearV d er va ve fo co).cm) (.slice B6 (hearV d er va ve fo co).sw.length e6))
            go_upto_region 11 with (fail)
            change Code.wp _ _ _ _ (putB9 w5 q (.int .u64 (hearV d er va ve fo co).ta) (.int .u64 (hearV d er va ve fo co).ti) (.slice A5 (hearV d er va ve fo co).st.length c5) (.int .i64 (hearV d er va ve fo co).ph) (.int .i64 (hearV d er va ve fo co).ap) (.bool (hearV d er va ve fo co).fa) (.bool (hearV d er va ve fo co).og) (.bool (hearV d er va ve fo co).cm) (.slice B6 (hearV d er va ve fo co).sw.length e6))
            generalize (putB9 w5 q (.int .u64 (hearV d er va ve fo co).ta) (.int .u64 (hearV d er va ve fo co).ti) (.slice A5 (hearV d er va ve fo co).st.length c5) (.int .i64 (hearV d er va ve fo co).ph) (.int .i64 (hearV d er va ve fo co).ap) (.bool (hearV d er va ve fo co).fa) (.bool (hearV d er va ve fo co).og) (.bool (hearV d er va ve fo co).cm) (.slice B6 (hearV d er va ve fo co).sw.length e6)) = w6 at *
            clear hd0 hd1 hd2 hd3 hd4 hd5 hd6 hd7 hd8 hf0 hf1 hf2 hf3 hf4 hf5 hf6 hf7 hf8 HO5 HB5 HC
            go_wp2
            go_roundg (l.length - (jj + 1))
            case measure => omega
            case rel => exact ⟨jj + 1, hearV d er va ve fo co, A5, c5, B6, e6, by omega, by omega, by go_num, by rw [HSA.out], HDN, HD6, HP6, HB6⟩
      · have hltz : ¬ (jj : Int) < (l.length : Int) := by omega
        go_wp2
        go_ret
        exact ⟨rfl, HB.out⟩
end Go.Proofs.Ytkennobdoldlkaa.PAll
end
