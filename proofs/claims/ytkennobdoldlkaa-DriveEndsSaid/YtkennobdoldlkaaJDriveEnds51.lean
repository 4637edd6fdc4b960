/- Joined texts of the claim DriveEnds (part 51): contracts of functions and plain laws. -/
import Derived.BigQuiet
import Derived.BigRegion
import Derived.Deep.CutRange
import Derived.Deep.DeepCutAuto
import Derived.Deep.QuietTactic
import Derived.Deep.RegionHeld3
import Derived.Deep.RegionWith
import Derived.Test.YtkennobdoldlkaaJDriveEnds4
import Derived.Test.YtkennobdoldlkaaJDriveEnds48
import Derived.Test.YtkennobdoldlkaaJDriveEnds50
section
/- The law DriveEnds, walked. -/
namespace Go.Proofs.Ytkennobdoldlkaa.PAll
open Go.RowKit Go.Proofs.YtkennobdoldlkaaW.PrintWords Go.Proofs.YtkennobdoldlkaaW.PrintLast Go.Proofs.Ytkennobdoldlkaa
set_option linter.unusedVariables false
set_option linter.unusedSimpArgs false
theorem pot_begin (ta ti : Int) (st : List S53) : potV st ⟨ta, ti, st, 0, 0, false, false, false, []⟩ ≤ (st.length : Int) + 2 * ((partsV st).length : Int) + 2 := by
  unfold potV
  rw [if_pos rfl]
  dsimp only
  omega
theorem pot_orphan (ta ti : Int) (st : List S53) : potV st ⟨ta, ti, st, 3, 0, true, true, false, []⟩ ≤ (st.length : Int) + 2 * ((partsV st).length : Int) + 2 := by
  unfold potV
  dsimp only
  rw [if_neg (by decide), if_neg (by decide), if_neg (by decide), if_pos rfl]
  omega
set_option maxHeartbeats 4000000 in
set_option maxRecDepth 100000 in
theorem DriveEnds_walk {w : World} (cs : Array Value) (x : S27) (hx : k27.K w x cs.toList) (hsx : ok27 x) (orphan : Bool) (B0 : Option Addr) (cB : Nat) (l : List S33) (hr : Kd.C k33 w B0 l.length l) (hc : l.length ≤ cB) (hs : l.length * Try.prog.bytesOf 33 ≤ 140737488351232 ∧ ∀ x ∈ l, ok33 x) :
    Calls Try.prog 7 #[.agg cs, .bool orphan, .slice B0 l.length cB] w fun e w' => e = .returned (.bool true) ∧ Below w.heap.size w w' := by
  obtain ⟨hl3, hg3⟩ := planOk hsx
  obtain ⟨A, c, rfl, hc3, hC3⟩ := planArg hx
  obtain ⟨⟨ta, ti⟩, st⟩ := x
  dsimp only at *
  have HST := Aside0.mk hC3
  have HR := Aside0.mk hr
  have hll : l.length ≤ 9223372036854775807 := hr.2.1
  clear hx hsx hC3 hr hs
  have hx0 := heap_alloc_new w (.cells #[.int .u64 ta, .int .u64 ti, .slice A st.length c] 27)
  have HB0 := Aside0.mk ((Below.refl w.heap.size w).alloc (Nat.le_refl _) (.cells #[.int .u64 ta, .int .u64 ti, .slice A st.length c] 27))
  go_enter Try.func7, Try.ntmps7
  have HP0 := Aside0.mk hx0
  clear hx0
  go_upto_region 1 with (fail)
  change Code.wp _ _ _ _ (w.alloc (.cells #[.int .u64 ta, .int .u64 ti, .slice A st.length c] 27))
  generalize w.alloc (.cells #[.int .u64 ta, .int .u64 ti, .slice A st.length c] 27) = w1 at *
  go_upto_region 2 with (go_at_call 9; refine (shown20 _).mono ?_; rintro e w2 ⟨rfl, hb2⟩; have HB2a := Aside0.mk hb2; clear hb2)
  have HP2 := Aside0.mk (stay20 HB2a.out HP0.out)
  have HB2 := Aside0.mk (HB0.out.trans (HB2a.out.mono HB0.out.size))
  obtain ⟨hp0, hp1, hp2⟩ := cellsB3 HP2.out
  have HBC := Aside0.mk (begin_calls ta ti A c st w2 (Kd.C_below HST.out HB2.out) hc3 hl3 hg3)
  have HBB : Aside0 (beginV ta ti st = if mayV ta ti st = true then (⟨ta, ti, st, 0, 0, false, false, false, []⟩, 0) else (zDrv, 1)) := ⟨rfl⟩
  clear HP0 HB0 HB2a
  cases hm : mayV ta ti st with
  | false =>
    have hmf : ¬ mayV ta ti st = true := by rw [hm]; simp
    rw [if_neg hmf] at HBB
    rw [HBB.out] at HBC
    unfold BPost zDrv dagg at HBC
    dsimp only at HBC
    clear HBB
    have HOB : Aside0 (orphanV ta ti st = (zDrv, 1)) := ⟨by unfold orphanV; rw [if_neg hmf]⟩
    go_upto_region 3 with (go_at_call 16; refine (HBC.out).mono ?_; rintro e w3 ⟨vs, rfl, _, ho3, hb3⟩; obtain ⟨A3, n3, c3, rfl⟩ := ownSlice20 ho3; have HB3 := Aside0.mk hb3; clear ho3 hb3)
    have HX4 := Aside0.mk (heap_alloc_new w3 (.cells #[.int .u64 0, .int .u64 0, .slice A3 n3 c3, .int .i64 0, .int .i64 0, .bool false, .bool false, .bool false, .slice none 0 0] 30))
    have HB3b := Aside0.mk (HB2.out.trans (HB3.out.mono HB2.out.size))
    have HB4 := Aside0.mk (HB3b.out.alloc HB3b.out.size (.cells #[.int .u64 0, .int .u64 0, .slice A3 n3 c3, .int .i64 0, .int .i64 0, .bool false, .bool false, .bool false, .slice none 0 0] 30))
    have HP4 := Aside0.mk (stayA20 (stay20 HB3.out HP2.out) (.cells #[.int .u64 0, .int .u64 0, .slice A3 n3 c3, .int .i64 0, .int .i64 0, .bool false, .bool false, .bool false, .slice none 0 0] 30))
    have hq : w.heap.size ≤ w3.heap.size := HB3b.out.size
    have hq2 : w.heap.size < w3.heap.size := Nat.lt_of_lt_of_le (Array.getElem?_eq_some_iff.1 HP2.out).1 HB3.out.size
    change Code.wp _ _ _ _ (w3.alloc (.cells #[.int .u64 0, .int .u64 0, .slice A3 n3 c3, .int .i64 0, .int .i64 0, .bool false, .bool false, .bool false, .slice none 0 0] 30))
    generalize w3.alloc (.cells #[.int .u64 0, .int .u64 0, .slice A3 n3 c3, .int .i64 0, .int .i64 0, .bool false, .bool false, .bool false, .slice none 0 0] 30) = w4 at *
    generalize w3.heap.size = q at *
    clear HB3 HB3b HP2 HB2 HBC hp0 hp1 hp2
    obtain ⟨hp0, hp1, hp2⟩ := cellsB3 HP4.out
    cases orphan with
    | false =>
      go_wp2_with (go_at_call 26; refine (may_calls ta ti A c st _ (Kd.C_below HST.out HB4.out) hc3 hl3 hg3).mono ?_; rw [hm]; rintro e w7 ⟨rfl, hb7⟩; have HB7 := Aside0.mk hb7; clear hb7)
      go_ret
      exact ⟨rfl, HB4.out.trans (HB7.out.mono HB4.out.size)⟩
    | true =>
      have HOC := Aside0.mk (orphan_calls ta ti A c st w4 (Kd.C_below HST.out HB4.out) hc3 hl3 hg3)
      rw [HOB.out] at HOC
      unfold BPost zDrv dagg at HOC
      dsimp only at HOC
      clear HOB
      obtain ⟨hd0, hd1, hd2, hd3, hd4, hd5, hd6, hd7, hd8⟩ := cellsB9 HX4.out
      go_upto_region 5 with (go_at_call 24; refine (HOC.out).mono ?_; rintro e w5 ⟨vs, rfl, _, ho5, hb5⟩; obtain ⟨A6, n6, c6, rfl⟩ := ownSlice20 ho5; have HB5 := Aside0.mk hb5; clear ho5 hb5 hd0 hd1 hd2 hd3 hd4 hd5 hd6 hd7 hd8; obtain ⟨hd0, hd1, hd2, hd3, hd4, hd5, hd6, hd7, hd8⟩ := cellsB9 (stay20 HB5.out HX4.out); obtain ⟨hf0, hf1, hf2, hf3, hf4, hf5, hf6, hf7, hf8⟩ := frozB9 (stay20 HB5.out HX4.out))
      have HB6 := Aside0.mk (putB9_below (HB4.out.trans (HB5.out.mono HB4.out.size)) hq (.int .u64 0) (.int .u64 0) (.slice A6 n6 c6) (.int .i64 0) (.int .i64 0) (.bool false) (.bool false) (.bool false) (.slice none 0 0))
      have HP6 := Aside0.mk (putB9_other (b := w.heap.size) (g := q) (by omega) (stay20 HB5.out HP4.out) (.int .u64 0) (.int .u64 0) (.slice A6 n6 c6) (.int .i64 0) (.int .i64 0) (.bool false) (.bool false) (.bool false) (.slice none 0 0))
      change Code.wp _ _ _ _ (putB9 w5 q (.int .u64 0) (.int .u64 0) (.slice A6 n6 c6) (.int .i64 0) (.int .i64 0) (.bool false) (.bool false) (.bool false) (.slice none 0 0))
      generalize putB9 w5 q (.int .u64 0) (.int .u64 0) (.slice A6 n6 c6) (.int .i64 0) (.int .i64 0) (.bool false) (.bool false) (.bool false) (.slice none 0 0) = w6 at *
      clear hp0 hp1 hp2 hd0 hd1 hd2 hd3 hd4 hd5 hd6 hd7 hd8 hf0 hf1 hf2 hf3 hf4 hf5 hf6 hf7 hf8 HOC
      obtain ⟨hp0, hp1, hp2⟩ := cellsB3 HP6.out
      go_wp2_with (go_at_call 26; refine (may_calls ta ti A c st _ (Kd.C_below HST.out HB6.out) hc3 hl3 hg3).mono ?_; rw [hm]; rintro e w7 ⟨rfl, hb7⟩; have HB7 := Aside0.mk hb7; clear hb7)
      go_ret
      exact ⟨rfl, HB6.out.trans (HB7.out.mono HB6.out.size)⟩
  | true =>
    rw [if_pos hm] at HBB
    rw [HBB.out] at HBC
    unfold BPost dagg at HBC
    dsimp only at HBC
    clear HBB
    have HOB : Aside0 (orphanV ta ti st = (⟨ta, ti, st, 3, 0, true, true, false, []⟩, 0)) := ⟨by unfold orphanV; rw [if_pos hm]⟩
    go_upto_region 3 with (go_at_call 16; refine (HBC.out).mono ?_; rintro e w3 ⟨vs, rfl, _, ho3, hb3⟩; obtain ⟨A3, c3, rfl, hc4⟩ := own_sl20 ho3; have HO3 := Aside0.mk ho3; have HB3 := Aside0.mk hb3; clear ho3 hb3)
    rw [List.length_map] at HO3
    have HD4 := Aside0.mk (DAt.made (w := w3) (r := ⟨ta, ti, st, 0, 0, false, false, false, []⟩) rfl HO3.out rfl)
    have HB3b := Aside0.mk (HB2.out.trans (HB3.out.mono HB2.out.size))
    have HB4 := Aside0.mk (HB3b.out.alloc HB3b.out.size (.cells #[.int .u64 ta, .int .u64 ti, .slice A3 st.length c3, .int .i64 0, .int .i64 0, .bool false, .bool false, .bool false, .slice none 0 0] 30))
    have HP4 := Aside0.mk (stayA20 (stay20 HB3.out HP2.out) (.cells #[.int .u64 ta, .int .u64 ti, .slice A3 st.length c3, .int .i64 0, .int .i64 0, .bool false, .bool false, .bool false, .slice none 0 0] 30))
    have hq : w.heap.size ≤ w3.heap.size := HB3b.out.size
    have hq2 : w.heap.size < w3.heap.size := Nat.lt_of_lt_of_le (Array.getElem?_eq_some_iff.1 HP2.out).1 HB3.out.size
    dsimp only at HD4
    rw [List.length_map] at *
    change Code.wp _ _ _ _ (w3.alloc (.cells #[.int .u64 ta, .int .u64 ti, .slice A3 st.length c3, .int .i64 0, .int .i64 0, .bool false, .bool false, .bool false, .slice none 0 0] 30))
    generalize w3.alloc (.cells #[.int .u64 ta, .int .u64 ti, .slice A3 st.length c3, .int .i64 0, .int .i64 0, .bool false, .bool false, .bool false, .slice none 0 0] 30) = w4 at *
    generalize w3.heap.size = q at *
    clear HO3 HB3 HB3b HP2 HB2 HBC hp0 hp1 hp2
    have HM := Aside0.mk hm
    clear hm
    cases orphan with
    | false =>
      have HD := Aside0.mk (HD4).out
      have HP := Aside0.mk (HP4).out
      have HB := Aside0.mk (HB4).out
      clear HD4 HP4 HB4
      obtain ⟨hp0, hp1, hp2⟩ := cellsB3 HP.out
      obtain ⟨hd0, hd1, hd2, hd3, hd4, hd5, hd6, hd7, hd8⟩ := cellsB9 HD.out.cells
      go_upto_region 7 with (fail)
      clear hp0 hp1 hp2 hd0 hd1 hd2 hd3 hd4 hd5 hd6 hd7 hd8
      obtain ⟨mm1, mm2, mm3, mm4⟩ := may_facts HM.out
      have hwA : IntKind.i64.wrap (2 * ((partsV st).length : Int)) = 2 * ((partsV st).length : Int) := by rw [IntKind.wrap_i64]; omega
      have hwB : IntKind.i64.wrap ((st.length : Int) + 2 * ((partsV st).length : Int)) = (st.length : Int) + 2 * ((partsV st).length : Int) := by rw [IntKind.wrap_i64]; omega
      have hwC : IntKind.i64.wrap ((st.length : Int) + 2 * ((partsV st).length : Int) + 2) = (st.length : Int) + 2 * ((partsV st).length : Int) + 2 := by rw [IntKind.wrap_i64]; omega
      have HPT := Aside0.mk (parts_walk ta ti A c st w4.drew (Kd.C_below HST.out HB.out.drew) hc3 (by omega) hg3)
      refine wp_region_noPanic ?_
      refine wp_region_last_drew (ds := []) (S := (fun wz => Below w4.heap.size w4 wz)) (by kernel_rfl) ((Below.refl _ _).drew) (fun hHeld => ?_)
      refine wpAnyLast_take (i := 0) (oi := _) (v := .pointer (some ⟨w.heap.size, 2, none⟩)) rfl (by kernel_rfl) (by kernel_rfl) (by kernel_rfl) (by kernel_rfl) (by kernel_rfl) (fun _ _ _ h => h) (Or.inl ⟨by kernel_rfl, ?_⟩) (by assumption) ?_
      · intro wz hSw; (try dsimp only at hSw); go_simp
      try simp only [Act.put, List.setIfInBounds_toArray, List.set_cons_zero, List.set_cons_succ]
      refine wpAnyLast_take (i := 1) (oi := _) (v := .slice A st.length c) rfl (by kernel_rfl) (by kernel_rfl) (by kernel_rfl) (by kernel_rfl) (by kernel_rfl) (fun _ _ _ h => h) (Or.inl ⟨by kernel_rfl, ?_⟩) (by assumption) ?_
      · intro wz hSw; (try dsimp only at hSw); obtain ⟨hp0, hp1, hp2⟩ := cellsB3 (stay20 hSw HP.out); go_simp
      try simp only [Act.put, List.setIfInBounds_toArray, List.set_cons_zero, List.set_cons_succ]
      refine wpAnyLast_take (i := 2) (oi := _) (v := .int .i64 st.length) rfl (by kernel_rfl) (by kernel_rfl) (by kernel_rfl) (by kernel_rfl) (by kernel_rfl) (fun _ _ _ h => h) (Or.inl ⟨by kernel_rfl, ?_⟩) (by assumption) ?_
      · intro wz hSw; (try dsimp only at hSw); go_simp
      try simp only [Act.put, List.setIfInBounds_toArray, List.set_cons_zero, List.set_cons_succ]
      refine wpAnyLast_take (i := 3) (oi := _) (v := .agg #[.int .u64 ta, .int .u64 ti, .slice A st.length c]) rfl (by kernel_rfl) (by kernel_rfl) (by kernel_rfl) (by kernel_rfl) (by kernel_rfl) (fun _ _ _ h => h) (Or.inl ⟨by kernel_rfl, ?_⟩) (by assumption) ?_
      · intro wz hSw; (try dsimp only at hSw); obtain ⟨hp0, hp1, hp2⟩ := cellsB3 (stay20 hSw HP.out); go_simp
      try simp only [Act.put, List.setIfInBounds_toArray, List.set_cons_zero, List.set_cons_succ]
      refine wpAnyLast_ready (rs := [4]) (by kernel_rfl) (by simp) ?_
      refine AllReadyL.cons (o := _) rfl (by decide) (fun K hK => ?_) AllReadyL.nil
      go_simp; go_at_call 17; refine (HPT.out).mono ?_; rintro e w8 ⟨v8, rfl, hR8, hb8⟩; obtain ⟨A9, c9, rfl, hc9, hC9⟩ := Sl.of_R hR8; clear hR8 hC9; go_simp
      have HB8 := Aside0.mk (((Below.refl _ _).drew).trans hb8 : Below w4.heap.size w4 w8)
      clear hb8 hHeld
      refine hK.out _ _ HB8.out (fun hHeld8 => ?_)
      clear hK K
      try simp only [Act.put, List.setIfInBounds_toArray, List.set_cons_zero, List.set_cons_succ]
      refine wpAnyLast_take (i := 5) (oi := _) (v := .int .i64 (partsV st).length) rfl (by kernel_rfl) (by kernel_rfl) (by kernel_rfl) (by kernel_rfl) (by kernel_rfl) (fun _ _ _ h => h) (Or.inl ⟨by kernel_rfl, ?_⟩) (by assumption) ?_
      · intro wz hSw; (try dsimp only at hSw); go_simp
      try simp only [Act.put, List.setIfInBounds_toArray, List.set_cons_zero, List.set_cons_succ]
      refine wpAnyLast_take (i := 6) (oi := _) (v := .int .i64 (2 * ((partsV st).length : Int))) rfl (by kernel_rfl) (by kernel_rfl) (by kernel_rfl) (by kernel_rfl) (by kernel_rfl) (fun _ _ _ h => h) (Or.inl ⟨by kernel_rfl, ?_⟩) (by assumption) ?_
      · intro wz hSw; (try dsimp only at hSw); go_simp
      try simp only [Act.put, List.setIfInBounds_toArray, List.set_cons_zero, List.set_cons_succ]
      refine wpAnyLast_take (i := 7) (oi := _) (v := .int .i64 ((st.length : Int) + 2 * ((partsV st).length : Int))) rfl (by kernel_rfl) (by kernel_rfl) (by kernel_rfl) (by kernel_rfl) (by kernel_rfl) (fun _ _ _ h => h) (Or.inl ⟨by kernel_rfl, ?_⟩) (by assumption) ?_
      · intro wz hSw; (try dsimp only at hSw); go_simp
      try simp only [Act.put, List.setIfInBounds_toArray, List.set_cons_zero, List.set_cons_succ]
      refine wpAnyLast_take (i := 8) (oi := _) (v := .int .i64 ((st.length : Int) + 2 * ((partsV st).length : Int) + 2)) rfl (by kernel_rfl) (by kernel_rfl) (by kernel_rfl) (by kernel_rfl) (by kernel_rfl) (fun _ _ _ h => h) (Or.inl ⟨by kernel_rfl, ?_⟩) (by assumption) ?_
      · intro wz hSw; (try dsimp only at hSw); go_simp
      try simp only [Act.put, List.setIfInBounds_toArray, List.set_cons_zero, List.set_cons_succ]
      refine wpAnyLast_take (i := 9) (oi := _) (v := .int .i64 ((st.length : Int) + 2 * ((partsV st).length : Int) + 2)) rfl (by kernel_rfl) (by kernel_rfl) (by kernel_rfl) (by kernel_rfl) (by kernel_rfl) (fun _ _ _ h => h) (Or.inl ⟨by kernel_rfl, ?_⟩) (by assumption) ?_
      · intro wz hSw; (try dsimp only at hSw); go_simp
      try simp only [Act.put, List.setIfInBounds_toArray, List.set_cons_zero, List.set_cons_succ]
      refine wpAnyLast_done (by kernel_rfl) ?_ _
      refine NoPanic.normal ?_
      clear hHeld8 hwA hwB hwC HPT
      have HD8 := Aside0.mk (HD.out.below HB8.out)
      have HP8 := Aside0.mk (stay20 HB8.out HP.out)
      have HBW8 := Aside0.mk (HB.out.trans ((HB8.out).mono HB.out.size))
      clear HD HP HB HB8
      obtain ⟨hd0, hd1, hd2, hd3, hd4, hd5, hd6, hd7, hd8⟩ := cellsB9 HD8.out.cells
      go_upto_region 9 with (fail)
      go_wp2
      go_loopg [10, 11, 12] l.length (fun gg s10 s11 s12 wr => ∃ (jj : Nat) (d : Drv) (A5 : Option Addr) (c5 : Nat) (B5 : Option Addr) (e5 : Nat) (lf : Int), jj ≤ l.length ∧ l.length - jj ≤ gg ∧ s10 = .int .i64 lf ∧ s11 = .int .i64 d.ph ∧ s12 = .int .i64 jj ∧ potV st d ≤ lf ∧ lf ≤ 40 ∧ Aside0 (DI st d) ∧ Aside0 (DAt wr q d A5 c5 B5 e5) ∧ Aside0 (wr.heap[w.heap.size]? = some (.cells #[.int .u64 ta, .int .u64 ti, .slice A st.length c] 27 (0, 0))) ∧ Aside0 (Below w.heap.size w wr))
      case atStart => exact ⟨0, ⟨ta, ti, st, 0, 0, false, false, false, []⟩, _, _, none, 0, _, Nat.zero_le _, by omega, rfl, rfl, rfl, pot_begin ta ti st, by omega, ⟨begin_di HM.out⟩, HD8, HP8, HBW8⟩
      case round =>
        clear HD8 HP8 HBW8 hd0 hd1 hd2 hd3 hd4 hd5 hd6 hd7 hd8
        obtain ⟨jj, d, A5, c5, B5, e5, lf, hjj, hgk, rfl, rfl, rfl, hpl, hlf, HDI, HD, HP, HB⟩ := hrel
        obtain ⟨hd0, hd1, hd2, hd3, hd4, hd5, hd6, hd7, hd8⟩ := cellsB9 HD.out.cells
        obtain ⟨m1, m2, m3, _⟩ := may_facts HM.out
        obtain ⟨pn1, pn2, pn3⟩ := pot_nonneg HM.out HDI.out
        have HNX := Aside0.mk (HD.out.next (HDI.out.ok HM.out hg3) wr (Below.refl _ _))
        have HIS := Aside0.mk HDI.out.is
        unfold NextPost at HNX
        by_cases hlt : jj < l.length
        · have hltz : (jj : Int) < (l.length : Int) := by omega
          have hjz : (0 : Int) ≤ (jj : Int) := by omega
          by_cases h5 : d.ph = 5
          · have hn1 : (nextV d).2.2 = false := by rw [HIS.out, h5]; rfl
            clear HIS
            have h5b : (d.ph == 5) = true := by rw [h5]; rfl
            clear h5
            generalize nextV d = nv at *
            obtain ⟨ng, ⟨nk, n1, n2, nkey, npu, ncm, npa⟩, nis⟩ := nv
            unfold oagg at HNX
            dsimp only at *
            subst hn1
            go_upto_region 13 with (go_at_call 10; refine (HNX.out).mono ?_; rintro e w6 ⟨vp, vq, rfl, hp6, hq6, hb6⟩; obtain ⟨Ap, cp, rfl, _, hCp⟩ := Sl.of_R hp6; obtain ⟨Aq, cq, rfl, _, hCq⟩ := Sl.of_R hq6; clear hCp hCq hp6 hq6; have HB6 := Aside0.mk hb6; clear hb6)
            have HB7 := Aside0.mk (HB6.out.alloc HB6.out.size (.cells #[.int .i64 nk, .int .u64 n1, .int .u64 n2, .string nkey, .slice Ap npu.length cp, .bool ncm, .slice Aq npa.length cq] 38))
            have HD7 := Aside0.mk (HD.out.below HB7.out)
            change Code.wp _ _ _ _ (w6.alloc (.cells #[.int .i64 nk, .int .u64 n1, .int .u64 n2, .string nkey, .slice Ap npu.length cp, .bool ncm, .slice Aq npa.length cq] 38))
            generalize w6.alloc (.cells #[.int .i64 nk, .int .u64 n1, .int .u64 n2, .string nkey, .slice Ap npu.length cp, .bool ncm, .slice Aq npa.length cq] 38) = w7 at *
            clear hd0 hd1 hd2 hd3 hd4 hd5 hd6 hd7 hd8
            obtain ⟨hd0, hd1, hd2, hd3, hd4, hd5, hd6, hd7, hd8⟩ := cellsB9 HD7.out.cells
            go_wp2
            go_ret
            exact ⟨rfl, HB.out.trans (HB7.out.mono HB.out.size)⟩
          · have hn1 : (nextV d).2.2 = true := by rw [HIS.out]; simp [h5]
            clear HIS
            have H5 := Aside0.mk h5
            clear h5
            generalize nextV d = nv at *
            obtain ⟨ng, ⟨nk, n1, n2, nkey, npu, ncm, npa⟩, nis⟩ := nv
            unfold oagg at HNX
            dsimp only at *
            subst hn1
            go_upto_region 15 with (go_at_call 10; refine (HNX.out).mono ?_; rintro e w6 ⟨vp, vq, rfl, hp6, hq6, hb6⟩; obtain ⟨Ap, cp, rfl, _, hCp⟩ := Sl.of_R hp6; obtain ⟨Aq, cq, rfl, _, hCq⟩ := Sl.of_R hq6; clear hCp hCq hp6 hq6; have HB6 := Aside0.mk hb6; clear hb6)
            have HB7 := Aside0.mk (HB6.out.alloc HB6.out.size (.cells #[.int .i64 nk, .int .u64 n1, .int .u64 n2, .string nkey, .slice Ap npu.length cp, .bool ncm, .slice Aq npa.length cq] 38))
            change Code.wp _ _ _ _ (w6.alloc (.cells #[.int .i64 nk, .int .u64 n1, .int .u64 n2, .string nkey, .slice Ap npu.length cp, .bool ncm, .slice Aq npa.length cq] 38))
            generalize w6.alloc (.cells #[.int .i64 nk, .int .u64 n1, .int .u64 n2, .string nkey, .slice Ap npu.length cp, .bool ncm, .slice Aq npa.length cq] 38) = w7 at *
            clear hd0 hd1 hd2 hd3 hd4 hd5 hd6 hd7 hd8 HNX HB6
            have HD := Aside0.mk (HD.out.below HB7.out)
            have HP := Aside0.mk (stay20 HB7.out HP.out)
            have HB := Aside0.mk (HB.out.trans (HB7.out.mono HB.out.size))
            generalize hxe : l[jj]! = x at *
            have HXE := Aside0.mk hxe
            clear hxe
            obtain ⟨er, va, ve, fo, co⟩ := x
            clear HB7
            obtain ⟨hd0, hd1, hd2, hd3, hd4, hd5, hd6, hd7, hd8⟩ := cellsB9 HD.out.cells
            obtain ⟨ab, ao, rfl, ha0, ha1, ha2, ha3, ha4⟩ := ansRow (Kd.C_below HR.out HB.out) jj hlt
            rw [HXE.out] at ha0 ha1 ha2 ha3 ha4
            try dsimp only at ha0 ha1 ha2 ha3 ha4
            have HC := Aside0.mk (HD.out.hear (HDI.out.ok HM.out hg3) er va ve fo co w7.drew ((Below.refl _ _).drew))
            have HDN := Aside0.mk (hear_di HM.out HDI.out er va ve fo co)
            have HA0 := Aside0.mk ha0
            have HA1 := Aside0.mk ha1
            have HA2 := Aside0.mk ha2
            have HA3 := Aside0.mk ha3
            have HA4 := Aside0.mk ha4
            clear ha0 ha1 ha2 ha3 ha4 hd0 hd1 hd2 hd3 hd4 hd5 hd6 hd7 hd8
            refine wp_region_noPanic ?_
            refine wp_region_last_drew (ds := [6]) (S := (fun wz => Below w7.heap.size w7 wz)) (by kernel_rfl) ((Below.refl _ _).drew) (fun hHeld => ?_)
            refine wpAnyLast_take (i := 1) (oi := _) (v := .slice (some ⟨ab, ao, none⟩) l.length cB) rfl (by kernel_rfl) (by kernel_rfl) (by kernel_rfl) (by kernel_rfl) (by kernel_rfl) (fun _ _ _ h => h) (Or.inl ⟨by kernel_rfl, ?_⟩) (by assumption) ?_
            · intro wz hSw; (try dsimp only at hSw); go_simp
            try simp only [Act.put, List.setIfInBounds_toArray, List.set_cons_zero, List.set_cons_succ]
            refine wpAnyLast_take (i := 2) (oi := _) (v := .int .i64 jj) rfl (by kernel_rfl) (by kernel_rfl) (by kernel_rfl) (by kernel_rfl) (by kernel_rfl) (fun _ _ _ h => h) (Or.inl ⟨by kernel_rfl, ?_⟩) (by assumption) ?_
            · intro wz hSw; (try dsimp only at hSw); go_simp
            try simp only [Act.put, List.setIfInBounds_toArray, List.set_cons_zero, List.set_cons_succ]
            refine wpAnyLast_take (i := 3) (oi := _) (v := .pointer (some ⟨ab, ao + jj * 5, none⟩)) rfl (by kernel_rfl) (by kernel_rfl) (by kernel_rfl) (by kernel_rfl) (by kernel_rfl) (fun _ _ _ h => h) (Or.inl ⟨by kernel_rfl, ?_⟩) (by assumption) ?_
            · intro wz hSw; (try dsimp only at hSw); go_simp
            try simp only [Act.put, List.setIfInBounds_toArray, List.set_cons_zero, List.set_cons_succ]
            refine wpAnyLast_take (i := 0) (oi := _) (v := .agg #[.int .u64 d.ta, .int .u64 d.ti, .slice A5 d.st.length c5, .int .i64 d.ph, .int .i64 d.ap, .bool d.fa, .bool d.og, .bool d.cm, .slice B5 d.sw.length e5]) rfl (by kernel_rfl) (by kernel_rfl) (by kernel_rfl) (by kernel_rfl) (by kernel_rfl) (fun _ _ _ h => h) (Or.inl ⟨by kernel_rfl, ?_⟩) (by assumption) ?_
            · intro wz hSw; (try dsimp only at hSw); obtain ⟨hd0, hd1, hd2, hd3, hd4, hd5, hd6, hd7, hd8⟩ := cellsB9 (HD.out.below hSw).cells; go_simp
            try simp only [Act.put, List.setIfInBounds_toArray, List.set_cons_zero, List.set_cons_succ]
            refine wpAnyLast_take (i := 4) (oi := _) (v := .agg #[.int .i64 er, .string va, .int .u64 ve, .bool fo, .bool co]) rfl (by kernel_rfl) (by kernel_rfl) (by kernel_rfl) (by kernel_rfl) (by kernel_rfl) (fun _ _ _ h => h) (Or.inl ⟨by kernel_rfl, ?_⟩) (by assumption) ?_
            · intro wz hSw; (try dsimp only at hSw); have hb0 := (hSw.cell (World.block_lt_of_cell? _ _ HA0.out)).trans HA0.out; have hb1 := (hSw.cell (World.block_lt_of_cell? _ _ HA1.out)).trans HA1.out; have hb2 := (hSw.cell (World.block_lt_of_cell? _ _ HA2.out)).trans HA2.out; have hb3 := (hSw.cell (World.block_lt_of_cell? _ _ HA3.out)).trans HA3.out; have hb4 := (hSw.cell (World.block_lt_of_cell? _ _ HA4.out)).trans HA4.out; go_simp
            try simp only [Act.put, List.setIfInBounds_toArray, List.set_cons_zero, List.set_cons_succ]
            refine wpAnyLast_ready (rs := [5]) (by kernel_rfl) (by simp) ?_
            refine AllReadyL.cons (o := _) rfl (by decide) (fun K hK => ?_) AllReadyL.nil
            go_simp; go_at_call 14; refine (HC.out).mono ?_; rintro e w5 ⟨B6, e6, rfl, hb5, ho5⟩; go_simp
            have HB5 := Aside0.mk (((Below.refl _ _).drew).trans hb5 : Below w7.heap.size w7 w5)
            have HO5 := Aside0.mk ho5
            clear ho5 hb5 hHeld
            refine hK.out _ _ HB5.out (fun hHeld5 => ?_)
            clear hK K
            try simp only [Act.put, List.setIfInBounds_toArray, List.set_cons_zero, List.set_cons_succ]
            obtain ⟨hd0, hd1, hd2, hd3, hd4, hd5, hd6, hd7, hd8⟩ := cellsB9 (HD.out.below HB5.out).cells
            obtain ⟨hf0, hf1, hf2, hf3, hf4, hf5, hf6, hf7, hf8⟩ := frozB9 (HD.out.below HB5.out).cells
            refine wpAnyLast_ready (rs := [6]) (by kernel_rfl) (by simp) ?_
            refine AllReadyL.cons_last (o := _) rfl (by decide) (fun K hK => ?_) AllReadyL.nil
            go_simp
            refine hK.out _ _ ?_
            clear hK K hHeld5
            try simp only [Act.put, List.setIfInBounds_toArray, List.set_cons_zero, List.set_cons_succ]
            refine wpAnyLast_done (by kernel_rfl) ?_ _
            refine NoPanic.normal ?_
            have HD6 := Aside0.mk (HD.out.put (hear_st d er va ve fo co) HB5.out HO5.out)
            have HP6 := Aside0.mk (putB9_other (b := w.heap.size) (g := q) (by omega) (stay20 HB5.out HP.out) (.int .u64 (hearV d er va ve fo co).ta) (.int .u64 (hearV d er va ve fo co).ti) (.slice A5 (hearV d er va ve fo co).st.length c5) (.int .i64 (hearV d er va ve fo co).ph) (.int .i64 (hearV d er va ve fo co).ap) (.bool (hearV d er va ve fo co).fa) (.bool (hearV d er va ve fo co).og) (.bool (hearV d er va ve fo co).cm) (.slice B6 (hearV d er va ve fo co).sw.length e6))
            have HB6 := Aside0.mk (putB9_below (HB.out.trans (HB5.out.mono HB.out.size)) hq (.int .u64 (hearV d er va ve fo co).ta) (.int .u64 (hearV d er va ve fo co).ti) (.slice A5 (hearV d er va ve fo co).st.length c5) (.int .i64 (hearV d er va ve fo co).ph) (.int .i64 (hearV d er va ve fo co).ap) (.bool (hearV d er va ve fo co).fa) (.bool (hearV d er va ve fo co).og) (.bool (hearV d er va ve fo co).cm) (.slice B6 (hearV d er va ve fo co).sw.length e6))
            go_upto_region 16 with (fail)
            change Code.wp _ _ _ _ (putB9 w5 q (.int .u64 (hearV d er va ve fo co).ta) (.int .u64 (hearV d er va ve fo co).ti) (.slice A5 (hearV d er va ve fo co).st.length c5) (.int .i64 (hearV d er va ve fo co).ph) (.int .i64 (hearV d er va ve fo co).ap) (.bool (hearV d er va ve fo co).fa) (.bool (hearV d er va ve fo co).og) (.bool (hearV d er va ve fo co).cm) (.slice B6 (hearV d er va ve fo co).sw.length e6))
            generalize (putB9 w5 q (.int .u64 (hearV d er va ve fo co).ta) (.int .u64 (hearV d er va ve fo co).ti) (.slice A5 (hearV d er va ve fo co).st.length c5) (.int .i64 (hearV d er va ve fo co).ph) (.int .i64 (hearV d er va ve fo co).ap) (.bool (hearV d er va ve fo co).fa) (.bool (hearV d er va ve fo co).og) (.bool (hearV d er va ve fo co).cm) (.slice B6 (hearV d er va ve fo co).sw.length e6)) = w6 at *
            clear hd0 hd1 hd2 hd3 hd4 hd5 hd6 hd7 hd8 hf0 hf1 hf2 hf3 hf4 hf5 hf6 hf7 hf8 HO5 HB5 HC
            obtain ⟨hs1, hs2, hs3⟩ := pot_step HM.out HDI.out H5.out er va ve fo co
            obtain ⟨qn1, qn2, qn3⟩ := pot_nonneg HM.out HDN.out
            have hnph : ¬ (hearV d er va ve fo co).ph < d.ph := by omega
            obtain ⟨hd0, hd1, hd2, hd3, hd4, hd5, hd6, hd7, hd8⟩ := cellsB9 HD6.out.cells
            obtain ⟨ab2, ao2, hab, ha0, ha1, ha2, ha3, ha4⟩ := ansRow (Kd.C_below HR.out HB6.out) jj hlt
            cases hab
            rw [HXE.out] at ha0 ha1 ha2 ha3 ha4
            try dsimp only at ha0 ha1 ha2 ha3 ha4
            have HPN := Aside0.mk hpl
            have HS2 := Aside0.mk hs2
            by_cases h11 : er = 11
            · have h11b : (er != 11) = false := by rw [h11]; rfl
              have hl0 : ¬ lf < 0 := by omega
              clear h11 hs3 hs2 hs1 hpl
              go_wp2
              go_roundg (l.length - (jj + 1))
              case measure => omega
              case rel => exact ⟨jj + 1, hearV d er va ve fo co, A5, c5, B6, e6, lf, by omega, by omega, rfl, rfl, by go_num, Int.le_trans HS2.out HPN.out, hlf, HDN, HD6, HP6, HB6⟩
            · have h11b : (er != 11) = true := by simp [h11]
              have hs3' := hs3 h11
              have hwl : IntKind.i64.wrap (lf - 1) = lf - 1 := by rw [IntKind.wrap_i64]; omega
              have hl0 : ¬ lf - 1 < 0 := by omega
              have HS3 : Aside0 (potV st (hearV d er va ve fo co) ≤ lf - 1) := ⟨by omega⟩
              clear h11 hs3 hs2 hs1 hpl hs3'
              go_wp2
              go_roundg (l.length - (jj + 1))
              case measure => omega
              case rel => exact ⟨jj + 1, hearV d er va ve fo co, A5, c5, B6, e6, lf - 1, by omega, by omega, by first | rfl | go_num, rfl, by go_num, HS3.out, by omega, HDN, HD6, HP6, HB6⟩
        · have hltz : ¬ (jj : Int) < (l.length : Int) := by omega
          have hfin : (nextV d).2.2 = false ∨ (nextV d).2.2 = true ∧ lf > 0 := by
            rw [HIS.out]
            by_cases h5 : d.ph = 5
            · left; rw [h5]; rfl
            · right; exact ⟨by simp [h5], by have := pn3 h5; omega⟩
          clear HIS
          generalize nextV d = nv at *
          obtain ⟨ng, ⟨nk, n1, n2, nkey, npu, ncm, npa⟩, nis⟩ := nv
          unfold oagg at HNX
          dsimp only at *
          have HFI := Aside0.mk hfin
          clear hfin
          go_upto_region 24 with (go_at_call 10; refine (HNX.out).mono ?_; rintro e w6 ⟨vp, vq, rfl, hp6, hq6, hb6⟩; obtain ⟨Ap, cp, rfl, _, hCp⟩ := Sl.of_R hp6; obtain ⟨Aq, cq, rfl, _, hCq⟩ := Sl.of_R hq6; clear hCp hCq hp6 hq6; have HB6 := Aside0.mk hb6; clear hb6)
          have HB7 := Aside0.mk (HB6.out.alloc HB6.out.size (.cells #[.int .i64 nk, .int .u64 n1, .int .u64 n2, .string nkey, .slice Ap npu.length cp, .bool ncm, .slice Aq npa.length cq] 38))
          change Code.wp _ _ _ _ (w6.alloc (.cells #[.int .i64 nk, .int .u64 n1, .int .u64 n2, .string nkey, .slice Ap npu.length cp, .bool ncm, .slice Aq npa.length cq] 38))
          generalize w6.alloc (.cells #[.int .i64 nk, .int .u64 n1, .int .u64 n2, .string nkey, .slice Ap npu.length cp, .bool ncm, .slice Aq npa.length cq] 38) = w7 at *
          clear hd0 hd1 hd2 hd3 hd4 hd5 hd6 hd7 hd8
          rcases HFI.out with rfl | ⟨rfl, hlp⟩
          · by_cases hlp : lf > 0
            · go_wp2
              go_ret
              exact ⟨rfl, HB.out.trans (HB7.out.mono HB.out.size)⟩
            · go_wp2
              go_ret
              exact ⟨rfl, HB.out.trans (HB7.out.mono HB.out.size)⟩
          · go_wp2
            go_ret
            exact ⟨rfl, HB.out.trans (HB7.out.mono HB.out.size)⟩
    | true =>
      have HOC := Aside0.mk (orphan_calls ta ti A c st w4 (Kd.C_below HST.out HB4.out) hc3 hl3 hg3)
      rw [HOB.out] at HOC
      unfold BPost dagg at HOC
      dsimp only at HOC
      clear HOB
      obtain ⟨hp0, hp1, hp2⟩ := cellsB3 HP4.out
      obtain ⟨hd0, hd1, hd2, hd3, hd4, hd5, hd6, hd7, hd8⟩ := cellsB9 HD4.out.cells
      go_upto_region 5 with (go_at_call 24; refine (HOC.out).mono ?_; rintro e w5 ⟨vs, rfl, _, ho5, hb5⟩; obtain ⟨A6, c6, rfl, hc6⟩ := own_sl20 ho5; have HO5 := Aside0.mk ho5; have HB5 := Aside0.mk hb5; clear ho5 hb5 hd0 hd1 hd2 hd3 hd4 hd5 hd6 hd7 hd8; obtain ⟨hd0, hd1, hd2, hd3, hd4, hd5, hd6, hd7, hd8⟩ := cellsB9 (stay20 HB5.out HD4.out.cells); obtain ⟨hf0, hf1, hf2, hf3, hf4, hf5, hf6, hf7, hf8⟩ := frozB9 (stay20 HB5.out HD4.out.cells))
      rw [List.length_map] at *
      have HD6 := Aside0.mk (HD4.out.laid (r := ⟨ta, ti, st, 3, 0, true, true, false, []⟩) HB5.out rfl HO5.out rfl)
      dsimp only at HD6
      have HB6 := Aside0.mk (putB9_below (HB4.out.trans (HB5.out.mono HB4.out.size)) hq (.int .u64 ta) (.int .u64 ti) (.slice A6 st.length c6) (.int .i64 3) (.int .i64 0) (.bool true) (.bool true) (.bool false) (.slice none 0 0))
      have HP6 := Aside0.mk (putB9_other (b := w.heap.size) (g := q) (by omega) (stay20 HB5.out HP4.out) (.int .u64 ta) (.int .u64 ti) (.slice A6 st.length c6) (.int .i64 3) (.int .i64 0) (.bool true) (.bool true) (.bool false) (.slice none 0 0))
      change Code.wp _ _ _ _ (putB9 w5 q (.int .u64 ta) (.int .u64 ti) (.slice A6 st.length c6) (.int .i64 3) (.int .i64 0) (.bool true) (.bool true) (.bool false) (.slice none 0 0))
      generalize putB9 w5 q (.int .u64 ta) (.int .u64 ti) (.slice A6 st.length c6) (.int .i64 3) (.int .i64 0) (.bool true) (.bool true) (.bool false) (.slice none 0 0) = w6 at *
      clear hp0 hp1 hp2 hd0 hd1 hd2 hd3 hd4 hd5 hd6 hd7 hd8 hf0 hf1 hf2 hf3 hf4 hf5 hf6 hf7 hf8 HOC HD4 HP4 HB4 HB5 HO5
      have HD := Aside0.mk (HD6).out
      have HP := Aside0.mk (HP6).out
      have HB := Aside0.mk (HB6).out
      clear HD6 HP6 HB6
      obtain ⟨hp0, hp1, hp2⟩ := cellsB3 HP.out
      obtain ⟨hd0, hd1, hd2, hd3, hd4, hd5, hd6, hd7, hd8⟩ := cellsB9 HD.out.cells
      go_upto_region 7 with (fail)
      clear hp0 hp1 hp2 hd0 hd1 hd2 hd3 hd4 hd5 hd6 hd7 hd8
      obtain ⟨mm1, mm2, mm3, mm4⟩ := may_facts HM.out
      have hwA : IntKind.i64.wrap (2 * ((partsV st).length : Int)) = 2 * ((partsV st).length : Int) := by rw [IntKind.wrap_i64]; omega
      have hwB : IntKind.i64.wrap ((st.length : Int) + 2 * ((partsV st).length : Int)) = (st.length : Int) + 2 * ((partsV st).length : Int) := by rw [IntKind.wrap_i64]; omega
      have hwC : IntKind.i64.wrap ((st.length : Int) + 2 * ((partsV st).length : Int) + 2) = (st.length : Int) + 2 * ((partsV st).length : Int) + 2 := by rw [IntKind.wrap_i64]; omega
      have HPT := Aside0.mk (parts_walk ta ti A c st w6.drew (Kd.C_below HST.out HB.out.drew) hc3 (by omega) hg3)
      refine wp_region_noPanic ?_
      refine wp_region_last_drew (ds := []) (S := (fun wz => Below w6.heap.size w6 wz)) (by kernel_rfl) ((Below.refl _ _).drew) (fun hHeld => ?_)
      refine wpAnyLast_take (i := 0) (oi := _) (v := .pointer (some ⟨w.heap.size, 2, none⟩)) rfl (by kernel_rfl) (by kernel_rfl) (by kernel_rfl) (by kernel_rfl) (by kernel_rfl) (fun _ _ _ h => h) (Or.inl ⟨by kernel_rfl, ?_⟩) (by assumption) ?_
      · intro wz hSw; (try dsimp only at hSw); go_simp
      try simp only [Act.put, List.setIfInBounds_toArray, List.set_cons_zero, List.set_cons_succ]
      refine wpAnyLast_take (i := 1) (oi := _) (v := .slice A st.length c) rfl (by kernel_rfl) (by kernel_rfl) (by kernel_rfl) (by kernel_rfl) (by kernel_rfl) (fun _ _ _ h => h) (Or.inl ⟨by kernel_rfl, ?_⟩) (by assumption) ?_
      · intro wz hSw; (try dsimp only at hSw); obtain ⟨hp0, hp1, hp2⟩ := cellsB3 (stay20 hSw HP.out); go_simp
      try simp only [Act.put, List.setIfInBounds_toArray, List.set_cons_zero, List.set_cons_succ]
      refine wpAnyLast_take (i := 2) (oi := _) (v := .int .i64 st.length) rfl (by kernel_rfl) (by kernel_rfl) (by kernel_rfl) (by kernel_rfl) (by kernel_rfl) (fun _ _ _ h => h) (Or.inl ⟨by kernel_rfl, ?_⟩) (by assumption) ?_
      · intro wz hSw; (try dsimp only at hSw); go_simp
      try simp only [Act.put, List.setIfInBounds_toArray, List.set_cons_zero, List.set_cons_succ]
      refine wpAnyLast_take (i := 3) (oi := _) (v := .agg #[.int .u64 ta, .int .u64 ti, .slice A st.length c]) rfl (by kernel_rfl) (by kernel_rfl) (by kernel_rfl) (by kernel_rfl) (by kernel_rfl) (fun _ _ _ h => h) (Or.inl ⟨by kernel_rfl, ?_⟩) (by assumption) ?_
      · intro wz hSw; (try dsimp only at hSw); obtain ⟨hp0, hp1, hp2⟩ := cellsB3 (stay20 hSw HP.out); go_simp
      try simp only [Act.put, List.setIfInBounds_toArray, List.set_cons_zero, List.set_cons_succ]
      refine wpAnyLast_ready (rs := [4]) (by kernel_rfl) (by simp) ?_
      refine AllReadyL.cons (o := _) rfl (by decide) (fun K hK => ?_) AllReadyL.nil
      go_simp; go_at_call 17; refine (HPT.out).mono ?_; rintro e w8 ⟨v8, rfl, hR8, hb8⟩; obtain ⟨A9, c9, rfl, hc9, hC9⟩ := Sl.of_R hR8; clear hR8 hC9; go_simp
      have HB8 := Aside0.mk (((Below.refl _ _).drew).trans hb8 : Below w6.heap.size w6 w8)
      clear hb8 hHeld
      refine hK.out _ _ HB8.out (fun hHeld8 => ?_)
      clear hK K
      try simp only [Act.put, List.setIfInBounds_toArray, List.set_cons_zero, List.set_cons_succ]
      refine wpAnyLast_take (i := 5) (oi := _) (v := .int .i64 (partsV st).length) rfl (by kernel_rfl) (by kernel_rfl) (by kernel_rfl) (by kernel_rfl) (by kernel_rfl) (fun _ _ _ h => h) (Or.inl ⟨by kernel_rfl, ?_⟩) (by assumption) ?_
      · intro wz hSw; (try dsimp only at hSw); go_simp
      try simp only [Act.put, List.setIfInBounds_toArray, List.set_cons_zero, List.set_cons_succ]
      refine wpAnyLast_take (i := 6) (oi := _) (v := .int .i64 (2 * ((partsV st).length : Int))) rfl (by kernel_rfl) (by kernel_rfl) (by kernel_rfl) (by kernel_rfl) (by kernel_rfl) (fun _ _ _ h => h) (Or.inl ⟨by kernel_rfl, ?_⟩) (by assumption) ?_
      · intro wz hSw; (try dsimp only at hSw); go_simp
      try simp only [Act.put, List.setIfInBounds_toArray, List.set_cons_zero, List.set_cons_succ]
      refine wpAnyLast_take (i := 7) (oi := _) (v := .int .i64 ((st.length : Int) + 2 * ((partsV st).length : Int))) rfl (by kernel_rfl) (by kernel_rfl) (by kernel_rfl) (by kernel_rfl) (by kernel_rfl) (fun _ _ _ h => h) (Or.inl ⟨by kernel_rfl, ?_⟩) (by assumption) ?_
      · intro wz hSw; (try dsimp only at hSw); go_simp
      try simp only [Act.put, List.setIfInBounds_toArray, List.set_cons_zero, List.set_cons_succ]
      refine wpAnyLast_take (i := 8) (oi := _) (v := .int .i64 ((st.length : Int) + 2 * ((partsV st).length : Int) + 2)) rfl (by kernel_rfl) (by kernel_rfl) (by kernel_rfl) (by kernel_rfl) (by kernel_rfl) (fun _ _ _ h => h) (Or.inl ⟨by kernel_rfl, ?_⟩) (by assumption) ?_
      · intro wz hSw; (try dsimp only at hSw); go_simp
      try simp only [Act.put, List.setIfInBounds_toArray, List.set_cons_zero, List.set_cons_succ]
      refine wpAnyLast_take (i := 9) (oi := _) (v := .int .i64 ((st.length : Int) + 2 * ((partsV st).length : Int) + 2)) rfl (by kernel_rfl) (by kernel_rfl) (by kernel_rfl) (by kernel_rfl) (by kernel_rfl) (fun _ _ _ h => h) (Or.inl ⟨by kernel_rfl, ?_⟩) (by assumption) ?_
      · intro wz hSw; (try dsimp only at hSw); go_simp
      try simp only [Act.put, List.setIfInBounds_toArray, List.set_cons_zero, List.set_cons_succ]
      refine wpAnyLast_done (by kernel_rfl) ?_ _
      refine NoPanic.normal ?_
      clear hHeld8 hwA hwB hwC HPT
      have HD8 := Aside0.mk (HD.out.below HB8.out)
      have HP8 := Aside0.mk (stay20 HB8.out HP.out)
      have HBW8 := Aside0.mk (HB.out.trans ((HB8.out).mono HB.out.size))
      clear HD HP HB HB8
      obtain ⟨hd0, hd1, hd2, hd3, hd4, hd5, hd6, hd7, hd8⟩ := cellsB9 HD8.out.cells
      go_upto_region 9 with (fail)
      go_wp2
      go_loopg [10, 11, 12] l.length (fun gg s10 s11 s12 wr => ∃ (jj : Nat) (d : Drv) (A5 : Option Addr) (c5 : Nat) (B5 : Option Addr) (e5 : Nat) (lf : Int), jj ≤ l.length ∧ l.length - jj ≤ gg ∧ s10 = .int .i64 lf ∧ s11 = .int .i64 d.ph ∧ s12 = .int .i64 jj ∧ potV st d ≤ lf ∧ lf ≤ 40 ∧ Aside0 (DI st d) ∧ Aside0 (DAt wr q d A5 c5 B5 e5) ∧ Aside0 (wr.heap[w.heap.size]? = some (.cells #[.int .u64 ta, .int .u64 ti, .slice A st.length c] 27 (0, 0))) ∧ Aside0 (Below w.heap.size w wr))
      case atStart => exact ⟨0, ⟨ta, ti, st, 3, 0, true, true, false, []⟩, _, _, none, 0, _, Nat.zero_le _, by omega, rfl, rfl, rfl, pot_orphan ta ti st, by omega, ⟨orphan_di HM.out⟩, HD8, HP8, HBW8⟩
      case round =>
        clear HD8 HP8 HBW8 hd0 hd1 hd2 hd3 hd4 hd5 hd6 hd7 hd8
        obtain ⟨jj, d, A5, c5, B5, e5, lf, hjj, hgk, rfl, rfl, rfl, hpl, hlf, HDI, HD, HP, HB⟩ := hrel
        obtain ⟨hd0, hd1, hd2, hd3, hd4, hd5, hd6, hd7, hd8⟩ := cellsB9 HD.out.cells
        obtain ⟨m1, m2, m3, _⟩ := may_facts HM.out
        obtain ⟨pn1, pn2, pn3⟩ := pot_nonneg HM.out HDI.out
        have HNX := Aside0.mk (HD.out.next (HDI.out.ok HM.out hg3) wr (Below.refl _ _))
        have HIS := Aside0.mk HDI.out.is
        unfold NextPost at HNX
        by_cases hlt : jj < l.length
        · have hltz : (jj : Int) < (l.length : Int) := by omega
          have hjz : (0 : Int) ≤ (jj : Int) := by omega
          by_cases h5 : d.ph = 5
          · have hn1 : (nextV d).2.2 = false := by rw [HIS.out, h5]; rfl
            clear HIS
            have h5b : (d.ph == 5) = true := by rw [h5]; rfl
            clear h5
            generalize nextV d = nv at *
            obtain ⟨ng, ⟨nk, n1, n2, nkey, npu, ncm, npa⟩, nis⟩ := nv
            unfold oagg at HNX
            dsimp only at *
            subst hn1
            go_upto_region 13 with (go_at_call 10; refine (HNX.out).mono ?_; rintro e w6 ⟨vp, vq, rfl, hp6, hq6, hb6⟩; obtain ⟨Ap, cp, rfl, _, hCp⟩ := Sl.of_R hp6; obtain ⟨Aq, cq, rfl, _, hCq⟩ := Sl.of_R hq6; clear hCp hCq hp6 hq6; have HB6 := Aside0.mk hb6; clear hb6)
            have HB7 := Aside0.mk (HB6.out.alloc HB6.out.size (.cells #[.int .i64 nk, .int .u64 n1, .int .u64 n2, .string nkey, .slice Ap npu.length cp, .bool ncm, .slice Aq npa.length cq] 38))
            have HD7 := Aside0.mk (HD.out.below HB7.out)
            change Code.wp _ _ _ _ (w6.alloc (.cells #[.int .i64 nk, .int .u64 n1, .int .u64 n2, .string nkey, .slice Ap npu.length cp, .bool ncm, .slice Aq npa.length cq] 38))
            generalize w6.alloc (.cells #[.int .i64 nk, .int .u64 n1, .int .u64 n2, .string nkey, .slice Ap npu.length cp, .bool ncm, .slice Aq npa.length cq] 38) = w7 at *
            clear hd0 hd1 hd2 hd3 hd4 hd5 hd6 hd7 hd8
            obtain ⟨hd0, hd1, hd2, hd3, hd4, hd5, hd6, hd7, hd8⟩ := cellsB9 HD7.out.cells
            go_wp2
            go_ret
            exact ⟨rfl, HB.out.trans (HB7.out.mono HB.out.size)⟩
          · have hn1 : (nextV d).2.2 = true := by rw [HIS.out]; simp [h5]
            clear HIS
            have H5 := Aside0.mk h5
            clear h5
            generalize nextV d = nv at *
            obtain ⟨ng, ⟨nk, n1, n2, nkey, npu, ncm, npa⟩, nis⟩ := nv
            unfold oagg at HNX
            dsimp only at *
            subst hn1
            go_upto_region 15 with (go_at_call 10; refine (HNX.out).mono ?_; rintro e w6 ⟨vp, vq, rfl, hp6, hq6, hb6⟩; obtain ⟨Ap, cp, rfl, _, hCp⟩ := Sl.of_R hp6; obtain ⟨Aq, cq, rfl, _, hCq⟩ := Sl.of_R hq6; clear hCp hCq hp6 hq6; have HB6 := Aside0.mk hb6; clear hb6)
            have HB7 := Aside0.mk (HB6.out.alloc HB6.out.size (.cells #[.int .i64 nk, .int .u64 n1, .int .u64 n2, .string nkey, .slice Ap npu.length cp, .bool ncm, .slice Aq npa.length cq] 38))
            change Code.wp _ _ _ _ (w6.alloc (.cells #[.int .i64 nk, .int .u64 n1, .int .u64 n2, .string nkey, .slice Ap npu.length cp, .bool ncm, .slice Aq npa.length cq] 38))
            generalize w6.alloc (.cells #[.int .i64 nk, .int .u64 n1, .int .u64 n2, .string nkey, .slice Ap npu.length cp, .bool ncm, .slice Aq npa.length cq] 38) = w7 at *
            clear hd0 hd1 hd2 hd3 hd4 hd5 hd6 hd7 hd8 HNX HB6
            have HD := Aside0.mk (HD.out.below HB7.out)
            have HP := Aside0.mk (stay20 HB7.out HP.out)
            have HB := Aside0.mk (HB.out.trans (HB7.out.mono HB.out.size))
            generalize hxe : l[jj]! = x at *
            have HXE := Aside0.mk hxe
            clear hxe
            obtain ⟨er, va, ve, fo, co⟩ := x
            clear HB7
            obtain ⟨hd0, hd1, hd2, hd3, hd4, hd5, hd6, hd7, hd8⟩ := cellsB9 HD.out.cells
            obtain ⟨ab, ao, rfl, ha0, ha1, ha2, ha3, ha4⟩ := ansRow (Kd.C_below HR.out HB.out) jj hlt
            rw [HXE.out] at ha0 ha1 ha2 ha3 ha4
            try dsimp only at ha0 ha1 ha2 ha3 ha4
            have HC := Aside0.mk (HD.out.hear (HDI.out.ok HM.out hg3) er va ve fo co w7.drew ((Below.refl _ _).drew))
            have HDN := Aside0.mk (hear_di HM.out HDI.out er va ve fo co)
            have HA0 := Aside0.mk ha0
            have HA1 := Aside0.mk ha1
            have HA2 := Aside0.mk ha2
            have HA3 := Aside0.mk ha3
            have HA4 := Aside0.mk ha4
            clear ha0 ha1 ha2 ha3 ha4 hd0 hd1 hd2 hd3 hd4 hd5 hd6 hd7 hd8
            refine wp_region_noPanic ?_
            refine wp_region_last_drew (ds := [6]) (S := (fun wz => Below w7.heap.size w7 wz)) (by kernel_rfl) ((Below.refl _ _).drew) (fun hHeld => ?_)
            refine wpAnyLast_take (i := 1) (oi := _) (v := .slice (some ⟨ab, ao, none⟩) l.length cB) rfl (by kernel_rfl) (by kernel_rfl) (by kernel_rfl) (by kernel_rfl) (by kernel_rfl) (fun _ _ _ h => h) (Or.inl ⟨by kernel_rfl, ?_⟩) (by assumption) ?_
            · intro wz hSw; (try dsimp only at hSw); go_simp
            try simp only [Act.put, List.setIfInBounds_toArray, List.set_cons_zero, List.set_cons_succ]
            refine wpAnyLast_take (i := 2) (oi := _) (v := .int .i64 jj) rfl (by kernel_rfl) (by kernel_rfl) (by kernel_rfl) (by kernel_rfl) (by kernel_rfl) (fun _ _ _ h => h) (Or.inl ⟨by kernel_rfl, ?_⟩) (by assumption) ?_
            · intro wz hSw; (try dsimp only at hSw); go_simp
            try simp only [Act.put, List.setIfInBounds_toArray, List.set_cons_zero, List.set_cons_succ]
            refine wpAnyLast_take (i := 3) (oi := _) (v := .pointer (some ⟨ab, ao + jj * 5, none⟩)) rfl (by kernel_rfl) (by kernel_rfl) (by kernel_rfl) (by kernel_rfl) (by kernel_rfl) (fun _ _ _ h => h) (Or.inl ⟨by kernel_rfl, ?_⟩) (by assumption) ?_
            · intro wz hSw; (try dsimp only at hSw); go_simp
            try simp only [Act.put, List.setIfInBounds_toArray, List.set_cons_zero, List.set_cons_succ]
            refine wpAnyLast_take (i := 0) (oi := _) (v := .agg #[.int .u64 d.ta, .int .u64 d.ti, .slice A5 d.st.length c5, .int .i64 d.ph, .int .i64 d.ap, .bool d.fa, .bool d.og, .bool d.cm, .slice B5 d.sw.length e5]) rfl (by kernel_rfl) (by kernel_rfl) (by kernel_rfl) (by kernel_rfl) (by kernel_rfl) (fun _ _ _ h => h) (Or.inl ⟨by kernel_rfl, ?_⟩) (by assumption) ?_
            · intro wz hSw; (try dsimp only at hSw); obtain ⟨hd0, hd1, hd2, hd3, hd4, hd5, hd6, hd7, hd8⟩ := cellsB9 (HD.out.below hSw).cells; go_simp
            try simp only [Act.put, List.setIfInBounds_toArray, List.set_cons_zero, List.set_cons_succ]
            refine wpAnyLast_take (i := 4) (oi := _) (v := .agg #[.int .i64 er, .string va, .int .u64 ve, .bool fo, .bool co]) rfl (by kernel_rfl) (by kernel_rfl) (by kernel_rfl) (by kernel_rfl) (by kernel_rfl) (fun _ _ _ h => h) (Or.inl ⟨by kernel_rfl, ?_⟩) (by assumption) ?_
            · intro wz hSw; (try dsimp only at hSw); have hb0 := (hSw.cell (World.block_lt_of_cell? _ _ HA0.out)).trans HA0.out; have hb1 := (hSw.cell (World.block_lt_of_cell? _ _ HA1.out)).trans HA1.out; have hb2 := (hSw.cell (World.block_lt_of_cell? _ _ HA2.out)).trans HA2.out; have hb3 := (hSw.cell (World.block_lt_of_cell? _ _ HA3.out)).trans HA3.out; have hb4 := (hSw.cell (World.block_lt_of_cell? _ _ HA4.out)).trans HA4.out; go_simp
            try simp only [Act.put, List.setIfInBounds_toArray, List.set_cons_zero, List.set_cons_succ]
            refine wpAnyLast_ready (rs := [5]) (by kernel_rfl) (by simp) ?_
            refine AllReadyL.cons (o := _) rfl (by decide) (fun K hK => ?_) AllReadyL.nil
            go_simp; go_at_call 14; refine (HC.out).mono ?_; rintro e w5 ⟨B6, e6, rfl, hb5, ho5⟩; go_simp
            have HB5 := Aside0.mk (((Below.refl _ _).drew).trans hb5 : Below w7.heap.size w7 w5)
            have HO5 := Aside0.mk ho5
            clear ho5 hb5 hHeld
            refine hK.out _ _ HB5.out (fun hHeld5 => ?_)
            clear hK K
            try simp only [Act.put, List.setIfInBounds_toArray, List.set_cons_zero, List.set_cons_succ]
            obtain ⟨hd0, hd1, hd2, hd3, hd4, hd5, hd6, hd7, hd8⟩ := cellsB9 (HD.out.below HB5.out).cells
            obtain ⟨hf0, hf1, hf2, hf3, hf4, hf5, hf6, hf7, hf8⟩ := frozB9 (HD.out.below HB5.out).cells
            refine wpAnyLast_ready (rs := [6]) (by kernel_rfl) (by simp) ?_
            refine AllReadyL.cons_last (o := _) rfl (by decide) (fun K hK => ?_) AllReadyL.nil
            go_simp
            refine hK.out _ _ ?_
            clear hK K hHeld5
            try simp only [Act.put, List.setIfInBounds_toArray, List.set_cons_zero, List.set_cons_succ]
            refine wpAnyLast_done (by kernel_rfl) ?_ _
            refine NoPanic.normal ?_
            have HD6 := Aside0.mk (HD.out.put (hear_st d er va ve fo co) HB5.out HO5.out)
            have HP6 := Aside0.mk (putB9_other (b := w.heap.size) (g := q) (by omega) (stay20 HB5.out HP.out) (.int .u64 (hearV d er va ve fo co).ta) (.int .u64 (hearV d er va ve fo co).ti) (.slice A5 (hearV d er va ve fo co).st.length c5) (.int .i64 (hearV d er va ve fo co).ph) (.int .i64 (hearV d er va ve fo co).ap) (.bool (hearV d er va ve fo co).fa) (.bool (hearV d er va ve fo co).og) (.bool (hearV d er va ve fo co).cm) (.slice B6 (hearV d er va ve fo co).sw.length e6))
            have HB6 := Aside0.mk (putB9_below (HB.out.trans (HB5.out.mono HB.out.size)) hq (.int .u64 (hearV d er va ve fo co).ta) (.int .u64 (hearV d er va ve fo co).ti) (.slice A5 (hearV d er va ve fo co).st.length c5) (.int .i64 (hearV d er va ve fo co).ph) (.int .i64 (hearV d er va ve fo co).ap) (.bool (hearV d er va ve fo co).fa) (.bool (hearV d er va ve fo co).og) (.bool (hearV d er va ve fo co).cm) (.slice B6 (hearV d er va ve fo co).sw.length e6))
            go_upto_region 16 with (fail)
            change Code.wp _ _ _ _ (putB9 w5 q (.int .u64 (hearV d er va ve fo co).ta) (.int .u64 (hearV d er va ve fo co).ti) (.slice A5 (hearV d er va ve fo co).st.length c5) (.int .i64 (hearV d er va ve fo co).ph) (.int .i64 (hearV d er va ve fo co).ap) (.bool (hearV d er va ve fo co).fa) (.bool (hearV d er va ve fo co).og) (.bool (hearV d er va ve fo co).cm) (.slice B6 (hearV d er va ve fo co).sw.length e6))
            generalize (putB9 w5 q (.int .u64 (hearV d er va ve fo co).ta) (.int .u64 (hearV d er va ve fo co).ti) (.slice A5 (hearV d er va ve fo co).st.length c5) (.int .i64 (hearV d er va ve fo co).ph) (.int .i64 (hearV d er va ve fo co).ap) (.bool (hearV d er va ve fo co).fa) (.bool (hearV d er va ve fo co).og) (.bool (hearV d er va ve fo co).cm) (.slice B6 (hearV d er va ve fo co).sw.length e6)) = w6 at *
            clear hd0 hd1 hd2 hd3 hd4 hd5 hd6 hd7 hd8 hf0 hf1 hf2 hf3 hf4 hf5 hf6 hf7 hf8 HO5 HB5 HC
            obtain ⟨hs1, hs2, hs3⟩ := pot_step HM.out HDI.out H5.out er va ve fo co
            obtain ⟨qn1, qn2, qn3⟩ := pot_nonneg HM.out HDN.out
            have hnph : ¬ (hearV d er va ve fo co).ph < d.ph := by omega
            obtain ⟨hd0, hd1, hd2, hd3, hd4, hd5, hd6, hd7, hd8⟩ := cellsB9 HD6.out.cells
            obtain ⟨ab2, ao2, hab, ha0, ha1, ha2, ha3, ha4⟩ := ansRow (Kd.C_below HR.out HB6.out) jj hlt
            cases hab
            rw [HXE.out] at ha0 ha1 ha2 ha3 ha4
            try dsimp only at ha0 ha1 ha2 ha3 ha4
            have HPN := Aside0.mk hpl
            have HS2 := Aside0.mk hs2
            by_cases h11 : er = 11
            · have h11b : (er != 11) = false := by rw [h11]; rfl
              have hl0 : ¬ lf < 0 := by omega
              clear h11 hs3 hs2 hs1 hpl
              go_wp2
              go_roundg (l.length - (jj + 1))
              case measure => omega
              case rel => exact ⟨jj + 1, hearV d er va ve fo co, A5, c5, B6, e6, lf, by omega, by omega, rfl, rfl, by go_num, Int.le_trans HS2.out HPN.out, hlf, HDN, HD6, HP6, HB6⟩
            · have h11b : (er != 11) = true := by simp [h11]
              have hs3' := hs3 h11
              have hwl : IntKind.i64.wrap (lf - 1) = lf - 1 := by rw [IntKind.wrap_i64]; omega
              have hl0 : ¬ lf - 1 < 0 := by omega
              have HS3 : Aside0 (potV st (hearV d er va ve fo co) ≤ lf - 1) := ⟨by omega⟩
              clear h11 hs3 hs2 hs1 hpl hs3'
              go_wp2
              go_roundg (l.length - (jj + 1))
              case measure => omega
              case rel => exact ⟨jj + 1, hearV d er va ve fo co, A5, c5, B6, e6, lf - 1, by omega, by omega, by first | rfl | go_num, rfl, by go_num, HS3.out, by omega, HDN, HD6, HP6, HB6⟩
        · have hltz : ¬ (jj : Int) < (l.length : Int) := by omega
          have hfin : (nextV d).2.2 = false ∨ (nextV d).2.2 = true ∧ lf > 0 := by
            rw [HIS.out]
            by_cases h5 : d.ph = 5
            · left; rw [h5]; rfl
            · right; exact ⟨by simp [h5], by have := pn3 h5; omega⟩
          clear HIS
          generalize nextV d = nv at *
          obtain ⟨ng, ⟨nk, n1, n2, nkey, npu, ncm, npa⟩, nis⟩ := nv
          unfold oagg at HNX
          dsimp only at *
          have HFI := Aside0.mk hfin
          clear hfin
          go_upto_region 24 with (go_at_call 10; refine (HNX.out).mono ?_; rintro e w6 ⟨vp, vq, rfl, hp6, hq6, hb6⟩; obtain ⟨Ap, cp, rfl, _, hCp⟩ := Sl.of_R hp6; obtain ⟨Aq, cq, rfl, _, hCq⟩ := Sl.of_R hq6; clear hCp hCq hp6 hq6; have HB6 := Aside0.mk hb6; clear hb6)
          have HB7 := Aside0.mk (HB6.out.alloc HB6.out.size (.cells #[.int .i64 nk, .int .u64 n1, .int .u64 n2, .string nkey, .slice Ap npu.length cp, .bool ncm, .slice Aq npa.length cq] 38))
          change Code.wp _ _ _ _ (w6.alloc (.cells #[.int .i64 nk, .int .u64 n1, .int .u64 n2, .string nkey, .slice Ap npu.length cp, .bool ncm, .slice Aq npa.length cq] 38))
          generalize w6.alloc (.cells #[.int .i64 nk, .int .u64 n1, .int .u64 n2, .string nkey, .slice Ap npu.length cp, .bool ncm, .slice Aq npa.length cq] 38) = w7 at *
          clear hd0 hd1 hd2 hd3 hd4 hd5 hd6 hd7 hd8
          rcases HFI.out with rfl | ⟨rfl, hlp⟩
          · by_cases hlp : lf > 0
            · go_wp2
              go_ret
              exact ⟨rfl, HB.out.trans (HB7.out.mono HB.out.size)⟩
            · go_wp2
              go_ret
              exact ⟨rfl, HB.out.trans (HB7.out.mono HB.out.size)⟩
          · go_wp2
            go_ret
            exact ⟨rfl, HB.out.trans (HB7.out.mono HB.out.size)⟩
end Go.Proofs.Ytkennobdoldlkaa.PAll
end
