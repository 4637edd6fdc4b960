/- Joined texts of the claim ShardOnce (part 52): contracts of functions and plain laws. -/
import Derived.BigQuiet
import Derived.BigRegion
import Derived.Deep.CutRange
import Derived.Deep.DeepCutAuto
import Derived.Deep.QuietTactic
import Derived.Deep.RegionWith
import Derived.Test.YtmcgcdpiceikeaaJShardOnce50
import Derived.Test.YtmcgcdpiceikeaaJShardOnce51
section
/- The law ShardOnce, walked. -/
namespace Go.Proofs.Ytmcgcdpiceikeaa.PAll
open Go.RowKit Go.Proofs.YtmcgcdpiceikeaaW.PrintWords Go.Proofs.YtmcgcdpiceikeaaW.PrintMore Go.Proofs.Ytmcgcdpiceikeaa
set_option linter.unusedVariables false
set_option linter.unusedSimpArgs false
set_option maxHeartbeats 8000000 in
set_option maxRecDepth 100000 in
theorem ShardOnce_walk {w : World} (A : Option Addr) (c : Nat) (l : List S34) (hr : Kd.C k34 w A l.length l) (hc : l.length ≤ c) (hs : l.length * Try.prog.bytesOf 34 ≤ 140737488351232 ∧ ∀ x ∈ l, ok34 x) (cs : Array Value) (x0 : S30) (hx : k30.K w x0 cs.toList) (hsx : ok30 x0) :
    Calls Try.prog 6 #[.slice A l.length c, .agg cs] w fun e w' => e = .returned (.bool true) ∧ Below w.heap.size w w' := by
  obtain rfl := txCellsA hx
  have HOK := Aside0.mk (okTx_orders hs.2)
  have HR := Aside0.mk hr
  have hll : l.length ≤ 9223372036854775807 := hr.2.1
  obtain ⟨ta, ti⟩ := x0
  clear hx hsx hs hr
  have HT0 := Aside0.mk (heap_alloc_new w (.cells #[.int .u64 ta, .int .u64 ti] 30))
  have HB0 := Aside0.mk ((Below.refl w.heap.size w).alloc (Nat.le_refl _) (.cells #[.int .u64 ta, .int .u64 ti] 30))
  have HS0 : Aside0 (w.heap.size < (w.alloc (.cells #[.int .u64 ta, .int .u64 ti] 30)).heap.size) := ⟨by simp⟩
  go_enter Try.func6, Try.ntmps6
  go_wp2_with (go_at_call 10; refine (shown13 _).mono ?_; rintro e w1 ⟨rfl, hb1⟩; have HBB1 := Aside0.mk hb1; clear hb1)
  have HT1 := Aside0.mk (stayA (stay HBB1.out HT0.out HS0.out) (.cells #[.slice none 0 0, .slice none 0 0, .slice none 0 0, .slice none 0 0, .int .u64 0] 28))
  have HB1 := Aside0.mk (HB0.out.trans (HBB1.out.mono HB0.out.size))
  have HB2 := Aside0.mk (HB1.out.alloc HB1.out.size (.cells #[.slice none 0 0, .slice none 0 0, .slice none 0 0, .slice none 0 0, .int .u64 0] 28))
  have hq : w.heap.size < w1.heap.size := Nat.lt_of_lt_of_le HS0.out HBB1.out.size
  have HX1 := Aside0.mk (emptyAt w1)
  generalize w1.alloc (.cells #[.slice none 0 0, .slice none 0 0, .slice none 0 0, .slice none 0 0, .int .u64 0] 28) = w2 at *
  generalize w1.heap.size = q at *
  clear HT0 HB0 HS0 HBB1 HB1
  go_loopg [7, 8, 9] l.length (fun gg s7 s8 s9 wr => ∃ (jj : Nat) (told cmt : Bool), jj ≤ l.length ∧ l.length - jj ≤ gg ∧ s7 = .bool told ∧ s8 = .bool cmt ∧ s9 = .int .i64 jj ∧ Aside0 (Below w.heap.size w wr) ∧ Aside0 (∃ s, InvS s ∧ ShdAt wr q s ∧ (told = true → overIs s ⟨ta, ti⟩ cmt)) ∧ Aside0 (wr.heap[w.heap.size]? = some (.cells #[.int .u64 ta, .int .u64 ti] 30 (0, 0))))
  case atStart => exact ⟨0, false, false, Nat.zero_le _, by omega, rfl, rfl, rfl, HB2, ⟨_, InvS.empty, HX1.out, fun h => by cases h⟩, HT1⟩
  case round =>
    clear HB2 HX1 HT1
    obtain ⟨jj, told, cmt, hjj, hgk, rfl, rfl, rfl, HBr, HSr, HTr⟩ := hrel
    obtain ⟨S, hI, hXr, hOv⟩ := HSr.out
    have HI := Aside0.mk hI
    have HXr := Aside0.mk hXr
    have HOV := Aside0.mk hOv
    clear hI hXr hOv HSr
    by_cases hlt : jj < l.length
    · have hltz : (jj : Int) < (l.length : Int) := by omega
      have hjz : (0 : Int) ≤ (jj : Int) := by omega
      obtain ⟨b, o, rfl, B, cB, D, nD, dD, hpl, hpr, ho0, ho1, ho2, ho3, ho4, ho5, ho6⟩ := orderRow (Kd.C_below HR.out HBr.out) jj hlt
      obtain ⟨A0, m0, c0, A1, m1, c1, A2, m2, c2, A3, m3, c3, hX, hDO⟩ := do_at HXr.out
      obtain ⟨hs0, hs1, hs2, hs3, hs4⟩ := cells_5 hX
      have HC := Aside0.mk (fun (W : World) (h : Below wr.heap.size wr W) => hDO (l[jj]!).f0 (l[jj]!).f1 (l[jj]!).f2 B _ cB (l[jj]!).f4 D nD dD (l[jj]!).f3 W rfl (Kd.C_below hpr h) hpl HI.out.ok h)
      have HIN := Aside0.mk (HI.out.doS (l[jj]!).f0 (HOK.out _ (bang_mem hlt)) (l[jj]!).f2 (l[jj]!).f3 (l[jj]!).f4).1
      have HX := Aside0.mk hX
      clear hX hDO hpl hpr
      generalize l[jj]! = od at *
      obtain ⟨od0, ⟨od1, od2⟩, od3, odp, od5, odq⟩ := od
      dsimp only at *
      have HRE : Aside0 (∃ R', R' = doS S od0 ⟨od1, od2⟩ od3 odp od5) := ⟨_, rfl⟩
      obtain ⟨R, hR⟩ := HRE.out
      rw [← hR] at HC HIN
      have HRD := Aside0.mk hR
      clear hR HRE
      generalize odp.length = np at *
      go_upto_region 8 with (fail)
      have hoc0 := ho0
      have hoc1 := ho1
      have hoc2 := ho2
      have hoc5 := ho5
      have HO0 := Aside0.mk hoc0
      have HO1 := Aside0.mk hoc1
      have HO2 := Aside0.mk hoc2
      have HO5 := Aside0.mk hoc5
      clear hoc0 hoc1 hoc2 hoc5
      go_cut [10, 11] from 21 to 29 (fun v10 v11 wx => ∃ bu ba, v10 = .pointer (some ⟨bu, 0, none⟩) ∧ v11 = .pointer (some ⟨ba, 0, none⟩) ∧ Aside0 (Below wr.heap.size wr wx) ∧ Aside0 (ShdAt wx bu R.1) ∧ Aside0 (wx.heap[ba]? = some (.cells #[.int .i64 R.2.err, .string R.2.val, .int .u64 R.2.ver, .bool R.2.found, .bool R.2.commit] 38 (0, 0))) ∧ Aside0 (wr.heap.size ≤ bu ∧ wr.heap.size ≤ ba ∧ bu ≠ ba))
      case first =>
        have hK0 := (⟨hs0, hs1, hs2, hs3, hs4, ho0, ho1, ho2, ho3, ho4, ho5, ho6⟩ : wr.cell? ⟨q, 0, none⟩ = some (.slice A0 m0 c0) ∧ wr.cell? ⟨q, 1, none⟩ = some (.slice A1 m1 c1) ∧ wr.cell? ⟨q, 2, none⟩ = some (.slice A2 m2 c2) ∧ wr.cell? ⟨q, 3, none⟩ = some (.slice A3 m3 c3) ∧ wr.cell? ⟨q, 4, none⟩ = some (.int .u64 S.ver) ∧ wr.cell? ⟨b, o + jj * 7, none⟩ = some (.int .i64 od0) ∧ wr.cell? ⟨b, o + jj * 7 + 1, none⟩ = some (.int .u64 od1) ∧ wr.cell? ⟨b, o + jj * 7 + 2, none⟩ = some (.int .u64 od2) ∧ wr.cell? ⟨b, o + jj * 7 + 3, none⟩ = some (.string od3) ∧ wr.cell? ⟨b, o + jj * 7 + 4, none⟩ = some (.slice B np cB) ∧ wr.cell? ⟨b, o + jj * 7 + 5, none⟩ = some (.bool od5) ∧ wr.cell? ⟨b, o + jj * 7 + 6, none⟩ = some (.slice D nD dD))
        clear hs0 hs1 hs2 hs3 hs4 ho0 ho1 ho2 ho3 ho4 ho5 ho6
        have HBD := Aside0.mk ((Below.refl wr.heap.size wr).drew)
        have hS0 := keepO hK0 HBD.out
        refine wp_region_noPanic ?_
        refine wp_region_held_drew (S := (fun w' => w'.cell? ⟨q, 0, none⟩ = some (.slice A0 m0 c0) ∧ w'.cell? ⟨q, 1, none⟩ = some (.slice A1 m1 c1) ∧ w'.cell? ⟨q, 2, none⟩ = some (.slice A2 m2 c2) ∧ w'.cell? ⟨q, 3, none⟩ = some (.slice A3 m3 c3) ∧ w'.cell? ⟨q, 4, none⟩ = some (.int .u64 S.ver) ∧ w'.cell? ⟨b, o + jj * 7, none⟩ = some (.int .i64 od0) ∧ w'.cell? ⟨b, o + jj * 7 + 1, none⟩ = some (.int .u64 od1) ∧ w'.cell? ⟨b, o + jj * 7 + 2, none⟩ = some (.int .u64 od2) ∧ w'.cell? ⟨b, o + jj * 7 + 3, none⟩ = some (.string od3) ∧ w'.cell? ⟨b, o + jj * 7 + 4, none⟩ = some (.slice B np cB) ∧ w'.cell? ⟨b, o + jj * 7 + 5, none⟩ = some (.bool od5) ∧ w'.cell? ⟨b, o + jj * 7 + 6, none⟩ = some (.slice D nD dD))) (by kernel_rfl) hS0 (fun hHeld => ?_)
        refine wpAnyH_take (i := 1) (oi := _) (v := .slice (some ⟨b, o, none⟩) l.length c) rfl (by kernel_rfl) (by kernel_rfl) (by kernel_rfl) (fun _ _ _ h => h) (Or.inl ⟨by kernel_rfl, ?_⟩) (by assumption) ?_
        · intro w hSw; (try dsimp only at hSw); go_simp
        try simp only [Act.put, List.setIfInBounds_toArray, List.set_cons_zero, List.set_cons_succ]
        refine wpAnyH_take (i := 2) (oi := _) (v := .int .i64 jj) rfl (by kernel_rfl) (by kernel_rfl) (by kernel_rfl) (fun _ _ _ h => h) (Or.inl ⟨by kernel_rfl, ?_⟩) (by assumption) ?_
        · intro w hSw; (try dsimp only at hSw); go_simp
        try simp only [Act.put, List.setIfInBounds_toArray, List.set_cons_zero, List.set_cons_succ]
        refine wpAnyH_take (i := 3) (oi := _) (v := .pointer (some ⟨b, o + jj * 7, none⟩)) rfl (by kernel_rfl) (by kernel_rfl) (by kernel_rfl) (fun _ _ _ h => h) (Or.inl ⟨by kernel_rfl, ?_⟩) (by assumption) ?_
        · intro w hSw; (try dsimp only at hSw); go_simp
        try simp only [Act.put, List.setIfInBounds_toArray, List.set_cons_zero, List.set_cons_succ]
        refine wpAnyH_take (i := 0) (oi := _) (v := .agg #[.slice A0 m0 c0, .slice A1 m1 c1, .slice A2 m2 c2, .slice A3 m3 c3, .int .u64 S.ver]) rfl (by kernel_rfl) (by kernel_rfl) (by kernel_rfl) (fun _ _ _ h => h) (Or.inl ⟨by kernel_rfl, ?_⟩) (by assumption) ?_
        · intro w hSw; (try dsimp only at hSw); go_simp
        try simp only [Act.put, List.setIfInBounds_toArray, List.set_cons_zero, List.set_cons_succ]
        refine wpAnyH_take (i := 4) (oi := _) (v := .agg #[.int .i64 od0, .int .u64 od1, .int .u64 od2, .string od3, .slice B np cB, .bool od5, .slice D nD dD]) rfl (by kernel_rfl) (by kernel_rfl) (by kernel_rfl) (fun _ _ _ h => h) (Or.inl ⟨by kernel_rfl, ?_⟩) (by assumption) ?_
        · intro w hSw; (try dsimp only at hSw); go_simp
        try simp only [Act.put, List.setIfInBounds_toArray, List.set_cons_zero, List.set_cons_succ]
        clear hHeld
        generalize World.drew wr = wd at *
        refine wpAnyH_ready (rs := [5, 9, 10]) (by kernel_rfl) (by simp) ?_
        refine AllReadyH.cons (o := _) rfl (fun K hK => ?_) (AllReadyH.cons (o := _) rfl (fun K hK => ?_) (AllReadyH.cons (o := _) rfl (fun K hK => ?_) (AllReadyH.nil)))
        · go_simp; go_at_call 11; refine (HC.out _ HBD.out).mono ?_; intro e wy0 hp; obtain ⟨E0, n0, d0, E1, n1, d1, E2, n2, d2, E3, n3, d3, rfl, hv5, hb5⟩ := doOut hp; clear hp; go_simp
          have HY0 := Aside0.mk (HBD.out.trans (hb5.mono HBD.out.size))
          have HV5 := Aside0.mk hv5
          clear hv5 hb5
          refine hK.out _ _ (keepO hK0 HY0.out) (fun hHeld0 => ?_)
          clear hK K
          try simp only [Act.put, List.setIfInBounds_toArray, List.set_cons_zero, List.set_cons_succ]
          refine wpAnyH_take (i := 6) (oi := _) (v := .tuple #[.agg #[.slice E0 n0 d0, .slice E1 n1 d1, .slice E2 n2 d2, .slice E3 n3 d3, .int .u64 R.1.ver], .agg #[.int .i64 R.2.err, .string R.2.val, .int .u64 R.2.ver, .bool R.2.found, .bool R.2.commit]]) rfl (by kernel_rfl) (by kernel_rfl) (by kernel_rfl) (fun _ _ _ h => h) (Or.inl ⟨by kernel_rfl, ?_⟩) (by assumption) ?_
          · intro w hSw; (try dsimp only at hSw); go_simp
          try simp only [Act.put, List.setIfInBounds_toArray, List.set_cons_zero, List.set_cons_succ]
          refine wpAnyH_take (i := 7) (oi := _) (v := .agg #[.slice E0 n0 d0, .slice E1 n1 d1, .slice E2 n2 d2, .slice E3 n3 d3, .int .u64 R.1.ver]) rfl (by kernel_rfl) (by kernel_rfl) (by kernel_rfl) (fun _ _ _ h => h) (Or.inl ⟨by kernel_rfl, ?_⟩) (by assumption) ?_
          · intro w hSw; (try dsimp only at hSw); go_simp
          try simp only [Act.put, List.setIfInBounds_toArray, List.set_cons_zero, List.set_cons_succ]
          refine wpAnyH_take (i := 8) (oi := _) (v := .agg #[.int .i64 R.2.err, .string R.2.val, .int .u64 R.2.ver, .bool R.2.found, .bool R.2.commit]) rfl (by kernel_rfl) (by kernel_rfl) (by kernel_rfl) (fun _ _ _ h => h) (Or.inl ⟨by kernel_rfl, ?_⟩) (by assumption) ?_
          · intro w hSw; (try dsimp only at hSw); go_simp
          try simp only [Act.put, List.setIfInBounds_toArray, List.set_cons_zero, List.set_cons_succ]
          refine wpAnyH_ready (rs := [9, 10]) (by kernel_rfl) (by simp) ?_
          refine AllReadyH.cons (o := _) rfl (fun K hK => ?_) (AllReadyH.cons (o := _) rfl (fun K hK => ?_) (AllReadyH.nil))
          · go_simp
            have HY1 := Aside0.mk (HY0.out.alloc HY0.out.size (.cells #[.slice none 0 0, .slice none 0 0, .slice none 0 0, .slice none 0 0, .int .u64 0] 28))
            have HV5 := Aside0.mk (HV5.out.below ((Below.refl _ _).alloc (Nat.le_refl _) (.cells #[.slice none 0 0, .slice none 0 0, .slice none 0 0, .slice none 0 0, .int .u64 0] 28)))
            have FU := Aside0.mk (heap_alloc_new wy0 (.cells #[.slice none 0 0, .slice none 0 0, .slice none 0 0, .slice none 0 0, .int .u64 0] 28))
            have hlbu : wr.heap.size ≤ wy0.heap.size := HY0.out.size
            refine hK.out _ _ (keepO hK0 HY1.out) (fun hHeld1 => ?_)
            clear hK K
            try simp only [Act.put, List.setIfInBounds_toArray, List.set_cons_zero, List.set_cons_succ]
            generalize wy0.alloc (.cells #[.slice none 0 0, .slice none 0 0, .slice none 0 0, .slice none 0 0, .int .u64 0] 28) = wy1 at *
            generalize wy0.heap.size = bu at *
            refine wpAnyH_ready (rs := [10]) (by kernel_rfl) (by simp) ?_
            refine AllReadyH.cons (o := _) rfl (fun K hK => ?_) (AllReadyH.nil)
            · go_simp
              have HY2 := Aside0.mk (HY1.out.alloc HY1.out.size (.cells #[.int .i64 0, .string ⟨#[]⟩, .int .u64 0, .bool false, .bool false] 38))
              have hlt := (Array.getElem?_eq_some_iff.1 FU.out).1
              have FU := Aside0.mk (stayA FU.out (.cells #[.int .i64 0, .string ⟨#[]⟩, .int .u64 0, .bool false, .bool false] 38))
              have HV5 := Aside0.mk (HV5.out.below ((Below.refl _ _).alloc (Nat.le_refl _) (.cells #[.int .i64 0, .string ⟨#[]⟩, .int .u64 0, .bool false, .bool false] 38)))
              have FA := Aside0.mk (heap_alloc_new wy1 (.cells #[.int .i64 0, .string ⟨#[]⟩, .int .u64 0, .bool false, .bool false] 38))
              have hlba : wr.heap.size ≤ wy1.heap.size := HY1.out.size
              refine hK.out _ _ (keepO hK0 HY2.out) (fun hHeld2 => ?_)
              clear hK K
              try simp only [Act.put, List.setIfInBounds_toArray, List.set_cons_zero, List.set_cons_succ]
              generalize wy1.alloc (.cells #[.int .i64 0, .string ⟨#[]⟩, .int .u64 0, .bool false, .bool false] 38) = wy2 at *
              generalize wy1.heap.size = ba at *
              have hneq : bu ≠ ba := by omega
              obtain ⟨hz0, hz1, hz2, hz3, hz4⟩ := cells_5 FU.out
              obtain ⟨hy0, hy1, hy2, hy3, hy4⟩ := froz_5 FU.out
              have HP1 := Aside0.mk (put5_below (g := bu) HY2.out (by omega) (.slice E0 n0 d0) (.slice E1 n1 d1) (.slice E2 n2 d2) (.slice E3 n3 d3) (.int .u64 R.1.ver))
              refine wpAnyH_ready (rs := [11]) (by kernel_rfl) (by simp) ?_
              refine AllReadyH.cons (o := _) rfl (fun K hK => ?_) AllReadyH.nil
              go_simp
              refine hK.out _ _ (keepO hK0 HP1.out) (fun hHeldA => ?_)
              clear hK K hz0 hz1 hz2 hz3 hz4 hy0 hy1 hy2 hy3 hy4
              try simp only [Act.put, List.setIfInBounds_toArray, List.set_cons_zero, List.set_cons_succ]
              have FA2 := Aside0.mk (put5_other (b := ba) (g := bu) (by omega) FA.out (.slice E0 n0 d0) (.slice E1 n1 d1) (.slice E2 n2 d2) (.slice E3 n3 d3) (.int .u64 R.1.ver))
              obtain ⟨hz0, hz1, hz2, hz3, hz4⟩ := cells_5 FA2.out
              obtain ⟨hy0, hy1, hy2, hy3, hy4⟩ := froz_5 FA2.out
              have HP2 := Aside0.mk (put5_below (g := ba) HP1.out (by omega) (.int .i64 R.2.err) (.string R.2.val) (.int .u64 R.2.ver) (.bool R.2.found) (.bool R.2.commit))
              refine wpAnyH_ready (rs := [12]) (by kernel_rfl) (by simp) ?_
              refine AllReadyH.cons (o := _) rfl (fun K hK => ?_) AllReadyH.nil
              go_simp
              refine hK.out _ _ (keepO hK0 HP2.out) (fun hHeldB => ?_)
              clear hK K hz0 hz1 hz2 hz3 hz4 hy0 hy1 hy2 hy3 hy4
              try simp only [Act.put, List.setIfInBounds_toArray, List.set_cons_zero, List.set_cons_succ]
              refine wpAnyH_done (by kernel_rfl) ?_ _
              refine NoPanic.normal ?_
              go_wp2
              go_meet
              exact ⟨bu, ba, rfl, rfl, HP2, ⟨(onceEnd FU.out FA.out hneq HV5.out).1⟩, ⟨(onceEnd (e := R.2.err) (v := R.2.ver) (st := R.2.val) (f := R.2.found) (g := R.2.commit) FU.out FA.out hneq HV5.out).2⟩, ⟨by omega⟩⟩
          · go_simp
            have HY1 := Aside0.mk (HY0.out.alloc HY0.out.size (.cells #[.int .i64 0, .string ⟨#[]⟩, .int .u64 0, .bool false, .bool false] 38))
            have HV5 := Aside0.mk (HV5.out.below ((Below.refl _ _).alloc (Nat.le_refl _) (.cells #[.int .i64 0, .string ⟨#[]⟩, .int .u64 0, .bool false, .bool false] 38)))
            have FA := Aside0.mk (heap_alloc_new wy0 (.cells #[.int .i64 0, .string ⟨#[]⟩, .int .u64 0, .bool false, .bool false] 38))
            have hlba : wr.heap.size ≤ wy0.heap.size := HY0.out.size
            refine hK.out _ _ (keepO hK0 HY1.out) (fun hHeld1 => ?_)
            clear hK K
            try simp only [Act.put, List.setIfInBounds_toArray, List.set_cons_zero, List.set_cons_succ]
            generalize wy0.alloc (.cells #[.int .i64 0, .string ⟨#[]⟩, .int .u64 0, .bool false, .bool false] 38) = wy1 at *
            generalize wy0.heap.size = ba at *
            refine wpAnyH_ready (rs := [9]) (by kernel_rfl) (by simp) ?_
            refine AllReadyH.cons (o := _) rfl (fun K hK => ?_) (AllReadyH.nil)
            · go_simp
              have HY2 := Aside0.mk (HY1.out.alloc HY1.out.size (.cells #[.slice none 0 0, .slice none 0 0, .slice none 0 0, .slice none 0 0, .int .u64 0] 28))
              have hlt := (Array.getElem?_eq_some_iff.1 FA.out).1
              have FA := Aside0.mk (stayA FA.out (.cells #[.slice none 0 0, .slice none 0 0, .slice none 0 0, .slice none 0 0, .int .u64 0] 28))
              have HV5 := Aside0.mk (HV5.out.below ((Below.refl _ _).alloc (Nat.le_refl _) (.cells #[.slice none 0 0, .slice none 0 0, .slice none 0 0, .slice none 0 0, .int .u64 0] 28)))
              have FU := Aside0.mk (heap_alloc_new wy1 (.cells #[.slice none 0 0, .slice none 0 0, .slice none 0 0, .slice none 0 0, .int .u64 0] 28))
              have hlbu : wr.heap.size ≤ wy1.heap.size := HY1.out.size
              refine hK.out _ _ (keepO hK0 HY2.out) (fun hHeld2 => ?_)
              clear hK K
              try simp only [Act.put, List.setIfInBounds_toArray, List.set_cons_zero, List.set_cons_succ]
              generalize wy1.alloc (.cells #[.slice none 0 0, .slice none 0 0, .slice none 0 0, .slice none 0 0, .int .u64 0] 28) = wy2 at *
              generalize wy1.heap.size = bu at *
              have hneq : bu ≠ ba := by omega
              obtain ⟨hz0, hz1, hz2, hz3, hz4⟩ := cells_5 FU.out
              obtain ⟨hy0, hy1, hy2, hy3, hy4⟩ := froz_5 FU.out
              have HP1 := Aside0.mk (put5_below (g := bu) HY2.out (by omega) (.slice E0 n0 d0) (.slice E1 n1 d1) (.slice E2 n2 d2) (.slice E3 n3 d3) (.int .u64 R.1.ver))
              refine wpAnyH_ready (rs := [11]) (by kernel_rfl) (by simp) ?_
              refine AllReadyH.cons (o := _) rfl (fun K hK => ?_) AllReadyH.nil
              go_simp
              refine hK.out _ _ (keepO hK0 HP1.out) (fun hHeldA => ?_)
              clear hK K hz0 hz1 hz2 hz3 hz4 hy0 hy1 hy2 hy3 hy4
              try simp only [Act.put, List.setIfInBounds_toArray, List.set_cons_zero, List.set_cons_succ]
              have FA2 := Aside0.mk (put5_other (b := ba) (g := bu) (by omega) FA.out (.slice E0 n0 d0) (.slice E1 n1 d1) (.slice E2 n2 d2) (.slice E3 n3 d3) (.int .u64 R.1.ver))
              obtain ⟨hz0, hz1, hz2, hz3, hz4⟩ := cells_5 FA2.out
              obtain ⟨hy0, hy1, hy2, hy3, hy4⟩ := froz_5 FA2.out
              have HP2 := Aside0.mk (put5_below (g := ba) HP1.out (by omega) (.int .i64 R.2.err) (.string R.2.val) (.int .u64 R.2.ver) (.bool R.2.found) (.bool R.2.commit))
              refine wpAnyH_ready (rs := [12]) (by kernel_rfl) (by simp) ?_
              refine AllReadyH.cons (o := _) rfl (fun K hK => ?_) AllReadyH.nil
              go_simp
              refine hK.out _ _ (keepO hK0 HP2.out) (fun hHeldB => ?_)
              clear hK K hz0 hz1 hz2 hz3 hz4 hy0 hy1 hy2 hy3 hy4
              try simp only [Act.put, List.setIfInBounds_toArray, List.set_cons_zero, List.set_cons_succ]
              refine wpAnyH_done (by kernel_rfl) ?_ _
              refine NoPanic.normal ?_
              go_wp2
              go_meet
              exact ⟨bu, ba, rfl, rfl, HP2, ⟨(onceEnd FU.out FA.out hneq HV5.out).1⟩, ⟨(onceEnd (e := R.2.err) (v := R.2.ver) (st := R.2.val) (f := R.2.found) (g := R.2.commit) FU.out FA.out hneq HV5.out).2⟩, ⟨by omega⟩⟩
        · go_simp
          have HY0 := Aside0.mk (HBD.out.alloc HBD.out.size (.cells #[.slice none 0 0, .slice none 0 0, .slice none 0 0, .slice none 0 0, .int .u64 0] 28))
          have FU := Aside0.mk (heap_alloc_new wd (.cells #[.slice none 0 0, .slice none 0 0, .slice none 0 0, .slice none 0 0, .int .u64 0] 28))
          have hlbu : wr.heap.size ≤ wd.heap.size := HBD.out.size
          refine hK.out _ _ (keepO hK0 HY0.out) (fun hHeld0 => ?_)
          clear hK K
          try simp only [Act.put, List.setIfInBounds_toArray, List.set_cons_zero, List.set_cons_succ]
          generalize wd.alloc (.cells #[.slice none 0 0, .slice none 0 0, .slice none 0 0, .slice none 0 0, .int .u64 0] 28) = wy0 at *
          generalize wd.heap.size = bu at *
          refine wpAnyH_ready (rs := [5, 10]) (by kernel_rfl) (by simp) ?_
          refine AllReadyH.cons (o := _) rfl (fun K hK => ?_) (AllReadyH.cons (o := _) rfl (fun K hK => ?_) (AllReadyH.nil))
          · go_simp; go_at_call 11; refine (HC.out _ HY0.out).mono ?_; intro e wy1 hp; obtain ⟨E0, n0, d0, E1, n1, d1, E2, n2, d2, E3, n3, d3, rfl, hv5, hb5⟩ := doOut hp; clear hp; go_simp
            have HY1 := Aside0.mk (HY0.out.trans (hb5.mono HY0.out.size))
            have FU := Aside0.mk (stay hb5 FU.out (Array.getElem?_eq_some_iff.1 FU.out).1)
            have HV5 := Aside0.mk hv5
            clear hv5 hb5
            refine hK.out _ _ (keepO hK0 HY1.out) (fun hHeld1 => ?_)
            clear hK K
            try simp only [Act.put, List.setIfInBounds_toArray, List.set_cons_zero, List.set_cons_succ]
            refine wpAnyH_take (i := 6) (oi := _) (v := .tuple #[.agg #[.slice E0 n0 d0, .slice E1 n1 d1, .slice E2 n2 d2, .slice E3 n3 d3, .int .u64 R.1.ver], .agg #[.int .i64 R.2.err, .string R.2.val, .int .u64 R.2.ver, .bool R.2.found, .bool R.2.commit]]) rfl (by kernel_rfl) (by kernel_rfl) (by kernel_rfl) (fun _ _ _ h => h) (Or.inl ⟨by kernel_rfl, ?_⟩) (by assumption) ?_
            · intro w hSw; (try dsimp only at hSw); go_simp
            try simp only [Act.put, List.setIfInBounds_toArray, List.set_cons_zero, List.set_cons_succ]
            refine wpAnyH_take (i := 7) (oi := _) (v := .agg #[.slice E0 n0 d0, .slice E1 n1 d1, .slice E2 n2 d2, .slice E3 n3 d3, .int .u64 R.1.ver]) rfl (by kernel_rfl) (by kernel_rfl) (by kernel_rfl) (fun _ _ _ h => h) (Or.inl ⟨by kernel_rfl, ?_⟩) (by assumption) ?_
            · intro w hSw; (try dsimp only at hSw); go_simp
            try simp only [Act.put, List.setIfInBounds_toArray, List.set_cons_zero, List.set_cons_succ]
            refine wpAnyH_take (i := 8) (oi := _) (v := .agg #[.int .i64 R.2.err, .string R.2.val, .int .u64 R.2.ver, .bool R.2.found, .bool R.2.commit]) rfl (by kernel_rfl) (by kernel_rfl) (by kernel_rfl) (fun _ _ _ h => h) (Or.inl ⟨by kernel_rfl, ?_⟩) (by assumption) ?_
            · intro w hSw; (try dsimp only at hSw); go_simp
            try simp only [Act.put, List.setIfInBounds_toArray, List.set_cons_zero, List.set_cons_succ]
            refine wpAnyH_ready (rs := [10]) (by kernel_rfl) (by simp) ?_
            refine AllReadyH.cons (o := _) rfl (fun K hK => ?_) (AllReadyH.nil)
            · go_simp
              have HY2 := Aside0.mk (HY1.out.alloc HY1.out.size (.cells #[.int .i64 0, .string ⟨#[]⟩, .int .u64 0, .bool false, .bool false] 38))
              have hlt := (Array.getElem?_eq_some_iff.1 FU.out).1
              have FU := Aside0.mk (stayA FU.out (.cells #[.int .i64 0, .string ⟨#[]⟩, .int .u64 0, .bool false, .bool false] 38))
              have HV5 := Aside0.mk (HV5.out.below ((Below.refl _ _).alloc (Nat.le_refl _) (.cells #[.int .i64 0, .string ⟨#[]⟩, .int .u64 0, .bool false, .bool false] 38)))
              have FA := Aside0.mk (heap_alloc_new wy1 (.cells #[.int .i64 0, .string ⟨#[]⟩, .int .u64 0, .bool false, .bool false] 38))
              have hlba : wr.heap.size ≤ wy1.heap.size := HY1.out.size
              refine hK.out _ _ (keepO hK0 HY2.out) (fun hHeld2 => ?_)
              clear hK K
              try simp only [Act.put, List.setIfInBounds_toArray, List.set_cons_zero, List.set_cons_succ]
              generalize wy1.alloc (.cells #[.int .i64 0, .string ⟨#[]⟩, .int .u64 0, .bool false, .bool false] 38) = wy2 at *
              generalize wy1.heap.size = ba at *
              have hneq : bu ≠ ba := by omega
              obtain ⟨hz0, hz1, hz2, hz3, hz4⟩ := cells_5 FU.out
              obtain ⟨hy0, hy1, hy2, hy3, hy4⟩ := froz_5 FU.out
              have HP1 := Aside0.mk (put5_below (g := bu) HY2.out (by omega) (.slice E0 n0 d0) (.slice E1 n1 d1) (.slice E2 n2 d2) (.slice E3 n3 d3) (.int .u64 R.1.ver))
              refine wpAnyH_ready (rs := [11]) (by kernel_rfl) (by simp) ?_
              refine AllReadyH.cons (o := _) rfl (fun K hK => ?_) AllReadyH.nil
              go_simp
              refine hK.out _ _ (keepO hK0 HP1.out) (fun hHeldA => ?_)
              clear hK K hz0 hz1 hz2 hz3 hz4 hy0 hy1 hy2 hy3 hy4
              try simp only [Act.put, List.setIfInBounds_toArray, List.set_cons_zero, List.set_cons_succ]
              have FA2 := Aside0.mk (put5_other (b := ba) (g := bu) (by omega) FA.out (.slice E0 n0 d0) (.slice E1 n1 d1) (.slice E2 n2 d2) (.slice E3 n3 d3) (.int .u64 R.1.ver))
              obtain ⟨hz0, hz1, hz2, hz3, hz4⟩ := cells_5 FA2.out
              obtain ⟨hy0, hy1, hy2, hy3, hy4⟩ := froz_5 FA2.out
              have HP2 := Aside0.mk (put5_below (g := ba) HP1.out (by omega) (.int .i64 R.2.err) (.string R.2.val) (.int .u64 R.2.ver) (.bool R.2.found) (.bool R.2.commit))
              refine wpAnyH_ready (rs := [12]) (by kernel_rfl) (by simp) ?_
              refine AllReadyH.cons (o := _) rfl (fun K hK => ?_) AllReadyH.nil
              go_simp
              refine hK.out _ _ (keepO hK0 HP2.out) (fun hHeldB => ?_)
              clear hK K hz0 hz1 hz2 hz3 hz4 hy0 hy1 hy2 hy3 hy4
              try simp only [Act.put, List.setIfInBounds_toArray, List.set_cons_zero, List.set_cons_succ]
              refine wpAnyH_done (by kernel_rfl) ?_ _
              refine NoPanic.normal ?_
              go_wp2
              go_meet
              exact ⟨bu, ba, rfl, rfl, HP2, ⟨(onceEnd FU.out FA.out hneq HV5.out).1⟩, ⟨(onceEnd (e := R.2.err) (v := R.2.ver) (st := R.2.val) (f := R.2.found) (g := R.2.commit) FU.out FA.out hneq HV5.out).2⟩, ⟨by omega⟩⟩
          · go_simp
            have HY1 := Aside0.mk (HY0.out.alloc HY0.out.size (.cells #[.int .i64 0, .string ⟨#[]⟩, .int .u64 0, .bool false, .bool false] 38))
            have hlt := (Array.getElem?_eq_some_iff.1 FU.out).1
            have FU := Aside0.mk (stayA FU.out (.cells #[.int .i64 0, .string ⟨#[]⟩, .int .u64 0, .bool false, .bool false] 38))
            have FA := Aside0.mk (heap_alloc_new wy0 (.cells #[.int .i64 0, .string ⟨#[]⟩, .int .u64 0, .bool false, .bool false] 38))
            have hlba : wr.heap.size ≤ wy0.heap.size := HY0.out.size
            refine hK.out _ _ (keepO hK0 HY1.out) (fun hHeld1 => ?_)
            clear hK K
            try simp only [Act.put, List.setIfInBounds_toArray, List.set_cons_zero, List.set_cons_succ]
            generalize wy0.alloc (.cells #[.int .i64 0, .string ⟨#[]⟩, .int .u64 0, .bool false, .bool false] 38) = wy1 at *
            generalize wy0.heap.size = ba at *
            refine wpAnyH_ready (rs := [5]) (by kernel_rfl) (by simp) ?_
            refine AllReadyH.cons (o := _) rfl (fun K hK => ?_) (AllReadyH.nil)
            · go_simp; go_at_call 11; refine (HC.out _ HY1.out).mono ?_; intro e wy2 hp; obtain ⟨E0, n0, d0, E1, n1, d1, E2, n2, d2, E3, n3, d3, rfl, hv5, hb5⟩ := doOut hp; clear hp; go_simp
              have HY2 := Aside0.mk (HY1.out.trans (hb5.mono HY1.out.size))
              have FU := Aside0.mk (stay hb5 FU.out (Array.getElem?_eq_some_iff.1 FU.out).1)
              have FA := Aside0.mk (stay hb5 FA.out (Array.getElem?_eq_some_iff.1 FA.out).1)
              have HV5 := Aside0.mk hv5
              clear hv5 hb5
              refine hK.out _ _ (keepO hK0 HY2.out) (fun hHeld2 => ?_)
              clear hK K
              try simp only [Act.put, List.setIfInBounds_toArray, List.set_cons_zero, List.set_cons_succ]
              refine wpAnyH_take (i := 6) (oi := _) (v := .tuple #[.agg #[.slice E0 n0 d0, .slice E1 n1 d1, .slice E2 n2 d2, .slice E3 n3 d3, .int .u64 R.1.ver], .agg #[.int .i64 R.2.err, .string R.2.val, .int .u64 R.2.ver, .bool R.2.found, .bool R.2.commit]]) rfl (by kernel_rfl) (by kernel_rfl) (by kernel_rfl) (fun _ _ _ h => h) (Or.inl ⟨by kernel_rfl, ?_⟩) (by assumption) ?_
              · intro w hSw; (try dsimp only at hSw); go_simp
              try simp only [Act.put, List.setIfInBounds_toArray, List.set_cons_zero, List.set_cons_succ]
              refine wpAnyH_take (i := 7) (oi := _) (v := .agg #[.slice E0 n0 d0, .slice E1 n1 d1, .slice E2 n2 d2, .slice E3 n3 d3, .int .u64 R.1.ver]) rfl (by kernel_rfl) (by kernel_rfl) (by kernel_rfl) (fun _ _ _ h => h) (Or.inl ⟨by kernel_rfl, ?_⟩) (by assumption) ?_
              · intro w hSw; (try dsimp only at hSw); go_simp
              try simp only [Act.put, List.setIfInBounds_toArray, List.set_cons_zero, List.set_cons_succ]
              refine wpAnyH_take (i := 8) (oi := _) (v := .agg #[.int .i64 R.2.err, .string R.2.val, .int .u64 R.2.ver, .bool R.2.found, .bool R.2.commit]) rfl (by kernel_rfl) (by kernel_rfl) (by kernel_rfl) (fun _ _ _ h => h) (Or.inl ⟨by kernel_rfl, ?_⟩) (by assumption) ?_
              · intro w hSw; (try dsimp only at hSw); go_simp
              try simp only [Act.put, List.setIfInBounds_toArray, List.set_cons_zero, List.set_cons_succ]
              have hneq : bu ≠ ba := by omega
              obtain ⟨hz0, hz1, hz2, hz3, hz4⟩ := cells_5 FU.out
              obtain ⟨hy0, hy1, hy2, hy3, hy4⟩ := froz_5 FU.out
              have HP1 := Aside0.mk (put5_below (g := bu) HY2.out (by omega) (.slice E0 n0 d0) (.slice E1 n1 d1) (.slice E2 n2 d2) (.slice E3 n3 d3) (.int .u64 R.1.ver))
              refine wpAnyH_ready (rs := [11]) (by kernel_rfl) (by simp) ?_
              refine AllReadyH.cons (o := _) rfl (fun K hK => ?_) AllReadyH.nil
              go_simp
              refine hK.out _ _ (keepO hK0 HP1.out) (fun hHeldA => ?_)
              clear hK K hz0 hz1 hz2 hz3 hz4 hy0 hy1 hy2 hy3 hy4
              try simp only [Act.put, List.setIfInBounds_toArray, List.set_cons_zero, List.set_cons_succ]
              have FA2 := Aside0.mk (put5_other (b := ba) (g := bu) (by omega) FA.out (.slice E0 n0 d0) (.slice E1 n1 d1) (.slice E2 n2 d2) (.slice E3 n3 d3) (.int .u64 R.1.ver))
              obtain ⟨hz0, hz1, hz2, hz3, hz4⟩ := cells_5 FA2.out
              obtain ⟨hy0, hy1, hy2, hy3, hy4⟩ := froz_5 FA2.out
              have HP2 := Aside0.mk (put5_below (g := ba) HP1.out (by omega) (.int .i64 R.2.err) (.string R.2.val) (.int .u64 R.2.ver) (.bool R.2.found) (.bool R.2.commit))
              refine wpAnyH_ready (rs := [12]) (by kernel_rfl) (by simp) ?_
              refine AllReadyH.cons (o := _) rfl (fun K hK => ?_) AllReadyH.nil
              go_simp
              refine hK.out _ _ (keepO hK0 HP2.out) (fun hHeldB => ?_)
              clear hK K hz0 hz1 hz2 hz3 hz4 hy0 hy1 hy2 hy3 hy4
              try simp only [Act.put, List.setIfInBounds_toArray, List.set_cons_zero, List.set_cons_succ]
              refine wpAnyH_done (by kernel_rfl) ?_ _
              refine NoPanic.normal ?_
              go_wp2
              go_meet
              exact ⟨bu, ba, rfl, rfl, HP2, ⟨(onceEnd FU.out FA.out hneq HV5.out).1⟩, ⟨(onceEnd (e := R.2.err) (v := R.2.ver) (st := R.2.val) (f := R.2.found) (g := R.2.commit) FU.out FA.out hneq HV5.out).2⟩, ⟨by omega⟩⟩
        · go_simp
          have HY0 := Aside0.mk (HBD.out.alloc HBD.out.size (.cells #[.int .i64 0, .string ⟨#[]⟩, .int .u64 0, .bool false, .bool false] 38))
          have FA := Aside0.mk (heap_alloc_new wd (.cells #[.int .i64 0, .string ⟨#[]⟩, .int .u64 0, .bool false, .bool false] 38))
          have hlba : wr.heap.size ≤ wd.heap.size := HBD.out.size
          refine hK.out _ _ (keepO hK0 HY0.out) (fun hHeld0 => ?_)
          clear hK K
          try simp only [Act.put, List.setIfInBounds_toArray, List.set_cons_zero, List.set_cons_succ]
          generalize wd.alloc (.cells #[.int .i64 0, .string ⟨#[]⟩, .int .u64 0, .bool false, .bool false] 38) = wy0 at *
          generalize wd.heap.size = ba at *
          refine wpAnyH_ready (rs := [5, 9]) (by kernel_rfl) (by simp) ?_
          refine AllReadyH.cons (o := _) rfl (fun K hK => ?_) (AllReadyH.cons (o := _) rfl (fun K hK => ?_) (AllReadyH.nil))
          · go_simp; go_at_call 11; refine (HC.out _ HY0.out).mono ?_; intro e wy1 hp; obtain ⟨E0, n0, d0, E1, n1, d1, E2, n2, d2, E3, n3, d3, rfl, hv5, hb5⟩ := doOut hp; clear hp; go_simp
            have HY1 := Aside0.mk (HY0.out.trans (hb5.mono HY0.out.size))
            have FA := Aside0.mk (stay hb5 FA.out (Array.getElem?_eq_some_iff.1 FA.out).1)
            have HV5 := Aside0.mk hv5
            clear hv5 hb5
            refine hK.out _ _ (keepO hK0 HY1.out) (fun hHeld1 => ?_)
            clear hK K
            try simp only [Act.put, List.setIfInBounds_toArray, List.set_cons_zero, List.set_cons_succ]
            refine wpAnyH_take (i := 6) (oi := _) (v := .tuple #[.agg #[.slice E0 n0 d0, .slice E1 n1 d1, .slice E2 n2 d2, .slice E3 n3 d3, .int .u64 R.1.ver], .agg #[.int .i64 R.2.err, .string R.2.val, .int .u64 R.2.ver, .bool R.2.found, .bool R.2.commit]]) rfl (by kernel_rfl) (by kernel_rfl) (by kernel_rfl) (fun _ _ _ h => h) (Or.inl ⟨by kernel_rfl, ?_⟩) (by assumption) ?_
            · intro w hSw; (try dsimp only at hSw); go_simp
            try simp only [Act.put, List.setIfInBounds_toArray, List.set_cons_zero, List.set_cons_succ]
            refine wpAnyH_take (i := 7) (oi := _) (v := .agg #[.slice E0 n0 d0, .slice E1 n1 d1, .slice E2 n2 d2, .slice E3 n3 d3, .int .u64 R.1.ver]) rfl (by kernel_rfl) (by kernel_rfl) (by kernel_rfl) (fun _ _ _ h => h) (Or.inl ⟨by kernel_rfl, ?_⟩) (by assumption) ?_
            · intro w hSw; (try dsimp only at hSw); go_simp
            try simp only [Act.put, List.setIfInBounds_toArray, List.set_cons_zero, List.set_cons_succ]
            refine wpAnyH_take (i := 8) (oi := _) (v := .agg #[.int .i64 R.2.err, .string R.2.val, .int .u64 R.2.ver, .bool R.2.found, .bool R.2.commit]) rfl (by kernel_rfl) (by kernel_rfl) (by kernel_rfl) (fun _ _ _ h => h) (Or.inl ⟨by kernel_rfl, ?_⟩) (by assumption) ?_
            · intro w hSw; (try dsimp only at hSw); go_simp
            try simp only [Act.put, List.setIfInBounds_toArray, List.set_cons_zero, List.set_cons_succ]
            refine wpAnyH_ready (rs := [9]) (by kernel_rfl) (by simp) ?_
            refine AllReadyH.cons (o := _) rfl (fun K hK => ?_) (AllReadyH.nil)
            · go_simp
              have HY2 := Aside0.mk (HY1.out.alloc HY1.out.size (.cells #[.slice none 0 0, .slice none 0 0, .slice none 0 0, .slice none 0 0, .int .u64 0] 28))
              have hlt := (Array.getElem?_eq_some_iff.1 FA.out).1
              have FA := Aside0.mk (stayA FA.out (.cells #[.slice none 0 0, .slice none 0 0, .slice none 0 0, .slice none 0 0, .int .u64 0] 28))
              have HV5 := Aside0.mk (HV5.out.below ((Below.refl _ _).alloc (Nat.le_refl _) (.cells #[.slice none 0 0, .slice none 0 0, .slice none 0 0, .slice none 0 0, .int .u64 0] 28)))
              have FU := Aside0.mk (heap_alloc_new wy1 (.cells #[.slice none 0 0, .slice none 0 0, .slice none 0 0, .slice none 0 0, .int .u64 0] 28))
              have hlbu : wr.heap.size ≤ wy1.heap.size := HY1.out.size
              refine hK.out _ _ (keepO hK0 HY2.out) (fun hHeld2 => ?_)
              clear hK K
              try simp only [Act.put, List.setIfInBounds_toArray, List.set_cons_zero, List.set_cons_succ]
              generalize wy1.alloc (.cells #[.slice none 0 0, .slice none 0 0, .slice none 0 0, .slice none 0 0, .int .u64 0] 28) = wy2 at *
              generalize wy1.heap.size = bu at *
              have hneq : bu ≠ ba := by omega
              obtain ⟨hz0, hz1, hz2, hz3, hz4⟩ := cells_5 FU.out
              obtain ⟨hy0, hy1, hy2, hy3, hy4⟩ := froz_5 FU.out
              have HP1 := Aside0.mk (put5_below (g := bu) HY2.out (by omega) (.slice E0 n0 d0) (.slice E1 n1 d1) (.slice E2 n2 d2) (.slice E3 n3 d3) (.int .u64 R.1.ver))
              refine wpAnyH_ready (rs := [11]) (by kernel_rfl) (by simp) ?_
              refine AllReadyH.cons (o := _) rfl (fun K hK => ?_) AllReadyH.nil
              go_simp
              refine hK.out _ _ (keepO hK0 HP1.out) (fun hHeldA => ?_)
              clear hK K hz0 hz1 hz2 hz3 hz4 hy0 hy1 hy2 hy3 hy4
              try simp only [Act.put, List.setIfInBounds_toArray, List.set_cons_zero, List.set_cons_succ]
              have FA2 := Aside0.mk (put5_other (b := ba) (g := bu) (by omega) FA.out (.slice E0 n0 d0) (.slice E1 n1 d1) (.slice E2 n2 d2) (.slice E3 n3 d3) (.int .u64 R.1.ver))
              obtain ⟨hz0, hz1, hz2, hz3, hz4⟩ := cells_5 FA2.out
              obtain ⟨hy0, hy1, hy2, hy3, hy4⟩ := froz_5 FA2.out
              have HP2 := Aside0.mk (put5_below (g := ba) HP1.out (by omega) (.int .i64 R.2.err) (.string R.2.val) (.int .u64 R.2.ver) (.bool R.2.found) (.bool R.2.commit))
              refine wpAnyH_ready (rs := [12]) (by kernel_rfl) (by simp) ?_
              refine AllReadyH.cons (o := _) rfl (fun K hK => ?_) AllReadyH.nil
              go_simp
              refine hK.out _ _ (keepO hK0 HP2.out) (fun hHeldB => ?_)
              clear hK K hz0 hz1 hz2 hz3 hz4 hy0 hy1 hy2 hy3 hy4
              try simp only [Act.put, List.setIfInBounds_toArray, List.set_cons_zero, List.set_cons_succ]
              refine wpAnyH_done (by kernel_rfl) ?_ _
              refine NoPanic.normal ?_
              go_wp2
              go_meet
              exact ⟨bu, ba, rfl, rfl, HP2, ⟨(onceEnd FU.out FA.out hneq HV5.out).1⟩, ⟨(onceEnd (e := R.2.err) (v := R.2.ver) (st := R.2.val) (f := R.2.found) (g := R.2.commit) FU.out FA.out hneq HV5.out).2⟩, ⟨by omega⟩⟩
          · go_simp
            have HY1 := Aside0.mk (HY0.out.alloc HY0.out.size (.cells #[.slice none 0 0, .slice none 0 0, .slice none 0 0, .slice none 0 0, .int .u64 0] 28))
            have hlt := (Array.getElem?_eq_some_iff.1 FA.out).1
            have FA := Aside0.mk (stayA FA.out (.cells #[.slice none 0 0, .slice none 0 0, .slice none 0 0, .slice none 0 0, .int .u64 0] 28))
            have FU := Aside0.mk (heap_alloc_new wy0 (.cells #[.slice none 0 0, .slice none 0 0, .slice none 0 0, .slice none 0 0, .int .u64 0] 28))
            have hlbu : wr.heap.size ≤ wy0.heap.size := HY0.out.size
            refine hK.out _ _ (keepO hK0 HY1.out) (fun hHeld1 => ?_)
            clear hK K
            try simp only [Act.put, List.setIfInBounds_toArray, List.set_cons_zero, List.set_cons_succ]
            generalize wy0.alloc (.cells #[.slice none 0 0, .slice none 0 0, .slice none 0 0, .slice none 0 0, .int .u64 0] 28) = wy1 at *
            generalize wy0.heap.size = bu at *
            refine wpAnyH_ready (rs := [5]) (by kernel_rfl) (by simp) ?_
            refine AllReadyH.cons (o := _) rfl (fun K hK => ?_) (AllReadyH.nil)
            · go_simp; go_at_call 11; refine (HC.out _ HY1.out).mono ?_; intro e wy2 hp; obtain ⟨E0, n0, d0, E1, n1, d1, E2, n2, d2, E3, n3, d3, rfl, hv5, hb5⟩ := doOut hp; clear hp; go_simp
              have HY2 := Aside0.mk (HY1.out.trans (hb5.mono HY1.out.size))
              have FU := Aside0.mk (stay hb5 FU.out (Array.getElem?_eq_some_iff.1 FU.out).1)
              have FA := Aside0.mk (stay hb5 FA.out (Array.getElem?_eq_some_iff.1 FA.out).1)
              have HV5 := Aside0.mk hv5
              clear hv5 hb5
              refine hK.out _ _ (keepO hK0 HY2.out) (fun hHeld2 => ?_)
              clear hK K
              try simp only [Act.put, List.setIfInBounds_toArray, List.set_cons_zero, List.set_cons_succ]
              refine wpAnyH_take (i := 6) (oi := _) (v := .tuple #[.agg #[.slice E0 n0 d0, .slice E1 n1 d1, .slice E2 n2 d2, .slice E3 n3 d3, .int .u64 R.1.ver], .agg #[.int .i64 R.2.err, .string R.2.val, .int .u64 R.2.ver, .bool R.2.found, .bool R.2.commit]]) rfl (by kernel_rfl) (by kernel_rfl) (by kernel_rfl) (fun _ _ _ h => h) (Or.inl ⟨by kernel_rfl, ?_⟩) (by assumption) ?_
              · intro w hSw; (try dsimp only at hSw); go_simp
              try simp only [Act.put, List.setIfInBounds_toArray, List.set_cons_zero, List.set_cons_succ]
              refine wpAnyH_take (i := 7) (oi := _) (v := .agg #[.slice E0 n0 d0, .slice E1 n1 d1, .slice E2 n2 d2, .slice E3 n3 d3, .int .u64 R.1.ver]) rfl (by kernel_rfl) (by kernel_rfl) (by kernel_rfl) (fun _ _ _ h => h) (Or.inl ⟨by kernel_rfl, ?_⟩) (by assumption) ?_
              · intro w hSw; (try dsimp only at hSw); go_simp
              try simp only [Act.put, List.setIfInBounds_toArray, List.set_cons_zero, List.set_cons_succ]
              refine wpAnyH_take (i := 8) (oi := _) (v := .agg #[.int .i64 R.2.err, .string R.2.val, .int .u64 R.2.ver, .bool R.2.found, .bool R.2.commit]) rfl (by kernel_rfl) (by kernel_rfl) (by kernel_rfl) (fun _ _ _ h => h) (Or.inl ⟨by kernel_rfl, ?_⟩) (by assumption) ?_
              · intro w hSw; (try dsimp only at hSw); go_simp
              try simp only [Act.put, List.setIfInBounds_toArray, List.set_cons_zero, List.set_cons_succ]
              have hneq : bu ≠ ba := by omega
              obtain ⟨hz0, hz1, hz2, hz3, hz4⟩ := cells_5 FU.out
              obtain ⟨hy0, hy1, hy2, hy3, hy4⟩ := froz_5 FU.out
              have HP1 := Aside0.mk (put5_below (g := bu) HY2.out (by omega) (.slice E0 n0 d0) (.slice E1 n1 d1) (.slice E2 n2 d2) (.slice E3 n3 d3) (.int .u64 R.1.ver))
              refine wpAnyH_ready (rs := [11]) (by kernel_rfl) (by simp) ?_
              refine AllReadyH.cons (o := _) rfl (fun K hK => ?_) AllReadyH.nil
              go_simp
              refine hK.out _ _ (keepO hK0 HP1.out) (fun hHeldA => ?_)
              clear hK K hz0 hz1 hz2 hz3 hz4 hy0 hy1 hy2 hy3 hy4
              try simp only [Act.put, List.setIfInBounds_toArray, List.set_cons_zero, List.set_cons_succ]
              have FA2 := Aside0.mk (put5_other (b := ba) (g := bu) (by omega) FA.out (.slice E0 n0 d0) (.slice E1 n1 d1) (.slice E2 n2 d2) (.slice E3 n3 d3) (.int .u64 R.1.ver))
              obtain ⟨hz0, hz1, hz2, hz3, hz4⟩ := cells_5 FA2.out
              obtain ⟨hy0, hy1, hy2, hy3, hy4⟩ := froz_5 FA2.out
              have HP2 := Aside0.mk (put5_below (g := ba) HP1.out (by omega) (.int .i64 R.2.err) (.string R.2.val) (.int .u64 R.2.ver) (.bool R.2.found) (.bool R.2.commit))
              refine wpAnyH_ready (rs := [12]) (by kernel_rfl) (by simp) ?_
              refine AllReadyH.cons (o := _) rfl (fun K hK => ?_) AllReadyH.nil
              go_simp
              refine hK.out _ _ (keepO hK0 HP2.out) (fun hHeldB => ?_)
              clear hK K hz0 hz1 hz2 hz3 hz4 hy0 hy1 hy2 hy3 hy4
              try simp only [Act.put, List.setIfInBounds_toArray, List.set_cons_zero, List.set_cons_succ]
              refine wpAnyH_done (by kernel_rfl) ?_ _
              refine NoPanic.normal ?_
              go_wp2
              go_meet
              exact ⟨bu, ba, rfl, rfl, HP2, ⟨(onceEnd FU.out FA.out hneq HV5.out).1⟩, ⟨(onceEnd (e := R.2.err) (v := R.2.ver) (st := R.2.val) (f := R.2.found) (g := R.2.commit) FU.out FA.out hneq HV5.out).2⟩, ⟨by omega⟩⟩
      case rest =>
        clear hs0 hs1 hs2 hs3 hs4 ho0 ho1 ho2 ho3 ho4 ho5 ho6
        obtain ⟨bu, ba, rfl, rfl, HBC, HUC, HAC, HLC⟩ := hcut
        have HUc := HUC
        have hb := HBC.out
        have XQc := Aside0.mk (HXr.out.below hb)
        have HTc := Aside0.mk (stay hb HTr.out (Array.getElem?_eq_some_iff.1 HTr.out).1)
        have HAc := HAC
        have HBc := Aside0.mk (HBr.out.trans (hb.mono HBr.out.size))
        have HPc := Aside0.mk (keepOne HO0.out hb)
        have HQc := Aside0.mk (keepOne HO1.out hb)
        have HVc := Aside0.mk (keepOne HO2.out hb)
        have HWc := Aside0.mk (keepOne HO5.out hb)
        clear hb HBC HUC HAC HLC HXr HTr HBr HO0 HO1 HO2 HO5 HX HC
        have hp0 := HPc.out
        have hp1 := HQc.out
        have hp2 := HVc.out
        have ht0 := cell_row (cs := [.int .u64 ta, .int .u64 ti]) HTc.out 0
        have ht1 := cell_row (cs := [.int .u64 ta, .int .u64 ti]) HTc.out 1
        go_upto_region 9 with (fail)
        go_cut [44] from 30 to 44 (fun v44 wx => v44 = .bool (decide (od1 = ta ∧ od2 = ti ∧ od0 = 4)) ∧ ∃ n, wx = wc.drewN n)
        case first =>
          by_cases e1 : od1 = ta
          · by_cases e2 : od2 = ti
            · by_cases e4 : od0 = 4
              · subst e1 e2 e4
                go_quiet (fail)
                go_wp2
                go_meet
                exact ⟨by simp, _, rfl⟩
              · subst e1 e2
                go_quiet (fail)
                go_wp2
                go_meet
                exact ⟨congrArg Value.bool (by have h1 : (od0 == 4) = false := beq_eq_false_iff_ne.2 e4; simp [h1, e4]), _, rfl⟩
            · subst e1
              go_quiet (fail)
              go_wp2
              go_meet
              exact ⟨congrArg Value.bool (decide_eq_false (fun h => e2 h.2.1)).symm, _, rfl⟩
          · go_quiet (fail)
            go_wp2
            go_meet
            exact ⟨congrArg Value.bool (decide_eq_false (fun h => e1 h.1)).symm, _, rfl⟩
        case rest =>
          clear hp0 hp1 hp2 ht0 ht1
          obtain ⟨rfl, n9, rfl⟩ := hcut
          have hbn := pw_below_drewN (Below.refl wc.heap.size wc) n9
          have HUd := Aside0.mk (HUc.out.below hbn)
          have XQd := Aside0.mk (XQc.out.below hbn)
          have HTd := Aside0.mk (stay hbn HTc.out (Array.getElem?_eq_some_iff.1 HTc.out).1)
          have HAd := Aside0.mk (stay hbn HAc.out (Array.getElem?_eq_some_iff.1 HAc.out).1)
          have HBd := Aside0.mk (pw_below_drewN HBc.out n9)
          have HPd := Aside0.mk (keepOne HPc.out hbn)
          have HQd := Aside0.mk (keepOne HQc.out hbn)
          have HVd := Aside0.mk (keepOne HVc.out hbn)
          have HWd := Aside0.mk (keepOne HWc.out hbn)
          clear hbn
          generalize World.drewN wc n9 = wd at *
          by_cases hee : od1 = ta ∧ od2 = ti ∧ od0 = 4
          · rw [decide_eq_true hee]
            obtain ⟨e1, e2, e4⟩ := hee
            subst e1 e2 e4
            cases told with
            | false =>
              have hw5 := HWd.out
              obtain ⟨ha0, ha1, ha2, ha3, ha4⟩ := cells_5 HAd.out
              obtain ⟨C0, x0, y0, C1, x1, y1, C2, x2, y2, C3, x3, y3, D0, u0, z0, D1, u1, z1, D2, u2, z2, D3, u3, z3, hXu, hXq, hPut⟩ := copy_at XQd.out HUd.out
              obtain ⟨hk0, hk1, hk2, hk3, hk4⟩ := cells_5 hXu
              obtain ⟨hs0, hs1, hs2, hs3, hs4⟩ := cells_5 hXq
              obtain ⟨hy0, hy1, hy2, hy3, hy4⟩ := froz_5 hXq
              have HPUT := Aside0.mk hPut
              clear hXu hXq hPut
              by_cases he : R.2.err = 0
              · have hof := once_first (s := S) (t := ⟨od1, od2⟩) od3 odp od5 (by rw [← HRD.out]; exact he)
                rw [← HRD.out] at hof
                have HOF := Aside0.mk hof.2
                rw [hof.1] at ha4
                rw [he] at ha0
                clear hof he
                go_wp2
                go_roundg (l.length - (jj + 1))
                case measure => omega
                case rel => exact ⟨jj + 1, true, od5, by omega, by omega, rfl, rfl, by go_num, ⟨put5_below HBd.out (by omega) _ _ _ _ _⟩, ⟨_, HIN.out, HPUT.out, fun _ => HOF.out⟩, ⟨put5_other (b := w.heap.size) (g := q) (by omega) HTd.out _ _ _ _ _⟩⟩
              · go_wp2
                go_roundg (l.length - (jj + 1))
                case measure => omega
                case rel => exact ⟨jj + 1, false, cmt, by omega, by omega, rfl, rfl, by go_num, ⟨put5_below HBd.out (by omega) _ _ _ _ _⟩, ⟨_, HIN.out, HPUT.out, (fun h => by cases h)⟩, ⟨put5_other (b := w.heap.size) (g := q) (by omega) HTd.out _ _ _ _ _⟩⟩
            | true =>
              have hag := once_again (HOV.out rfl) od3 odp od5
              rw [← HRD.out] at hag
              subst hag
              obtain ⟨A0', n0', c0', A1', n1', c1', A2', n2', c2', A3', n3', c3', B0', m0', d0', B1', m1', d1', B2', m2', d2', B3', m3', d3', hX1, hX2, hCS⟩ := same13_calls XQd.out HUd.out HI.out.ok
              have HCS := Aside0.mk (hCS wd (Below.refl _ _))
              obtain ⟨hs0, hs1, hs2, hs3, hs4⟩ := cells_5 hX1
              obtain ⟨hk0, hk1, hk2, hk3, hk4⟩ := cells_5 hX2
              clear hCS hX1 hX2
              go_upto_region 12 with (go_at_call 13; refine (HCS.out).mono ?_; rintro e w8 ⟨rfl, hb8⟩; clear hs0 hs1 hs2 hs3 hs4 hk0 hk1 hk2 hk3 hk4; have HB8 := Aside0.mk hb8; clear hb8)
              have hb := HB8.out
              have HUe := Aside0.mk (HUd.out.below hb)
              have XQe := Aside0.mk (XQd.out.below hb)
              have HTe := Aside0.mk (stay hb HTd.out (Array.getElem?_eq_some_iff.1 HTd.out).1)
              have HAe := Aside0.mk (stay hb HAd.out (Array.getElem?_eq_some_iff.1 HAd.out).1)
              have HBe := Aside0.mk (HBd.out.trans (hb.mono HBd.out.size))
              have HPe := Aside0.mk (keepOne HPd.out hb)
              have HQe := Aside0.mk (keepOne HQd.out hb)
              have HVe := Aside0.mk (keepOne HVd.out hb)
              have HWe := Aside0.mk (keepOne HWd.out hb)
              have hw5 := HWe.out
              obtain ⟨ha0, ha1, ha2, ha3, ha4⟩ := cells_5 HAe.out
              try dsimp only at ha0 ha4
              clear hb HB8 HCS
              cases cmt with
              | true =>
                cases od5 with
                | true =>
                  go_quiet (fail)
                  have hbn := pw_below_drewN (Below.refl w8.heap.size w8) nq
                  have HUg := Aside0.mk (HUe.out.below hbn)
                  have XQg := Aside0.mk (XQe.out.below hbn)
                  have HTg := Aside0.mk (stay hbn HTe.out (Array.getElem?_eq_some_iff.1 HTe.out).1)
                  have HAg := Aside0.mk (stay hbn HAe.out (Array.getElem?_eq_some_iff.1 HAe.out).1)
                  have HBg := Aside0.mk (pw_below_drewN HBe.out nq)
                  have HPg := Aside0.mk (keepOne HPe.out hbn)
                  have HQg := Aside0.mk (keepOne HQe.out hbn)
                  have HVg := Aside0.mk (keepOne HVe.out hbn)
                  have HWg := Aside0.mk (keepOne HWe.out hbn)
                  clear hbn
                  generalize World.drewN w8 nq = wg at *
                  obtain ⟨C0, x0, y0, C1, x1, y1, C2, x2, y2, C3, x3, y3, D0, u0, z0, D1, u1, z1, D2, u2, z2, D3, u3, z3, hXu, hXq, hPut⟩ := copy_at XQg.out HUg.out
                  obtain ⟨hk0, hk1, hk2, hk3, hk4⟩ := cells_5 hXu
                  obtain ⟨hs0, hs1, hs2, hs3, hs4⟩ := cells_5 hXq
                  obtain ⟨hy0, hy1, hy2, hy3, hy4⟩ := froz_5 hXq
                  have HPUT := Aside0.mk hPut
                  clear hXu hXq hPut
                  clear hw5 ha0 ha1 ha2 ha3 ha4
                  go_wp2
                  go_roundg (l.length - (jj + 1))
                  case measure => omega
                  case rel => exact ⟨jj + 1, true, true, by omega, by omega, rfl, rfl, by go_num, ⟨put5_below HBg.out (by omega) _ _ _ _ _⟩, ⟨_, HI.out, HPUT.out, (by have h := HOV.out; simpa using h)⟩, ⟨put5_other (b := w.heap.size) (g := q) (by omega) HTg.out _ _ _ _ _⟩⟩
                | false =>
                  go_quiet (fail)
                  have hbn := pw_below_drewN (Below.refl w8.heap.size w8) nq
                  have HUg := Aside0.mk (HUe.out.below hbn)
                  have XQg := Aside0.mk (XQe.out.below hbn)
                  have HTg := Aside0.mk (stay hbn HTe.out (Array.getElem?_eq_some_iff.1 HTe.out).1)
                  have HAg := Aside0.mk (stay hbn HAe.out (Array.getElem?_eq_some_iff.1 HAe.out).1)
                  have HBg := Aside0.mk (pw_below_drewN HBe.out nq)
                  have HPg := Aside0.mk (keepOne HPe.out hbn)
                  have HQg := Aside0.mk (keepOne HQe.out hbn)
                  have HVg := Aside0.mk (keepOne HVe.out hbn)
                  have HWg := Aside0.mk (keepOne HWe.out hbn)
                  clear hbn
                  generalize World.drewN w8 nq = wg at *
                  obtain ⟨C0, x0, y0, C1, x1, y1, C2, x2, y2, C3, x3, y3, D0, u0, z0, D1, u1, z1, D2, u2, z2, D3, u3, z3, hXu, hXq, hPut⟩ := copy_at XQg.out HUg.out
                  obtain ⟨hk0, hk1, hk2, hk3, hk4⟩ := cells_5 hXu
                  obtain ⟨hs0, hs1, hs2, hs3, hs4⟩ := cells_5 hXq
                  obtain ⟨hy0, hy1, hy2, hy3, hy4⟩ := froz_5 hXq
                  have HPUT := Aside0.mk hPut
                  clear hXu hXq hPut
                  clear hw5 ha0 ha1 ha2 ha3 ha4
                  go_wp2
                  go_roundg (l.length - (jj + 1))
                  case measure => omega
                  case rel => exact ⟨jj + 1, true, true, by omega, by omega, rfl, rfl, by go_num, ⟨put5_below HBg.out (by omega) _ _ _ _ _⟩, ⟨_, HI.out, HPUT.out, (by have h := HOV.out; simpa using h)⟩, ⟨put5_other (b := w.heap.size) (g := q) (by omega) HTg.out _ _ _ _ _⟩⟩
              | false =>
                cases od5 with
                | true =>
                  go_quiet (fail)
                  have hbn := pw_below_drewN (Below.refl w8.heap.size w8) nq
                  have HUg := Aside0.mk (HUe.out.below hbn)
                  have XQg := Aside0.mk (XQe.out.below hbn)
                  have HTg := Aside0.mk (stay hbn HTe.out (Array.getElem?_eq_some_iff.1 HTe.out).1)
                  have HAg := Aside0.mk (stay hbn HAe.out (Array.getElem?_eq_some_iff.1 HAe.out).1)
                  have HBg := Aside0.mk (pw_below_drewN HBe.out nq)
                  have HPg := Aside0.mk (keepOne HPe.out hbn)
                  have HQg := Aside0.mk (keepOne HQe.out hbn)
                  have HVg := Aside0.mk (keepOne HVe.out hbn)
                  have HWg := Aside0.mk (keepOne HWe.out hbn)
                  clear hbn
                  generalize World.drewN w8 nq = wg at *
                  obtain ⟨C0, x0, y0, C1, x1, y1, C2, x2, y2, C3, x3, y3, D0, u0, z0, D1, u1, z1, D2, u2, z2, D3, u3, z3, hXu, hXq, hPut⟩ := copy_at XQg.out HUg.out
                  obtain ⟨hk0, hk1, hk2, hk3, hk4⟩ := cells_5 hXu
                  obtain ⟨hs0, hs1, hs2, hs3, hs4⟩ := cells_5 hXq
                  obtain ⟨hy0, hy1, hy2, hy3, hy4⟩ := froz_5 hXq
                  have HPUT := Aside0.mk hPut
                  clear hXu hXq hPut
                  clear hw5 ha0 ha1 ha2 ha3 ha4
                  go_wp2
                  go_roundg (l.length - (jj + 1))
                  case measure => omega
                  case rel => exact ⟨jj + 1, true, false, by omega, by omega, rfl, rfl, by go_num, ⟨put5_below HBg.out (by omega) _ _ _ _ _⟩, ⟨_, HI.out, HPUT.out, (by have h := HOV.out; simpa using h)⟩, ⟨put5_other (b := w.heap.size) (g := q) (by omega) HTg.out _ _ _ _ _⟩⟩
                | false =>
                  go_quiet (fail)
                  have hbn := pw_below_drewN (Below.refl w8.heap.size w8) nq
                  have HUg := Aside0.mk (HUe.out.below hbn)
                  have XQg := Aside0.mk (XQe.out.below hbn)
                  have HTg := Aside0.mk (stay hbn HTe.out (Array.getElem?_eq_some_iff.1 HTe.out).1)
                  have HAg := Aside0.mk (stay hbn HAe.out (Array.getElem?_eq_some_iff.1 HAe.out).1)
                  have HBg := Aside0.mk (pw_below_drewN HBe.out nq)
                  have HPg := Aside0.mk (keepOne HPe.out hbn)
                  have HQg := Aside0.mk (keepOne HQe.out hbn)
                  have HVg := Aside0.mk (keepOne HVe.out hbn)
                  have HWg := Aside0.mk (keepOne HWe.out hbn)
                  clear hbn
                  generalize World.drewN w8 nq = wg at *
                  obtain ⟨C0, x0, y0, C1, x1, y1, C2, x2, y2, C3, x3, y3, D0, u0, z0, D1, u1, z1, D2, u2, z2, D3, u3, z3, hXu, hXq, hPut⟩ := copy_at XQg.out HUg.out
                  obtain ⟨hk0, hk1, hk2, hk3, hk4⟩ := cells_5 hXu
                  obtain ⟨hs0, hs1, hs2, hs3, hs4⟩ := cells_5 hXq
                  obtain ⟨hy0, hy1, hy2, hy3, hy4⟩ := froz_5 hXq
                  have HPUT := Aside0.mk hPut
                  clear hXu hXq hPut
                  clear hw5 ha0 ha1 ha2 ha3 ha4
                  go_wp2
                  go_roundg (l.length - (jj + 1))
                  case measure => omega
                  case rel => exact ⟨jj + 1, true, false, by omega, by omega, rfl, rfl, by go_num, ⟨put5_below HBg.out (by omega) _ _ _ _ _⟩, ⟨_, HI.out, HPUT.out, (by have h := HOV.out; simpa using h)⟩, ⟨put5_other (b := w.heap.size) (g := q) (by omega) HTg.out _ _ _ _ _⟩⟩
          · rw [decide_eq_false hee]
            have hp0 := HPd.out
            have hp1 := HQd.out
            have hp2 := HVd.out
            have ht0 := cell_row (cs := [.int .u64 ta, .int .u64 ti]) HTd.out 0
            have ht1 := cell_row (cs := [.int .u64 ta, .int .u64 ti]) HTd.out 1
            go_upto_region 19 with (fail)
            go_cut [107] from 82 to 107 (fun v107 wx => v107 = .bool (decide (told = true ∧ od1 = ta ∧ od2 = ti ∧ 1 ≤ od0 ∧ od0 ≤ 3)) ∧ ∃ n, wx = wd.drewN n)
            case first =>
              cases told with
              | false =>
                go_quiet (fail)
                go_wp2
                go_meet
                exact ⟨congrArg Value.bool (by simp), _, rfl⟩
              | true =>
                by_cases e1 : od1 = ta
                · by_cases e2 : od2 = ti
                  · subst e1 e2
                    by_cases e3 : 1 ≤ od0
                    · by_cases e5 : od0 ≤ 3
                      · go_quiet (fail)
                        go_wp2
                        go_meet
                        exact ⟨congrArg Value.bool (by first | (simp [e3, e5]; done) | (simp; omega)), _, rfl⟩
                      · go_quiet (fail)
                        go_wp2
                        go_meet
                        exact ⟨congrArg Value.bool (by first | (simp [e3, e5]; done) | (simp; omega)), _, rfl⟩
                    · go_quiet (fail)
                      go_wp2
                      go_meet
                      exact ⟨congrArg Value.bool (by first | (simp [e3]; done) | (simp; omega)), _, rfl⟩
                  · subst e1
                    go_quiet (fail)
                    go_wp2
                    go_meet
                    exact ⟨congrArg Value.bool (by simp [e2]), _, rfl⟩
                · go_quiet (fail)
                  go_wp2
                  go_meet
                  exact ⟨congrArg Value.bool (by simp [e1]), _, rfl⟩
            case rest =>
              clear hp0 hp1 hp2 ht0 ht1
              obtain ⟨rfl, n19, rfl⟩ := hcut
              have hbn := pw_below_drewN (Below.refl wd.heap.size wd) n19
              have HUf := Aside0.mk (HUd.out.below hbn)
              have XQf := Aside0.mk (XQd.out.below hbn)
              have HTf := Aside0.mk (stay hbn HTd.out (Array.getElem?_eq_some_iff.1 HTd.out).1)
              have HAf := Aside0.mk (stay hbn HAd.out (Array.getElem?_eq_some_iff.1 HAd.out).1)
              have HBf := Aside0.mk (pw_below_drewN HBd.out n19)
              have HPf := Aside0.mk (keepOne HPd.out hbn)
              have HQf := Aside0.mk (keepOne HQd.out hbn)
              have HVf := Aside0.mk (keepOne HVd.out hbn)
              have HWf := Aside0.mk (keepOne HWd.out hbn)
              clear hbn
              generalize World.drewN wd n19 = wf at *
              have HOS := Aside0.mk (fun (h : told = true) => overIs_stays (HOV.out h) od0 ⟨od1, od2⟩ od3 odp od5)
              rw [← HRD.out] at HOS
              by_cases hff : told = true ∧ od1 = ta ∧ od2 = ti ∧ 1 ≤ od0 ∧ od0 ≤ 3
              · rw [decide_eq_true hff]
                obtain ⟨f0, f1, f2, f3, f4⟩ := hff
                subst f0 f1 f2
                have hel := once_else (HOV.out rfl) od0 f3 f4 od3 odp od5
                rw [← HRD.out] at hel
                rw [hel] at HAf
                obtain ⟨ha0, ha1, ha2, ha3, ha4⟩ := cells_5 HAf.out
                clear hel
                obtain ⟨C0, x0, y0, C1, x1, y1, C2, x2, y2, C3, x3, y3, D0, u0, z0, D1, u1, z1, D2, u2, z2, D3, u3, z3, hXu, hXq, hPut⟩ := copy_at XQf.out HUf.out
                obtain ⟨hk0, hk1, hk2, hk3, hk4⟩ := cells_5 hXu
                obtain ⟨hs0, hs1, hs2, hs3, hs4⟩ := cells_5 hXq
                obtain ⟨hy0, hy1, hy2, hy3, hy4⟩ := froz_5 hXq
                have HPUT := Aside0.mk hPut
                clear hXu hXq hPut
                go_wp2
                go_roundg (l.length - (jj + 1))
                case measure => omega
                case rel => exact ⟨jj + 1, true, cmt, by omega, by omega, rfl, rfl, by go_num, ⟨put5_below HBf.out (by omega) _ _ _ _ _⟩, ⟨_, HIN.out, HPUT.out, (by have h := HOS.out; simpa using h)⟩, ⟨put5_other (b := w.heap.size) (g := q) (by omega) HTf.out _ _ _ _ _⟩⟩
              · rw [decide_eq_false hff]
                obtain ⟨C0, x0, y0, C1, x1, y1, C2, x2, y2, C3, x3, y3, D0, u0, z0, D1, u1, z1, D2, u2, z2, D3, u3, z3, hXu, hXq, hPut⟩ := copy_at XQf.out HUf.out
                obtain ⟨hk0, hk1, hk2, hk3, hk4⟩ := cells_5 hXu
                obtain ⟨hs0, hs1, hs2, hs3, hs4⟩ := cells_5 hXq
                obtain ⟨hy0, hy1, hy2, hy3, hy4⟩ := froz_5 hXq
                have HPUT := Aside0.mk hPut
                clear hXu hXq hPut
                go_wp2
                go_roundg (l.length - (jj + 1))
                case measure => omega
                case rel => exact ⟨jj + 1, told, cmt, by omega, by omega, rfl, rfl, by go_num, ⟨put5_below HBf.out (by omega) _ _ _ _ _⟩, ⟨_, HIN.out, HPUT.out, HOS.out⟩, ⟨put5_other (b := w.heap.size) (g := q) (by omega) HTf.out _ _ _ _ _⟩⟩
    · have hltz : ¬ (jj : Int) < (l.length : Int) := by omega
      go_wp2
      go_ret
      exact ⟨rfl, HBr.out⟩
end Go.Proofs.Ytmcgcdpiceikeaa.PAll
end
