/- Joined texts of the claim ShardStays (part 50): contracts of functions and plain laws. -/
import Derived.BigQuiet
import Derived.BigRegion
import Derived.Deep.CutRange
import Derived.Deep.DeepCutAuto
import Derived.Deep.QuietTactic
import Derived.Deep.RegionWith
import Derived.Test.YtmcgcdpiceikeaaJShardStays48
import Derived.Test.YtmcgcdpiceikeaaJShardStays49
set_option linter.unusedVariables false
set_option linter.unusedSimpArgs false
section
namespace Go.Proofs.Ytmcgcdpiceikeaa.PAll
open Go.RowKit Go.Proofs.YtmcgcdpiceikeaaW.PrintWords Go.Proofs.YtmcgcdpiceikeaaW.PrintMore Go.Proofs.Ytmcgcdpiceikeaa
set_option maxHeartbeats 8000000 in
set_option maxRecDepth 100000 in
theorem ShardStays_walk {w : World} (A : Option Addr) (c : Nat) (l : List S34) (hr : Kd.C k34 w A l.length l) (hc : l.length ≤ c) (hs : l.length * Try.prog.bytesOf 34 ≤ 140737488351232 ∧ ∀ x ∈ l, ok34 x) :
    Calls Try.prog 4 #[.slice A l.length c] w fun e w' => e = .returned (.bool true) ∧ Below w.heap.size w w' := by
  have HOK := qza.mk (okTx_orders hs.2)
  have HR := qza.mk hr
  have hll : l.length ≤ 9223372036854775807 := hr.2.1
  clear hs hr
  go_enter Try.func4, Try.ntmps4
  go_wp2_with (go_at_call 10; refine (shown13 _).mono ?_; rintro e w1 ⟨rfl, hb1⟩; have HB1 := qza.mk hb1; clear hb1)
  have HB2 := qza.mk (HB1.out.alloc HB1.out.size (.cells #[.slice none 0 0, .slice none 0 0, .slice none 0 0, .slice none 0 0, .int .u64 0] 28))
  have hq : w.heap.size ≤ w1.heap.size := HB1.out.size
  have HX1 := qza.mk (emptyAt w1)
  generalize w1.alloc (.cells #[.slice none 0 0, .slice none 0 0, .slice none 0 0, .slice none 0 0, .int .u64 0] 28) = w2 at *
  generalize w1.heap.size = q at *
  clear HB1
  go_loopg [5] l.length (fun gg s5 wr => ∃ (jj : Nat), jj ≤ l.length ∧ l.length - jj ≤ gg ∧ s5 = .int .i64 jj ∧ qza (Below w.heap.size w wr) ∧ qza (∃ s, InvS s ∧ ShdAt wr q s))
  case atStart => exact ⟨0, Nat.zero_le _, by omega, rfl, HB2, ⟨_, InvS.empty, HX1.out⟩⟩
  case round =>
    clear HB2 HX1
    obtain ⟨jj, hjj, hgk, rfl, HBr, HSr⟩ := hrel
    obtain ⟨S, hI, hXr⟩ := HSr.out
    have HI := qza.mk hI
    have HXr := qza.mk hXr
    clear hI hXr HSr
    by_cases hlt : jj < l.length
    · have hltz : (jj : Int) < (l.length : Int) := by omega
      have hjz : (0 : Int) ≤ (jj : Int) := by omega
      obtain ⟨b, o, rfl, B, cB, D, nD, dD, hpl, hpr, ho0, ho1, ho2, ho3, ho4, ho5, ho6⟩ := orderRow (Kd.C_below HR.out HBr.out) jj hlt
      obtain ⟨A0, m0, c0, A1, m1, c1, A2, m2, c2, A3, m3, c3, hX, hDO⟩ := do_at HXr.out
      obtain ⟨hs0, hs1, hs2, hs3, hs4⟩ := qz4 hX
      have HC := qza.mk (fun (W : World) (h : Below wr.heap.size wr W) => hDO (l[jj]!).f0 (l[jj]!).f1 (l[jj]!).f2 B _ cB (l[jj]!).f4 D nD dD (l[jj]!).f3 W rfl (Kd.C_below hpr h) hpl HI.out.ok h)
      have HIN := qza.mk (HI.out.doS (l[jj]!).f0 (HOK.out _ (bang_mem hlt)) (l[jj]!).f2 (l[jj]!).f3 (l[jj]!).f4)
      clear hX hDO hpl hpr
      generalize l[jj]! = od at *
      obtain ⟨od0, ⟨od1, od2⟩, od3, odp, od5, odq⟩ := od
      dsimp only at *
      have HRE : qza (∃ R', R' = doS S od0 ⟨od1, od2⟩ od3 odp od5) := ⟨_, rfl⟩
      obtain ⟨R, hR⟩ := HRE.out
      rw [← hR] at HC HIN
      clear hR HRE
      generalize odp.length = np at *
      go_upto_region 6 with (fail)
      go_cut [6, 7] from 17 to 25 (fun v10 v11 wx => ∃ bu ba, v10 = .pointer (some ⟨bu, 0, none⟩) ∧ v11 = .pointer (some ⟨ba, 0, none⟩) ∧ qza (Below wr.heap.size wr wx) ∧ qza (ShdAt wx bu R.1) ∧ qza (wx.heap[ba]? = some (.cells #[.int .i64 R.2.err, .string R.2.val, .int .u64 R.2.ver, .bool R.2.found, .bool R.2.commit] 38 (0, 0))) ∧ qza (wr.heap.size ≤ bu ∧ wr.heap.size ≤ ba ∧ bu ≠ ba))
      case first =>
        have hK0 := (⟨hs0, hs1, hs2, hs3, hs4, ho0, ho1, ho2, ho3, ho4, ho5, ho6⟩ : wr.cell? ⟨q, 0, none⟩ = some (.slice A0 m0 c0) ∧ wr.cell? ⟨q, 1, none⟩ = some (.slice A1 m1 c1) ∧ wr.cell? ⟨q, 2, none⟩ = some (.slice A2 m2 c2) ∧ wr.cell? ⟨q, 3, none⟩ = some (.slice A3 m3 c3) ∧ wr.cell? ⟨q, 4, none⟩ = some (.int .u64 S.ver) ∧ wr.cell? ⟨b, o + jj * 7, none⟩ = some (.int .i64 od0) ∧ wr.cell? ⟨b, o + jj * 7 + 1, none⟩ = some (.int .u64 od1) ∧ wr.cell? ⟨b, o + jj * 7 + 2, none⟩ = some (.int .u64 od2) ∧ wr.cell? ⟨b, o + jj * 7 + 3, none⟩ = some (.string od3) ∧ wr.cell? ⟨b, o + jj * 7 + 4, none⟩ = some (.slice B np cB) ∧ wr.cell? ⟨b, o + jj * 7 + 5, none⟩ = some (.bool od5) ∧ wr.cell? ⟨b, o + jj * 7 + 6, none⟩ = some (.slice D nD dD))
        clear hs0 hs1 hs2 hs3 hs4 ho0 ho1 ho2 ho3 ho4 ho5 ho6
        have HBD := qza.mk ((Below.refl wr.heap.size wr).drew)
        have hS0 := keepO hK0 HBD.out
        refine wp_region_noPanic ?_
        refine wp_region_held_drew (S := (fun w' => w'.cell? ⟨q, 0, none⟩ = some (.slice A0 m0 c0) ∧ w'.cell? ⟨q, 1, none⟩ = some (.slice A1 m1 c1) ∧ w'.cell? ⟨q, 2, none⟩ = some (.slice A2 m2 c2) ∧ w'.cell? ⟨q, 3, none⟩ = some (.slice A3 m3 c3) ∧ w'.cell? ⟨q, 4, none⟩ = some (.int .u64 S.ver) ∧ w'.cell? ⟨b, o + jj * 7, none⟩ = some (.int .i64 od0) ∧ w'.cell? ⟨b, o + jj * 7 + 1, none⟩ = some (.int .u64 od1) ∧ w'.cell? ⟨b, o + jj * 7 + 2, none⟩ = some (.int .u64 od2) ∧ w'.cell? ⟨b, o + jj * 7 + 3, none⟩ = some (.string od3) ∧ w'.cell? ⟨b, o + jj * 7 + 4, none⟩ = some (.slice B np cB) ∧ w'.cell? ⟨b, o + jj * 7 + 5, none⟩ = some (.bool od5) ∧ w'.cell? ⟨b, o + jj * 7 + 6, none⟩ = some (.slice D nD dD))) (by kernel_rfl) hS0 (fun hHeld => ?_)
        refine wpAnyH_take (i := 1) (oi := _) (v := .slice (some ⟨b, o, none⟩) l.length c) rfl (by kernel_rfl) (by kernel_rfl) (by kernel_rfl) (fun _ _ _ h => h) (Or.inl ⟨by kernel_rfl, ?_⟩) (by assumption) ?_
        · intro w hSw; (try dsimp only at hSw); go_simp
        try simp only [Act.put, List.setIfInBounds_toArray, List.set_cons_zero, List.set_cons_succ]
        refine wpAnyH_take (i := 2) (oi := _) (v := .int .i64 jj) rfl (by kernel_rfl) (by kernel_rfl) (by kernel_rfl) (fun _ _ _ h => h) (Or.inl ⟨by kernel_rfl, ?_⟩) (by assumption) ?_
        · intro w hSw; (try dsimp only at hSw); go_simp
        try simp only [Act.put, List.setIfInBounds_toArray, List.set_cons_zero, List.set_cons_succ]
        refine wpAnyH_take (i := 3) (oi := _) (v := .pointer (some ⟨b, o + jj * 7, none⟩)) rfl (by kernel_rfl) (by kernel_rfl) (by kernel_rfl) (fun _ _ _ h => h) (Or.inl ⟨by kernel_rfl, ?_⟩) (by assumption) ?_
        · intro w hSw; (try dsimp only at hSw); go_simp
        try simp only [Act.put, List.setIfInBounds_toArray, List.set_cons_zero, List.set_cons_succ]
        refine wpAnyH_take (i := 0) (oi := _) (v := .agg #[.slice A0 m0 c0, .slice A1 m1 c1, .slice A2 m2 c2, .slice A3 m3 c3, .int .u64 S.ver]) rfl (by kernel_rfl) (by kernel_rfl) (by kernel_rfl) (fun _ _ _ h => h) (Or.inl ⟨by kernel_rfl, ?_⟩) (by assumption) ?_
        · intro w hSw; (try dsimp only at hSw); go_simp
        try simp only [Act.put, List.setIfInBounds_toArray, List.set_cons_zero, List.set_cons_succ]
        refine wpAnyH_take (i := 4) (oi := _) (v := .agg #[.int .i64 od0, .int .u64 od1, .int .u64 od2, .string od3, .slice B np cB, .bool od5, .slice D nD dD]) rfl (by kernel_rfl) (by kernel_rfl) (by kernel_rfl) (fun _ _ _ h => h) (Or.inl ⟨by kernel_rfl, ?_⟩) (by assumption) ?_
        · intro w hSw; (try dsimp only at hSw); go_simp
        try simp only [Act.put, List.setIfInBounds_toArray, List.set_cons_zero, List.set_cons_succ]
        clear hHeld
        generalize World.drew wr = wd at *
        refine wpAnyH_ready (rs := [5, 9, 10]) (by kernel_rfl) (by simp) ?_
        refine AllReadyH.cons (o := _) rfl (fun K hK => ?_) (AllReadyH.cons (o := _) rfl (fun K hK => ?_) (AllReadyH.cons (o := _) rfl (fun K hK => ?_) (AllReadyH.nil)))
        · go_simp; go_at_call 11; refine (HC.out _ HBD.out).mono ?_; intro e wy0 hp; obtain ⟨E0, n0, d0, E1, n1, d1, E2, n2, d2, E3, n3, d3, rfl, hv5, hb5⟩ := doOut hp; clear hp; go_simp
          have HY0 := qza.mk (HBD.out.trans (hb5.mono HBD.out.size))
          have HV5 := qza.mk hv5
          clear hv5 hb5
          refine hK.out _ _ (keepO hK0 HY0.out) (fun hHeld0 => ?_)
          clear hK K
          try simp only [Act.put, List.setIfInBounds_toArray, List.set_cons_zero, List.set_cons_succ]
          refine wpAnyH_take (i := 6) (oi := _) (v := .tuple #[.agg #[.slice E0 n0 d0, .slice E1 n1 d1, .slice E2 n2 d2, .slice E3 n3 d3, .int .u64 R.1.ver], .agg #[.int .i64 R.2.err, .string R.2.val, .int .u64 R.2.ver, .bool R.2.found, .bool R.2.commit]]) rfl (by kernel_rfl) (by kernel_rfl) (by kernel_rfl) (fun _ _ _ h => h) (Or.inl ⟨by kernel_rfl, ?_⟩) (by assumption) ?_
          · intro w hSw; (try dsimp only at hSw); go_simp
          try simp only [Act.put, List.setIfInBounds_toArray, List.set_cons_zero, List.set_cons_succ]
          refine wpAnyH_take (i := 7) (oi := _) (v := .agg #[.slice E0 n0 d0, .slice E1 n1 d1, .slice E2 n2 d2, .slice E3 n3 d3, .int .u64 R.1.ver]) rfl (by kernel_rfl) (by kernel_rfl) (by kernel_rfl) (fun _ _ _ h => h) (Or.inl ⟨by kernel_rfl, ?_⟩) (by assumption) ?_
          · intro w hSw; (try dsimp only at hSw); go_simp
          try simp only [Act.put, List.setIfInBounds_toArray, List.set_cons_zero, List.set_cons_succ]
          refine wpAnyH_take (i := 8) (oi := _) (v := .agg #[.int .i64 R.2.err, .string R.2.val, .int .u64 R.2.ver, .bool R.2.found, .bool R.2.commit]) rfl (by kernel_rfl) (by kernel_rfl) (by kernel_rfl) (fun _ _ _ h => h) (Or.inl ⟨by kernel_rfl, ?_⟩) (by assumption) ?_
          · intro w hSw; (try dsimp only at hSw); go_simp
          try simp only [Act.put, List.setIfInBounds_toArray, List.set_cons_zero, List.set_cons_succ]
          refine wpAnyH_ready (rs := [9, 10]) (by kernel_rfl) (by simp) ?_
          refine AllReadyH.cons (o := _) rfl (fun K hK => ?_) (AllReadyH.cons (o := _) rfl (fun K hK => ?_) (AllReadyH.nil))
          · go_simp
            have HY1 := qza.mk (HY0.out.alloc HY0.out.size (.cells #[.slice none 0 0, .slice none 0 0, .slice none 0 0, .slice none 0 0, .int .u64 0] 28))
            have HV5 := qza.mk (HV5.out.below ((Below.refl _ _).alloc (Nat.le_refl _) (.cells #[.slice none 0 0, .slice none 0 0, .slice none 0 0, .slice none 0 0, .int .u64 0] 28)))
            have FU := qza.mk (heap_alloc_new wy0 (.cells #[.slice none 0 0, .slice none 0 0, .slice none 0 0, .slice none 0 0, .int .u64 0] 28))
            have hlbu : wr.heap.size ≤ wy0.heap.size := HY0.out.size
            refine hK.out _ _ (keepO hK0 HY1.out) (fun hHeld1 => ?_)
            clear hK K
            try simp only [Act.put, List.setIfInBounds_toArray, List.set_cons_zero, List.set_cons_succ]
            generalize wy0.alloc (.cells #[.slice none 0 0, .slice none 0 0, .slice none 0 0, .slice none 0 0, .int .u64 0] 28) = wy1 at *
            generalize wy0.heap.size = bu at *
            refine wpAnyH_ready (rs := [10]) (by kernel_rfl) (by simp) ?_
            refine AllReadyH.cons (o := _) rfl (fun K hK => ?_) (AllReadyH.nil)
            · go_simp
              have HY2 := qza.mk (HY1.out.alloc HY1.out.size (.cells #[.int .i64 0, .string ⟨#[]⟩, .int .u64 0, .bool false, .bool false] 38))
              have hlt := (Array.getElem?_eq_some_iff.1 FU.out).1
              have FU := qza.mk (stayA FU.out (.cells #[.int .i64 0, .string ⟨#[]⟩, .int .u64 0, .bool false, .bool false] 38))
              have HV5 := qza.mk (HV5.out.below ((Below.refl _ _).alloc (Nat.le_refl _) (.cells #[.int .i64 0, .string ⟨#[]⟩, .int .u64 0, .bool false, .bool false] 38)))
              have FA := qza.mk (heap_alloc_new wy1 (.cells #[.int .i64 0, .string ⟨#[]⟩, .int .u64 0, .bool false, .bool false] 38))
              have hlba : wr.heap.size ≤ wy1.heap.size := HY1.out.size
              refine hK.out _ _ (keepO hK0 HY2.out) (fun hHeld2 => ?_)
              clear hK K
              try simp only [Act.put, List.setIfInBounds_toArray, List.set_cons_zero, List.set_cons_succ]
              generalize wy1.alloc (.cells #[.int .i64 0, .string ⟨#[]⟩, .int .u64 0, .bool false, .bool false] 38) = wy2 at *
              generalize wy1.heap.size = ba at *
              have hneq : bu ≠ ba := by omega
              obtain ⟨hz0, hz1, hz2, hz3, hz4⟩ := qz4 FU.out
              obtain ⟨hy0, hy1, hy2, hy3, hy4⟩ := qz14 FU.out
              have HP1 := qza.mk (qz7 (g := bu) HY2.out (by omega) (.slice E0 n0 d0) (.slice E1 n1 d1) (.slice E2 n2 d2) (.slice E3 n3 d3) (.int .u64 R.1.ver))
              refine wpAnyH_ready (rs := [11]) (by kernel_rfl) (by simp) ?_
              refine AllReadyH.cons (o := _) rfl (fun K hK => ?_) AllReadyH.nil
              go_simp
              refine hK.out _ _ (keepO hK0 HP1.out) (fun hHeldA => ?_)
              clear hK K hz0 hz1 hz2 hz3 hz4 hy0 hy1 hy2 hy3 hy4
              try simp only [Act.put, List.setIfInBounds_toArray, List.set_cons_zero, List.set_cons_succ]
              have FA2 := qza.mk (qz47 (b := ba) (g := bu) (by omega) FA.out (.slice E0 n0 d0) (.slice E1 n1 d1) (.slice E2 n2 d2) (.slice E3 n3 d3) (.int .u64 R.1.ver))
              obtain ⟨hz0, hz1, hz2, hz3, hz4⟩ := qz4 FA2.out
              obtain ⟨hy0, hy1, hy2, hy3, hy4⟩ := qz14 FA2.out
              have HP2 := qza.mk (qz7 (g := ba) HP1.out (by omega) (.int .i64 R.2.err) (.string R.2.val) (.int .u64 R.2.ver) (.bool R.2.found) (.bool R.2.commit))
              refine wpAnyH_ready (rs := [12]) (by kernel_rfl) (by simp) ?_
              refine AllReadyH.cons (o := _) rfl (fun K hK => ?_) AllReadyH.nil
              go_simp
              refine hK.out _ _ (keepO hK0 HP2.out) (fun hHeldB => ?_)
              clear hK K hz0 hz1 hz2 hz3 hz4 hy0 hy1 hy2 hy3 hy4
              try simp only [Act.put, List.setIfInBounds_toArray, List.set_cons_zero, List.set_cons_succ]
              refine wpAnyH_done (by kernel_rfl) ?_ _
              refine NoPanic.normal ?_
              go_wp2
              go_meet
              exact ⟨bu, ba, rfl, rfl, HP2, ⟨(onceEnd FU.out FA.out hneq HV5.out).1⟩, ⟨(onceEnd (e := R.2.err) (v := R.2.ver) (st := R.2.val) (f := R.2.found) (g := R.2.commit) FU.out FA.out hneq HV5.out).2⟩, ⟨by omega⟩⟩
          · go_simp
            have HY1 := qza.mk (HY0.out.alloc HY0.out.size (.cells #[.int .i64 0, .string ⟨#[]⟩, .int .u64 0, .bool false, .bool false] 38))
            have HV5 := qza.mk (HV5.out.below ((Below.refl _ _).alloc (Nat.le_refl _) (.cells #[.int .i64 0, .string ⟨#[]⟩, .int .u64 0, .bool false, .bool false] 38)))
            have FA := qza.mk (heap_alloc_new wy0 (.cells #[.int .i64 0, .string ⟨#[]⟩, .int .u64 0, .bool false, .bool false] 38))
            have hlba : wr.heap.size ≤ wy0.heap.size := HY0.out.size
            refine hK.out _ _ (keepO hK0 HY1.out) (fun hHeld1 => ?_)
            clear hK K
            try simp only [Act.put, List.setIfInBounds_toArray, List.set_cons_zero, List.set_cons_succ]
            generalize wy0.alloc (.cells #[.int .i64 0, .string ⟨#[]⟩, .int .u64 0, .bool false, .bool false] 38) = wy1 at *
            generalize wy0.heap.size = ba at *
            refine wpAnyH_ready (rs := [9]) (by kernel_rfl) (by simp) ?_
            refine AllReadyH.cons (o := _) rfl (fun K hK => ?_) (AllReadyH.nil)
            · go_simp
              have HY2 := qza.mk (HY1.out.alloc HY1.out.size (.cells #[.slice none 0 0, .slice none 0 0, .slice none 0 0, .slice none 0 0, .int .u64 0] 28))
              have hlt := (Array.getElem?_eq_some_iff.1 FA.out).1
              have FA := qza.mk (stayA FA.out (.cells #[.slice none 0 0, .slice none 0 0, .slice none 0 0, .slice none 0 0, .int .u64 0] 28))
              have HV5 := qza.mk (HV5.out.below ((Below.refl _ _).alloc (Nat.le_refl _) (.cells #[.slice none 0 0, .slice none 0 0, .slice none 0 0, .slice none 0 0, .int .u64 0] 28)))
              have FU := qza.mk (heap_alloc_new wy1 (.cells #[.slice none 0 0, .slice none 0 0, .slice none 0 0, .slice none 0 0, .int .u64 0] 28))
              have hlbu : wr.heap.size ≤ wy1.heap.size := HY1.out.size
              refine hK.out _ _ (keepO hK0 HY2.out) (fun hHeld2 => ?_)
              clear hK K
              try simp only [Act.put, List.setIfInBounds_toArray, List.set_cons_zero, List.set_cons_succ]
              generalize wy1.alloc (.cells #[.slice none 0 0, .slice none 0 0, .slice none 0 0, .slice none 0 0, .int .u64 0] 28) = wy2 at *
              generalize wy1.heap.size = bu at *
              have hneq : bu ≠ ba := by omega
              obtain ⟨hz0, hz1, hz2, hz3, hz4⟩ := qz4 FU.out
              obtain ⟨hy0, hy1, hy2, hy3, hy4⟩ := qz14 FU.out
              have HP1 := qza.mk (qz7 (g := bu) HY2.out (by omega) (.slice E0 n0 d0) (.slice E1 n1 d1) (.slice E2 n2 d2) (.slice E3 n3 d3) (.int .u64 R.1.ver))
              refine wpAnyH_ready (rs := [11]) (by kernel_rfl) (by simp) ?_
              refine AllReadyH.cons (o := _) rfl (fun K hK => ?_) AllReadyH.nil
              go_simp
              refine hK.out _ _ (keepO hK0 HP1.out) (fun hHeldA => ?_)
              clear hK K hz0 hz1 hz2 hz3 hz4 hy0 hy1 hy2 hy3 hy4
              try simp only [Act.put, List.setIfInBounds_toArray, List.set_cons_zero, List.set_cons_succ]
              have FA2 := qza.mk (qz47 (b := ba) (g := bu) (by omega) FA.out (.slice E0 n0 d0) (.slice E1 n1 d1) (.slice E2 n2 d2) (.slice E3 n3 d3) (.int .u64 R.1.ver))
              obtain ⟨hz0, hz1, hz2, hz3, hz4⟩ := qz4 FA2.out
              obtain ⟨hy0, hy1, hy2, hy3, hy4⟩ := qz14 FA2.out
              have HP2 := qza.mk (qz7 (g := ba) HP1.out (by omega) (.int .i64 R.2.err) (.string R.2.val) (.int .u64 R.2.ver) (.bool R.2.found) (.bool R.2.commit))
              refine wpAnyH_ready (rs := [12]) (by kernel_rfl) (by simp) ?_
              refine AllReadyH.cons (o := _) rfl (fun K hK => ?_) AllReadyH.nil
              go_simp
              refine hK.out _ _ (keepO hK0 HP2.out) (fun hHeldB => ?_)
              clear hK K hz0 hz1 hz2 hz3 hz4 hy0 hy1 hy2 hy3 hy4
              try simp only [Act.put, List.setIfInBounds_toArray, List.set_cons_zero, List.set_cons_succ]
              refine wpAnyH_done (by kernel_rfl) ?_ _
              refine NoPanic.normal ?_
              go_wp2
              go_meet
              exact ⟨bu, ba, rfl, rfl, HP2, ⟨(onceEnd FU.out FA.out hneq HV5.out).1⟩, ⟨(onceEnd (e := R.2.err) (v := R.2.ver) (st := R.2.val) (f := R.2.found) (g := R.2.commit) FU.out FA.out hneq HV5.out).2⟩, ⟨by omega⟩⟩
        · go_simp
          have HY0 := qza.mk (HBD.out.alloc HBD.out.size (.cells #[.slice none 0 0, .slice none 0 0, .slice none 0 0, .slice none 0 0, .int .u64 0] 28))
          have FU := qza.mk (heap_alloc_new wd (.cells #[.slice none 0 0, .slice none 0 0, .slice none 0 0, .slice none 0 0, .int .u64 0] 28))
          have hlbu : wr.heap.size ≤ wd.heap.size := HBD.out.size
          refine hK.out _ _ (keepO hK0 HY0.out) (fun hHeld0 => ?_)
          clear hK K
          try simp only [Act.put, List.setIfInBounds_toArray, List.set_cons_zero, List.set_cons_succ]
          generalize wd.alloc (.cells #[.slice none 0 0, .slice none 0 0, .slice none 0 0, .slice none 0 0, .int .u64 0] 28) = wy0 at *
          generalize wd.heap.size = bu at *
          refine wpAnyH_ready (rs := [5, 10]) (by kernel_rfl) (by simp) ?_
          refine AllReadyH.cons (o := _) rfl (fun K hK => ?_) (AllReadyH.cons (o := _) rfl (fun K hK => ?_) (AllReadyH.nil))
          · go_simp; go_at_call 11; refine (HC.out _ HY0.out).mono ?_; intro e wy1 hp; obtain ⟨E0, n0, d0, E1, n1, d1, E2, n2, d2, E3, n3, d3, rfl, hv5, hb5⟩ := doOut hp; clear hp; go_simp
            have HY1 := qza.mk (HY0.out.trans (hb5.mono HY0.out.size))
            have FU := qza.mk (stay hb5 FU.out (Array.getElem?_eq_some_iff.1 FU.out).1)
            have HV5 := qza.mk hv5
            clear hv5 hb5
            refine hK.out _ _ (keepO hK0 HY1.out) (fun hHeld1 => ?_)
            clear hK K
            try simp only [Act.put, List.setIfInBounds_toArray, List.set_cons_zero, List.set_cons_succ]
            refine wpAnyH_take (i := 6) (oi := _) (v := .tuple #[.agg #[.slice E0 n0 d0, .slice E1 n1 d1, .slice E2 n2 d2, .slice E3 n3 d3, .int .u64 R.1.ver], .agg #[.int .i64 R.2.err, .string R.2.val, .int .u64 R.2.ver, .bool R.2.found, .bool R.2.commit]]) rfl (by kernel_rfl) (by kernel_rfl) (by kernel_rfl) (fun _ _ _ h => h) (Or.inl ⟨by kernel_rfl, ?_⟩) (by assumption) ?_
            · intro w hSw; (try dsimp only at hSw); go_simp
            try simp only [Act.put, List.setIfInBounds_toArray, List.set_cons_zero, List.set_cons_succ]
            refine wpAnyH_take (i := 7) (oi := _) (v := .agg #[.slice E0 n0 d0, .slice E1 n1 d1, .slice E2 n2 d2, .slice E3 n3 d3, .int .u64 R.1.ver]) rfl (by kernel_rfl) (by kernel_rfl) (by kernel_rfl) (fun _ _ _ h => h) (Or.inl ⟨by kernel_rfl, ?_⟩) (by assumption) ?_
            · intro w hSw; (try dsimp only at hSw); go_simp
            try simp only [Act.put, List.setIfInBounds_toArray, List.set_cons_zero, List.set_cons_succ]
            refine wpAnyH_take (i := 8) (oi := _) (v := .agg #[.int .i64 R.2.err, .string R.2.val, .int .u64 R.2.ver, .bool R.2.found, .bool R.2.commit]) rfl (by kernel_rfl) (by kernel_rfl) (by kernel_rfl) (fun _ _ _ h => h) (Or.inl ⟨by kernel_rfl, ?_⟩) (by assumption) ?_
            · intro w hSw; (try dsimp only at hSw); go_simp
            try simp only [Act.put, List.setIfInBounds_toArray, List.set_cons_zero, List.set_cons_succ]
            refine wpAnyH_ready (rs := [10]) (by kernel_rfl) (by simp) ?_
            refine AllReadyH.cons (o := _) rfl (fun K hK => ?_) (AllReadyH.nil)
            · go_simp
              have HY2 := qza.mk (HY1.out.alloc HY1.out.size (.cells #[.int .i64 0, .string ⟨#[]⟩, .int .u64 0, .bool false, .bool false] 38))
              have hlt := (Array.getElem?_eq_some_iff.1 FU.out).1
              have FU := qza.mk (stayA FU.out (.cells #[.int .i64 0, .string ⟨#[]⟩, .int .u64 0, .bool false, .bool false] 38))
              have HV5 := qza.mk (HV5.out.below ((Below.refl _ _).alloc (Nat.le_refl _) (.cells #[.int .i64 0, .string ⟨#[]⟩, .int .u64 0, .bool false, .bool false] 38)))
              have FA := qza.mk (heap_alloc_new wy1 (.cells #[.int .i64 0, .string ⟨#[]⟩, .int .u64 0, .bool false, .bool false] 38))
              have hlba : wr.heap.size ≤ wy1.heap.size := HY1.out.size
              refine hK.out _ _ (keepO hK0 HY2.out) (fun hHeld2 => ?_)
              clear hK K
              try simp only [Act.put, List.setIfInBounds_toArray, List.set_cons_zero, List.set_cons_succ]
              generalize wy1.alloc (.cells #[.int .i64 0, .string ⟨#[]⟩, .int .u64 0, .bool false, .bool false] 38) = wy2 at *
              generalize wy1.heap.size = ba at *
              have hneq : bu ≠ ba := by omega
              obtain ⟨hz0, hz1, hz2, hz3, hz4⟩ := qz4 FU.out
              obtain ⟨hy0, hy1, hy2, hy3, hy4⟩ := qz14 FU.out
              have HP1 := qza.mk (qz7 (g := bu) HY2.out (by omega) (.slice E0 n0 d0) (.slice E1 n1 d1) (.slice E2 n2 d2) (.slice E3 n3 d3) (.int .u64 R.1.ver))
              refine wpAnyH_ready (rs := [11]) (by kernel_rfl) (by simp) ?_
              refine AllReadyH.cons (o := _) rfl (fun K hK => ?_) AllReadyH.nil
              go_simp
              refine hK.out _ _ (keepO hK0 HP1.out) (fun hHeldA => ?_)
              clear hK K hz0 hz1 hz2 hz3 hz4 hy0 hy1 hy2 hy3 hy4
              try simp only [Act.put, List.setIfInBounds_toArray, List.set_cons_zero, List.set_cons_succ]
              have FA2 := qza.mk (qz47 (b := ba) (g := bu) (by omega) FA.out (.slice E0 n0 d0) (.slice E1 n1 d1) (.slice E2 n2 d2) (.slice E3 n3 d3) (.int .u64 R.1.ver))
              obtain ⟨hz0, hz1, hz2, hz3, hz4⟩ := qz4 FA2.out
              obtain ⟨hy0, hy1, hy2, hy3, hy4⟩ := qz14 FA2.out
              have HP2 := qza.mk (qz7 (g := ba) HP1.out (by omega) (.int .i64 R.2.err) (.string R.2.val) (.int .u64 R.2.ver) (.bool R.2.found) (.bool R.2.commit))
              refine wpAnyH_ready (rs := [12]) (by kernel_rfl) (by simp) ?_
              refine AllReadyH.cons (o := _) rfl (fun K hK => ?_) AllReadyH.nil
              go_simp
              refine hK.out _ _ (keepO hK0 HP2.out) (fun hHeldB => ?_)
              clear hK K hz0 hz1 hz2 hz3 hz4 hy0 hy1 hy2 hy3 hy4
              try simp only [Act.put, List.setIfInBounds_toArray, List.set_cons_zero, List.set_cons_succ]
              refine wpAnyH_done (by kernel_rfl) ?_ _
              refine NoPanic.normal ?_
              go_wp2
              go_meet
              exact ⟨bu, ba, rfl, rfl, HP2, ⟨(onceEnd FU.out FA.out hneq HV5.out).1⟩, ⟨(onceEnd (e := R.2.err) (v := R.2.ver) (st := R.2.val) (f := R.2.found) (g := R.2.commit) FU.out FA.out hneq HV5.out).2⟩, ⟨by omega⟩⟩
          · go_simp
            have HY1 := qza.mk (HY0.out.alloc HY0.out.size (.cells #[.int .i64 0, .string ⟨#[]⟩, .int .u64 0, .bool false, .bool false] 38))
            have hlt := (Array.getElem?_eq_some_iff.1 FU.out).1
            have FU := qza.mk (stayA FU.out (.cells #[.int .i64 0, .string ⟨#[]⟩, .int .u64 0, .bool false, .bool false] 38))
            have FA := qza.mk (heap_alloc_new wy0 (.cells #[.int .i64 0, .string ⟨#[]⟩, .int .u64 0, .bool false, .bool false] 38))
            have hlba : wr.heap.size ≤ wy0.heap.size := HY0.out.size
            refine hK.out _ _ (keepO hK0 HY1.out) (fun hHeld1 => ?_)
            clear hK K
            try simp only [Act.put, List.setIfInBounds_toArray, List.set_cons_zero, List.set_cons_succ]
            generalize wy0.alloc (.cells #[.int .i64 0, .string ⟨#[]⟩, .int .u64 0, .bool false, .bool false] 38) = wy1 at *
            generalize wy0.heap.size = ba at *
            refine wpAnyH_ready (rs := [5]) (by kernel_rfl) (by simp) ?_
            refine AllReadyH.cons (o := _) rfl (fun K hK => ?_) (AllReadyH.nil)
            · go_simp; go_at_call 11; refine (HC.out _ HY1.out).mono ?_; intro e wy2 hp; obtain ⟨E0, n0, d0, E1, n1, d1, E2, n2, d2, E3, n3, d3, rfl, hv5, hb5⟩ := doOut hp; clear hp; go_simp
              have HY2 := qza.mk (HY1.out.trans (hb5.mono HY1.out.size))
              have FU := qza.mk (stay hb5 FU.out (Array.getElem?_eq_some_iff.1 FU.out).1)
              have FA := qza.mk (stay hb5 FA.out (Array.getElem?_eq_some_iff.1 FA.out).1)
              have HV5 := qza.mk hv5
              clear hv5 hb5
              refine hK.out _ _ (keepO hK0 HY2.out) (fun hHeld2 => ?_)
              clear hK K
              try simp only [Act.put, List.setIfInBounds_toArray, List.set_cons_zero, List.set_cons_succ]
              refine wpAnyH_take (i := 6) (oi := _) (v := .tuple #[.agg #[.slice E0 n0 d0, .slice E1 n1 d1, .slice E2 n2 d2, .slice E3 n3 d3, .int .u64 R.1.ver], .agg #[.int .i64 R.2.err, .string R.2.val, .int .u64 R.2.ver, .bool R.2.found, .bool R.2.commit]]) rfl (by kernel_rfl) (by kernel_rfl) (by kernel_rfl) (fun _ _ _ h => h) (Or.inl ⟨by kernel_rfl, ?_⟩) (by assumption) ?_
              · intro w hSw; (try dsimp only at hSw); go_simp
              try simp only [Act.put, List.setIfInBounds_toArray, List.set_cons_zero, List.set_cons_succ]
              refine wpAnyH_take (i := 7) (oi := _) (v := .agg #[.slice E0 n0 d0, .slice E1 n1 d1, .slice E2 n2 d2, .slice E3 n3 d3, .int .u64 R.1.ver]) rfl (by kernel_rfl) (by kernel_rfl) (by kernel_rfl) (fun _ _ _ h => h) (Or.inl ⟨by kernel_rfl, ?_⟩) (by assumption) ?_
              · intro w hSw; (try dsimp only at hSw); go_simp
              try simp only [Act.put, List.setIfInBounds_toArray, List.set_cons_zero, List.set_cons_succ]
              refine wpAnyH_take (i := 8) (oi := _) (v := .agg #[.int .i64 R.2.err, .string R.2.val, .int .u64 R.2.ver, .bool R.2.found, .bool R.2.commit]) rfl (by kernel_rfl) (by kernel_rfl) (by kernel_rfl) (fun _ _ _ h => h) (Or.inl ⟨by kernel_rfl, ?_⟩) (by assumption) ?_
              · intro w hSw; (try dsimp only at hSw); go_simp
              try simp only [Act.put, List.setIfInBounds_toArray, List.set_cons_zero, List.set_cons_succ]
              have hneq : bu ≠ ba := by omega
              obtain ⟨hz0, hz1, hz2, hz3, hz4⟩ := qz4 FU.out
              obtain ⟨hy0, hy1, hy2, hy3, hy4⟩ := qz14 FU.out
              have HP1 := qza.mk (qz7 (g := bu) HY2.out (by omega) (.slice E0 n0 d0) (.slice E1 n1 d1) (.slice E2 n2 d2) (.slice E3 n3 d3) (.int .u64 R.1.ver))
              refine wpAnyH_ready (rs := [11]) (by kernel_rfl) (by simp) ?_
              refine AllReadyH.cons (o := _) rfl (fun K hK => ?_) AllReadyH.nil
              go_simp
              refine hK.out _ _ (keepO hK0 HP1.out) (fun hHeldA => ?_)
              clear hK K hz0 hz1 hz2 hz3 hz4 hy0 hy1 hy2 hy3 hy4
              try simp only [Act.put, List.setIfInBounds_toArray, List.set_cons_zero, List.set_cons_succ]
              have FA2 := qza.mk (qz47 (b := ba) (g := bu) (by omega) FA.out (.slice E0 n0 d0) (.slice E1 n1 d1) (.slice E2 n2 d2) (.slice E3 n3 d3) (.int .u64 R.1.ver))
              obtain ⟨hz0, hz1, hz2, hz3, hz4⟩ := qz4 FA2.out
              obtain ⟨hy0, hy1, hy2, hy3, hy4⟩ := qz14 FA2.out
              have HP2 := qza.mk (qz7 (g := ba) HP1.out (by omega) (.int .i64 R.2.err) (.string R.2.val) (.int .u64 R.2.ver) (.bool R.2.found) (.bool R.2.commit))
              refine wpAnyH_ready (rs := [12]) (by kernel_rfl) (by simp) ?_
              refine AllReadyH.cons (o := _) rfl (fun K hK => ?_) AllReadyH.nil
              go_simp
              refine hK.out _ _ (keepO hK0 HP2.out) (fun hHeldB => ?_)
              clear hK K hz0 hz1 hz2 hz3 hz4 hy0 hy1 hy2 hy3 hy4
              try simp only [Act.put, List.setIfInBounds_toArray, List.set_cons_zero, List.set_cons_succ]
              refine wpAnyH_done (by kernel_rfl) ?_ _
              refine NoPanic.normal ?_
              go_wp2
              go_meet
              exact ⟨bu, ba, rfl, rfl, HP2, ⟨(onceEnd FU.out FA.out hneq HV5.out).1⟩, ⟨(onceEnd (e := R.2.err) (v := R.2.ver) (st := R.2.val) (f := R.2.found) (g := R.2.commit) FU.out FA.out hneq HV5.out).2⟩, ⟨by omega⟩⟩
        · go_simp
          have HY0 := qza.mk (HBD.out.alloc HBD.out.size (.cells #[.int .i64 0, .string ⟨#[]⟩, .int .u64 0, .bool false, .bool false] 38))
          have FA := qza.mk (heap_alloc_new wd (.cells #[.int .i64 0, .string ⟨#[]⟩, .int .u64 0, .bool false, .bool false] 38))
          have hlba : wr.heap.size ≤ wd.heap.size := HBD.out.size
          refine hK.out _ _ (keepO hK0 HY0.out) (fun hHeld0 => ?_)
          clear hK K
          try simp only [Act.put, List.setIfInBounds_toArray, List.set_cons_zero, List.set_cons_succ]
          generalize wd.alloc (.cells #[.int .i64 0, .string ⟨#[]⟩, .int .u64 0, .bool false, .bool false] 38) = wy0 at *
          generalize wd.heap.size = ba at *
          refine wpAnyH_ready (rs := [5, 9]) (by kernel_rfl) (by simp) ?_
          refine AllReadyH.cons (o := _) rfl (fun K hK => ?_) (AllReadyH.cons (o := _) rfl (fun K hK => ?_) (AllReadyH.nil))
          · go_simp; go_at_call 11; refine (HC.out _ HY0.out).mono ?_; intro e wy1 hp; obtain ⟨E0, n0, d0, E1, n1, d1, E2, n2, d2, E3, n3, d3, rfl, hv5, hb5⟩ := doOut hp; clear hp; go_simp
            have HY1 := qza.mk (HY0.out.trans (hb5.mono HY0.out.size))
            have FA := qza.mk (stay hb5 FA.out (Array.getElem?_eq_some_iff.1 FA.out).1)
            have HV5 := qza.mk hv5
            clear hv5 hb5
            refine hK.out _ _ (keepO hK0 HY1.out) (fun hHeld1 => ?_)
            clear hK K
            try simp only [Act.put, List.setIfInBounds_toArray, List.set_cons_zero, List.set_cons_succ]
            refine wpAnyH_take (i := 6) (oi := _) (v := .tuple #[.agg #[.slice E0 n0 d0, .slice E1 n1 d1, .slice E2 n2 d2, .slice E3 n3 d3, .int .u64 R.1.ver], .agg #[.int .i64 R.2.err, .string R.2.val, .int .u64 R.2.ver, .bool R.2.found, .bool R.2.commit]]) rfl (by kernel_rfl) (by kernel_rfl) (by kernel_rfl) (fun _ _ _ h => h) (Or.inl ⟨by kernel_rfl, ?_⟩) (by assumption) ?_
            · intro w hSw; (try dsimp only at hSw); go_simp
            try simp only [Act.put, List.setIfInBounds_toArray, List.set_cons_zero, List.set_cons_succ]
            refine wpAnyH_take (i := 7) (oi := _) (v := .agg #[.slice E0 n0 d0, .slice E1 n1 d1, .slice E2 n2 d2, .slice E3 n3 d3, .int .u64 R.1.ver]) rfl (by kernel_rfl) (by kernel_rfl) (by kernel_rfl) (fun _ _ _ h => h) (Or.inl ⟨by kernel_rfl, ?_⟩) (by assumption) ?_
            · intro w hSw; (try dsimp only at hSw); go_simp
            try simp only [Act.put, List.setIfInBounds_toArray, List.set_cons_zero, List.set_cons_succ]
            refine wpAnyH_take (i := 8) (oi := _) (v := .agg #[.int .i64 R.2.err, .string R.2.val, .int .u64 R.2.ver, .bool R.2.found, .bool R.2.commit]) rfl (by kernel_rfl) (by kernel_rfl) (by kernel_rfl) (fun _ _ _ h => h) (Or.inl ⟨by kernel_rfl, ?_⟩) (by assumption) ?_
            · intro w hSw; (try dsimp only at hSw); go_simp
            try simp only [Act.put, List.setIfInBounds_toArray, List.set_cons_zero, List.set_cons_succ]
            refine wpAnyH_ready (rs := [9]) (by kernel_rfl) (by simp) ?_
            refine AllReadyH.cons (o := _) rfl (fun K hK => ?_) (AllReadyH.nil)
            · go_simp
              have HY2 := qza.mk (HY1.out.alloc HY1.out.size (.cells #[.slice none 0 0, .slice none 0 0, .slice none 0 0, .slice none 0 0, .int .u64 0] 28))
              have hlt := (Array.getElem?_eq_some_iff.1 FA.out).1
              have FA := qza.mk (stayA FA.out (.cells #[.slice none 0 0, .slice none 0 0, .slice none 0 0, .slice none 0 0, .int .u64 0] 28))
              have HV5 := qza.mk (HV5.out.below ((Below.refl _ _).alloc (Nat.le_refl _) (.cells #[.slice none 0 0, .slice none 0 0, .slice none 0 0, .slice none 0 0, .int .u64 0] 28)))
              have FU := qza.mk (heap_alloc_new wy1 (.cells #[.slice none 0 0, .slice none 0 0, .slice none 0 0, .slice none 0 0, .int .u64 0] 28))
              have hlbu : wr.heap.size ≤ wy1.heap.size := HY1.out.size
              refine hK.out _ _ (keepO hK0 HY2.out) (fun hHeld2 => ?_)
              clear hK K
              try simp only [Act.put, List.setIfInBounds_toArray, List.set_cons_zero, List.set_cons_succ]
              generalize wy1.alloc (.cells #[.slice none 0 0, .slice none 0 0, .slice none 0 0, .slice none 0 0, .int .u64 0] 28) = wy2 at *
              generalize wy1.heap.size = bu at *
              have hneq : bu ≠ ba := by omega
              obtain ⟨hz0, hz1, hz2, hz3, hz4⟩ := qz4 FU.out
              obtain ⟨hy0, hy1, hy2, hy3, hy4⟩ := qz14 FU.out
              have HP1 := qza.mk (qz7 (g := bu) HY2.out (by omega) (.slice E0 n0 d0) (.slice E1 n1 d1) (.slice E2 n2 d2) (.slice E3 n3 d3) (.int .u64 R.1.ver))
              refine wpAnyH_ready (rs := [11]) (by kernel_rfl) (by simp) ?_
              refine AllReadyH.cons (o := _) rfl (fun K hK => ?_) AllReadyH.nil
              go_simp
              refine hK.out _ _ (keepO hK0 HP1.out) (fun hHeldA => ?_)
              clear hK K hz0 hz1 hz2 hz3 hz4 hy0 hy1 hy2 hy3 hy4
              try simp only [Act.put, List.setIfInBounds_toArray, List.set_cons_zero, List.set_cons_succ]
              have FA2 := qza.mk (qz47 (b := ba) (g := bu) (by omega) FA.out (.slice E0 n0 d0) (.slice E1 n1 d1) (.slice E2 n2 d2) (.slice E3 n3 d3) (.int .u64 R.1.ver))
              obtain ⟨hz0, hz1, hz2, hz3, hz4⟩ := qz4 FA2.out
              obtain ⟨hy0, hy1, hy2, hy3, hy4⟩ := qz14 FA2.out
              have HP2 := qza.mk (qz7 (g := ba) HP1.out (by omega) (.int .i64 R.2.err) (.string R.2.val) (.int .u64 R.2.ver) (.bool R.2.found) (.bool R.2.commit))
              refine wpAnyH_ready (rs := [12]) (by kernel_rfl) (by simp) ?_
              refine AllReadyH.cons (o := _) rfl (fun K hK => ?_) AllReadyH.nil
              go_simp
              refine hK.out _ _ (keepO hK0 HP2.out) (fun hHeldB => ?_)
              clear hK K hz0 hz1 hz2 hz3 hz4 hy0 hy1 hy2 hy3 hy4
              try simp only [Act.put, List.setIfInBounds_toArray, List.set_cons_zero, List.set_cons_succ]
              refine wpAnyH_done (by kernel_rfl) ?_ _
              refine NoPanic.normal ?_
              go_wp2
              go_meet
              exact ⟨bu, ba, rfl, rfl, HP2, ⟨(onceEnd FU.out FA.out hneq HV5.out).1⟩, ⟨(onceEnd (e := R.2.err) (v := R.2.ver) (st := R.2.val) (f := R.2.found) (g := R.2.commit) FU.out FA.out hneq HV5.out).2⟩, ⟨by omega⟩⟩
          · go_simp
            have HY1 := qza.mk (HY0.out.alloc HY0.out.size (.cells #[.slice none 0 0, .slice none 0 0, .slice none 0 0, .slice none 0 0, .int .u64 0] 28))
            have hlt := (Array.getElem?_eq_some_iff.1 FA.out).1
            have FA := qza.mk (stayA FA.out (.cells #[.slice none 0 0, .slice none 0 0, .slice none 0 0, .slice none 0 0, .int .u64 0] 28))
            have FU := qza.mk (heap_alloc_new wy0 (.cells #[.slice none 0 0, .slice none 0 0, .slice none 0 0, .slice none 0 0, .int .u64 0] 28))
            have hlbu : wr.heap.size ≤ wy0.heap.size := HY0.out.size
            refine hK.out _ _ (keepO hK0 HY1.out) (fun hHeld1 => ?_)
            clear hK K
            try simp only [Act.put, List.setIfInBounds_toArray, List.set_cons_zero, List.set_cons_succ]
            generalize wy0.alloc (.cells #[.slice none 0 0, .slice none 0 0, .slice none 0 0, .slice none 0 0, .int .u64 0] 28) = wy1 at *
            generalize wy0.heap.size = bu at *
            refine wpAnyH_ready (rs := [5]) (by kernel_rfl) (by simp) ?_
            refine AllReadyH.cons (o := _) rfl (fun K hK => ?_) (AllReadyH.nil)
            · go_simp; go_at_call 11; refine (HC.out _ HY1.out).mono ?_; intro e wy2 hp; obtain ⟨E0, n0, d0, E1, n1, d1, E2, n2, d2, E3, n3, d3, rfl, hv5, hb5⟩ := doOut hp; clear hp; go_simp
              have HY2 := qza.mk (HY1.out.trans (hb5.mono HY1.out.size))
              have FU := qza.mk (stay hb5 FU.out (Array.getElem?_eq_some_iff.1 FU.out).1)
              have FA := qza.mk (stay hb5 FA.out (Array.getElem?_eq_some_iff.1 FA.out).1)
              have HV5 := qza.mk hv5
              clear hv5 hb5
              refine hK.out _ _ (keepO hK0 HY2.out) (fun hHeld2 => ?_)
              clear hK K
              try simp only [Act.put, List.setIfInBounds_toArray, List.set_cons_zero, List.set_cons_succ]
              refine wpAnyH_take (i := 6) (oi := _) (v := .tuple #[.agg #[.slice E0 n0 d0, .slice E1 n1 d1, .slice E2 n2 d2, .slice E3 n3 d3, .int .u64 R.1.ver], .agg #[.int .i64 R.2.err, .string R.2.val, .int .u64 R.2.ver, .bool R.2.found, .bool R.2.commit]]) rfl (by kernel_rfl) (by kernel_rfl) (by kernel_rfl) (fun _ _ _ h => h) (Or.inl ⟨by kernel_rfl, ?_⟩) (by assumption) ?_
              · intro w hSw; (try dsimp only at hSw); go_simp
              try simp only [Act.put, List.setIfInBounds_toArray, List.set_cons_zero, List.set_cons_succ]
              refine wpAnyH_take (i := 7) (oi := _) (v := .agg #[.slice E0 n0 d0, .slice E1 n1 d1, .slice E2 n2 d2, .slice E3 n3 d3, .int .u64 R.1.ver]) rfl (by kernel_rfl) (by kernel_rfl) (by kernel_rfl) (fun _ _ _ h => h) (Or.inl ⟨by kernel_rfl, ?_⟩) (by assumption) ?_
              · intro w hSw; (try dsimp only at hSw); go_simp
              try simp only [Act.put, List.setIfInBounds_toArray, List.set_cons_zero, List.set_cons_succ]
              refine wpAnyH_take (i := 8) (oi := _) (v := .agg #[.int .i64 R.2.err, .string R.2.val, .int .u64 R.2.ver, .bool R.2.found, .bool R.2.commit]) rfl (by kernel_rfl) (by kernel_rfl) (by kernel_rfl) (fun _ _ _ h => h) (Or.inl ⟨by kernel_rfl, ?_⟩) (by assumption) ?_
              · intro w hSw; (try dsimp only at hSw); go_simp
              try simp only [Act.put, List.setIfInBounds_toArray, List.set_cons_zero, List.set_cons_succ]
              have hneq : bu ≠ ba := by omega
              obtain ⟨hz0, hz1, hz2, hz3, hz4⟩ := qz4 FU.out
              obtain ⟨hy0, hy1, hy2, hy3, hy4⟩ := qz14 FU.out
              have HP1 := qza.mk (qz7 (g := bu) HY2.out (by omega) (.slice E0 n0 d0) (.slice E1 n1 d1) (.slice E2 n2 d2) (.slice E3 n3 d3) (.int .u64 R.1.ver))
              refine wpAnyH_ready (rs := [11]) (by kernel_rfl) (by simp) ?_
              refine AllReadyH.cons (o := _) rfl (fun K hK => ?_) AllReadyH.nil
              go_simp
              refine hK.out _ _ (keepO hK0 HP1.out) (fun hHeldA => ?_)
              clear hK K hz0 hz1 hz2 hz3 hz4 hy0 hy1 hy2 hy3 hy4
              try simp only [Act.put, List.setIfInBounds_toArray, List.set_cons_zero, List.set_cons_succ]
              have FA2 := qza.mk (qz47 (b := ba) (g := bu) (by omega) FA.out (.slice E0 n0 d0) (.slice E1 n1 d1) (.slice E2 n2 d2) (.slice E3 n3 d3) (.int .u64 R.1.ver))
              obtain ⟨hz0, hz1, hz2, hz3, hz4⟩ := qz4 FA2.out
              obtain ⟨hy0, hy1, hy2, hy3, hy4⟩ := qz14 FA2.out
              have HP2 := qza.mk (qz7 (g := ba) HP1.out (by omega) (.int .i64 R.2.err) (.string R.2.val) (.int .u64 R.2.ver) (.bool R.2.found) (.bool R.2.commit))
              refine wpAnyH_ready (rs := [12]) (by kernel_rfl) (by simp) ?_
              refine AllReadyH.cons (o := _) rfl (fun K hK => ?_) AllReadyH.nil
              go_simp
              refine hK.out _ _ (keepO hK0 HP2.out) (fun hHeldB => ?_)
              clear hK K hz0 hz1 hz2 hz3 hz4 hy0 hy1 hy2 hy3 hy4
              try simp only [Act.put, List.setIfInBounds_toArray, List.set_cons_zero, List.set_cons_succ]
              refine wpAnyH_done (by kernel_rfl) ?_ _
              refine NoPanic.normal ?_
              go_wp2
              go_meet
              exact ⟨bu, ba, rfl, rfl, HP2, ⟨(onceEnd FU.out FA.out hneq HV5.out).1⟩, ⟨(onceEnd (e := R.2.err) (v := R.2.ver) (st := R.2.val) (f := R.2.found) (g := R.2.commit) FU.out FA.out hneq HV5.out).2⟩, ⟨by omega⟩⟩
      case rest =>
        clear hs0 hs1 hs2 hs3 hs4 ho0 ho1 ho2 ho3 ho4 ho5 ho6
        obtain ⟨bu, ba, rfl, rfl, HBC, HUC, HAC, HLC⟩ := hcut
        have hb := HBC.out
        have XQc := qza.mk (HXr.out.below hb)
        have HBc := qza.mk (HBr.out.trans (hb.mono HBr.out.size))
        clear hb HAC HXr HBr HC HBC HLC
        obtain ⟨E0, d0, E1, d1, E2, d2, E3, d3, hXu, ⟨ra, ra'⟩, ⟨rb, rb'⟩, ⟨rc, rc'⟩, ⟨rd, rd'⟩⟩ := HUC.out
        have HRT := qza.mk (right13_calls E0 d0 E1 d1 E2 d2 E3 d3 R.1 wc HIN.out.1 ra ra' rb rb' rc rc' rd rd')
        obtain ⟨hk0, hk1, hk2, hk3, hk4⟩ := qz4 hXu
        clear hXu ra ra' rb rb' rc rc' rd rd'
        go_upto_region 8 with (go_at_call 14; refine (HRT.out).mono ?_; rintro e w8 ⟨rfl, hb8⟩; clear hk0 hk1 hk2 hk3 hk4; have HB8 := qza.mk hb8; clear hb8)
        have hb := HB8.out
        have XQd := qza.mk (XQc.out.below hb)
        have HUd := qza.mk (HUC.out.below hb)
        have HBd := qza.mk (HBc.out.trans (hb.mono HBc.out.size))
        obtain ⟨C0, x0, y0, C1, x1, y1, C2, x2, y2, C3, x3, y3, D0, u0, z0, D1, u1, z1, D2, u2, z2, D3, u3, z3, hXu, hXq, hPut⟩ := copy_at XQd.out HUd.out
        obtain ⟨hk0, hk1, hk2, hk3, hk4⟩ := qz4 hXu
        obtain ⟨hs0, hs1, hs2, hs3, hs4⟩ := qz4 hXq
        obtain ⟨hy0, hy1, hy2, hy3, hy4⟩ := qz14 hXq
        have HPUT := qza.mk hPut
        have hver : ¬ R.1.ver < S.ver := by have := HIN.out.2; omega
        clear hb HB8 HRT XQc HUC HBc XQd HUd hXu hXq hPut
        go_wp2
        go_roundg (l.length - (jj + 1))
        case measure => omega
        case rel => exact ⟨jj + 1, by omega, by omega, by go_num, ⟨qz7 HBd.out (by omega) _ _ _ _ _⟩, ⟨_, HIN.out.1, HPUT.out⟩⟩
    · have hltz : ¬ (jj : Int) < (l.length : Int) := by omega
      go_wp2
      go_ret
      exact ⟨rfl, HBr.out⟩
end Go.Proofs.Ytmcgcdpiceikeaa.PAll
end
