/- Joined texts of the claim DriveSteps (part 49): contracts of functions and plain laws. -/
import Derived.BigRegion
import Derived.Deep.CutRange
import Derived.Deep.DeepCutAuto
import Derived.Deep.RegionHeld3
import Derived.Test.YtkennobdoldlkaaJDriveSteps3
import Derived.Test.YtkennobdoldlkaaJDriveSteps48
set_option linter.unusedVariables false
set_option linter.unusedSimpArgs false
section
namespace Go.Proofs.Ytkennobdoldlkaa.PAll
open Go.RowKit Go.Proofs.YtkennobdoldlkaaW.PrintWords Go.Proofs.YtkennobdoldlkaaW.PrintLast Go.Proofs.Ytkennobdoldlkaa
set_option maxHeartbeats 2000000 in
set_option maxRecDepth 100000 in
theorem refHear_n (ta ti : Int) (A : Option Addr) (c : Nat) (st : List S53) (ph ap : Int) (fa og cm : Bool) (B : Option Addr) (e9 : Nat) (sw : List S51) (er : Int) (va : ByteArray) (ve : Int) (fo co : Bool) (w : World) (hr : Kd.C k53 w A st.length st) (hc : st.length ≤ c) (hq : Kd.C k51 w B sw.length sw) (hqc : sw.length ≤ e9) (hl : st.length ≤ 3000000000000) (hg : ∀ x ∈ st, 0 ≤ x.f0 ∧ x.f0 ≤ 18446744073709551615) (hn : (nextV ⟨ta, ti, st, ph, ap, fa, og, cm, sw⟩).2.2 = false) :
    Calls Try.prog 15 #[.agg #[.int .u64 ta, .int .u64 ti, .slice A st.length c, .int .i64 ph, .int .i64 ap, .bool fa, .bool og, .bool cm, .slice B sw.length e9], .agg #[.int .i64 er, .string va, .int .u64 ve, .bool fo, .bool co]] w (DPost A c B e9 sw (hearV ⟨ta, ti, st, ph, ap, fa, og, cm, sw⟩ er va ve fo co) w) := by
  have hv : hearV ⟨ta, ti, st, ph, ap, fa, og, cm, sw⟩ er va ve fo co = ⟨ta, ti, st, ph, ap, fa, og, cm, sw⟩ := by
    unfold hearV
    rw [if_pos hn]
  have HV := qza.mk hv
  clear hv
  have HR := qza.mk hr
  have HQ := qza.mk hq
  have HG := qza.mk hg
  have hx := qz14 (qz14 (heap_alloc_new w (.cells #[.int .u64 ta, .int .u64 ti, .slice A st.length c, .int .i64 ph, .int .i64 ap, .bool fa, .bool og, .bool cm, .slice B sw.length e9] 30)) (.cells #[.int .i64 er, .string va, .int .u64 ve, .bool fo, .bool co] 33)) (.cells #[.int .u64 0, .int .u64 0, .slice none 0 0, .int .i64 0, .int .i64 0, .bool false, .bool false, .bool false, .slice none 0 0] 30)
  have ha := qz14 (heap_alloc_new (w.alloc (.cells #[.int .u64 ta, .int .u64 ti, .slice A st.length c, .int .i64 ph, .int .i64 ap, .bool fa, .bool og, .bool cm, .slice B sw.length e9] 30)) (.cells #[.int .i64 er, .string va, .int .u64 ve, .bool fo, .bool co] 33)) (.cells #[.int .u64 0, .int .u64 0, .slice none 0 0, .int .i64 0, .int .i64 0, .bool false, .bool false, .bool false, .slice none 0 0] 30)
  have hz : (((w.alloc (.cells #[.int .u64 ta, .int .u64 ti, .slice A st.length c, .int .i64 ph, .int .i64 ap, .bool fa, .bool og, .bool cm, .slice B sw.length e9] 30)).alloc (.cells #[.int .i64 er, .string va, .int .u64 ve, .bool fo, .bool co] 33)).alloc (.cells #[.int .u64 0, .int .u64 0, .slice none 0 0, .int .i64 0, .int .i64 0, .bool false, .bool false, .bool false, .slice none 0 0] 30)).heap[w.heap.size + 2]? = some (.cells #[.int .u64 0, .int .u64 0, .slice none 0 0, .int .i64 0, .int .i64 0, .bool false, .bool false, .bool false, .slice none 0 0] 30 (0, 0)) := by
    have h := heap_alloc_new ((w.alloc (.cells #[.int .u64 ta, .int .u64 ti, .slice A st.length c, .int .i64 ph, .int .i64 ap, .bool fa, .bool og, .bool cm, .slice B sw.length e9] 30)).alloc (.cells #[.int .i64 er, .string va, .int .u64 ve, .bool fo, .bool co] 33)) (.cells #[.int .u64 0, .int .u64 0, .slice none 0 0, .int .i64 0, .int .i64 0, .bool false, .bool false, .bool false, .slice none 0 0] 30)
    rw [World.size_alloc, World.size_alloc] at h
    exact h
  rw [World.size_alloc] at ha
  have HB0 := qza.mk ((((Below.refl w.heap.size w).alloc (Nat.le_refl _) (.cells #[.int .u64 ta, .int .u64 ti, .slice A st.length c, .int .i64 ph, .int .i64 ap, .bool fa, .bool og, .bool cm, .slice B sw.length e9] 30)).alloc (by simp) (.cells #[.int .i64 er, .string va, .int .u64 ve, .bool fo, .bool co] 33)).alloc (by simp; omega) (.cells #[.int .u64 0, .int .u64 0, .slice none 0 0, .int .i64 0, .int .i64 0, .bool false, .bool false, .bool false, .slice none 0 0] 30))
  have HSZ : qza (w.heap.size + 3 ≤ (((w.alloc (.cells #[.int .u64 ta, .int .u64 ti, .slice A st.length c, .int .i64 ph, .int .i64 ap, .bool fa, .bool og, .bool cm, .slice B sw.length e9] 30)).alloc (.cells #[.int .i64 er, .string va, .int .u64 ve, .bool fo, .bool co] 33)).alloc (.cells #[.int .u64 0, .int .u64 0, .slice none 0 0, .int .i64 0, .int .i64 0, .bool false, .bool false, .bool false, .slice none 0 0] 30)).heap.size) := ⟨by simp⟩
  clear hr hg hq
  go_enter Try.func15, Try.ntmps15
  have HX := qza.mk hx
  have HA := qza.mk ha
  have HZ := qza.mk hz
  clear hx ha hz
  go_upto_region 1 with (fail)
  change Code.wp _ _ _ _ (((w.alloc (.cells #[.int .u64 ta, .int .u64 ti, .slice A st.length c, .int .i64 ph, .int .i64 ap, .bool fa, .bool og, .bool cm, .slice B sw.length e9] 30)).alloc (.cells #[.int .i64 er, .string va, .int .u64 ve, .bool fo, .bool co] 33)).alloc (.cells #[.int .u64 0, .int .u64 0, .slice none 0 0, .int .i64 0, .int .i64 0, .bool false, .bool false, .bool false, .slice none 0 0] 30))
  generalize ((w.alloc (.cells #[.int .u64 ta, .int .u64 ti, .slice A st.length c, .int .i64 ph, .int .i64 ap, .bool fa, .bool og, .bool cm, .slice B sw.length e9] 30)).alloc (.cells #[.int .i64 er, .string va, .int .u64 ve, .bool fo, .bool co] 33)).alloc (.cells #[.int .u64 0, .int .u64 0, .slice none 0 0, .int .i64 0, .int .i64 0, .bool false, .bool false, .bool false, .slice none 0 0] 30) = w1 at *
  obtain ⟨hd0, hd1, hd2, hd3, hd4, hd5, hd6, hd7, hd8⟩ := qz13 HX.out
  obtain ⟨ha0, ha1, ha2, ha3, ha4⟩ := qz27 HA.out
  obtain ⟨hz0, hz1, hz2, hz3, hz4, hz5, hz6, hz7, hz8⟩ := qz13 HZ.out
  obtain ⟨hf0, hf1, hf2, hf3, hf4, hf5, hf6, hf7, hf8⟩ := qz17 HZ.out
  have HNX := qza.mk (qz50 ta ti A c st ph ap fa og cm B e9 sw w1 (Kd.C_below HR.out HB0.out) hc (Kd.C_below HQ.out HB0.out) hqc hl HG.out)
  unfold qz40 at HNX
  generalize nextV ⟨ta, ti, st, ph, ap, fa, og, cm, sw⟩ = av at *
  obtain ⟨ag, ⟨ak, a1, a2, akey, apu, acm, apa⟩, ais⟩ := av
  unfold oagg at HNX
  dsimp only at *
  subst hn
  go_upto_region 2 with (go_at_call 11; refine (HNX.out).mono ?_; rintro e w2 ⟨vp, vq, rfl, hp2, hq2, hb2⟩; obtain ⟨A2, c2, rfl, hc2, hC2⟩ := Sl.of_R hp2; obtain ⟨A3, c3, rfl, hc3, hC3⟩ := Sl.of_R hq2; clear hC2 hC3 hp2 hq2; have HB2 := qza.mk hb2; clear hb2)
  have HX3 := qza.mk (qz14 (qz16 HB2.out HX.out) (.cells #[.int .i64 ak, .int .u64 a1, .int .u64 a2, .string akey, .slice A2 apu.length c2, .bool acm, .slice A3 apa.length c3] 38))
  have HA3 := qza.mk (qz14 (qz16 HB2.out HA.out) (.cells #[.int .i64 ak, .int .u64 a1, .int .u64 a2, .string akey, .slice A2 apu.length c2, .bool acm, .slice A3 apa.length c3] 38))
  have HZ3 := qza.mk (qz14 (qz16 HB2.out HZ.out) (.cells #[.int .i64 ak, .int .u64 a1, .int .u64 a2, .string akey, .slice A2 apu.length c2, .bool acm, .slice A3 apa.length c3] 38))
  have HB3 := qza.mk ((HB0.out.trans (HB2.out.mono HB0.out.size)).alloc (HB0.out.trans (HB2.out.mono HB0.out.size)).size (.cells #[.int .i64 ak, .int .u64 a1, .int .u64 a2, .string akey, .slice A2 apu.length c2, .bool acm, .slice A3 apa.length c3] 38))
  have hs3 : (w2.alloc (.cells #[.int .i64 ak, .int .u64 a1, .int .u64 a2, .string akey, .slice A2 apu.length c2, .bool acm, .slice A3 apa.length c3] 38)).heap.size = w2.heap.size + 1 := by simp
  have hs2 := HB2.out.size
  have hsz := HSZ.out
  have hsz3 : w.heap.size + 3 ≤ (w2.alloc (.cells #[.int .i64 ak, .int .u64 a1, .int .u64 a2, .string akey, .slice A2 apu.length c2, .bool acm, .slice A3 apa.length c3] 38)).heap.size := by omega
  clear hs3
  change Code.wp _ _ _ _ (w2.alloc (.cells #[.int .i64 ak, .int .u64 a1, .int .u64 a2, .string akey, .slice A2 apu.length c2, .bool acm, .slice A3 apa.length c3] 38))
  generalize w2.alloc (.cells #[.int .i64 ak, .int .u64 a1, .int .u64 a2, .string akey, .slice A2 apu.length c2, .bool acm, .slice A3 apa.length c3] 38) = w3 at *
  clear hd0 hd1 hd2 hd3 hd4 hd5 hd6 hd7 hd8 ha0 ha1 ha2 ha3 ha4 hz0 hz1 hz2 hz3 hz4 hz5 hz6 hz7 hz8 hf0 hf1 hf2 hf3 hf4 hf5 hf6 hf7 hf8 HX HA HZ HNX
  obtain ⟨hd0, hd1, hd2, hd3, hd4, hd5, hd6, hd7, hd8⟩ := qz13 HX3.out
  obtain ⟨ha0, ha1, ha2, ha3, ha4⟩ := qz27 HA3.out
  obtain ⟨hz0, hz1, hz2, hz3, hz4, hz5, hz6, hz7, hz8⟩ := qz13 HZ3.out
  obtain ⟨hf0, hf1, hf2, hf3, hf4, hf5, hf6, hf7, hf8⟩ := qz17 HZ3.out
  go_wp2
  refine ret9 (g := w.heap.size + 2) rfl rfl rfl (qz34 HZ3.out _ _ _ _ _ _ _ _ _) ?_
  rw [HV.out]
  exact DPost.same (d := ⟨ta, ti, st, ph, ap, fa, og, cm, sw⟩) rfl (qz23 HB3.out (by omega) _ _ _ _ _ _ _ _ _)
set_option maxHeartbeats 2000000 in
set_option maxRecDepth 100000 in
theorem refHear_1 (ta ti : Int) (A : Option Addr) (c : Nat) (st : List S53) (ph ap : Int) (fa og cm : Bool) (B : Option Addr) (e9 : Nat) (sw : List S51) (er : Int) (va : ByteArray) (ve : Int) (fo co : Bool) (w : World) (hr : Kd.C k53 w A st.length st) (hc : st.length ≤ c) (hq : Kd.C k51 w B sw.length sw) (hqc : sw.length ≤ e9) (hl : st.length ≤ 3000000000000) (hg : ∀ x ∈ st, 0 ≤ x.f0 ∧ x.f0 ≤ 18446744073709551615) (he : ph = 1) (hn : (nextV ⟨ta, ti, st, ph, ap, fa, og, cm, sw⟩).2.2 = true) :
    Calls Try.prog 15 #[.agg #[.int .u64 ta, .int .u64 ti, .slice A st.length c, .int .i64 ph, .int .i64 ap, .bool fa, .bool og, .bool cm, .slice B sw.length e9], .agg #[.int .i64 er, .string va, .int .u64 ve, .bool fo, .bool co]] w (DPost A c B e9 sw (hearV ⟨ta, ti, st, ph, ap, fa, og, cm, sw⟩ er va ve fo co) w) := by
  subst he
  have hv : hearV ⟨ta, ti, st, 1, ap, fa, og, cm, sw⟩ er va ve fo co = if er = 0 then ⟨ta, ti, st, 2, 0, fa, og, cm, sw⟩ else ⟨ta, ti, st, 3, 0, true, og, cm, sw⟩ := by
    unfold hearV
    rw [if_neg (by rw [hn]; simp)]
    show (if er = 0 then toV _ 2 false else toV _ 3 true) = _
    unfold toV
    simp
  have HV := qza.mk hv
  clear hv
  have HR := qza.mk hr
  have HQ := qza.mk hq
  have HG := qza.mk hg
  have hx := qz14 (qz14 (heap_alloc_new w (.cells #[.int .u64 ta, .int .u64 ti, .slice A st.length c, .int .i64 1, .int .i64 ap, .bool fa, .bool og, .bool cm, .slice B sw.length e9] 30)) (.cells #[.int .i64 er, .string va, .int .u64 ve, .bool fo, .bool co] 33)) (.cells #[.int .u64 0, .int .u64 0, .slice none 0 0, .int .i64 0, .int .i64 0, .bool false, .bool false, .bool false, .slice none 0 0] 30)
  have ha := qz14 (heap_alloc_new (w.alloc (.cells #[.int .u64 ta, .int .u64 ti, .slice A st.length c, .int .i64 1, .int .i64 ap, .bool fa, .bool og, .bool cm, .slice B sw.length e9] 30)) (.cells #[.int .i64 er, .string va, .int .u64 ve, .bool fo, .bool co] 33)) (.cells #[.int .u64 0, .int .u64 0, .slice none 0 0, .int .i64 0, .int .i64 0, .bool false, .bool false, .bool false, .slice none 0 0] 30)
  have hz : (((w.alloc (.cells #[.int .u64 ta, .int .u64 ti, .slice A st.length c, .int .i64 1, .int .i64 ap, .bool fa, .bool og, .bool cm, .slice B sw.length e9] 30)).alloc (.cells #[.int .i64 er, .string va, .int .u64 ve, .bool fo, .bool co] 33)).alloc (.cells #[.int .u64 0, .int .u64 0, .slice none 0 0, .int .i64 0, .int .i64 0, .bool false, .bool false, .bool false, .slice none 0 0] 30)).heap[w.heap.size + 2]? = some (.cells #[.int .u64 0, .int .u64 0, .slice none 0 0, .int .i64 0, .int .i64 0, .bool false, .bool false, .bool false, .slice none 0 0] 30 (0, 0)) := by
    have h := heap_alloc_new ((w.alloc (.cells #[.int .u64 ta, .int .u64 ti, .slice A st.length c, .int .i64 1, .int .i64 ap, .bool fa, .bool og, .bool cm, .slice B sw.length e9] 30)).alloc (.cells #[.int .i64 er, .string va, .int .u64 ve, .bool fo, .bool co] 33)) (.cells #[.int .u64 0, .int .u64 0, .slice none 0 0, .int .i64 0, .int .i64 0, .bool false, .bool false, .bool false, .slice none 0 0] 30)
    rw [World.size_alloc, World.size_alloc] at h
    exact h
  rw [World.size_alloc] at ha
  have HB0 := qza.mk ((((Below.refl w.heap.size w).alloc (Nat.le_refl _) (.cells #[.int .u64 ta, .int .u64 ti, .slice A st.length c, .int .i64 1, .int .i64 ap, .bool fa, .bool og, .bool cm, .slice B sw.length e9] 30)).alloc (by simp) (.cells #[.int .i64 er, .string va, .int .u64 ve, .bool fo, .bool co] 33)).alloc (by simp; omega) (.cells #[.int .u64 0, .int .u64 0, .slice none 0 0, .int .i64 0, .int .i64 0, .bool false, .bool false, .bool false, .slice none 0 0] 30))
  have HSZ : qza (w.heap.size + 3 ≤ (((w.alloc (.cells #[.int .u64 ta, .int .u64 ti, .slice A st.length c, .int .i64 1, .int .i64 ap, .bool fa, .bool og, .bool cm, .slice B sw.length e9] 30)).alloc (.cells #[.int .i64 er, .string va, .int .u64 ve, .bool fo, .bool co] 33)).alloc (.cells #[.int .u64 0, .int .u64 0, .slice none 0 0, .int .i64 0, .int .i64 0, .bool false, .bool false, .bool false, .slice none 0 0] 30)).heap.size) := ⟨by simp⟩
  clear hr hg hq
  go_enter Try.func15, Try.ntmps15
  have HX := qza.mk hx
  have HA := qza.mk ha
  have HZ := qza.mk hz
  clear hx ha hz
  go_upto_region 1 with (fail)
  change Code.wp _ _ _ _ (((w.alloc (.cells #[.int .u64 ta, .int .u64 ti, .slice A st.length c, .int .i64 1, .int .i64 ap, .bool fa, .bool og, .bool cm, .slice B sw.length e9] 30)).alloc (.cells #[.int .i64 er, .string va, .int .u64 ve, .bool fo, .bool co] 33)).alloc (.cells #[.int .u64 0, .int .u64 0, .slice none 0 0, .int .i64 0, .int .i64 0, .bool false, .bool false, .bool false, .slice none 0 0] 30))
  generalize ((w.alloc (.cells #[.int .u64 ta, .int .u64 ti, .slice A st.length c, .int .i64 1, .int .i64 ap, .bool fa, .bool og, .bool cm, .slice B sw.length e9] 30)).alloc (.cells #[.int .i64 er, .string va, .int .u64 ve, .bool fo, .bool co] 33)).alloc (.cells #[.int .u64 0, .int .u64 0, .slice none 0 0, .int .i64 0, .int .i64 0, .bool false, .bool false, .bool false, .slice none 0 0] 30) = w1 at *
  obtain ⟨hd0, hd1, hd2, hd3, hd4, hd5, hd6, hd7, hd8⟩ := qz13 HX.out
  obtain ⟨ha0, ha1, ha2, ha3, ha4⟩ := qz27 HA.out
  obtain ⟨hz0, hz1, hz2, hz3, hz4, hz5, hz6, hz7, hz8⟩ := qz13 HZ.out
  obtain ⟨hf0, hf1, hf2, hf3, hf4, hf5, hf6, hf7, hf8⟩ := qz17 HZ.out
  have HNX := qza.mk (qz50 ta ti A c st 1 ap fa og cm B e9 sw w1 (Kd.C_below HR.out HB0.out) hc (Kd.C_below HQ.out HB0.out) hqc hl HG.out)
  unfold qz40 at HNX
  generalize nextV ⟨ta, ti, st, 1, ap, fa, og, cm, sw⟩ = av at *
  obtain ⟨ag, ⟨ak, a1, a2, akey, apu, acm, apa⟩, ais⟩ := av
  unfold oagg at HNX
  dsimp only at *
  subst hn
  go_upto_region 2 with (go_at_call 11; refine (HNX.out).mono ?_; rintro e w2 ⟨vp, vq, rfl, hp2, hq2, hb2⟩; obtain ⟨A2, c2, rfl, hc2, hC2⟩ := Sl.of_R hp2; obtain ⟨A3, c3, rfl, hc3, hC3⟩ := Sl.of_R hq2; clear hC2 hC3 hp2 hq2; have HB2 := qza.mk hb2; clear hb2)
  have HX3 := qza.mk (qz14 (qz16 HB2.out HX.out) (.cells #[.int .i64 ak, .int .u64 a1, .int .u64 a2, .string akey, .slice A2 apu.length c2, .bool acm, .slice A3 apa.length c3] 38))
  have HA3 := qza.mk (qz14 (qz16 HB2.out HA.out) (.cells #[.int .i64 ak, .int .u64 a1, .int .u64 a2, .string akey, .slice A2 apu.length c2, .bool acm, .slice A3 apa.length c3] 38))
  have HZ3 := qza.mk (qz14 (qz16 HB2.out HZ.out) (.cells #[.int .i64 ak, .int .u64 a1, .int .u64 a2, .string akey, .slice A2 apu.length c2, .bool acm, .slice A3 apa.length c3] 38))
  have HB3 := qza.mk ((HB0.out.trans (HB2.out.mono HB0.out.size)).alloc (HB0.out.trans (HB2.out.mono HB0.out.size)).size (.cells #[.int .i64 ak, .int .u64 a1, .int .u64 a2, .string akey, .slice A2 apu.length c2, .bool acm, .slice A3 apa.length c3] 38))
  have hs3 : (w2.alloc (.cells #[.int .i64 ak, .int .u64 a1, .int .u64 a2, .string akey, .slice A2 apu.length c2, .bool acm, .slice A3 apa.length c3] 38)).heap.size = w2.heap.size + 1 := by simp
  have hs2 := HB2.out.size
  have hsz := HSZ.out
  have hsz3 : w.heap.size + 3 ≤ (w2.alloc (.cells #[.int .i64 ak, .int .u64 a1, .int .u64 a2, .string akey, .slice A2 apu.length c2, .bool acm, .slice A3 apa.length c3] 38)).heap.size := by omega
  clear hs3
  change Code.wp _ _ _ _ (w2.alloc (.cells #[.int .i64 ak, .int .u64 a1, .int .u64 a2, .string akey, .slice A2 apu.length c2, .bool acm, .slice A3 apa.length c3] 38))
  generalize w2.alloc (.cells #[.int .i64 ak, .int .u64 a1, .int .u64 a2, .string akey, .slice A2 apu.length c2, .bool acm, .slice A3 apa.length c3] 38) = w3 at *
  clear hd0 hd1 hd2 hd3 hd4 hd5 hd6 hd7 hd8 ha0 ha1 ha2 ha3 ha4 hz0 hz1 hz2 hz3 hz4 hz5 hz6 hz7 hz8 hf0 hf1 hf2 hf3 hf4 hf5 hf6 hf7 hf8 HX HA HZ HNX
  obtain ⟨hd0, hd1, hd2, hd3, hd4, hd5, hd6, hd7, hd8⟩ := qz13 HX3.out
  obtain ⟨ha0, ha1, ha2, ha3, ha4⟩ := qz27 HA3.out
  obtain ⟨hz0, hz1, hz2, hz3, hz4, hz5, hz6, hz7, hz8⟩ := qz13 HZ3.out
  obtain ⟨hf0, hf1, hf2, hf3, hf4, hf5, hf6, hf7, hf8⟩ := qz17 HZ3.out
  have HPA := qza.mk (qz57 ta ti A c st w3 (Kd.C_below HR.out HB3.out) hc hl)
  go_upto_region 5 with (go_at_call 19; refine (HPA.out).mono ?_; rintro e w4 ⟨Bp, dp, rfl, hdp, hCp, hb4⟩; clear hCp; have HP4a := qza.mk hb4; clear hb4)
  have HX4 := qza.mk (qz16 HP4a.out HX3.out)
  have HA4 := qza.mk (qz16 HP4a.out HA3.out)
  have HZ4 := qza.mk (qz16 HP4a.out HZ3.out)
  have HB4 := qza.mk (HB3.out.trans (HP4a.out.mono HB3.out.size))
  have hsz4 : w.heap.size + 3 ≤ w4.heap.size := Nat.le_trans hsz3 HP4a.out.size
  clear hd0 hd1 hd2 hd3 hd4 hd5 hd6 hd7 hd8 ha0 ha1 ha2 ha3 ha4 hz0 hz1 hz2 hz3 hz4 hz5 hz6 hz7 hz8 hf0 hf1 hf2 hf3 hf4 hf5 hf6 hf7 hf8 HX3 HA3 HZ3 HB3 HPA HP4a hsz3
  obtain ⟨hd0, hd1, hd2, hd3, hd4, hd5, hd6, hd7, hd8⟩ := qz13 HX4.out
  obtain ⟨ha0, ha1, ha2, ha3, ha4⟩ := qz27 HA4.out
  obtain ⟨hz0, hz1, hz2, hz3, hz4, hz5, hz6, hz7, hz8⟩ := qz13 HZ4.out
  obtain ⟨hf0, hf1, hf2, hf3, hf4, hf5, hf6, hf7, hf8⟩ := qz17 HZ4.out
  obtain ⟨hu0, hu1, hu2, hu3, hu4, hu5, hu6, hu7, hu8⟩ := qz17 HX4.out
  by_cases her : er = 0
  · rw [if_pos her] at HV
    have hz : (er != 0) = false := by rw [her]; rfl
    clear her
    go_upto_region 43 with (fail)
    have HX5 : qza (((w4.setCell ⟨w.heap.size, 3, none⟩ (.int .i64 2)).setCell ⟨w.heap.size, 4, none⟩ (.int .i64 0)).heap[w.heap.size]? = some (.cells #[.int .u64 ta, .int .u64 ti, .slice A st.length c, .int .i64 2, .int .i64 0, .bool fa, .bool og, .bool cm, .slice B sw.length e9] 30 (0, 0))) := ⟨(qz12 (cs := #[.int .u64 ta, .int .u64 ti, .slice A st.length c, .int .i64 2, .int .i64 ap, .bool fa, .bool og, .bool cm, .slice B sw.length e9]) (qz12 (cs := #[.int .u64 ta, .int .u64 ti, .slice A st.length c, .int .i64 1, .int .i64 ap, .bool fa, .bool og, .bool cm, .slice B sw.length e9]) HX4.out 3 (.int .i64 2) rfl) 4 (.int .i64 0) rfl)⟩
    have HZ5 : qza (((w4.setCell ⟨w.heap.size, 3, none⟩ (.int .i64 2)).setCell ⟨w.heap.size, 4, none⟩ (.int .i64 0)).heap[w.heap.size + 2]? = some (.cells #[.int .u64 0, .int .u64 0, .slice none 0 0, .int .i64 0, .int .i64 0, .bool false, .bool false, .bool false, .slice none 0 0] 30 (0, 0))) := ⟨((RowKit.Below.heap_setCell (w4.setCell ⟨w.heap.size, 3, none⟩ (.int .i64 2)) ⟨w.heap.size, 4, none⟩ (.int .i64 0) (w.heap.size + 2) (show w.heap.size + 2 ≠ w.heap.size by omega)).trans ((RowKit.Below.heap_setCell w4 ⟨w.heap.size, 3, none⟩ (.int .i64 2) (w.heap.size + 2) (show w.heap.size + 2 ≠ w.heap.size by omega)).trans HZ4.out))⟩
    have HB5 : qza (Below w.heap.size w ((w4.setCell ⟨w.heap.size, 3, none⟩ (.int .i64 2)).setCell ⟨w.heap.size, 4, none⟩ (.int .i64 0))) := ⟨(RowKit.Below.setCell (p := ⟨w.heap.size, 4, none⟩) (RowKit.Below.setCell (p := ⟨w.heap.size, 3, none⟩) HB4.out (Nat.le_refl _) (.int .i64 2)) (Nat.le_refl _) (.int .i64 0))⟩
    change Code.wp _ _ _ _ ((w4.setCell ⟨w.heap.size, 3, none⟩ (.int .i64 2)).setCell ⟨w.heap.size, 4, none⟩ (.int .i64 0))
    generalize ((w4.setCell ⟨w.heap.size, 3, none⟩ (.int .i64 2)).setCell ⟨w.heap.size, 4, none⟩ (.int .i64 0)) = w5 at *
    clear hd0 hd1 hd2 hd3 hd4 hd5 hd6 hd7 hd8 hz0 hz1 hz2 hz3 hz4 hz5 hz6 hz7 hz8 hf0 hf1 hf2 hf3 hf4 hf5 hf6 hf7 hf8 hu0 hu1 hu2 hu3 hu4 hu5 hu6 hu7 hu8 HX4 HZ4 HB4
    obtain ⟨hd0, hd1, hd2, hd3, hd4, hd5, hd6, hd7, hd8⟩ := qz13 HX5.out
    obtain ⟨hz0, hz1, hz2, hz3, hz4, hz5, hz6, hz7, hz8⟩ := qz13 HZ5.out
    obtain ⟨hf0, hf1, hf2, hf3, hf4, hf5, hf6, hf7, hf8⟩ := qz17 HZ5.out
    obtain ⟨hu0, hu1, hu2, hu3, hu4, hu5, hu6, hu7, hu8⟩ := qz17 HX5.out
    go_wp2
    refine ret9 (g := w.heap.size + 2) rfl rfl rfl (qz34 HZ5.out _ _ _ _ _ _ _ _ _) ?_
    rw [HV.out]
    exact DPost.same (d := ⟨ta, ti, st, 2, 0, fa, og, cm, sw⟩) rfl (qz23 HB5.out (by omega) _ _ _ _ _ _ _ _ _)
  · rw [if_neg her] at HV
    have hz : (er != 0) = true := bne_iff_ne.2 her
    clear her
    go_upto_region 43 with (fail)
    have HX5 : qza ((((w4.setCell ⟨w.heap.size, 3, none⟩ (.int .i64 3)).setCell ⟨w.heap.size, 4, none⟩ (.int .i64 0)).setCell ⟨w.heap.size, 5, none⟩ (.bool true)).heap[w.heap.size]? = some (.cells #[.int .u64 ta, .int .u64 ti, .slice A st.length c, .int .i64 3, .int .i64 0, .bool true, .bool og, .bool cm, .slice B sw.length e9] 30 (0, 0))) := ⟨(qz12 (cs := #[.int .u64 ta, .int .u64 ti, .slice A st.length c, .int .i64 3, .int .i64 0, .bool fa, .bool og, .bool cm, .slice B sw.length e9]) (qz12 (cs := #[.int .u64 ta, .int .u64 ti, .slice A st.length c, .int .i64 3, .int .i64 ap, .bool fa, .bool og, .bool cm, .slice B sw.length e9]) (qz12 (cs := #[.int .u64 ta, .int .u64 ti, .slice A st.length c, .int .i64 1, .int .i64 ap, .bool fa, .bool og, .bool cm, .slice B sw.length e9]) HX4.out 3 (.int .i64 3) rfl) 4 (.int .i64 0) rfl) 5 (.bool true) rfl)⟩
    have HZ5 : qza ((((w4.setCell ⟨w.heap.size, 3, none⟩ (.int .i64 3)).setCell ⟨w.heap.size, 4, none⟩ (.int .i64 0)).setCell ⟨w.heap.size, 5, none⟩ (.bool true)).heap[w.heap.size + 2]? = some (.cells #[.int .u64 0, .int .u64 0, .slice none 0 0, .int .i64 0, .int .i64 0, .bool false, .bool false, .bool false, .slice none 0 0] 30 (0, 0))) := ⟨((RowKit.Below.heap_setCell ((w4.setCell ⟨w.heap.size, 3, none⟩ (.int .i64 3)).setCell ⟨w.heap.size, 4, none⟩ (.int .i64 0)) ⟨w.heap.size, 5, none⟩ (.bool true) (w.heap.size + 2) (show w.heap.size + 2 ≠ w.heap.size by omega)).trans ((RowKit.Below.heap_setCell (w4.setCell ⟨w.heap.size, 3, none⟩ (.int .i64 3)) ⟨w.heap.size, 4, none⟩ (.int .i64 0) (w.heap.size + 2) (show w.heap.size + 2 ≠ w.heap.size by omega)).trans ((RowKit.Below.heap_setCell w4 ⟨w.heap.size, 3, none⟩ (.int .i64 3) (w.heap.size + 2) (show w.heap.size + 2 ≠ w.heap.size by omega)).trans HZ4.out)))⟩
    have HB5 : qza (Below w.heap.size w (((w4.setCell ⟨w.heap.size, 3, none⟩ (.int .i64 3)).setCell ⟨w.heap.size, 4, none⟩ (.int .i64 0)).setCell ⟨w.heap.size, 5, none⟩ (.bool true))) := ⟨(RowKit.Below.setCell (p := ⟨w.heap.size, 5, none⟩) (RowKit.Below.setCell (p := ⟨w.heap.size, 4, none⟩) (RowKit.Below.setCell (p := ⟨w.heap.size, 3, none⟩) HB4.out (Nat.le_refl _) (.int .i64 3)) (Nat.le_refl _) (.int .i64 0)) (Nat.le_refl _) (.bool true))⟩
    change Code.wp _ _ _ _ (((w4.setCell ⟨w.heap.size, 3, none⟩ (.int .i64 3)).setCell ⟨w.heap.size, 4, none⟩ (.int .i64 0)).setCell ⟨w.heap.size, 5, none⟩ (.bool true))
    generalize (((w4.setCell ⟨w.heap.size, 3, none⟩ (.int .i64 3)).setCell ⟨w.heap.size, 4, none⟩ (.int .i64 0)).setCell ⟨w.heap.size, 5, none⟩ (.bool true)) = w5 at *
    clear hd0 hd1 hd2 hd3 hd4 hd5 hd6 hd7 hd8 hz0 hz1 hz2 hz3 hz4 hz5 hz6 hz7 hz8 hf0 hf1 hf2 hf3 hf4 hf5 hf6 hf7 hf8 hu0 hu1 hu2 hu3 hu4 hu5 hu6 hu7 hu8 HX4 HZ4 HB4
    obtain ⟨hd0, hd1, hd2, hd3, hd4, hd5, hd6, hd7, hd8⟩ := qz13 HX5.out
    obtain ⟨hz0, hz1, hz2, hz3, hz4, hz5, hz6, hz7, hz8⟩ := qz13 HZ5.out
    obtain ⟨hf0, hf1, hf2, hf3, hf4, hf5, hf6, hf7, hf8⟩ := qz17 HZ5.out
    obtain ⟨hu0, hu1, hu2, hu3, hu4, hu5, hu6, hu7, hu8⟩ := qz17 HX5.out
    go_wp2
    refine ret9 (g := w.heap.size + 2) rfl rfl rfl (qz34 HZ5.out _ _ _ _ _ _ _ _ _) ?_
    rw [HV.out]
    exact DPost.same (d := ⟨ta, ti, st, 3, 0, true, og, cm, sw⟩) rfl (qz23 HB5.out (by omega) _ _ _ _ _ _ _ _ _)
theorem onV_go {d : Drv} {n ph : Int} (h : d.ap = n) (hb : n + 1 ≤ 9223372036854775807) (h0 : 0 ≤ n := by omega) : onV d ph = if n + 1 < ((qz20 d.st).length : Int) then { d with ap := n + 1 } else { d with ap := 0, ph := ph } := by
  have hw : wrap64 (d.ap + 1) = n + 1 := by rw [h]; unfold wrap64; omega
  unfold onV
  rw [hw]
  by_cases c : n + 1 < ((qz20 d.st).length : Int)
  · rw [if_pos c, partV_in (by omega) c, if_pos rfl]
  · rw [if_neg c, partV_out (by omega), if_neg (by simp)]
    unfold toV
    simp
theorem next_parts {d : Drv} (h : d.ph = 2 ∨ d.ph = 4) (hn : (nextV d).2.2 = true) : 0 ≤ d.ap ∧ d.ap < ((qz20 d.st).length : Int) := by
  by_cases hin : 0 ≤ d.ap ∧ d.ap < ((qz20 d.st).length : Int)
  · exact hin
  · have hp : partV d.st d.ap = (0, false) := by unfold partV; rw [if_pos (by omega)]
    rcases h with h | h
    · have ha : qz28 d = (0, ⟨3, 0, 0, ⟨#[]⟩, putsV d.st 0, false, []⟩, false) := by
        unfold qz28
        rw [if_neg (by omega), if_neg (by omega), if_pos h, hp]
      rw [next_no ha] at hn
      cases hn
    · have ha : qz28 d = (0, ⟨4, 0, 0, ⟨#[]⟩, [], d.cm, []⟩, false) := by
        unfold qz28
        rw [if_neg (by omega), if_neg (by omega), if_neg (by omega), if_neg (by omega), if_pos h, hp]
      rw [next_no ha] at hn
      cases hn
theorem next_ph {d : Drv} (hn : (nextV d).2.2 = true) : d.ph = 0 ∨ d.ph = 1 ∨ d.ph = 2 ∨ d.ph = 3 ∨ d.ph = 4 := by
  by_cases h : d.ph = 0 ∨ d.ph = 1 ∨ d.ph = 2 ∨ d.ph = 3 ∨ d.ph = 4
  · exact h
  · have ha : qz28 d = (0, zOrd, false) := by
      unfold qz28
      rw [if_neg (by omega), if_neg (by omega), if_neg (by omega), if_neg (by omega), if_neg (by omega)]
    rw [next_no ha] at hn
    cases hn
set_option maxHeartbeats 2000000 in
set_option maxRecDepth 100000 in
theorem refHear_2 (ta ti : Int) (A : Option Addr) (c : Nat) (st : List S53) (ph ap : Int) (fa og cm : Bool) (B : Option Addr) (e9 : Nat) (sw : List S51) (er : Int) (va : ByteArray) (ve : Int) (fo co : Bool) (w : World) (hr : Kd.C k53 w A st.length st) (hc : st.length ≤ c) (hq : Kd.C k51 w B sw.length sw) (hqc : sw.length ≤ e9) (hl : st.length ≤ 3000000000000) (hg : ∀ x ∈ st, 0 ≤ x.f0 ∧ x.f0 ≤ 18446744073709551615) (he : ph = 2) (hn : (nextV ⟨ta, ti, st, ph, ap, fa, og, cm, sw⟩).2.2 = true) :
    Calls Try.prog 15 #[.agg #[.int .u64 ta, .int .u64 ti, .slice A st.length c, .int .i64 ph, .int .i64 ap, .bool fa, .bool og, .bool cm, .slice B sw.length e9], .agg #[.int .i64 er, .string va, .int .u64 ve, .bool fo, .bool co]] w (DPost A c B e9 sw (hearV ⟨ta, ti, st, ph, ap, fa, og, cm, sw⟩ er va ve fo co) w) := by
  subst he
  have hv : hearV ⟨ta, ti, st, 2, ap, fa, og, cm, sw⟩ er va ve fo co = if er = 0 then onV ⟨ta, ti, st, 2, ap, fa, og, cm, sw⟩ 3 else ⟨ta, ti, st, 3, 0, true, og, cm, sw⟩ := by
    unfold hearV
    rw [if_neg (by rw [hn]; simp)]
    show (if er = 0 then onV _ 3 else toV _ 3 true) = _
    unfold toV
    simp
  have HV := qza.mk hv
  have HAP := qza.mk (next_parts (d := ⟨ta, ti, st, 2, ap, fa, og, cm, sw⟩) (Or.inl rfl) hn)
  clear hv
  have HR := qza.mk hr
  have HQ := qza.mk hq
  have HG := qza.mk hg
  have hx := qz14 (qz14 (heap_alloc_new w (.cells #[.int .u64 ta, .int .u64 ti, .slice A st.length c, .int .i64 2, .int .i64 ap, .bool fa, .bool og, .bool cm, .slice B sw.length e9] 30)) (.cells #[.int .i64 er, .string va, .int .u64 ve, .bool fo, .bool co] 33)) (.cells #[.int .u64 0, .int .u64 0, .slice none 0 0, .int .i64 0, .int .i64 0, .bool false, .bool false, .bool false, .slice none 0 0] 30)
  have ha := qz14 (heap_alloc_new (w.alloc (.cells #[.int .u64 ta, .int .u64 ti, .slice A st.length c, .int .i64 2, .int .i64 ap, .bool fa, .bool og, .bool cm, .slice B sw.length e9] 30)) (.cells #[.int .i64 er, .string va, .int .u64 ve, .bool fo, .bool co] 33)) (.cells #[.int .u64 0, .int .u64 0, .slice none 0 0, .int .i64 0, .int .i64 0, .bool false, .bool false, .bool false, .slice none 0 0] 30)
  have hz : (((w.alloc (.cells #[.int .u64 ta, .int .u64 ti, .slice A st.length c, .int .i64 2, .int .i64 ap, .bool fa, .bool og, .bool cm, .slice B sw.length e9] 30)).alloc (.cells #[.int .i64 er, .string va, .int .u64 ve, .bool fo, .bool co] 33)).alloc (.cells #[.int .u64 0, .int .u64 0, .slice none 0 0, .int .i64 0, .int .i64 0, .bool false, .bool false, .bool false, .slice none 0 0] 30)).heap[w.heap.size + 2]? = some (.cells #[.int .u64 0, .int .u64 0, .slice none 0 0, .int .i64 0, .int .i64 0, .bool false, .bool false, .bool false, .slice none 0 0] 30 (0, 0)) := by
    have h := heap_alloc_new ((w.alloc (.cells #[.int .u64 ta, .int .u64 ti, .slice A st.length c, .int .i64 2, .int .i64 ap, .bool fa, .bool og, .bool cm, .slice B sw.length e9] 30)).alloc (.cells #[.int .i64 er, .string va, .int .u64 ve, .bool fo, .bool co] 33)) (.cells #[.int .u64 0, .int .u64 0, .slice none 0 0, .int .i64 0, .int .i64 0, .bool false, .bool false, .bool false, .slice none 0 0] 30)
    rw [World.size_alloc, World.size_alloc] at h
    exact h
  rw [World.size_alloc] at ha
  have HB0 := qza.mk ((((Below.refl w.heap.size w).alloc (Nat.le_refl _) (.cells #[.int .u64 ta, .int .u64 ti, .slice A st.length c, .int .i64 2, .int .i64 ap, .bool fa, .bool og, .bool cm, .slice B sw.length e9] 30)).alloc (by simp) (.cells #[.int .i64 er, .string va, .int .u64 ve, .bool fo, .bool co] 33)).alloc (by simp; omega) (.cells #[.int .u64 0, .int .u64 0, .slice none 0 0, .int .i64 0, .int .i64 0, .bool false, .bool false, .bool false, .slice none 0 0] 30))
  have HSZ : qza (w.heap.size + 3 ≤ (((w.alloc (.cells #[.int .u64 ta, .int .u64 ti, .slice A st.length c, .int .i64 2, .int .i64 ap, .bool fa, .bool og, .bool cm, .slice B sw.length e9] 30)).alloc (.cells #[.int .i64 er, .string va, .int .u64 ve, .bool fo, .bool co] 33)).alloc (.cells #[.int .u64 0, .int .u64 0, .slice none 0 0, .int .i64 0, .int .i64 0, .bool false, .bool false, .bool false, .slice none 0 0] 30)).heap.size) := ⟨by simp⟩
  clear hr hg hq
  go_enter Try.func15, Try.ntmps15
  have HX := qza.mk hx
  have HA := qza.mk ha
  have HZ := qza.mk hz
  clear hx ha hz
  go_upto_region 1 with (fail)
  change Code.wp _ _ _ _ (((w.alloc (.cells #[.int .u64 ta, .int .u64 ti, .slice A st.length c, .int .i64 2, .int .i64 ap, .bool fa, .bool og, .bool cm, .slice B sw.length e9] 30)).alloc (.cells #[.int .i64 er, .string va, .int .u64 ve, .bool fo, .bool co] 33)).alloc (.cells #[.int .u64 0, .int .u64 0, .slice none 0 0, .int .i64 0, .int .i64 0, .bool false, .bool false, .bool false, .slice none 0 0] 30))
  generalize ((w.alloc (.cells #[.int .u64 ta, .int .u64 ti, .slice A st.length c, .int .i64 2, .int .i64 ap, .bool fa, .bool og, .bool cm, .slice B sw.length e9] 30)).alloc (.cells #[.int .i64 er, .string va, .int .u64 ve, .bool fo, .bool co] 33)).alloc (.cells #[.int .u64 0, .int .u64 0, .slice none 0 0, .int .i64 0, .int .i64 0, .bool false, .bool false, .bool false, .slice none 0 0] 30) = w1 at *
  obtain ⟨hd0, hd1, hd2, hd3, hd4, hd5, hd6, hd7, hd8⟩ := qz13 HX.out
  obtain ⟨ha0, ha1, ha2, ha3, ha4⟩ := qz27 HA.out
  obtain ⟨hz0, hz1, hz2, hz3, hz4, hz5, hz6, hz7, hz8⟩ := qz13 HZ.out
  obtain ⟨hf0, hf1, hf2, hf3, hf4, hf5, hf6, hf7, hf8⟩ := qz17 HZ.out
  have HNX := qza.mk (qz50 ta ti A c st 2 ap fa og cm B e9 sw w1 (Kd.C_below HR.out HB0.out) hc (Kd.C_below HQ.out HB0.out) hqc hl HG.out)
  unfold qz40 at HNX
  generalize nextV ⟨ta, ti, st, 2, ap, fa, og, cm, sw⟩ = av at *
  obtain ⟨ag, ⟨ak, a1, a2, akey, apu, acm, apa⟩, ais⟩ := av
  unfold oagg at HNX
  dsimp only at *
  subst hn
  go_upto_region 2 with (go_at_call 11; refine (HNX.out).mono ?_; rintro e w2 ⟨vp, vq, rfl, hp2, hq2, hb2⟩; obtain ⟨A2, c2, rfl, hc2, hC2⟩ := Sl.of_R hp2; obtain ⟨A3, c3, rfl, hc3, hC3⟩ := Sl.of_R hq2; clear hC2 hC3 hp2 hq2; have HB2 := qza.mk hb2; clear hb2)
  have HX3 := qza.mk (qz14 (qz16 HB2.out HX.out) (.cells #[.int .i64 ak, .int .u64 a1, .int .u64 a2, .string akey, .slice A2 apu.length c2, .bool acm, .slice A3 apa.length c3] 38))
  have HA3 := qza.mk (qz14 (qz16 HB2.out HA.out) (.cells #[.int .i64 ak, .int .u64 a1, .int .u64 a2, .string akey, .slice A2 apu.length c2, .bool acm, .slice A3 apa.length c3] 38))
  have HZ3 := qza.mk (qz14 (qz16 HB2.out HZ.out) (.cells #[.int .i64 ak, .int .u64 a1, .int .u64 a2, .string akey, .slice A2 apu.length c2, .bool acm, .slice A3 apa.length c3] 38))
  have HB3 := qza.mk ((HB0.out.trans (HB2.out.mono HB0.out.size)).alloc (HB0.out.trans (HB2.out.mono HB0.out.size)).size (.cells #[.int .i64 ak, .int .u64 a1, .int .u64 a2, .string akey, .slice A2 apu.length c2, .bool acm, .slice A3 apa.length c3] 38))
  have hs3 : (w2.alloc (.cells #[.int .i64 ak, .int .u64 a1, .int .u64 a2, .string akey, .slice A2 apu.length c2, .bool acm, .slice A3 apa.length c3] 38)).heap.size = w2.heap.size + 1 := by simp
  have hs2 := HB2.out.size
  have hsz := HSZ.out
  have hsz3 : w.heap.size + 3 ≤ (w2.alloc (.cells #[.int .i64 ak, .int .u64 a1, .int .u64 a2, .string akey, .slice A2 apu.length c2, .bool acm, .slice A3 apa.length c3] 38)).heap.size := by omega
  clear hs3
  change Code.wp _ _ _ _ (w2.alloc (.cells #[.int .i64 ak, .int .u64 a1, .int .u64 a2, .string akey, .slice A2 apu.length c2, .bool acm, .slice A3 apa.length c3] 38))
  generalize w2.alloc (.cells #[.int .i64 ak, .int .u64 a1, .int .u64 a2, .string akey, .slice A2 apu.length c2, .bool acm, .slice A3 apa.length c3] 38) = w3 at *
  clear hd0 hd1 hd2 hd3 hd4 hd5 hd6 hd7 hd8 ha0 ha1 ha2 ha3 ha4 hz0 hz1 hz2 hz3 hz4 hz5 hz6 hz7 hz8 hf0 hf1 hf2 hf3 hf4 hf5 hf6 hf7 hf8 HX HA HZ HNX
  obtain ⟨hd0, hd1, hd2, hd3, hd4, hd5, hd6, hd7, hd8⟩ := qz13 HX3.out
  obtain ⟨ha0, ha1, ha2, ha3, ha4⟩ := qz27 HA3.out
  obtain ⟨hz0, hz1, hz2, hz3, hz4, hz5, hz6, hz7, hz8⟩ := qz13 HZ3.out
  obtain ⟨hf0, hf1, hf2, hf3, hf4, hf5, hf6, hf7, hf8⟩ := qz17 HZ3.out
  have HPA := qza.mk (qz57 ta ti A c st w3 (Kd.C_below HR.out HB3.out) hc hl)
  go_upto_region 5 with (go_at_call 19; refine (HPA.out).mono ?_; rintro e w4 ⟨Bp, dp, rfl, hdp, hCp, hb4⟩; clear hCp; have HP4a := qza.mk hb4; clear hb4)
  have HX4 := qza.mk (qz16 HP4a.out HX3.out)
  have HA4 := qza.mk (qz16 HP4a.out HA3.out)
  have HZ4 := qza.mk (qz16 HP4a.out HZ3.out)
  have HB4 := qza.mk (HB3.out.trans (HP4a.out.mono HB3.out.size))
  have hsz4 : w.heap.size + 3 ≤ w4.heap.size := Nat.le_trans hsz3 HP4a.out.size
  clear hd0 hd1 hd2 hd3 hd4 hd5 hd6 hd7 hd8 ha0 ha1 ha2 ha3 ha4 hz0 hz1 hz2 hz3 hz4 hz5 hz6 hz7 hz8 hf0 hf1 hf2 hf3 hf4 hf5 hf6 hf7 hf8 HX3 HA3 HZ3 HB3 HPA HP4a hsz3
  obtain ⟨hd0, hd1, hd2, hd3, hd4, hd5, hd6, hd7, hd8⟩ := qz13 HX4.out
  obtain ⟨ha0, ha1, ha2, ha3, ha4⟩ := qz27 HA4.out
  obtain ⟨hz0, hz1, hz2, hz3, hz4, hz5, hz6, hz7, hz8⟩ := qz13 HZ4.out
  obtain ⟨hf0, hf1, hf2, hf3, hf4, hf5, hf6, hf7, hf8⟩ := qz17 HZ4.out
  obtain ⟨hu0, hu1, hu2, hu3, hu4, hu5, hu6, hu7, hu8⟩ := qz17 HX4.out
  by_cases her : er = 0
  · rw [if_pos her] at HV
    have hz : (er != 0) = false := by rw [her]; rfl
    clear her
    obtain ⟨hap0, hap1⟩ := HAP.out
    obtain ⟨n, rfl⟩ : ∃ n : Nat, ap = (n : Int) := ⟨ap.toNat, by omega⟩
    have hplen := parts_len20 st hl
    have hn1 : n < (qz20 st).length := by omega
    have hnz1 : (0 : Int) ≤ (n : Int) := by omega
    have hnw : IntKind.i64.wrap ((n : Int) + 1) = (n : Int) + 1 := by rw [IntKind.wrap_i64]; omega
    rw [onV_go (d := ⟨ta, ti, st, 2, (n : Int), fa, og, cm, sw⟩) rfl (by show (n : Int) + 1 ≤ 9223372036854775807; omega)] at HV
    dsimp only at HV
    go_upto_region 27 with (fail)
    have HX5 : qza ((w4.setCell ⟨w.heap.size, 4, none⟩ (.int .i64 ((n : Int) + 1))).heap[w.heap.size]? = some (.cells #[.int .u64 ta, .int .u64 ti, .slice A st.length c, .int .i64 2, .int .i64 ((n : Int) + 1), .bool fa, .bool og, .bool cm, .slice B sw.length e9] 30 (0, 0))) := ⟨(qz12 (cs := #[.int .u64 ta, .int .u64 ti, .slice A st.length c, .int .i64 2, .int .i64 (n : Int), .bool fa, .bool og, .bool cm, .slice B sw.length e9]) HX4.out 4 (.int .i64 ((n : Int) + 1)) rfl)⟩
    have HZ5 : qza ((w4.setCell ⟨w.heap.size, 4, none⟩ (.int .i64 ((n : Int) + 1))).heap[w.heap.size + 2]? = some (.cells #[.int .u64 0, .int .u64 0, .slice none 0 0, .int .i64 0, .int .i64 0, .bool false, .bool false, .bool false, .slice none 0 0] 30 (0, 0))) := ⟨((RowKit.Below.heap_setCell w4 ⟨w.heap.size, 4, none⟩ (.int .i64 ((n : Int) + 1)) (w.heap.size + 2) (show w.heap.size + 2 ≠ w.heap.size by omega)).trans HZ4.out)⟩
    have HB5 : qza (Below w.heap.size w (w4.setCell ⟨w.heap.size, 4, none⟩ (.int .i64 ((n : Int) + 1)))) := ⟨(RowKit.Below.setCell (p := ⟨w.heap.size, 4, none⟩) HB4.out (Nat.le_refl _) (.int .i64 ((n : Int) + 1)))⟩
    change Code.wp _ _ _ _ (w4.setCell ⟨w.heap.size, 4, none⟩ (.int .i64 ((n : Int) + 1)))
    generalize (w4.setCell ⟨w.heap.size, 4, none⟩ (.int .i64 ((n : Int) + 1))) = w5 at *
    clear hd0 hd1 hd2 hd3 hd4 hd5 hd6 hd7 hd8 hz0 hz1 hz2 hz3 hz4 hz5 hz6 hz7 hz8 hf0 hf1 hf2 hf3 hf4 hf5 hf6 hf7 hf8 hu0 hu1 hu2 hu3 hu4 hu5 hu6 hu7 hu8 HX4 HZ4 HB4
    obtain ⟨hd0, hd1, hd2, hd3, hd4, hd5, hd6, hd7, hd8⟩ := qz13 HX5.out
    obtain ⟨hz0, hz1, hz2, hz3, hz4, hz5, hz6, hz7, hz8⟩ := qz13 HZ5.out
    obtain ⟨hf0, hf1, hf2, hf3, hf4, hf5, hf6, hf7, hf8⟩ := qz17 HZ5.out
    obtain ⟨hu0, hu1, hu2, hu3, hu4, hu5, hu6, hu7, hu8⟩ := qz17 HX5.out
    by_cases hge : ((qz20 st).length : Int) ≤ (n : Int) + 1
    · rw [if_neg (by omega)] at HV
      go_upto_region 43 with (fail)
      have HX6 : qza (((w5.setCell ⟨w.heap.size, 3, none⟩ (.int .i64 3)).setCell ⟨w.heap.size, 4, none⟩ (.int .i64 0)).heap[w.heap.size]? = some (.cells #[.int .u64 ta, .int .u64 ti, .slice A st.length c, .int .i64 3, .int .i64 0, .bool fa, .bool og, .bool cm, .slice B sw.length e9] 30 (0, 0))) := ⟨(qz12 (cs := #[.int .u64 ta, .int .u64 ti, .slice A st.length c, .int .i64 3, .int .i64 ((n : Int) + 1), .bool fa, .bool og, .bool cm, .slice B sw.length e9]) (qz12 (cs := #[.int .u64 ta, .int .u64 ti, .slice A st.length c, .int .i64 2, .int .i64 ((n : Int) + 1), .bool fa, .bool og, .bool cm, .slice B sw.length e9]) HX5.out 3 (.int .i64 3) rfl) 4 (.int .i64 0) rfl)⟩
      have HZ6 : qza (((w5.setCell ⟨w.heap.size, 3, none⟩ (.int .i64 3)).setCell ⟨w.heap.size, 4, none⟩ (.int .i64 0)).heap[w.heap.size + 2]? = some (.cells #[.int .u64 0, .int .u64 0, .slice none 0 0, .int .i64 0, .int .i64 0, .bool false, .bool false, .bool false, .slice none 0 0] 30 (0, 0))) := ⟨((RowKit.Below.heap_setCell (w5.setCell ⟨w.heap.size, 3, none⟩ (.int .i64 3)) ⟨w.heap.size, 4, none⟩ (.int .i64 0) (w.heap.size + 2) (show w.heap.size + 2 ≠ w.heap.size by omega)).trans ((RowKit.Below.heap_setCell w5 ⟨w.heap.size, 3, none⟩ (.int .i64 3) (w.heap.size + 2) (show w.heap.size + 2 ≠ w.heap.size by omega)).trans HZ5.out))⟩
      have HB6 : qza (Below w.heap.size w ((w5.setCell ⟨w.heap.size, 3, none⟩ (.int .i64 3)).setCell ⟨w.heap.size, 4, none⟩ (.int .i64 0))) := ⟨(RowKit.Below.setCell (p := ⟨w.heap.size, 4, none⟩) (RowKit.Below.setCell (p := ⟨w.heap.size, 3, none⟩) HB5.out (Nat.le_refl _) (.int .i64 3)) (Nat.le_refl _) (.int .i64 0))⟩
      change Code.wp _ _ _ _ ((w5.setCell ⟨w.heap.size, 3, none⟩ (.int .i64 3)).setCell ⟨w.heap.size, 4, none⟩ (.int .i64 0))
      generalize ((w5.setCell ⟨w.heap.size, 3, none⟩ (.int .i64 3)).setCell ⟨w.heap.size, 4, none⟩ (.int .i64 0)) = w6 at *
      clear hd0 hd1 hd2 hd3 hd4 hd5 hd6 hd7 hd8 hz0 hz1 hz2 hz3 hz4 hz5 hz6 hz7 hz8 hf0 hf1 hf2 hf3 hf4 hf5 hf6 hf7 hf8 hu0 hu1 hu2 hu3 hu4 hu5 hu6 hu7 hu8 HX5 HZ5 HB5
      obtain ⟨hd0, hd1, hd2, hd3, hd4, hd5, hd6, hd7, hd8⟩ := qz13 HX6.out
      obtain ⟨hz0, hz1, hz2, hz3, hz4, hz5, hz6, hz7, hz8⟩ := qz13 HZ6.out
      obtain ⟨hf0, hf1, hf2, hf3, hf4, hf5, hf6, hf7, hf8⟩ := qz17 HZ6.out
      obtain ⟨hu0, hu1, hu2, hu3, hu4, hu5, hu6, hu7, hu8⟩ := qz17 HX6.out
      go_wp2
      refine ret9 (g := w.heap.size + 2) rfl rfl rfl (qz34 HZ6.out _ _ _ _ _ _ _ _ _) ?_
      rw [HV.out]
      exact DPost.same (d := ⟨ta, ti, st, 3, 0, fa, og, cm, sw⟩) rfl (qz23 HB6.out (by omega) _ _ _ _ _ _ _ _ _)
    · rw [if_pos (by omega)] at HV
      go_wp2
      refine ret9 (g := w.heap.size + 2) rfl rfl rfl (qz34 HZ5.out _ _ _ _ _ _ _ _ _) ?_
      rw [HV.out]
      exact DPost.same (d := ⟨ta, ti, st, 2, (n : Int) + 1, fa, og, cm, sw⟩) rfl (qz23 HB5.out (by omega) _ _ _ _ _ _ _ _ _)
  · rw [if_neg her] at HV
    have hz : (er != 0) = true := bne_iff_ne.2 her
    clear her
    go_upto_region 43 with (fail)
    have HX5 : qza ((((w4.setCell ⟨w.heap.size, 3, none⟩ (.int .i64 3)).setCell ⟨w.heap.size, 4, none⟩ (.int .i64 0)).setCell ⟨w.heap.size, 5, none⟩ (.bool true)).heap[w.heap.size]? = some (.cells #[.int .u64 ta, .int .u64 ti, .slice A st.length c, .int .i64 3, .int .i64 0, .bool true, .bool og, .bool cm, .slice B sw.length e9] 30 (0, 0))) := ⟨(qz12 (cs := #[.int .u64 ta, .int .u64 ti, .slice A st.length c, .int .i64 3, .int .i64 0, .bool fa, .bool og, .bool cm, .slice B sw.length e9]) (qz12 (cs := #[.int .u64 ta, .int .u64 ti, .slice A st.length c, .int .i64 3, .int .i64 ap, .bool fa, .bool og, .bool cm, .slice B sw.length e9]) (qz12 (cs := #[.int .u64 ta, .int .u64 ti, .slice A st.length c, .int .i64 2, .int .i64 ap, .bool fa, .bool og, .bool cm, .slice B sw.length e9]) HX4.out 3 (.int .i64 3) rfl) 4 (.int .i64 0) rfl) 5 (.bool true) rfl)⟩
    have HZ5 : qza ((((w4.setCell ⟨w.heap.size, 3, none⟩ (.int .i64 3)).setCell ⟨w.heap.size, 4, none⟩ (.int .i64 0)).setCell ⟨w.heap.size, 5, none⟩ (.bool true)).heap[w.heap.size + 2]? = some (.cells #[.int .u64 0, .int .u64 0, .slice none 0 0, .int .i64 0, .int .i64 0, .bool false, .bool false, .bool false, .slice none 0 0] 30 (0, 0))) := ⟨((RowKit.Below.heap_setCell ((w4.setCell ⟨w.heap.size, 3, none⟩ (.int .i64 3)).setCell ⟨w.heap.size, 4, none⟩ (.int .i64 0)) ⟨w.heap.size, 5, none⟩ (.bool true) (w.heap.size + 2) (show w.heap.size + 2 ≠ w.heap.size by omega)).trans ((RowKit.Below.heap_setCell (w4.setCell ⟨w.heap.size, 3, none⟩ (.int .i64 3)) ⟨w.heap.size, 4, none⟩ (.int .i64 0) (w.heap.size + 2) (show w.heap.size + 2 ≠ w.heap.size by omega)).trans ((RowKit.Below.heap_setCell w4 ⟨w.heap.size, 3, none⟩ (.int .i64 3) (w.heap.size + 2) (show w.heap.size + 2 ≠ w.heap.size by omega)).trans HZ4.out)))⟩
    have HB5 : qza (Below w.heap.size w (((w4.setCell ⟨w.heap.size, 3, none⟩ (.int .i64 3)).setCell ⟨w.heap.size, 4, none⟩ (.int .i64 0)).setCell ⟨w.heap.size, 5, none⟩ (.bool true))) := ⟨(RowKit.Below.setCell (p := ⟨w.heap.size, 5, none⟩) (RowKit.Below.setCell (p := ⟨w.heap.size, 4, none⟩) (RowKit.Below.setCell (p := ⟨w.heap.size, 3, none⟩) HB4.out (Nat.le_refl _) (.int .i64 3)) (Nat.le_refl _) (.int .i64 0)) (Nat.le_refl _) (.bool true))⟩
    change Code.wp _ _ _ _ (((w4.setCell ⟨w.heap.size, 3, none⟩ (.int .i64 3)).setCell ⟨w.heap.size, 4, none⟩ (.int .i64 0)).setCell ⟨w.heap.size, 5, none⟩ (.bool true))
    generalize (((w4.setCell ⟨w.heap.size, 3, none⟩ (.int .i64 3)).setCell ⟨w.heap.size, 4, none⟩ (.int .i64 0)).setCell ⟨w.heap.size, 5, none⟩ (.bool true)) = w5 at *
    clear hd0 hd1 hd2 hd3 hd4 hd5 hd6 hd7 hd8 hz0 hz1 hz2 hz3 hz4 hz5 hz6 hz7 hz8 hf0 hf1 hf2 hf3 hf4 hf5 hf6 hf7 hf8 hu0 hu1 hu2 hu3 hu4 hu5 hu6 hu7 hu8 HX4 HZ4 HB4
    obtain ⟨hd0, hd1, hd2, hd3, hd4, hd5, hd6, hd7, hd8⟩ := qz13 HX5.out
    obtain ⟨hz0, hz1, hz2, hz3, hz4, hz5, hz6, hz7, hz8⟩ := qz13 HZ5.out
    obtain ⟨hf0, hf1, hf2, hf3, hf4, hf5, hf6, hf7, hf8⟩ := qz17 HZ5.out
    obtain ⟨hu0, hu1, hu2, hu3, hu4, hu5, hu6, hu7, hu8⟩ := qz17 HX5.out
    go_wp2
    refine ret9 (g := w.heap.size + 2) rfl rfl rfl (qz34 HZ5.out _ _ _ _ _ _ _ _ _) ?_
    rw [HV.out]
    exact DPost.same (d := ⟨ta, ti, st, 3, 0, true, og, cm, sw⟩) rfl (qz23 HB5.out (by omega) _ _ _ _ _ _ _ _ _)
set_option maxHeartbeats 2000000 in
set_option maxRecDepth 100000 in
theorem refHear_4 (ta ti : Int) (A : Option Addr) (c : Nat) (st : List S53) (ph ap : Int) (fa og cm : Bool) (B : Option Addr) (e9 : Nat) (sw : List S51) (er : Int) (va : ByteArray) (ve : Int) (fo co : Bool) (w : World) (hr : Kd.C k53 w A st.length st) (hc : st.length ≤ c) (hq : Kd.C k51 w B sw.length sw) (hqc : sw.length ≤ e9) (hl : st.length ≤ 3000000000000) (hg : ∀ x ∈ st, 0 ≤ x.f0 ∧ x.f0 ≤ 18446744073709551615) (he : ph = 4) (hn : (nextV ⟨ta, ti, st, ph, ap, fa, og, cm, sw⟩).2.2 = true) :
    Calls Try.prog 15 #[.agg #[.int .u64 ta, .int .u64 ti, .slice A st.length c, .int .i64 ph, .int .i64 ap, .bool fa, .bool og, .bool cm, .slice B sw.length e9], .agg #[.int .i64 er, .string va, .int .u64 ve, .bool fo, .bool co]] w (DPost A c B e9 sw (hearV ⟨ta, ti, st, ph, ap, fa, og, cm, sw⟩ er va ve fo co) w) := by
  subst he
  have hv : hearV ⟨ta, ti, st, 4, ap, fa, og, cm, sw⟩ er va ve fo co = onV ⟨ta, ti, st, 4, ap, fa, og, cm, sw⟩ 5 := by
    unfold hearV
    rw [if_neg (by rw [hn]; simp)]
    rfl
  have HV := qza.mk hv
  have HAP := qza.mk (next_parts (d := ⟨ta, ti, st, 4, ap, fa, og, cm, sw⟩) (Or.inr rfl) hn)
  clear hv
  have HR := qza.mk hr
  have HQ := qza.mk hq
  have HG := qza.mk hg
  have hx := qz14 (qz14 (heap_alloc_new w (.cells #[.int .u64 ta, .int .u64 ti, .slice A st.length c, .int .i64 4, .int .i64 ap, .bool fa, .bool og, .bool cm, .slice B sw.length e9] 30)) (.cells #[.int .i64 er, .string va, .int .u64 ve, .bool fo, .bool co] 33)) (.cells #[.int .u64 0, .int .u64 0, .slice none 0 0, .int .i64 0, .int .i64 0, .bool false, .bool false, .bool false, .slice none 0 0] 30)
  have ha := qz14 (heap_alloc_new (w.alloc (.cells #[.int .u64 ta, .int .u64 ti, .slice A st.length c, .int .i64 4, .int .i64 ap, .bool fa, .bool og, .bool cm, .slice B sw.length e9] 30)) (.cells #[.int .i64 er, .string va, .int .u64 ve, .bool fo, .bool co] 33)) (.cells #[.int .u64 0, .int .u64 0, .slice none 0 0, .int .i64 0, .int .i64 0, .bool false, .bool false, .bool false, .slice none 0 0] 30)
  have hz : (((w.alloc (.cells #[.int .u64 ta, .int .u64 ti, .slice A st.length c, .int .i64 4, .int .i64 ap, .bool fa, .bool og, .bool cm, .slice B sw.length e9] 30)).alloc (.cells #[.int .i64 er, .string va, .int .u64 ve, .bool fo, .bool co] 33)).alloc (.cells #[.int .u64 0, .int .u64 0, .slice none 0 0, .int .i64 0, .int .i64 0, .bool false, .bool false, .bool false, .slice none 0 0] 30)).heap[w.heap.size + 2]? = some (.cells #[.int .u64 0, .int .u64 0, .slice none 0 0, .int .i64 0, .int .i64 0, .bool false, .bool false, .bool false, .slice none 0 0] 30 (0, 0)) := by
    have h := heap_alloc_new ((w.alloc (.cells #[.int .u64 ta, .int .u64 ti, .slice A st.length c, .int .i64 4, .int .i64 ap, .bool fa, .bool og, .bool cm, .slice B sw.length e9] 30)).alloc (.cells #[.int .i64 er, .string va, .int .u64 ve, .bool fo, .bool co] 33)) (.cells #[.int .u64 0, .int .u64 0, .slice none 0 0, .int .i64 0, .int .i64 0, .bool false, .bool false, .bool false, .slice none 0 0] 30)
    rw [World.size_alloc, World.size_alloc] at h
    exact h
  rw [World.size_alloc] at ha
  have HB0 := qza.mk ((((Below.refl w.heap.size w).alloc (Nat.le_refl _) (.cells #[.int .u64 ta, .int .u64 ti, .slice A st.length c, .int .i64 4, .int .i64 ap, .bool fa, .bool og, .bool cm, .slice B sw.length e9] 30)).alloc (by simp) (.cells #[.int .i64 er, .string va, .int .u64 ve, .bool fo, .bool co] 33)).alloc (by simp; omega) (.cells #[.int .u64 0, .int .u64 0, .slice none 0 0, .int .i64 0, .int .i64 0, .bool false, .bool false, .bool false, .slice none 0 0] 30))
  have HSZ : qza (w.heap.size + 3 ≤ (((w.alloc (.cells #[.int .u64 ta, .int .u64 ti, .slice A st.length c, .int .i64 4, .int .i64 ap, .bool fa, .bool og, .bool cm, .slice B sw.length e9] 30)).alloc (.cells #[.int .i64 er, .string va, .int .u64 ve, .bool fo, .bool co] 33)).alloc (.cells #[.int .u64 0, .int .u64 0, .slice none 0 0, .int .i64 0, .int .i64 0, .bool false, .bool false, .bool false, .slice none 0 0] 30)).heap.size) := ⟨by simp⟩
  clear hr hg hq
  go_enter Try.func15, Try.ntmps15
  have HX := qza.mk hx
  have HA := qza.mk ha
  have HZ := qza.mk hz
  clear hx ha hz
  go_upto_region 1 with (fail)
  change Code.wp _ _ _ _ (((w.alloc (.cells #[.int .u64 ta, .int .u64 ti, .slice A st.length c, .int .i64 4, .int .i64 ap, .bool fa, .bool og, .bool cm, .slice B sw.length e9] 30)).alloc (.cells #[.int .i64 er, .string va, .int .u64 ve, .bool fo, .bool co] 33)).alloc (.cells #[.int .u64 0, .int .u64 0, .slice none 0 0, .int .i64 0, .int .i64 0, .bool false, .bool false, .bool false, .slice none 0 0] 30))
  generalize ((w.alloc (.cells #[.int .u64 ta, .int .u64 ti, .slice A st.length c, .int .i64 4, .int .i64 ap, .bool fa, .bool og, .bool cm, .slice B sw.length e9] 30)).alloc (.cells #[.int .i64 er, .string va, .int .u64 ve, .bool fo, .bool co] 33)).alloc (.cells #[.int .u64 0, .int .u64 0, .slice none 0 0, .int .i64 0, .int .i64 0, .bool false, .bool false, .bool false, .slice none 0 0] 30) = w1 at *
  obtain ⟨hd0, hd1, hd2, hd3, hd4, hd5, hd6, hd7, hd8⟩ := qz13 HX.out
  obtain ⟨ha0, ha1, ha2, ha3, ha4⟩ := qz27 HA.out
  obtain ⟨hz0, hz1, hz2, hz3, hz4, hz5, hz6, hz7, hz8⟩ := qz13 HZ.out
  obtain ⟨hf0, hf1, hf2, hf3, hf4, hf5, hf6, hf7, hf8⟩ := qz17 HZ.out
  have HNX := qza.mk (qz50 ta ti A c st 4 ap fa og cm B e9 sw w1 (Kd.C_below HR.out HB0.out) hc (Kd.C_below HQ.out HB0.out) hqc hl HG.out)
  unfold qz40 at HNX
  generalize nextV ⟨ta, ti, st, 4, ap, fa, og, cm, sw⟩ = av at *
  obtain ⟨ag, ⟨ak, a1, a2, akey, apu, acm, apa⟩, ais⟩ := av
  unfold oagg at HNX
  dsimp only at *
  subst hn
  go_upto_region 2 with (go_at_call 11; refine (HNX.out).mono ?_; rintro e w2 ⟨vp, vq, rfl, hp2, hq2, hb2⟩; obtain ⟨A2, c2, rfl, hc2, hC2⟩ := Sl.of_R hp2; obtain ⟨A3, c3, rfl, hc3, hC3⟩ := Sl.of_R hq2; clear hC2 hC3 hp2 hq2; have HB2 := qza.mk hb2; clear hb2)
  have HX3 := qza.mk (qz14 (qz16 HB2.out HX.out) (.cells #[.int .i64 ak, .int .u64 a1, .int .u64 a2, .string akey, .slice A2 apu.length c2, .bool acm, .slice A3 apa.length c3] 38))
  have HA3 := qza.mk (qz14 (qz16 HB2.out HA.out) (.cells #[.int .i64 ak, .int .u64 a1, .int .u64 a2, .string akey, .slice A2 apu.length c2, .bool acm, .slice A3 apa.length c3] 38))
  have HZ3 := qza.mk (qz14 (qz16 HB2.out HZ.out) (.cells #[.int .i64 ak, .int .u64 a1, .int .u64 a2, .string akey, .slice A2 apu.length c2, .bool acm, .slice A3 apa.length c3] 38))
  have HB3 := qza.mk ((HB0.out.trans (HB2.out.mono HB0.out.size)).alloc (HB0.out.trans (HB2.out.mono HB0.out.size)).size (.cells #[.int .i64 ak, .int .u64 a1, .int .u64 a2, .string akey, .slice A2 apu.length c2, .bool acm, .slice A3 apa.length c3] 38))
  have hs3 : (w2.alloc (.cells #[.int .i64 ak, .int .u64 a1, .int .u64 a2, .string akey, .slice A2 apu.length c2, .bool acm, .slice A3 apa.length c3] 38)).heap.size = w2.heap.size + 1 := by simp
  have hs2 := HB2.out.size
  have hsz := HSZ.out
  have hsz3 : w.heap.size + 3 ≤ (w2.alloc (.cells #[.int .i64 ak, .int .u64 a1, .int .u64 a2, .string akey, .slice A2 apu.length c2, .bool acm, .slice A3 apa.length c3] 38)).heap.size := by omega
  clear hs3
  change Code.wp _ _ _ _ (w2.alloc (.cells #[.int .i64 ak, .int .u64 a1, .int .u64 a2, .string akey, .slice A2 apu.length c2, .bool acm, .slice A3 apa.length c3] 38))
  generalize w2.alloc (.cells #[.int .i64 ak, .int .u64 a1, .int .u64 a2, .string akey, .slice A2 apu.length c2, .bool acm, .slice A3 apa.length c3] 38) = w3 at *
  clear hd0 hd1 hd2 hd3 hd4 hd5 hd6 hd7 hd8 ha0 ha1 ha2 ha3 ha4 hz0 hz1 hz2 hz3 hz4 hz5 hz6 hz7 hz8 hf0 hf1 hf2 hf3 hf4 hf5 hf6 hf7 hf8 HX HA HZ HNX
  obtain ⟨hd0, hd1, hd2, hd3, hd4, hd5, hd6, hd7, hd8⟩ := qz13 HX3.out
  obtain ⟨ha0, ha1, ha2, ha3, ha4⟩ := qz27 HA3.out
  obtain ⟨hz0, hz1, hz2, hz3, hz4, hz5, hz6, hz7, hz8⟩ := qz13 HZ3.out
  obtain ⟨hf0, hf1, hf2, hf3, hf4, hf5, hf6, hf7, hf8⟩ := qz17 HZ3.out
  have HPA := qza.mk (qz57 ta ti A c st w3 (Kd.C_below HR.out HB3.out) hc hl)
  go_upto_region 5 with (go_at_call 19; refine (HPA.out).mono ?_; rintro e w4 ⟨Bp, dp, rfl, hdp, hCp, hb4⟩; clear hCp; have HP4a := qza.mk hb4; clear hb4)
  have HX4 := qza.mk (qz16 HP4a.out HX3.out)
  have HA4 := qza.mk (qz16 HP4a.out HA3.out)
  have HZ4 := qza.mk (qz16 HP4a.out HZ3.out)
  have HB4 := qza.mk (HB3.out.trans (HP4a.out.mono HB3.out.size))
  have hsz4 : w.heap.size + 3 ≤ w4.heap.size := Nat.le_trans hsz3 HP4a.out.size
  clear hd0 hd1 hd2 hd3 hd4 hd5 hd6 hd7 hd8 ha0 ha1 ha2 ha3 ha4 hz0 hz1 hz2 hz3 hz4 hz5 hz6 hz7 hz8 hf0 hf1 hf2 hf3 hf4 hf5 hf6 hf7 hf8 HX3 HA3 HZ3 HB3 HPA HP4a hsz3
  obtain ⟨hd0, hd1, hd2, hd3, hd4, hd5, hd6, hd7, hd8⟩ := qz13 HX4.out
  obtain ⟨ha0, ha1, ha2, ha3, ha4⟩ := qz27 HA4.out
  obtain ⟨hz0, hz1, hz2, hz3, hz4, hz5, hz6, hz7, hz8⟩ := qz13 HZ4.out
  obtain ⟨hf0, hf1, hf2, hf3, hf4, hf5, hf6, hf7, hf8⟩ := qz17 HZ4.out
  obtain ⟨hu0, hu1, hu2, hu3, hu4, hu5, hu6, hu7, hu8⟩ := qz17 HX4.out
  obtain ⟨hap0, hap1⟩ := HAP.out
  obtain ⟨n, rfl⟩ : ∃ n : Nat, ap = (n : Int) := ⟨ap.toNat, by omega⟩
  have hplen := parts_len20 st hl
  have hn1 : n < (qz20 st).length := by omega
  have hnz1 : (0 : Int) ≤ (n : Int) := by omega
  have hnw : IntKind.i64.wrap ((n : Int) + 1) = (n : Int) + 1 := by rw [IntKind.wrap_i64]; omega
  rw [onV_go (d := ⟨ta, ti, st, 4, (n : Int), fa, og, cm, sw⟩) rfl (by show (n : Int) + 1 ≤ 9223372036854775807; omega)] at HV
  dsimp only at HV
  go_upto_region 36 with (fail)
  have HX5 : qza ((w4.setCell ⟨w.heap.size, 4, none⟩ (.int .i64 ((n : Int) + 1))).heap[w.heap.size]? = some (.cells #[.int .u64 ta, .int .u64 ti, .slice A st.length c, .int .i64 4, .int .i64 ((n : Int) + 1), .bool fa, .bool og, .bool cm, .slice B sw.length e9] 30 (0, 0))) := ⟨(qz12 (cs := #[.int .u64 ta, .int .u64 ti, .slice A st.length c, .int .i64 4, .int .i64 (n : Int), .bool fa, .bool og, .bool cm, .slice B sw.length e9]) HX4.out 4 (.int .i64 ((n : Int) + 1)) rfl)⟩
  have HZ5 : qza ((w4.setCell ⟨w.heap.size, 4, none⟩ (.int .i64 ((n : Int) + 1))).heap[w.heap.size + 2]? = some (.cells #[.int .u64 0, .int .u64 0, .slice none 0 0, .int .i64 0, .int .i64 0, .bool false, .bool false, .bool false, .slice none 0 0] 30 (0, 0))) := ⟨((RowKit.Below.heap_setCell w4 ⟨w.heap.size, 4, none⟩ (.int .i64 ((n : Int) + 1)) (w.heap.size + 2) (show w.heap.size + 2 ≠ w.heap.size by omega)).trans HZ4.out)⟩
  have HB5 : qza (Below w.heap.size w (w4.setCell ⟨w.heap.size, 4, none⟩ (.int .i64 ((n : Int) + 1)))) := ⟨(RowKit.Below.setCell (p := ⟨w.heap.size, 4, none⟩) HB4.out (Nat.le_refl _) (.int .i64 ((n : Int) + 1)))⟩
  change Code.wp _ _ _ _ (w4.setCell ⟨w.heap.size, 4, none⟩ (.int .i64 ((n : Int) + 1)))
  generalize (w4.setCell ⟨w.heap.size, 4, none⟩ (.int .i64 ((n : Int) + 1))) = w5 at *
  clear hd0 hd1 hd2 hd3 hd4 hd5 hd6 hd7 hd8 hz0 hz1 hz2 hz3 hz4 hz5 hz6 hz7 hz8 hf0 hf1 hf2 hf3 hf4 hf5 hf6 hf7 hf8 hu0 hu1 hu2 hu3 hu4 hu5 hu6 hu7 hu8 HX4 HZ4 HB4
  obtain ⟨hd0, hd1, hd2, hd3, hd4, hd5, hd6, hd7, hd8⟩ := qz13 HX5.out
  obtain ⟨hz0, hz1, hz2, hz3, hz4, hz5, hz6, hz7, hz8⟩ := qz13 HZ5.out
  obtain ⟨hf0, hf1, hf2, hf3, hf4, hf5, hf6, hf7, hf8⟩ := qz17 HZ5.out
  obtain ⟨hu0, hu1, hu2, hu3, hu4, hu5, hu6, hu7, hu8⟩ := qz17 HX5.out
  by_cases hge : ((qz20 st).length : Int) ≤ (n : Int) + 1
  · rw [if_neg (by omega)] at HV
    go_upto_region 43 with (fail)
    have HX6 : qza (((w5.setCell ⟨w.heap.size, 3, none⟩ (.int .i64 5)).setCell ⟨w.heap.size, 4, none⟩ (.int .i64 0)).heap[w.heap.size]? = some (.cells #[.int .u64 ta, .int .u64 ti, .slice A st.length c, .int .i64 5, .int .i64 0, .bool fa, .bool og, .bool cm, .slice B sw.length e9] 30 (0, 0))) := ⟨(qz12 (cs := #[.int .u64 ta, .int .u64 ti, .slice A st.length c, .int .i64 5, .int .i64 ((n : Int) + 1), .bool fa, .bool og, .bool cm, .slice B sw.length e9]) (qz12 (cs := #[.int .u64 ta, .int .u64 ti, .slice A st.length c, .int .i64 4, .int .i64 ((n : Int) + 1), .bool fa, .bool og, .bool cm, .slice B sw.length e9]) HX5.out 3 (.int .i64 5) rfl) 4 (.int .i64 0) rfl)⟩
    have HZ6 : qza (((w5.setCell ⟨w.heap.size, 3, none⟩ (.int .i64 5)).setCell ⟨w.heap.size, 4, none⟩ (.int .i64 0)).heap[w.heap.size + 2]? = some (.cells #[.int .u64 0, .int .u64 0, .slice none 0 0, .int .i64 0, .int .i64 0, .bool false, .bool false, .bool false, .slice none 0 0] 30 (0, 0))) := ⟨((RowKit.Below.heap_setCell (w5.setCell ⟨w.heap.size, 3, none⟩ (.int .i64 5)) ⟨w.heap.size, 4, none⟩ (.int .i64 0) (w.heap.size + 2) (show w.heap.size + 2 ≠ w.heap.size by omega)).trans ((RowKit.Below.heap_setCell w5 ⟨w.heap.size, 3, none⟩ (.int .i64 5) (w.heap.size + 2) (show w.heap.size + 2 ≠ w.heap.size by omega)).trans HZ5.out))⟩
    have HB6 : qza (Below w.heap.size w ((w5.setCell ⟨w.heap.size, 3, none⟩ (.int .i64 5)).setCell ⟨w.heap.size, 4, none⟩ (.int .i64 0))) := ⟨(RowKit.Below.setCell (p := ⟨w.heap.size, 4, none⟩) (RowKit.Below.setCell (p := ⟨w.heap.size, 3, none⟩) HB5.out (Nat.le_refl _) (.int .i64 5)) (Nat.le_refl _) (.int .i64 0))⟩
    change Code.wp _ _ _ _ ((w5.setCell ⟨w.heap.size, 3, none⟩ (.int .i64 5)).setCell ⟨w.heap.size, 4, none⟩ (.int .i64 0))
    generalize ((w5.setCell ⟨w.heap.size, 3, none⟩ (.int .i64 5)).setCell ⟨w.heap.size, 4, none⟩ (.int .i64 0)) = w6 at *
    clear hd0 hd1 hd2 hd3 hd4 hd5 hd6 hd7 hd8 hz0 hz1 hz2 hz3 hz4 hz5 hz6 hz7 hz8 hf0 hf1 hf2 hf3 hf4 hf5 hf6 hf7 hf8 hu0 hu1 hu2 hu3 hu4 hu5 hu6 hu7 hu8 HX5 HZ5 HB5
    obtain ⟨hd0, hd1, hd2, hd3, hd4, hd5, hd6, hd7, hd8⟩ := qz13 HX6.out
    obtain ⟨hz0, hz1, hz2, hz3, hz4, hz5, hz6, hz7, hz8⟩ := qz13 HZ6.out
    obtain ⟨hf0, hf1, hf2, hf3, hf4, hf5, hf6, hf7, hf8⟩ := qz17 HZ6.out
    obtain ⟨hu0, hu1, hu2, hu3, hu4, hu5, hu6, hu7, hu8⟩ := qz17 HX6.out
    go_wp2
    refine ret9 (g := w.heap.size + 2) rfl rfl rfl (qz34 HZ6.out _ _ _ _ _ _ _ _ _) ?_
    rw [HV.out]
    exact DPost.same (d := ⟨ta, ti, st, 5, 0, fa, og, cm, sw⟩) rfl (qz23 HB6.out (by omega) _ _ _ _ _ _ _ _ _)
  · rw [if_pos (by omega)] at HV
    go_wp2
    refine ret9 (g := w.heap.size + 2) rfl rfl rfl (qz34 HZ5.out _ _ _ _ _ _ _ _ _) ?_
    rw [HV.out]
    exact DPost.same (d := ⟨ta, ti, st, 4, (n : Int) + 1, fa, og, cm, sw⟩) rfl (qz23 HB5.out (by omega) _ _ _ _ _ _ _ _ _)
set_option maxHeartbeats 2000000 in
set_option maxRecDepth 100000 in
theorem refHear_3 (ta ti : Int) (A : Option Addr) (c : Nat) (st : List S53) (ph ap : Int) (fa og cm : Bool) (B : Option Addr) (e9 : Nat) (sw : List S51) (er : Int) (va : ByteArray) (ve : Int) (fo co : Bool) (w : World) (hr : Kd.C k53 w A st.length st) (hc : st.length ≤ c) (hq : Kd.C k51 w B sw.length sw) (hqc : sw.length ≤ e9) (hl : st.length ≤ 3000000000000) (hg : ∀ x ∈ st, 0 ≤ x.f0 ∧ x.f0 ≤ 18446744073709551615) (he : ph = 3) (hn : (nextV ⟨ta, ti, st, ph, ap, fa, og, cm, sw⟩).2.2 = true) :
    Calls Try.prog 15 #[.agg #[.int .u64 ta, .int .u64 ti, .slice A st.length c, .int .i64 ph, .int .i64 ap, .bool fa, .bool og, .bool cm, .slice B sw.length e9], .agg #[.int .i64 er, .string va, .int .u64 ve, .bool fo, .bool co]] w (DPost A c B e9 sw (hearV ⟨ta, ti, st, ph, ap, fa, og, cm, sw⟩ er va ve fo co) w) := by
  subst he
  have hv : hearV ⟨ta, ti, st, 3, ap, fa, og, cm, sw⟩ er va ve fo co = ⟨ta, ti, st, 4, 0, fa, og, decide (er = 0) && co, sw⟩ := by
    unfold hearV
    rw [if_neg (by rw [hn]; simp)]
    show toV _ 4 false = _
    unfold toV
    simp
  have HV := qza.mk hv
  clear hv
  have HR := qza.mk hr
  have HQ := qza.mk hq
  have HG := qza.mk hg
  have hx := qz14 (qz14 (heap_alloc_new w (.cells #[.int .u64 ta, .int .u64 ti, .slice A st.length c, .int .i64 3, .int .i64 ap, .bool fa, .bool og, .bool cm, .slice B sw.length e9] 30)) (.cells #[.int .i64 er, .string va, .int .u64 ve, .bool fo, .bool co] 33)) (.cells #[.int .u64 0, .int .u64 0, .slice none 0 0, .int .i64 0, .int .i64 0, .bool false, .bool false, .bool false, .slice none 0 0] 30)
  have ha := qz14 (heap_alloc_new (w.alloc (.cells #[.int .u64 ta, .int .u64 ti, .slice A st.length c, .int .i64 3, .int .i64 ap, .bool fa, .bool og, .bool cm, .slice B sw.length e9] 30)) (.cells #[.int .i64 er, .string va, .int .u64 ve, .bool fo, .bool co] 33)) (.cells #[.int .u64 0, .int .u64 0, .slice none 0 0, .int .i64 0, .int .i64 0, .bool false, .bool false, .bool false, .slice none 0 0] 30)
  have hz : (((w.alloc (.cells #[.int .u64 ta, .int .u64 ti, .slice A st.length c, .int .i64 3, .int .i64 ap, .bool fa, .bool og, .bool cm, .slice B sw.length e9] 30)).alloc (.cells #[.int .i64 er, .string va, .int .u64 ve, .bool fo, .bool co] 33)).alloc (.cells #[.int .u64 0, .int .u64 0, .slice none 0 0, .int .i64 0, .int .i64 0, .bool false, .bool false, .bool false, .slice none 0 0] 30)).heap[w.heap.size + 2]? = some (.cells #[.int .u64 0, .int .u64 0, .slice none 0 0, .int .i64 0, .int .i64 0, .bool false, .bool false, .bool false, .slice none 0 0] 30 (0, 0)) := by
    have h := heap_alloc_new ((w.alloc (.cells #[.int .u64 ta, .int .u64 ti, .slice A st.length c, .int .i64 3, .int .i64 ap, .bool fa, .bool og, .bool cm, .slice B sw.length e9] 30)).alloc (.cells #[.int .i64 er, .string va, .int .u64 ve, .bool fo, .bool co] 33)) (.cells #[.int .u64 0, .int .u64 0, .slice none 0 0, .int .i64 0, .int .i64 0, .bool false, .bool false, .bool false, .slice none 0 0] 30)
    rw [World.size_alloc, World.size_alloc] at h
    exact h
  rw [World.size_alloc] at ha
  have HB0 := qza.mk ((((Below.refl w.heap.size w).alloc (Nat.le_refl _) (.cells #[.int .u64 ta, .int .u64 ti, .slice A st.length c, .int .i64 3, .int .i64 ap, .bool fa, .bool og, .bool cm, .slice B sw.length e9] 30)).alloc (by simp) (.cells #[.int .i64 er, .string va, .int .u64 ve, .bool fo, .bool co] 33)).alloc (by simp; omega) (.cells #[.int .u64 0, .int .u64 0, .slice none 0 0, .int .i64 0, .int .i64 0, .bool false, .bool false, .bool false, .slice none 0 0] 30))
  have HSZ : qza (w.heap.size + 3 ≤ (((w.alloc (.cells #[.int .u64 ta, .int .u64 ti, .slice A st.length c, .int .i64 3, .int .i64 ap, .bool fa, .bool og, .bool cm, .slice B sw.length e9] 30)).alloc (.cells #[.int .i64 er, .string va, .int .u64 ve, .bool fo, .bool co] 33)).alloc (.cells #[.int .u64 0, .int .u64 0, .slice none 0 0, .int .i64 0, .int .i64 0, .bool false, .bool false, .bool false, .slice none 0 0] 30)).heap.size) := ⟨by simp⟩
  clear hr hg hq
  go_enter Try.func15, Try.ntmps15
  have HX := qza.mk hx
  have HA := qza.mk ha
  have HZ := qza.mk hz
  clear hx ha hz
  go_upto_region 1 with (fail)
  change Code.wp _ _ _ _ (((w.alloc (.cells #[.int .u64 ta, .int .u64 ti, .slice A st.length c, .int .i64 3, .int .i64 ap, .bool fa, .bool og, .bool cm, .slice B sw.length e9] 30)).alloc (.cells #[.int .i64 er, .string va, .int .u64 ve, .bool fo, .bool co] 33)).alloc (.cells #[.int .u64 0, .int .u64 0, .slice none 0 0, .int .i64 0, .int .i64 0, .bool false, .bool false, .bool false, .slice none 0 0] 30))
  generalize ((w.alloc (.cells #[.int .u64 ta, .int .u64 ti, .slice A st.length c, .int .i64 3, .int .i64 ap, .bool fa, .bool og, .bool cm, .slice B sw.length e9] 30)).alloc (.cells #[.int .i64 er, .string va, .int .u64 ve, .bool fo, .bool co] 33)).alloc (.cells #[.int .u64 0, .int .u64 0, .slice none 0 0, .int .i64 0, .int .i64 0, .bool false, .bool false, .bool false, .slice none 0 0] 30) = w1 at *
  obtain ⟨hd0, hd1, hd2, hd3, hd4, hd5, hd6, hd7, hd8⟩ := qz13 HX.out
  obtain ⟨ha0, ha1, ha2, ha3, ha4⟩ := qz27 HA.out
  obtain ⟨hz0, hz1, hz2, hz3, hz4, hz5, hz6, hz7, hz8⟩ := qz13 HZ.out
  obtain ⟨hf0, hf1, hf2, hf3, hf4, hf5, hf6, hf7, hf8⟩ := qz17 HZ.out
  have HNX := qza.mk (qz50 ta ti A c st 3 ap fa og cm B e9 sw w1 (Kd.C_below HR.out HB0.out) hc (Kd.C_below HQ.out HB0.out) hqc hl HG.out)
  unfold qz40 at HNX
  generalize nextV ⟨ta, ti, st, 3, ap, fa, og, cm, sw⟩ = av at *
  obtain ⟨ag, ⟨ak, a1, a2, akey, apu, acm, apa⟩, ais⟩ := av
  unfold oagg at HNX
  dsimp only at *
  subst hn
  go_upto_region 2 with (go_at_call 11; refine (HNX.out).mono ?_; rintro e w2 ⟨vp, vq, rfl, hp2, hq2, hb2⟩; obtain ⟨A2, c2, rfl, hc2, hC2⟩ := Sl.of_R hp2; obtain ⟨A3, c3, rfl, hc3, hC3⟩ := Sl.of_R hq2; clear hC2 hC3 hp2 hq2; have HB2 := qza.mk hb2; clear hb2)
  have HX3 := qza.mk (qz14 (qz16 HB2.out HX.out) (.cells #[.int .i64 ak, .int .u64 a1, .int .u64 a2, .string akey, .slice A2 apu.length c2, .bool acm, .slice A3 apa.length c3] 38))
  have HA3 := qza.mk (qz14 (qz16 HB2.out HA.out) (.cells #[.int .i64 ak, .int .u64 a1, .int .u64 a2, .string akey, .slice A2 apu.length c2, .bool acm, .slice A3 apa.length c3] 38))
  have HZ3 := qza.mk (qz14 (qz16 HB2.out HZ.out) (.cells #[.int .i64 ak, .int .u64 a1, .int .u64 a2, .string akey, .slice A2 apu.length c2, .bool acm, .slice A3 apa.length c3] 38))
  have HB3 := qza.mk ((HB0.out.trans (HB2.out.mono HB0.out.size)).alloc (HB0.out.trans (HB2.out.mono HB0.out.size)).size (.cells #[.int .i64 ak, .int .u64 a1, .int .u64 a2, .string akey, .slice A2 apu.length c2, .bool acm, .slice A3 apa.length c3] 38))
  have hs3 : (w2.alloc (.cells #[.int .i64 ak, .int .u64 a1, .int .u64 a2, .string akey, .slice A2 apu.length c2, .bool acm, .slice A3 apa.length c3] 38)).heap.size = w2.heap.size + 1 := by simp
  have hs2 := HB2.out.size
  have hsz := HSZ.out
  have hsz3 : w.heap.size + 3 ≤ (w2.alloc (.cells #[.int .i64 ak, .int .u64 a1, .int .u64 a2, .string akey, .slice A2 apu.length c2, .bool acm, .slice A3 apa.length c3] 38)).heap.size := by omega
  clear hs3
  change Code.wp _ _ _ _ (w2.alloc (.cells #[.int .i64 ak, .int .u64 a1, .int .u64 a2, .string akey, .slice A2 apu.length c2, .bool acm, .slice A3 apa.length c3] 38))
  generalize w2.alloc (.cells #[.int .i64 ak, .int .u64 a1, .int .u64 a2, .string akey, .slice A2 apu.length c2, .bool acm, .slice A3 apa.length c3] 38) = w3 at *
  clear hd0 hd1 hd2 hd3 hd4 hd5 hd6 hd7 hd8 ha0 ha1 ha2 ha3 ha4 hz0 hz1 hz2 hz3 hz4 hz5 hz6 hz7 hz8 hf0 hf1 hf2 hf3 hf4 hf5 hf6 hf7 hf8 HX HA HZ HNX
  obtain ⟨hd0, hd1, hd2, hd3, hd4, hd5, hd6, hd7, hd8⟩ := qz13 HX3.out
  obtain ⟨ha0, ha1, ha2, ha3, ha4⟩ := qz27 HA3.out
  obtain ⟨hz0, hz1, hz2, hz3, hz4, hz5, hz6, hz7, hz8⟩ := qz13 HZ3.out
  obtain ⟨hf0, hf1, hf2, hf3, hf4, hf5, hf6, hf7, hf8⟩ := qz17 HZ3.out
  have HPA := qza.mk (qz57 ta ti A c st w3 (Kd.C_below HR.out HB3.out) hc hl)
  go_upto_region 5 with (go_at_call 19; refine (HPA.out).mono ?_; rintro e w4 ⟨Bp, dp, rfl, hdp, hCp, hb4⟩; clear hCp; have HP4a := qza.mk hb4; clear hb4)
  have HX4 := qza.mk (qz16 HP4a.out HX3.out)
  have HA4 := qza.mk (qz16 HP4a.out HA3.out)
  have HZ4 := qza.mk (qz16 HP4a.out HZ3.out)
  have HB4 := qza.mk (HB3.out.trans (HP4a.out.mono HB3.out.size))
  have hsz4 : w.heap.size + 3 ≤ w4.heap.size := Nat.le_trans hsz3 HP4a.out.size
  clear hd0 hd1 hd2 hd3 hd4 hd5 hd6 hd7 hd8 ha0 ha1 ha2 ha3 ha4 hz0 hz1 hz2 hz3 hz4 hz5 hz6 hz7 hz8 hf0 hf1 hf2 hf3 hf4 hf5 hf6 hf7 hf8 HX3 HA3 HZ3 HB3 HPA HP4a hsz3
  obtain ⟨hd0, hd1, hd2, hd3, hd4, hd5, hd6, hd7, hd8⟩ := qz13 HX4.out
  obtain ⟨ha0, ha1, ha2, ha3, ha4⟩ := qz27 HA4.out
  obtain ⟨hz0, hz1, hz2, hz3, hz4, hz5, hz6, hz7, hz8⟩ := qz13 HZ4.out
  obtain ⟨hf0, hf1, hf2, hf3, hf4, hf5, hf6, hf7, hf8⟩ := qz17 HZ4.out
  obtain ⟨hu0, hu1, hu2, hu3, hu4, hu5, hu6, hu7, hu8⟩ := qz17 HX4.out
  by_cases her : er = 0
  · rw [decide_eq_true her, Bool.true_and] at HV
    have hz : (er == 0) = true := by rw [her]; rfl
    clear her
    go_upto_region 43 with (fail)
    have HX5 : qza ((((w4.setCell ⟨w.heap.size, 7, none⟩ (.bool co)).setCell ⟨w.heap.size, 3, none⟩ (.int .i64 4)).setCell ⟨w.heap.size, 4, none⟩ (.int .i64 0)).heap[w.heap.size]? = some (.cells #[.int .u64 ta, .int .u64 ti, .slice A st.length c, .int .i64 4, .int .i64 0, .bool fa, .bool og, .bool co, .slice B sw.length e9] 30 (0, 0))) := ⟨(qz12 (cs := #[.int .u64 ta, .int .u64 ti, .slice A st.length c, .int .i64 4, .int .i64 ap, .bool fa, .bool og, .bool co, .slice B sw.length e9]) (qz12 (cs := #[.int .u64 ta, .int .u64 ti, .slice A st.length c, .int .i64 3, .int .i64 ap, .bool fa, .bool og, .bool co, .slice B sw.length e9]) (qz12 (cs := #[.int .u64 ta, .int .u64 ti, .slice A st.length c, .int .i64 3, .int .i64 ap, .bool fa, .bool og, .bool cm, .slice B sw.length e9]) HX4.out 7 (.bool co) rfl) 3 (.int .i64 4) rfl) 4 (.int .i64 0) rfl)⟩
    have HZ5 : qza ((((w4.setCell ⟨w.heap.size, 7, none⟩ (.bool co)).setCell ⟨w.heap.size, 3, none⟩ (.int .i64 4)).setCell ⟨w.heap.size, 4, none⟩ (.int .i64 0)).heap[w.heap.size + 2]? = some (.cells #[.int .u64 0, .int .u64 0, .slice none 0 0, .int .i64 0, .int .i64 0, .bool false, .bool false, .bool false, .slice none 0 0] 30 (0, 0))) := ⟨((RowKit.Below.heap_setCell ((w4.setCell ⟨w.heap.size, 7, none⟩ (.bool co)).setCell ⟨w.heap.size, 3, none⟩ (.int .i64 4)) ⟨w.heap.size, 4, none⟩ (.int .i64 0) (w.heap.size + 2) (show w.heap.size + 2 ≠ w.heap.size by omega)).trans ((RowKit.Below.heap_setCell (w4.setCell ⟨w.heap.size, 7, none⟩ (.bool co)) ⟨w.heap.size, 3, none⟩ (.int .i64 4) (w.heap.size + 2) (show w.heap.size + 2 ≠ w.heap.size by omega)).trans ((RowKit.Below.heap_setCell w4 ⟨w.heap.size, 7, none⟩ (.bool co) (w.heap.size + 2) (show w.heap.size + 2 ≠ w.heap.size by omega)).trans HZ4.out)))⟩
    have HB5 : qza (Below w.heap.size w (((w4.setCell ⟨w.heap.size, 7, none⟩ (.bool co)).setCell ⟨w.heap.size, 3, none⟩ (.int .i64 4)).setCell ⟨w.heap.size, 4, none⟩ (.int .i64 0))) := ⟨(RowKit.Below.setCell (p := ⟨w.heap.size, 4, none⟩) (RowKit.Below.setCell (p := ⟨w.heap.size, 3, none⟩) (RowKit.Below.setCell (p := ⟨w.heap.size, 7, none⟩) HB4.out (Nat.le_refl _) (.bool co)) (Nat.le_refl _) (.int .i64 4)) (Nat.le_refl _) (.int .i64 0))⟩
    change Code.wp _ _ _ _ (((w4.setCell ⟨w.heap.size, 7, none⟩ (.bool co)).setCell ⟨w.heap.size, 3, none⟩ (.int .i64 4)).setCell ⟨w.heap.size, 4, none⟩ (.int .i64 0))
    generalize (((w4.setCell ⟨w.heap.size, 7, none⟩ (.bool co)).setCell ⟨w.heap.size, 3, none⟩ (.int .i64 4)).setCell ⟨w.heap.size, 4, none⟩ (.int .i64 0)) = w5 at *
    clear hd0 hd1 hd2 hd3 hd4 hd5 hd6 hd7 hd8 hz0 hz1 hz2 hz3 hz4 hz5 hz6 hz7 hz8 hf0 hf1 hf2 hf3 hf4 hf5 hf6 hf7 hf8 hu0 hu1 hu2 hu3 hu4 hu5 hu6 hu7 hu8 HX4 HZ4 HB4
    obtain ⟨hd0, hd1, hd2, hd3, hd4, hd5, hd6, hd7, hd8⟩ := qz13 HX5.out
    obtain ⟨hz0, hz1, hz2, hz3, hz4, hz5, hz6, hz7, hz8⟩ := qz13 HZ5.out
    obtain ⟨hf0, hf1, hf2, hf3, hf4, hf5, hf6, hf7, hf8⟩ := qz17 HZ5.out
    obtain ⟨hu0, hu1, hu2, hu3, hu4, hu5, hu6, hu7, hu8⟩ := qz17 HX5.out
    go_wp2
    refine ret9 (g := w.heap.size + 2) rfl rfl rfl (qz34 HZ5.out _ _ _ _ _ _ _ _ _) ?_
    rw [HV.out]
    exact DPost.same (d := ⟨ta, ti, st, 4, 0, fa, og, co, sw⟩) rfl (qz23 HB5.out (by omega) _ _ _ _ _ _ _ _ _)
  · rw [decide_eq_false her, Bool.false_and] at HV
    have hz : (er == 0) = false := beq_eq_false_iff_ne.2 her
    clear her
    go_upto_region 43 with (fail)
    have HX5 : qza ((((w4.setCell ⟨w.heap.size, 7, none⟩ (.bool false)).setCell ⟨w.heap.size, 3, none⟩ (.int .i64 4)).setCell ⟨w.heap.size, 4, none⟩ (.int .i64 0)).heap[w.heap.size]? = some (.cells #[.int .u64 ta, .int .u64 ti, .slice A st.length c, .int .i64 4, .int .i64 0, .bool fa, .bool og, .bool false, .slice B sw.length e9] 30 (0, 0))) := ⟨(qz12 (cs := #[.int .u64 ta, .int .u64 ti, .slice A st.length c, .int .i64 4, .int .i64 ap, .bool fa, .bool og, .bool false, .slice B sw.length e9]) (qz12 (cs := #[.int .u64 ta, .int .u64 ti, .slice A st.length c, .int .i64 3, .int .i64 ap, .bool fa, .bool og, .bool false, .slice B sw.length e9]) (qz12 (cs := #[.int .u64 ta, .int .u64 ti, .slice A st.length c, .int .i64 3, .int .i64 ap, .bool fa, .bool og, .bool cm, .slice B sw.length e9]) HX4.out 7 (.bool false) rfl) 3 (.int .i64 4) rfl) 4 (.int .i64 0) rfl)⟩
    have HZ5 : qza ((((w4.setCell ⟨w.heap.size, 7, none⟩ (.bool false)).setCell ⟨w.heap.size, 3, none⟩ (.int .i64 4)).setCell ⟨w.heap.size, 4, none⟩ (.int .i64 0)).heap[w.heap.size + 2]? = some (.cells #[.int .u64 0, .int .u64 0, .slice none 0 0, .int .i64 0, .int .i64 0, .bool false, .bool false, .bool false, .slice none 0 0] 30 (0, 0))) := ⟨((RowKit.Below.heap_setCell ((w4.setCell ⟨w.heap.size, 7, none⟩ (.bool false)).setCell ⟨w.heap.size, 3, none⟩ (.int .i64 4)) ⟨w.heap.size, 4, none⟩ (.int .i64 0) (w.heap.size + 2) (show w.heap.size + 2 ≠ w.heap.size by omega)).trans ((RowKit.Below.heap_setCell (w4.setCell ⟨w.heap.size, 7, none⟩ (.bool false)) ⟨w.heap.size, 3, none⟩ (.int .i64 4) (w.heap.size + 2) (show w.heap.size + 2 ≠ w.heap.size by omega)).trans ((RowKit.Below.heap_setCell w4 ⟨w.heap.size, 7, none⟩ (.bool false) (w.heap.size + 2) (show w.heap.size + 2 ≠ w.heap.size by omega)).trans HZ4.out)))⟩
    have HB5 : qza (Below w.heap.size w (((w4.setCell ⟨w.heap.size, 7, none⟩ (.bool false)).setCell ⟨w.heap.size, 3, none⟩ (.int .i64 4)).setCell ⟨w.heap.size, 4, none⟩ (.int .i64 0))) := ⟨(RowKit.Below.setCell (p := ⟨w.heap.size, 4, none⟩) (RowKit.Below.setCell (p := ⟨w.heap.size, 3, none⟩) (RowKit.Below.setCell (p := ⟨w.heap.size, 7, none⟩) HB4.out (Nat.le_refl _) (.bool false)) (Nat.le_refl _) (.int .i64 4)) (Nat.le_refl _) (.int .i64 0))⟩
    change Code.wp _ _ _ _ (((w4.setCell ⟨w.heap.size, 7, none⟩ (.bool false)).setCell ⟨w.heap.size, 3, none⟩ (.int .i64 4)).setCell ⟨w.heap.size, 4, none⟩ (.int .i64 0))
    generalize (((w4.setCell ⟨w.heap.size, 7, none⟩ (.bool false)).setCell ⟨w.heap.size, 3, none⟩ (.int .i64 4)).setCell ⟨w.heap.size, 4, none⟩ (.int .i64 0)) = w5 at *
    clear hd0 hd1 hd2 hd3 hd4 hd5 hd6 hd7 hd8 hz0 hz1 hz2 hz3 hz4 hz5 hz6 hz7 hz8 hf0 hf1 hf2 hf3 hf4 hf5 hf6 hf7 hf8 hu0 hu1 hu2 hu3 hu4 hu5 hu6 hu7 hu8 HX4 HZ4 HB4
    obtain ⟨hd0, hd1, hd2, hd3, hd4, hd5, hd6, hd7, hd8⟩ := qz13 HX5.out
    obtain ⟨hz0, hz1, hz2, hz3, hz4, hz5, hz6, hz7, hz8⟩ := qz13 HZ5.out
    obtain ⟨hf0, hf1, hf2, hf3, hf4, hf5, hf6, hf7, hf8⟩ := qz17 HZ5.out
    obtain ⟨hu0, hu1, hu2, hu3, hu4, hu5, hu6, hu7, hu8⟩ := qz17 HX5.out
    go_wp2
    refine ret9 (g := w.heap.size + 2) rfl rfl rfl (qz34 HZ5.out _ _ _ _ _ _ _ _ _) ?_
    rw [HV.out]
    exact DPost.same (d := ⟨ta, ti, st, 4, 0, fa, og, false, sw⟩) rfl (qz23 HB5.out (by omega) _ _ _ _ _ _ _ _ _)
set_option maxHeartbeats 2000000 in
set_option maxRecDepth 100000 in
theorem refHear_0b (ta ti : Int) (A : Option Addr) (c : Nat) (st : List S53) (ph ap : Int) (fa og cm : Bool) (B : Option Addr) (e9 : Nat) (sw : List S51) (er : Int) (va : ByteArray) (ve : Int) (fo co : Bool) (w : World) (hr : Kd.C k53 w A st.length st) (hc : st.length ≤ c) (hq : Kd.C k51 w B sw.length sw) (hqc : sw.length ≤ e9) (hl : st.length ≤ 3000000000000) (hg : ∀ x ∈ st, 0 ≤ x.f0 ∧ x.f0 ≤ 18446744073709551615) (he : ph = 0) (her : er = 11) (hn : (nextV ⟨ta, ti, st, ph, ap, fa, og, cm, sw⟩).2.2 = true) :
    Calls Try.prog 15 #[.agg #[.int .u64 ta, .int .u64 ti, .slice A st.length c, .int .i64 ph, .int .i64 ap, .bool fa, .bool og, .bool cm, .slice B sw.length e9], .agg #[.int .i64 er, .string va, .int .u64 ve, .bool fo, .bool co]] w (DPost A c B e9 sw (hearV ⟨ta, ti, st, ph, ap, fa, og, cm, sw⟩ er va ve fo co) w) := by
  subst he
  have hv : hearV ⟨ta, ti, st, 0, ap, fa, og, cm, sw⟩ er va ve fo co = ⟨ta, ti, st, 0, ap, fa, og, cm, sw⟩ := by
    unfold hearV
    rw [if_neg (by rw [hn]; simp)]
    show worksV _ er va ve fo = _
    unfold worksV
    rw [if_pos her]
  have HV := qza.mk hv
  have HER := qza.mk her
  clear hv her
  have HR := qza.mk hr
  have HQ := qza.mk hq
  have HG := qza.mk hg
  have hx := qz14 (qz14 (heap_alloc_new w (.cells #[.int .u64 ta, .int .u64 ti, .slice A st.length c, .int .i64 0, .int .i64 ap, .bool fa, .bool og, .bool cm, .slice B sw.length e9] 30)) (.cells #[.int .i64 er, .string va, .int .u64 ve, .bool fo, .bool co] 33)) (.cells #[.int .u64 0, .int .u64 0, .slice none 0 0, .int .i64 0, .int .i64 0, .bool false, .bool false, .bool false, .slice none 0 0] 30)
  have ha := qz14 (heap_alloc_new (w.alloc (.cells #[.int .u64 ta, .int .u64 ti, .slice A st.length c, .int .i64 0, .int .i64 ap, .bool fa, .bool og, .bool cm, .slice B sw.length e9] 30)) (.cells #[.int .i64 er, .string va, .int .u64 ve, .bool fo, .bool co] 33)) (.cells #[.int .u64 0, .int .u64 0, .slice none 0 0, .int .i64 0, .int .i64 0, .bool false, .bool false, .bool false, .slice none 0 0] 30)
  have hz : (((w.alloc (.cells #[.int .u64 ta, .int .u64 ti, .slice A st.length c, .int .i64 0, .int .i64 ap, .bool fa, .bool og, .bool cm, .slice B sw.length e9] 30)).alloc (.cells #[.int .i64 er, .string va, .int .u64 ve, .bool fo, .bool co] 33)).alloc (.cells #[.int .u64 0, .int .u64 0, .slice none 0 0, .int .i64 0, .int .i64 0, .bool false, .bool false, .bool false, .slice none 0 0] 30)).heap[w.heap.size + 2]? = some (.cells #[.int .u64 0, .int .u64 0, .slice none 0 0, .int .i64 0, .int .i64 0, .bool false, .bool false, .bool false, .slice none 0 0] 30 (0, 0)) := by
    have h := heap_alloc_new ((w.alloc (.cells #[.int .u64 ta, .int .u64 ti, .slice A st.length c, .int .i64 0, .int .i64 ap, .bool fa, .bool og, .bool cm, .slice B sw.length e9] 30)).alloc (.cells #[.int .i64 er, .string va, .int .u64 ve, .bool fo, .bool co] 33)) (.cells #[.int .u64 0, .int .u64 0, .slice none 0 0, .int .i64 0, .int .i64 0, .bool false, .bool false, .bool false, .slice none 0 0] 30)
    rw [World.size_alloc, World.size_alloc] at h
    exact h
  rw [World.size_alloc] at ha
  have HB0 := qza.mk ((((Below.refl w.heap.size w).alloc (Nat.le_refl _) (.cells #[.int .u64 ta, .int .u64 ti, .slice A st.length c, .int .i64 0, .int .i64 ap, .bool fa, .bool og, .bool cm, .slice B sw.length e9] 30)).alloc (by simp) (.cells #[.int .i64 er, .string va, .int .u64 ve, .bool fo, .bool co] 33)).alloc (by simp; omega) (.cells #[.int .u64 0, .int .u64 0, .slice none 0 0, .int .i64 0, .int .i64 0, .bool false, .bool false, .bool false, .slice none 0 0] 30))
  have HSZ : qza (w.heap.size + 3 ≤ (((w.alloc (.cells #[.int .u64 ta, .int .u64 ti, .slice A st.length c, .int .i64 0, .int .i64 ap, .bool fa, .bool og, .bool cm, .slice B sw.length e9] 30)).alloc (.cells #[.int .i64 er, .string va, .int .u64 ve, .bool fo, .bool co] 33)).alloc (.cells #[.int .u64 0, .int .u64 0, .slice none 0 0, .int .i64 0, .int .i64 0, .bool false, .bool false, .bool false, .slice none 0 0] 30)).heap.size) := ⟨by simp⟩
  clear hr hg hq
  go_enter Try.func15, Try.ntmps15
  have HX := qza.mk hx
  have HA := qza.mk ha
  have HZ := qza.mk hz
  clear hx ha hz
  go_upto_region 1 with (fail)
  change Code.wp _ _ _ _ (((w.alloc (.cells #[.int .u64 ta, .int .u64 ti, .slice A st.length c, .int .i64 0, .int .i64 ap, .bool fa, .bool og, .bool cm, .slice B sw.length e9] 30)).alloc (.cells #[.int .i64 er, .string va, .int .u64 ve, .bool fo, .bool co] 33)).alloc (.cells #[.int .u64 0, .int .u64 0, .slice none 0 0, .int .i64 0, .int .i64 0, .bool false, .bool false, .bool false, .slice none 0 0] 30))
  generalize ((w.alloc (.cells #[.int .u64 ta, .int .u64 ti, .slice A st.length c, .int .i64 0, .int .i64 ap, .bool fa, .bool og, .bool cm, .slice B sw.length e9] 30)).alloc (.cells #[.int .i64 er, .string va, .int .u64 ve, .bool fo, .bool co] 33)).alloc (.cells #[.int .u64 0, .int .u64 0, .slice none 0 0, .int .i64 0, .int .i64 0, .bool false, .bool false, .bool false, .slice none 0 0] 30) = w1 at *
  obtain ⟨hd0, hd1, hd2, hd3, hd4, hd5, hd6, hd7, hd8⟩ := qz13 HX.out
  obtain ⟨ha0, ha1, ha2, ha3, ha4⟩ := qz27 HA.out
  obtain ⟨hz0, hz1, hz2, hz3, hz4, hz5, hz6, hz7, hz8⟩ := qz13 HZ.out
  obtain ⟨hf0, hf1, hf2, hf3, hf4, hf5, hf6, hf7, hf8⟩ := qz17 HZ.out
  have HNX := qza.mk (qz50 ta ti A c st 0 ap fa og cm B e9 sw w1 (Kd.C_below HR.out HB0.out) hc (Kd.C_below HQ.out HB0.out) hqc hl HG.out)
  unfold qz40 at HNX
  generalize nextV ⟨ta, ti, st, 0, ap, fa, og, cm, sw⟩ = av at *
  obtain ⟨ag, ⟨ak, a1, a2, akey, apu, acm, apa⟩, ais⟩ := av
  unfold oagg at HNX
  dsimp only at *
  subst hn
  go_upto_region 2 with (go_at_call 11; refine (HNX.out).mono ?_; rintro e w2 ⟨vp, vq, rfl, hp2, hq2, hb2⟩; obtain ⟨A2, c2, rfl, hc2, hC2⟩ := Sl.of_R hp2; obtain ⟨A3, c3, rfl, hc3, hC3⟩ := Sl.of_R hq2; clear hC2 hC3 hp2 hq2; have HB2 := qza.mk hb2; clear hb2)
  have HX3 := qza.mk (qz14 (qz16 HB2.out HX.out) (.cells #[.int .i64 ak, .int .u64 a1, .int .u64 a2, .string akey, .slice A2 apu.length c2, .bool acm, .slice A3 apa.length c3] 38))
  have HA3 := qza.mk (qz14 (qz16 HB2.out HA.out) (.cells #[.int .i64 ak, .int .u64 a1, .int .u64 a2, .string akey, .slice A2 apu.length c2, .bool acm, .slice A3 apa.length c3] 38))
  have HZ3 := qza.mk (qz14 (qz16 HB2.out HZ.out) (.cells #[.int .i64 ak, .int .u64 a1, .int .u64 a2, .string akey, .slice A2 apu.length c2, .bool acm, .slice A3 apa.length c3] 38))
  have HB3 := qza.mk ((HB0.out.trans (HB2.out.mono HB0.out.size)).alloc (HB0.out.trans (HB2.out.mono HB0.out.size)).size (.cells #[.int .i64 ak, .int .u64 a1, .int .u64 a2, .string akey, .slice A2 apu.length c2, .bool acm, .slice A3 apa.length c3] 38))
  have hs3 : (w2.alloc (.cells #[.int .i64 ak, .int .u64 a1, .int .u64 a2, .string akey, .slice A2 apu.length c2, .bool acm, .slice A3 apa.length c3] 38)).heap.size = w2.heap.size + 1 := by simp
  have hs2 := HB2.out.size
  have hsz := HSZ.out
  have hsz3 : w.heap.size + 3 ≤ (w2.alloc (.cells #[.int .i64 ak, .int .u64 a1, .int .u64 a2, .string akey, .slice A2 apu.length c2, .bool acm, .slice A3 apa.length c3] 38)).heap.size := by omega
  clear hs3
  change Code.wp _ _ _ _ (w2.alloc (.cells #[.int .i64 ak, .int .u64 a1, .int .u64 a2, .string akey, .slice A2 apu.length c2, .bool acm, .slice A3 apa.length c3] 38))
  generalize w2.alloc (.cells #[.int .i64 ak, .int .u64 a1, .int .u64 a2, .string akey, .slice A2 apu.length c2, .bool acm, .slice A3 apa.length c3] 38) = w3 at *
  clear hd0 hd1 hd2 hd3 hd4 hd5 hd6 hd7 hd8 ha0 ha1 ha2 ha3 ha4 hz0 hz1 hz2 hz3 hz4 hz5 hz6 hz7 hz8 hf0 hf1 hf2 hf3 hf4 hf5 hf6 hf7 hf8 HX HA HZ HNX
  obtain ⟨hd0, hd1, hd2, hd3, hd4, hd5, hd6, hd7, hd8⟩ := qz13 HX3.out
  obtain ⟨ha0, ha1, ha2, ha3, ha4⟩ := qz27 HA3.out
  obtain ⟨hz0, hz1, hz2, hz3, hz4, hz5, hz6, hz7, hz8⟩ := qz13 HZ3.out
  obtain ⟨hf0, hf1, hf2, hf3, hf4, hf5, hf6, hf7, hf8⟩ := qz17 HZ3.out
  have HPA := qza.mk (qz57 ta ti A c st w3 (Kd.C_below HR.out HB3.out) hc hl)
  go_upto_region 5 with (go_at_call 19; refine (HPA.out).mono ?_; rintro e w4 ⟨Bp, dp, rfl, hdp, hCp, hb4⟩; clear hCp; have HP4a := qza.mk hb4; clear hb4)
  have HX4 := qza.mk (qz16 HP4a.out HX3.out)
  have HA4 := qza.mk (qz16 HP4a.out HA3.out)
  have HZ4 := qza.mk (qz16 HP4a.out HZ3.out)
  have HB4 := qza.mk (HB3.out.trans (HP4a.out.mono HB3.out.size))
  have hsz4 : w.heap.size + 3 ≤ w4.heap.size := Nat.le_trans hsz3 HP4a.out.size
  clear hd0 hd1 hd2 hd3 hd4 hd5 hd6 hd7 hd8 ha0 ha1 ha2 ha3 ha4 hz0 hz1 hz2 hz3 hz4 hz5 hz6 hz7 hz8 hf0 hf1 hf2 hf3 hf4 hf5 hf6 hf7 hf8 HX3 HA3 HZ3 HB3 HPA HP4a hsz3
  obtain ⟨hd0, hd1, hd2, hd3, hd4, hd5, hd6, hd7, hd8⟩ := qz13 HX4.out
  obtain ⟨ha0, ha1, ha2, ha3, ha4⟩ := qz27 HA4.out
  obtain ⟨hz0, hz1, hz2, hz3, hz4, hz5, hz6, hz7, hz8⟩ := qz13 HZ4.out
  obtain ⟨hf0, hf1, hf2, hf3, hf4, hf5, hf6, hf7, hf8⟩ := qz17 HZ4.out
  obtain ⟨hu0, hu1, hu2, hu3, hu4, hu5, hu6, hu7, hu8⟩ := qz17 HX4.out
  have hz : (er == 11) = true := by rw [HER.out]; rfl
  go_wp2
  refine ret9 (g := w.heap.size + 2) rfl rfl rfl (qz34 HZ4.out _ _ _ _ _ _ _ _ _) ?_
  rw [HV.out]
  exact DPost.same (d := ⟨ta, ti, st, 0, ap, fa, og, cm, sw⟩) rfl (qz23 HB4.out (by omega) _ _ _ _ _ _ _ _ _)
set_option maxHeartbeats 2000000 in
set_option maxRecDepth 100000 in
theorem refHear_0f (ta ti : Int) (A : Option Addr) (c : Nat) (st : List S53) (ph ap : Int) (fa og cm : Bool) (B : Option Addr) (e9 : Nat) (sw : List S51) (er : Int) (va : ByteArray) (ve : Int) (fo co : Bool) (w : World) (hr : Kd.C k53 w A st.length st) (hc : st.length ≤ c) (hq : Kd.C k51 w B sw.length sw) (hqc : sw.length ≤ e9) (hl : st.length ≤ 3000000000000) (hg : ∀ x ∈ st, 0 ≤ x.f0 ∧ x.f0 ≤ 18446744073709551615) (he : ph = 0) (her : ¬ er = 11) (he0 : ¬ er = 0) (hn : (nextV ⟨ta, ti, st, ph, ap, fa, og, cm, sw⟩).2.2 = true) :
    Calls Try.prog 15 #[.agg #[.int .u64 ta, .int .u64 ti, .slice A st.length c, .int .i64 ph, .int .i64 ap, .bool fa, .bool og, .bool cm, .slice B sw.length e9], .agg #[.int .i64 er, .string va, .int .u64 ve, .bool fo, .bool co]] w (DPost A c B e9 sw (hearV ⟨ta, ti, st, ph, ap, fa, og, cm, sw⟩ er va ve fo co) w) := by
  subst he
  have hv : hearV ⟨ta, ti, st, 0, ap, fa, og, cm, sw⟩ er va ve fo co = ⟨ta, ti, st, 3, 0, true, og, cm, sw⟩ := by
    unfold hearV
    rw [if_neg (by rw [hn]; simp)]
    show worksV _ er va ve fo = _
    unfold worksV
    rw [if_neg her, if_neg he0]
    unfold toV
    simp
  have HV := qza.mk hv
  have HER := qza.mk her
  have HE0 := qza.mk he0
  clear hv her he0
  have HR := qza.mk hr
  have HQ := qza.mk hq
  have HG := qza.mk hg
  have hx := qz14 (qz14 (heap_alloc_new w (.cells #[.int .u64 ta, .int .u64 ti, .slice A st.length c, .int .i64 0, .int .i64 ap, .bool fa, .bool og, .bool cm, .slice B sw.length e9] 30)) (.cells #[.int .i64 er, .string va, .int .u64 ve, .bool fo, .bool co] 33)) (.cells #[.int .u64 0, .int .u64 0, .slice none 0 0, .int .i64 0, .int .i64 0, .bool false, .bool false, .bool false, .slice none 0 0] 30)
  have ha := qz14 (heap_alloc_new (w.alloc (.cells #[.int .u64 ta, .int .u64 ti, .slice A st.length c, .int .i64 0, .int .i64 ap, .bool fa, .bool og, .bool cm, .slice B sw.length e9] 30)) (.cells #[.int .i64 er, .string va, .int .u64 ve, .bool fo, .bool co] 33)) (.cells #[.int .u64 0, .int .u64 0, .slice none 0 0, .int .i64 0, .int .i64 0, .bool false, .bool false, .bool false, .slice none 0 0] 30)
  have hz : (((w.alloc (.cells #[.int .u64 ta, .int .u64 ti, .slice A st.length c, .int .i64 0, .int .i64 ap, .bool fa, .bool og, .bool cm, .slice B sw.length e9] 30)).alloc (.cells #[.int .i64 er, .string va, .int .u64 ve, .bool fo, .bool co] 33)).alloc (.cells #[.int .u64 0, .int .u64 0, .slice none 0 0, .int .i64 0, .int .i64 0, .bool false, .bool false, .bool false, .slice none 0 0] 30)).heap[w.heap.size + 2]? = some (.cells #[.int .u64 0, .int .u64 0, .slice none 0 0, .int .i64 0, .int .i64 0, .bool false, .bool false, .bool false, .slice none 0 0] 30 (0, 0)) := by
    have h := heap_alloc_new ((w.alloc (.cells #[.int .u64 ta, .int .u64 ti, .slice A st.length c, .int .i64 0, .int .i64 ap, .bool fa, .bool og, .bool cm, .slice B sw.length e9] 30)).alloc (.cells #[.int .i64 er, .string va, .int .u64 ve, .bool fo, .bool co] 33)) (.cells #[.int .u64 0, .int .u64 0, .slice none 0 0, .int .i64 0, .int .i64 0, .bool false, .bool false, .bool false, .slice none 0 0] 30)
    rw [World.size_alloc, World.size_alloc] at h
    exact h
  rw [World.size_alloc] at ha
  have HB0 := qza.mk ((((Below.refl w.heap.size w).alloc (Nat.le_refl _) (.cells #[.int .u64 ta, .int .u64 ti, .slice A st.length c, .int .i64 0, .int .i64 ap, .bool fa, .bool og, .bool cm, .slice B sw.length e9] 30)).alloc (by simp) (.cells #[.int .i64 er, .string va, .int .u64 ve, .bool fo, .bool co] 33)).alloc (by simp; omega) (.cells #[.int .u64 0, .int .u64 0, .slice none 0 0, .int .i64 0, .int .i64 0, .bool false, .bool false, .bool false, .slice none 0 0] 30))
  have HSZ : qza (w.heap.size + 3 ≤ (((w.alloc (.cells #[.int .u64 ta, .int .u64 ti, .slice A st.length c, .int .i64 0, .int .i64 ap, .bool fa, .bool og, .bool cm, .slice B sw.length e9] 30)).alloc (.cells #[.int .i64 er, .string va, .int .u64 ve, .bool fo, .bool co] 33)).alloc (.cells #[.int .u64 0, .int .u64 0, .slice none 0 0, .int .i64 0, .int .i64 0, .bool false, .bool false, .bool false, .slice none 0 0] 30)).heap.size) := ⟨by simp⟩
  clear hr hg hq
  go_enter Try.func15, Try.ntmps15
  have HX := qza.mk hx
  have HA := qza.mk ha
  have HZ := qza.mk hz
  clear hx ha hz
  go_upto_region 1 with (fail)
  change Code.wp _ _ _ _ (((w.alloc (.cells #[.int .u64 ta, .int .u64 ti, .slice A st.length c, .int .i64 0, .int .i64 ap, .bool fa, .bool og, .bool cm, .slice B sw.length e9] 30)).alloc (.cells #[.int .i64 er, .string va, .int .u64 ve, .bool fo, .bool co] 33)).alloc (.cells #[.int .u64 0, .int .u64 0, .slice none 0 0, .int .i64 0, .int .i64 0, .bool false, .bool false, .bool false, .slice none 0 0] 30))
  generalize ((w.alloc (.cells #[.int .u64 ta, .int .u64 ti, .slice A st.length c, .int .i64 0, .int .i64 ap, .bool fa, .bool og, .bool cm, .slice B sw.length e9] 30)).alloc (.cells #[.int .i64 er, .string va, .int .u64 ve, .bool fo, .bool co] 33)).alloc (.cells #[.int .u64 0, .int .u64 0, .slice none 0 0, .int .i64 0, .int .i64 0, .bool false, .bool false, .bool false, .slice none 0 0] 30) = w1 at *
  obtain ⟨hd0, hd1, hd2, hd3, hd4, hd5, hd6, hd7, hd8⟩ := qz13 HX.out
  obtain ⟨ha0, ha1, ha2, ha3, ha4⟩ := qz27 HA.out
  obtain ⟨hz0, hz1, hz2, hz3, hz4, hz5, hz6, hz7, hz8⟩ := qz13 HZ.out
  obtain ⟨hf0, hf1, hf2, hf3, hf4, hf5, hf6, hf7, hf8⟩ := qz17 HZ.out
  have HNX := qza.mk (qz50 ta ti A c st 0 ap fa og cm B e9 sw w1 (Kd.C_below HR.out HB0.out) hc (Kd.C_below HQ.out HB0.out) hqc hl HG.out)
  unfold qz40 at HNX
  generalize nextV ⟨ta, ti, st, 0, ap, fa, og, cm, sw⟩ = av at *
  obtain ⟨ag, ⟨ak, a1, a2, akey, apu, acm, apa⟩, ais⟩ := av
  unfold oagg at HNX
  dsimp only at *
  subst hn
  go_upto_region 2 with (go_at_call 11; refine (HNX.out).mono ?_; rintro e w2 ⟨vp, vq, rfl, hp2, hq2, hb2⟩; obtain ⟨A2, c2, rfl, hc2, hC2⟩ := Sl.of_R hp2; obtain ⟨A3, c3, rfl, hc3, hC3⟩ := Sl.of_R hq2; clear hC2 hC3 hp2 hq2; have HB2 := qza.mk hb2; clear hb2)
  have HX3 := qza.mk (qz14 (qz16 HB2.out HX.out) (.cells #[.int .i64 ak, .int .u64 a1, .int .u64 a2, .string akey, .slice A2 apu.length c2, .bool acm, .slice A3 apa.length c3] 38))
  have HA3 := qza.mk (qz14 (qz16 HB2.out HA.out) (.cells #[.int .i64 ak, .int .u64 a1, .int .u64 a2, .string akey, .slice A2 apu.length c2, .bool acm, .slice A3 apa.length c3] 38))
  have HZ3 := qza.mk (qz14 (qz16 HB2.out HZ.out) (.cells #[.int .i64 ak, .int .u64 a1, .int .u64 a2, .string akey, .slice A2 apu.length c2, .bool acm, .slice A3 apa.length c3] 38))
  have HB3 := qza.mk ((HB0.out.trans (HB2.out.mono HB0.out.size)).alloc (HB0.out.trans (HB2.out.mono HB0.out.size)).size (.cells #[.int .i64 ak, .int .u64 a1, .int .u64 a2, .string akey, .slice A2 apu.length c2, .bool acm, .slice A3 apa.length c3] 38))
  have hs3 : (w2.alloc (.cells #[.int .i64 ak, .int .u64 a1, .int .u64 a2, .string akey, .slice A2 apu.length c2, .bool acm, .slice A3 apa.length c3] 38)).heap.size = w2.heap.size + 1 := by simp
  have hs2 := HB2.out.size
  have hsz := HSZ.out
  have hsz3 : w.heap.size + 3 ≤ (w2.alloc (.cells #[.int .i64 ak, .int .u64 a1, .int .u64 a2, .string akey, .slice A2 apu.length c2, .bool acm, .slice A3 apa.length c3] 38)).heap.size := by omega
  clear hs3
  change Code.wp _ _ _ _ (w2.alloc (.cells #[.int .i64 ak, .int .u64 a1, .int .u64 a2, .string akey, .slice A2 apu.length c2, .bool acm, .slice A3 apa.length c3] 38))
  generalize w2.alloc (.cells #[.int .i64 ak, .int .u64 a1, .int .u64 a2, .string akey, .slice A2 apu.length c2, .bool acm, .slice A3 apa.length c3] 38) = w3 at *
  clear hd0 hd1 hd2 hd3 hd4 hd5 hd6 hd7 hd8 ha0 ha1 ha2 ha3 ha4 hz0 hz1 hz2 hz3 hz4 hz5 hz6 hz7 hz8 hf0 hf1 hf2 hf3 hf4 hf5 hf6 hf7 hf8 HX HA HZ HNX
  obtain ⟨hd0, hd1, hd2, hd3, hd4, hd5, hd6, hd7, hd8⟩ := qz13 HX3.out
  obtain ⟨ha0, ha1, ha2, ha3, ha4⟩ := qz27 HA3.out
  obtain ⟨hz0, hz1, hz2, hz3, hz4, hz5, hz6, hz7, hz8⟩ := qz13 HZ3.out
  obtain ⟨hf0, hf1, hf2, hf3, hf4, hf5, hf6, hf7, hf8⟩ := qz17 HZ3.out
  have HPA := qza.mk (qz57 ta ti A c st w3 (Kd.C_below HR.out HB3.out) hc hl)
  go_upto_region 5 with (go_at_call 19; refine (HPA.out).mono ?_; rintro e w4 ⟨Bp, dp, rfl, hdp, hCp, hb4⟩; clear hCp; have HP4a := qza.mk hb4; clear hb4)
  have HX4 := qza.mk (qz16 HP4a.out HX3.out)
  have HA4 := qza.mk (qz16 HP4a.out HA3.out)
  have HZ4 := qza.mk (qz16 HP4a.out HZ3.out)
  have HB4 := qza.mk (HB3.out.trans (HP4a.out.mono HB3.out.size))
  have hsz4 : w.heap.size + 3 ≤ w4.heap.size := Nat.le_trans hsz3 HP4a.out.size
  clear hd0 hd1 hd2 hd3 hd4 hd5 hd6 hd7 hd8 ha0 ha1 ha2 ha3 ha4 hz0 hz1 hz2 hz3 hz4 hz5 hz6 hz7 hz8 hf0 hf1 hf2 hf3 hf4 hf5 hf6 hf7 hf8 HX3 HA3 HZ3 HB3 HPA HP4a hsz3
  obtain ⟨hd0, hd1, hd2, hd3, hd4, hd5, hd6, hd7, hd8⟩ := qz13 HX4.out
  obtain ⟨ha0, ha1, ha2, ha3, ha4⟩ := qz27 HA4.out
  obtain ⟨hz0, hz1, hz2, hz3, hz4, hz5, hz6, hz7, hz8⟩ := qz13 HZ4.out
  obtain ⟨hf0, hf1, hf2, hf3, hf4, hf5, hf6, hf7, hf8⟩ := qz17 HZ4.out
  obtain ⟨hu0, hu1, hu2, hu3, hu4, hu5, hu6, hu7, hu8⟩ := qz17 HX4.out
  have hz : (er == 11) = false := beq_eq_false_iff_ne.2 HER.out
  have hz0 : (er != 0) = true := bne_iff_ne.2 HE0.out
  go_upto_region 43 with (fail)
  have HX5 : qza ((((w4.setCell ⟨w.heap.size, 3, none⟩ (.int .i64 3)).setCell ⟨w.heap.size, 4, none⟩ (.int .i64 0)).setCell ⟨w.heap.size, 5, none⟩ (.bool true)).heap[w.heap.size]? = some (.cells #[.int .u64 ta, .int .u64 ti, .slice A st.length c, .int .i64 3, .int .i64 0, .bool true, .bool og, .bool cm, .slice B sw.length e9] 30 (0, 0))) := ⟨(qz12 (cs := #[.int .u64 ta, .int .u64 ti, .slice A st.length c, .int .i64 3, .int .i64 0, .bool fa, .bool og, .bool cm, .slice B sw.length e9]) (qz12 (cs := #[.int .u64 ta, .int .u64 ti, .slice A st.length c, .int .i64 3, .int .i64 ap, .bool fa, .bool og, .bool cm, .slice B sw.length e9]) (qz12 (cs := #[.int .u64 ta, .int .u64 ti, .slice A st.length c, .int .i64 0, .int .i64 ap, .bool fa, .bool og, .bool cm, .slice B sw.length e9]) HX4.out 3 (.int .i64 3) rfl) 4 (.int .i64 0) rfl) 5 (.bool true) rfl)⟩
  have HZ5 : qza ((((w4.setCell ⟨w.heap.size, 3, none⟩ (.int .i64 3)).setCell ⟨w.heap.size, 4, none⟩ (.int .i64 0)).setCell ⟨w.heap.size, 5, none⟩ (.bool true)).heap[w.heap.size + 2]? = some (.cells #[.int .u64 0, .int .u64 0, .slice none 0 0, .int .i64 0, .int .i64 0, .bool false, .bool false, .bool false, .slice none 0 0] 30 (0, 0))) := ⟨((RowKit.Below.heap_setCell ((w4.setCell ⟨w.heap.size, 3, none⟩ (.int .i64 3)).setCell ⟨w.heap.size, 4, none⟩ (.int .i64 0)) ⟨w.heap.size, 5, none⟩ (.bool true) (w.heap.size + 2) (show w.heap.size + 2 ≠ w.heap.size by omega)).trans ((RowKit.Below.heap_setCell (w4.setCell ⟨w.heap.size, 3, none⟩ (.int .i64 3)) ⟨w.heap.size, 4, none⟩ (.int .i64 0) (w.heap.size + 2) (show w.heap.size + 2 ≠ w.heap.size by omega)).trans ((RowKit.Below.heap_setCell w4 ⟨w.heap.size, 3, none⟩ (.int .i64 3) (w.heap.size + 2) (show w.heap.size + 2 ≠ w.heap.size by omega)).trans HZ4.out)))⟩
  have HB5 : qza (Below w.heap.size w (((w4.setCell ⟨w.heap.size, 3, none⟩ (.int .i64 3)).setCell ⟨w.heap.size, 4, none⟩ (.int .i64 0)).setCell ⟨w.heap.size, 5, none⟩ (.bool true))) := ⟨(RowKit.Below.setCell (p := ⟨w.heap.size, 5, none⟩) (RowKit.Below.setCell (p := ⟨w.heap.size, 4, none⟩) (RowKit.Below.setCell (p := ⟨w.heap.size, 3, none⟩) HB4.out (Nat.le_refl _) (.int .i64 3)) (Nat.le_refl _) (.int .i64 0)) (Nat.le_refl _) (.bool true))⟩
  change Code.wp _ _ _ _ (((w4.setCell ⟨w.heap.size, 3, none⟩ (.int .i64 3)).setCell ⟨w.heap.size, 4, none⟩ (.int .i64 0)).setCell ⟨w.heap.size, 5, none⟩ (.bool true))
  generalize (((w4.setCell ⟨w.heap.size, 3, none⟩ (.int .i64 3)).setCell ⟨w.heap.size, 4, none⟩ (.int .i64 0)).setCell ⟨w.heap.size, 5, none⟩ (.bool true)) = w5 at *
  clear hd0 hd1 hd2 hd3 hd4 hd5 hd6 hd7 hd8 hz0 hz1 hz2 hz3 hz4 hz5 hz6 hz7 hz8 hf0 hf1 hf2 hf3 hf4 hf5 hf6 hf7 hf8 hu0 hu1 hu2 hu3 hu4 hu5 hu6 hu7 hu8 HX4 HZ4 HB4
  obtain ⟨hd0, hd1, hd2, hd3, hd4, hd5, hd6, hd7, hd8⟩ := qz13 HX5.out
  obtain ⟨hz0, hz1, hz2, hz3, hz4, hz5, hz6, hz7, hz8⟩ := qz13 HZ5.out
  obtain ⟨hf0, hf1, hf2, hf3, hf4, hf5, hf6, hf7, hf8⟩ := qz17 HZ5.out
  obtain ⟨hu0, hu1, hu2, hu3, hu4, hu5, hu6, hu7, hu8⟩ := qz17 HX5.out
  go_wp2
  refine ret9 (g := w.heap.size + 2) rfl rfl rfl (qz34 HZ5.out _ _ _ _ _ _ _ _ _) ?_
  rw [HV.out]
  exact DPost.same (d := ⟨ta, ti, st, 3, 0, true, og, cm, sw⟩) rfl (qz23 HB5.out (by omega) _ _ _ _ _ _ _ _ _)
theorem own_nilblk20 {W : World} {base : Nat} (hb : base ≤ W.heap.size) : Own 5 51 (W.alloc (.cells #[] 51)) base (.slice (some ⟨W.heap.size, 0, none⟩) 0 0) [] :=
  Own.mk (css := []) (cur := []) (by simp) hb (heap_alloc_new W (.cells #[] 51)) rfl (Nat.le_refl _) (Nat.zero_le _) rfl
theorem rawSaw {w : World} {B : Option Addr} {e9 : Nat} {l : List S51} (hc : l.length ≤ e9) (h : Kd.C k51 w B l.length l) : Kd.C (raw 5) w B l.length (l.map enc51) := by
  obtain ⟨A', c', e, _, hC⟩ := flat51.sl ⟨B, e9, rfl, hc, h⟩
  injection e with e1 e2 e3
  subst e1
  rw [List.length_map] at hC
  exact hC
set_option maxHeartbeats 2000000 in
set_option maxRecDepth 100000 in
theorem refHear_0o (ta ti : Int) (A : Option Addr) (c : Nat) (st : List S53) (ph ap : Int) (fa og cm : Bool) (B : Option Addr) (e9 : Nat) (sw : List S51) (er : Int) (va : ByteArray) (ve : Int) (fo co : Bool) (w : World) (hr : Kd.C k53 w A st.length st) (hc : st.length ≤ c) (hq : Kd.C k51 w B sw.length sw) (hqc : sw.length ≤ e9) (hl : st.length ≤ 3000000000000) (hg : ∀ x ∈ st, 0 ≤ x.f0 ∧ x.f0 ≤ 18446744073709551615) (he : ph = 0) (her : er = 0) (hswl : sw.length ≤ 2513169434843) (hn : (nextV ⟨ta, ti, st, ph, ap, fa, og, cm, sw⟩).2.2 = true) :
    Calls Try.prog 15 #[.agg #[.int .u64 ta, .int .u64 ti, .slice A st.length c, .int .i64 ph, .int .i64 ap, .bool fa, .bool og, .bool cm, .slice B sw.length e9], .agg #[.int .i64 er, .string va, .int .u64 ve, .bool fo, .bool co]] w (DPost A c B e9 sw (hearV ⟨ta, ti, st, ph, ap, fa, og, cm, sw⟩ er va ve fo co) w) := by
  subst he
  have hv : hearV ⟨ta, ti, st, 0, ap, fa, og, cm, sw⟩ er va ve fo co = worksV ⟨ta, ti, st, 0, ap, fa, og, cm, sw⟩ er va ve fo := by
    unfold hearV
    rw [if_neg (by rw [hn]; simp)]
    rfl
  have HV := qza.mk hv
  have HER := qza.mk her
  have HAP := qza.mk (next0_range (d := ⟨ta, ti, st, 0, ap, fa, og, cm, sw⟩) rfl hn)
  clear her hv
  have HR := qza.mk hr
  have HQ := qza.mk hq
  have HG := qza.mk hg
  have hx := qz14 (qz14 (heap_alloc_new w (.cells #[.int .u64 ta, .int .u64 ti, .slice A st.length c, .int .i64 0, .int .i64 ap, .bool fa, .bool og, .bool cm, .slice B sw.length e9] 30)) (.cells #[.int .i64 er, .string va, .int .u64 ve, .bool fo, .bool co] 33)) (.cells #[.int .u64 0, .int .u64 0, .slice none 0 0, .int .i64 0, .int .i64 0, .bool false, .bool false, .bool false, .slice none 0 0] 30)
  have ha := qz14 (heap_alloc_new (w.alloc (.cells #[.int .u64 ta, .int .u64 ti, .slice A st.length c, .int .i64 0, .int .i64 ap, .bool fa, .bool og, .bool cm, .slice B sw.length e9] 30)) (.cells #[.int .i64 er, .string va, .int .u64 ve, .bool fo, .bool co] 33)) (.cells #[.int .u64 0, .int .u64 0, .slice none 0 0, .int .i64 0, .int .i64 0, .bool false, .bool false, .bool false, .slice none 0 0] 30)
  have hz : (((w.alloc (.cells #[.int .u64 ta, .int .u64 ti, .slice A st.length c, .int .i64 0, .int .i64 ap, .bool fa, .bool og, .bool cm, .slice B sw.length e9] 30)).alloc (.cells #[.int .i64 er, .string va, .int .u64 ve, .bool fo, .bool co] 33)).alloc (.cells #[.int .u64 0, .int .u64 0, .slice none 0 0, .int .i64 0, .int .i64 0, .bool false, .bool false, .bool false, .slice none 0 0] 30)).heap[w.heap.size + 2]? = some (.cells #[.int .u64 0, .int .u64 0, .slice none 0 0, .int .i64 0, .int .i64 0, .bool false, .bool false, .bool false, .slice none 0 0] 30 (0, 0)) := by
    have h := heap_alloc_new ((w.alloc (.cells #[.int .u64 ta, .int .u64 ti, .slice A st.length c, .int .i64 0, .int .i64 ap, .bool fa, .bool og, .bool cm, .slice B sw.length e9] 30)).alloc (.cells #[.int .i64 er, .string va, .int .u64 ve, .bool fo, .bool co] 33)) (.cells #[.int .u64 0, .int .u64 0, .slice none 0 0, .int .i64 0, .int .i64 0, .bool false, .bool false, .bool false, .slice none 0 0] 30)
    rw [World.size_alloc, World.size_alloc] at h
    exact h
  rw [World.size_alloc] at ha
  have HB0 := qza.mk ((((Below.refl w.heap.size w).alloc (Nat.le_refl _) (.cells #[.int .u64 ta, .int .u64 ti, .slice A st.length c, .int .i64 0, .int .i64 ap, .bool fa, .bool og, .bool cm, .slice B sw.length e9] 30)).alloc (by simp) (.cells #[.int .i64 er, .string va, .int .u64 ve, .bool fo, .bool co] 33)).alloc (by simp; omega) (.cells #[.int .u64 0, .int .u64 0, .slice none 0 0, .int .i64 0, .int .i64 0, .bool false, .bool false, .bool false, .slice none 0 0] 30))
  have HSZ : qza (w.heap.size + 3 ≤ (((w.alloc (.cells #[.int .u64 ta, .int .u64 ti, .slice A st.length c, .int .i64 0, .int .i64 ap, .bool fa, .bool og, .bool cm, .slice B sw.length e9] 30)).alloc (.cells #[.int .i64 er, .string va, .int .u64 ve, .bool fo, .bool co] 33)).alloc (.cells #[.int .u64 0, .int .u64 0, .slice none 0 0, .int .i64 0, .int .i64 0, .bool false, .bool false, .bool false, .slice none 0 0] 30)).heap.size) := ⟨by simp⟩
  clear hr hg hq
  go_enter Try.func15, Try.ntmps15
  have HX := qza.mk hx
  have HA := qza.mk ha
  have HZ := qza.mk hz
  clear hx ha hz
  go_upto_region 1 with (fail)
  change Code.wp _ _ _ _ (((w.alloc (.cells #[.int .u64 ta, .int .u64 ti, .slice A st.length c, .int .i64 0, .int .i64 ap, .bool fa, .bool og, .bool cm, .slice B sw.length e9] 30)).alloc (.cells #[.int .i64 er, .string va, .int .u64 ve, .bool fo, .bool co] 33)).alloc (.cells #[.int .u64 0, .int .u64 0, .slice none 0 0, .int .i64 0, .int .i64 0, .bool false, .bool false, .bool false, .slice none 0 0] 30))
  generalize ((w.alloc (.cells #[.int .u64 ta, .int .u64 ti, .slice A st.length c, .int .i64 0, .int .i64 ap, .bool fa, .bool og, .bool cm, .slice B sw.length e9] 30)).alloc (.cells #[.int .i64 er, .string va, .int .u64 ve, .bool fo, .bool co] 33)).alloc (.cells #[.int .u64 0, .int .u64 0, .slice none 0 0, .int .i64 0, .int .i64 0, .bool false, .bool false, .bool false, .slice none 0 0] 30) = w1 at *
  obtain ⟨hd0, hd1, hd2, hd3, hd4, hd5, hd6, hd7, hd8⟩ := qz13 HX.out
  obtain ⟨ha0, ha1, ha2, ha3, ha4⟩ := qz27 HA.out
  obtain ⟨hz0, hz1, hz2, hz3, hz4, hz5, hz6, hz7, hz8⟩ := qz13 HZ.out
  obtain ⟨hf0, hf1, hf2, hf3, hf4, hf5, hf6, hf7, hf8⟩ := qz17 HZ.out
  have HNX := qza.mk (qz50 ta ti A c st 0 ap fa og cm B e9 sw w1 (Kd.C_below HR.out HB0.out) hc (Kd.C_below HQ.out HB0.out) hqc hl HG.out)
  unfold qz40 at HNX
  generalize nextV ⟨ta, ti, st, 0, ap, fa, og, cm, sw⟩ = av at *
  obtain ⟨ag, ⟨ak, a1, a2, akey, apu, acm, apa⟩, ais⟩ := av
  unfold oagg at HNX
  dsimp only at *
  subst hn
  go_upto_region 2 with (go_at_call 11; refine (HNX.out).mono ?_; rintro e w2 ⟨vp, vq, rfl, hp2, hq2, hb2⟩; obtain ⟨A2, c2, rfl, hc2, hC2⟩ := Sl.of_R hp2; obtain ⟨A3, c3, rfl, hc3, hC3⟩ := Sl.of_R hq2; clear hC2 hC3 hp2 hq2; have HB2 := qza.mk hb2; clear hb2)
  have HX3 := qza.mk (qz14 (qz16 HB2.out HX.out) (.cells #[.int .i64 ak, .int .u64 a1, .int .u64 a2, .string akey, .slice A2 apu.length c2, .bool acm, .slice A3 apa.length c3] 38))
  have HA3 := qza.mk (qz14 (qz16 HB2.out HA.out) (.cells #[.int .i64 ak, .int .u64 a1, .int .u64 a2, .string akey, .slice A2 apu.length c2, .bool acm, .slice A3 apa.length c3] 38))
  have HZ3 := qza.mk (qz14 (qz16 HB2.out HZ.out) (.cells #[.int .i64 ak, .int .u64 a1, .int .u64 a2, .string akey, .slice A2 apu.length c2, .bool acm, .slice A3 apa.length c3] 38))
  have HB3 := qza.mk ((HB0.out.trans (HB2.out.mono HB0.out.size)).alloc (HB0.out.trans (HB2.out.mono HB0.out.size)).size (.cells #[.int .i64 ak, .int .u64 a1, .int .u64 a2, .string akey, .slice A2 apu.length c2, .bool acm, .slice A3 apa.length c3] 38))
  have hs3 : (w2.alloc (.cells #[.int .i64 ak, .int .u64 a1, .int .u64 a2, .string akey, .slice A2 apu.length c2, .bool acm, .slice A3 apa.length c3] 38)).heap.size = w2.heap.size + 1 := by simp
  have hs2 := HB2.out.size
  have hsz := HSZ.out
  have hsz3 : w.heap.size + 3 ≤ (w2.alloc (.cells #[.int .i64 ak, .int .u64 a1, .int .u64 a2, .string akey, .slice A2 apu.length c2, .bool acm, .slice A3 apa.length c3] 38)).heap.size := by omega
  clear hs3
  change Code.wp _ _ _ _ (w2.alloc (.cells #[.int .i64 ak, .int .u64 a1, .int .u64 a2, .string akey, .slice A2 apu.length c2, .bool acm, .slice A3 apa.length c3] 38))
  generalize w2.alloc (.cells #[.int .i64 ak, .int .u64 a1, .int .u64 a2, .string akey, .slice A2 apu.length c2, .bool acm, .slice A3 apa.length c3] 38) = w3 at *
  clear hd0 hd1 hd2 hd3 hd4 hd5 hd6 hd7 hd8 ha0 ha1 ha2 ha3 ha4 hz0 hz1 hz2 hz3 hz4 hz5 hz6 hz7 hz8 hf0 hf1 hf2 hf3 hf4 hf5 hf6 hf7 hf8 HX HA HZ HNX
  obtain ⟨hd0, hd1, hd2, hd3, hd4, hd5, hd6, hd7, hd8⟩ := qz13 HX3.out
  obtain ⟨ha0, ha1, ha2, ha3, ha4⟩ := qz27 HA3.out
  obtain ⟨hz0, hz1, hz2, hz3, hz4, hz5, hz6, hz7, hz8⟩ := qz13 HZ3.out
  obtain ⟨hf0, hf1, hf2, hf3, hf4, hf5, hf6, hf7, hf8⟩ := qz17 HZ3.out
  have HPA := qza.mk (qz57 ta ti A c st w3 (Kd.C_below HR.out HB3.out) hc hl)
  go_upto_region 5 with (go_at_call 19; refine (HPA.out).mono ?_; rintro e w4 ⟨Bp, dp, rfl, hdp, hCp, hb4⟩; clear hCp; have HP4a := qza.mk hb4; clear hb4)
  have HX4 := qza.mk (qz16 HP4a.out HX3.out)
  have HA4 := qza.mk (qz16 HP4a.out HA3.out)
  have HZ4 := qza.mk (qz16 HP4a.out HZ3.out)
  have HB4 := qza.mk (HB3.out.trans (HP4a.out.mono HB3.out.size))
  have hsz4 : w.heap.size + 3 ≤ w4.heap.size := Nat.le_trans hsz3 HP4a.out.size
  clear hd0 hd1 hd2 hd3 hd4 hd5 hd6 hd7 hd8 ha0 ha1 ha2 ha3 ha4 hz0 hz1 hz2 hz3 hz4 hz5 hz6 hz7 hz8 hf0 hf1 hf2 hf3 hf4 hf5 hf6 hf7 hf8 HX3 HA3 HZ3 HB3 HPA HP4a hsz3
  obtain ⟨hd0, hd1, hd2, hd3, hd4, hd5, hd6, hd7, hd8⟩ := qz13 HX4.out
  obtain ⟨ha0, ha1, ha2, ha3, ha4⟩ := qz27 HA4.out
  obtain ⟨hz0, hz1, hz2, hz3, hz4, hz5, hz6, hz7, hz8⟩ := qz13 HZ4.out
  obtain ⟨hf0, hf1, hf2, hf3, hf4, hf5, hf6, hf7, hf8⟩ := qz17 HZ4.out
  obtain ⟨hu0, hu1, hu2, hu3, hu4, hu5, hu6, hu7, hu8⟩ := qz17 HX4.out
  have hap := HAP.out
  obtain ⟨n, rfl⟩ : ∃ n : Nat, ap = (n : Int) := ⟨ap.toNat, by omega⟩
  have hn : n < st.length := by omega
  have hnz : (n : Int) < (st.length : Int) := by omega
  have hnz1 : (0 : Int) ≤ (n : Int) := by omega
  have hstl : st.length ≤ 9223372036854775807 := by omega
  have hz : (er == 11) = false := by rw [HER.out]; rfl
  have hz0 : (er != 0) = false := by rw [HER.out]; rfl
  obtain ⟨pb, po, rfl, hs0, hs1, hs2, hs3, hs4⟩ := stepRow (Kd.C_below HR.out HB4.out) n hn
  generalize hxe : st[n]! = x at *
  have HXE := qza.mk hxe
  clear hxe
  obtain ⟨xa, xb, xc, xd, xe⟩ := x
  dsimp only at *
  go_upto_region 13 with (fail)
  change Code.wp _ _ _ _ (w4.alloc (.cells #[.int .u64 xa, .string xb, .string xc, .bool xd, .bool xe] 53))
  have HS5 := qza.mk (heap_alloc_new w4 (.cells #[.int .u64 xa, .string xb, .string xc, .bool xd, .bool xe] 53))
  have HX5 := qza.mk (qz14 HX4.out (.cells #[.int .u64 xa, .string xb, .string xc, .bool xd, .bool xe] 53))
  have HA5 := qza.mk (qz14 HA4.out (.cells #[.int .u64 xa, .string xb, .string xc, .bool xd, .bool xe] 53))
  have HZ5 := qza.mk (qz14 HZ4.out (.cells #[.int .u64 xa, .string xb, .string xc, .bool xd, .bool xe] 53))
  have HB5 := qza.mk (HB4.out.alloc HB4.out.size (.cells #[.int .u64 xa, .string xb, .string xc, .bool xd, .bool xe] 53))
  have hs5 : w.heap.size + 4 ≤ (w4.alloc (.cells #[.int .u64 xa, .string xb, .string xc, .bool xd, .bool xe] 53)).heap.size := by simp; omega
  clear hs0 hs1 hs2 hs3 hs4 hd0 hd1 hd2 hd3 hd4 hd5 hd6 hd7 hd8 ha0 ha1 ha2 ha3 ha4 hz0 hz1 hz2 hz3 hz4 hz5 hz6 hz7 hz8 hf0 hf1 hf2 hf3 hf4 hf5 hf6 hf7 hf8 hu0 hu1 hu2 hu3 hu4 hu5 hu6 hu7 hu8 HX4 HA4 HZ4 HB4
  have hq5 : w.heap.size + 3 ≤ w4.heap.size := hsz4
  clear hsz4
  generalize w4.alloc (.cells #[.int .u64 xa, .string xb, .string xc, .bool xd, .bool xe] 53) = w5 at *
  generalize w4.heap.size = b5 at *
  obtain ⟨hd0, hd1, hd2, hd3, hd4, hd5, hd6, hd7, hd8⟩ := qz13 HX5.out
  obtain ⟨ha0, ha1, ha2, ha3, ha4⟩ := qz27 HA5.out
  obtain ⟨hx0, hx1, hx2, hx3, hx4⟩ := qz27 HS5.out
  go_cut [] from 44 to 61 (fun wx => ∃ Ad cd, qza (sw.length + 1 ≤ cd) ∧ qza (wx.heap[w.heap.size]? = some (.cells #[.int .u64 ta, .int .u64 ti, .slice (some ⟨pb, po, none⟩) st.length c, .int .i64 0, .int .i64 (n : Int), .bool fa, .bool og, .bool cm, .slice Ad (sw.length + 1) cd] 30 (0, 0))) ∧ qza (wx.heap[w.heap.size + 2]? = some (.cells #[.int .u64 0, .int .u64 0, .slice none 0 0, .int .i64 0, .int .i64 0, .bool false, .bool false, .bool false, .slice none 0 0] 30 (0, 0))) ∧ qza (Below w.heap.size w wx) ∧ qza (Own 5 51 wx w5.heap.size (.slice Ad (sw.length + 1) cd) ((sw ++ [(⟨xa, xb, va, ve, fo⟩ : S51)]).map enc51)))
  case first =>
    have hK0 : K6 w5 w5 ⟨w.heap.size, 8, none⟩ ⟨b5, 0, none⟩ ⟨b5, 1, none⟩ ⟨w.heap.size + 1, 1, none⟩ ⟨w.heap.size + 1, 2, none⟩ ⟨w.heap.size + 1, 3, none⟩ (.slice B sw.length e9) (.int .u64 xa) (.string xb) (.string va) (.int .u64 ve) (.bool fo) := ⟨hd8, hx0, hx1, ha1, ha2, ha3, Below.refl _ _⟩
    have HK0 := qza.mk hK0
    have hS0 := hK0.of ((Below.refl w5.heap.size w5).drew)
    have HBD := qza.mk ((Below.refl w5.heap.size w5).drew)
    clear hd0 hd1 hd2 hd3 hd4 hd5 hd6 hd7 hd8 ha0 ha1 ha2 ha3 ha4 hx0 hx1 hx2 hx3 hx4 hK0
    refine wp_region_noPanic ?_
    refine qz59 (ds := [18]) (S := (fun w' => w'.cell? ⟨w.heap.size, 8, none⟩ = some (.slice B sw.length e9) ∧ w'.cell? ⟨b5, 0, none⟩ = some (.int .u64 xa) ∧ w'.cell? ⟨b5, 1, none⟩ = some (.string xb) ∧ w'.cell? ⟨w.heap.size + 1, 1, none⟩ = some (.string va) ∧ w'.cell? ⟨w.heap.size + 1, 2, none⟩ = some (.int .u64 ve) ∧ w'.cell? ⟨w.heap.size + 1, 3, none⟩ = some (.bool fo) ∧ Below w5.heap.size w5 w')) (by kernel_rfl) hS0 (fun hHeld => ?_)
    clear hS0
    refine qz19 (i := 1) (oi := _) (v := .pointer (some ⟨w.heap.size, 8, none⟩)) rfl (by kernel_rfl) (by kernel_rfl) (by kernel_rfl) (by kernel_rfl) (by kernel_rfl) (fun _ _ _ h => h) (Or.inl ⟨by kernel_rfl, ?_⟩) (by assumption) ?_
    · intro w hSw; (try dsimp only at hSw); go_simp
    try simp only [Act.put, List.setIfInBounds_toArray, List.set_cons_zero, List.set_cons_succ, List.getElem_toArray, List.getElem_cons_succ, List.getElem_cons_zero]
    refine qz19 (i := 2) (oi := _) (v := .slice B sw.length e9) rfl (by kernel_rfl) (by kernel_rfl) (by kernel_rfl) (by kernel_rfl) (by kernel_rfl) (fun _ _ _ h => h) (Or.inl ⟨by kernel_rfl, ?_⟩) (by assumption) ?_
    · intro w hSw; (try dsimp only at hSw); go_simp
    try simp only [Act.put, List.setIfInBounds_toArray, List.set_cons_zero, List.set_cons_succ, List.getElem_toArray, List.getElem_cons_succ, List.getElem_cons_zero]
    refine qz19 (i := 4) (oi := _) (v := .pointer (some ⟨b5, 0, none⟩)) rfl (by kernel_rfl) (by kernel_rfl) (by kernel_rfl) (by kernel_rfl) (by kernel_rfl) (fun _ _ _ h => h) (Or.inl ⟨by kernel_rfl, ?_⟩) (by assumption) ?_
    · intro w hSw; (try dsimp only at hSw); go_simp
    try simp only [Act.put, List.setIfInBounds_toArray, List.set_cons_zero, List.set_cons_succ, List.getElem_toArray, List.getElem_cons_succ, List.getElem_cons_zero]
    refine qz19 (i := 5) (oi := _) (v := .int .u64 xa) rfl (by kernel_rfl) (by kernel_rfl) (by kernel_rfl) (by kernel_rfl) (by kernel_rfl) (fun _ _ _ h => h) (Or.inl ⟨by kernel_rfl, ?_⟩) (by assumption) ?_
    · intro w hSw; (try dsimp only at hSw); go_simp
    try simp only [Act.put, List.setIfInBounds_toArray, List.set_cons_zero, List.set_cons_succ, List.getElem_toArray, List.getElem_cons_succ, List.getElem_cons_zero]
    refine qz19 (i := 6) (oi := _) (v := .pointer (some ⟨b5, 1, none⟩)) rfl (by kernel_rfl) (by kernel_rfl) (by kernel_rfl) (by kernel_rfl) (by kernel_rfl) (fun _ _ _ h => h) (Or.inl ⟨by kernel_rfl, ?_⟩) (by assumption) ?_
    · intro w hSw; (try dsimp only at hSw); go_simp
    try simp only [Act.put, List.setIfInBounds_toArray, List.set_cons_zero, List.set_cons_succ, List.getElem_toArray, List.getElem_cons_succ, List.getElem_cons_zero]
    refine qz19 (i := 7) (oi := _) (v := .string xb) rfl (by kernel_rfl) (by kernel_rfl) (by kernel_rfl) (by kernel_rfl) (by kernel_rfl) (fun _ _ _ h => h) (Or.inl ⟨by kernel_rfl, ?_⟩) (by assumption) ?_
    · intro w hSw; (try dsimp only at hSw); go_simp
    try simp only [Act.put, List.setIfInBounds_toArray, List.set_cons_zero, List.set_cons_succ, List.getElem_toArray, List.getElem_cons_succ, List.getElem_cons_zero]
    refine qz19 (i := 8) (oi := _) (v := .pointer (some ⟨w.heap.size + 1, 1, none⟩)) rfl (by kernel_rfl) (by kernel_rfl) (by kernel_rfl) (by kernel_rfl) (by kernel_rfl) (fun _ _ _ h => h) (Or.inl ⟨by kernel_rfl, ?_⟩) (by assumption) ?_
    · intro w hSw; (try dsimp only at hSw); go_simp
    try simp only [Act.put, List.setIfInBounds_toArray, List.set_cons_zero, List.set_cons_succ, List.getElem_toArray, List.getElem_cons_succ, List.getElem_cons_zero]
    refine qz19 (i := 9) (oi := _) (v := .string va) rfl (by kernel_rfl) (by kernel_rfl) (by kernel_rfl) (by kernel_rfl) (by kernel_rfl) (fun _ _ _ h => h) (Or.inl ⟨by kernel_rfl, ?_⟩) (by assumption) ?_
    · intro w hSw; (try dsimp only at hSw); go_simp
    try simp only [Act.put, List.setIfInBounds_toArray, List.set_cons_zero, List.set_cons_succ, List.getElem_toArray, List.getElem_cons_succ, List.getElem_cons_zero]
    refine qz19 (i := 10) (oi := _) (v := .pointer (some ⟨w.heap.size + 1, 2, none⟩)) rfl (by kernel_rfl) (by kernel_rfl) (by kernel_rfl) (by kernel_rfl) (by kernel_rfl) (fun _ _ _ h => h) (Or.inl ⟨by kernel_rfl, ?_⟩) (by assumption) ?_
    · intro w hSw; (try dsimp only at hSw); go_simp
    try simp only [Act.put, List.setIfInBounds_toArray, List.set_cons_zero, List.set_cons_succ, List.getElem_toArray, List.getElem_cons_succ, List.getElem_cons_zero]
    refine qz19 (i := 11) (oi := _) (v := .int .u64 ve) rfl (by kernel_rfl) (by kernel_rfl) (by kernel_rfl) (by kernel_rfl) (by kernel_rfl) (fun _ _ _ h => h) (Or.inl ⟨by kernel_rfl, ?_⟩) (by assumption) ?_
    · intro w hSw; (try dsimp only at hSw); go_simp
    try simp only [Act.put, List.setIfInBounds_toArray, List.set_cons_zero, List.set_cons_succ, List.getElem_toArray, List.getElem_cons_succ, List.getElem_cons_zero]
    refine qz19 (i := 12) (oi := _) (v := .pointer (some ⟨w.heap.size + 1, 3, none⟩)) rfl (by kernel_rfl) (by kernel_rfl) (by kernel_rfl) (by kernel_rfl) (by kernel_rfl) (fun _ _ _ h => h) (Or.inl ⟨by kernel_rfl, ?_⟩) (by assumption) ?_
    · intro w hSw; (try dsimp only at hSw); go_simp
    try simp only [Act.put, List.setIfInBounds_toArray, List.set_cons_zero, List.set_cons_succ, List.getElem_toArray, List.getElem_cons_succ, List.getElem_cons_zero]
    refine qz19 (i := 13) (oi := _) (v := .bool fo) rfl (by kernel_rfl) (by kernel_rfl) (by kernel_rfl) (by kernel_rfl) (by kernel_rfl) (fun _ _ _ h => h) (Or.inl ⟨by kernel_rfl, ?_⟩) (by assumption) ?_
    · intro w hSw; (try dsimp only at hSw); go_simp
    try simp only [Act.put, List.setIfInBounds_toArray, List.set_cons_zero, List.set_cons_succ, List.getElem_toArray, List.getElem_cons_succ, List.getElem_cons_zero]
    refine qz19 (i := 14) (oi := _) (v := .agg #[.int .u64 xa, .string xb, .string va, .int .u64 ve, .bool fo]) rfl (by kernel_rfl) (by kernel_rfl) (by kernel_rfl) (by kernel_rfl) (by kernel_rfl) (fun _ _ _ h => h) (Or.inl ⟨by kernel_rfl, ?_⟩) (by assumption) ?_
    · intro w hSw; (try dsimp only at hSw); go_simp
    try simp only [Act.put, List.setIfInBounds_toArray, List.set_cons_zero, List.set_cons_succ, List.getElem_toArray, List.getElem_cons_succ, List.getElem_cons_zero]
    clear hHeld
    have hsd := HBD.out.size
    refine qz26 (rs := [0, 15]) (by kernel_rfl) (by simp) ?_
    refine AllReadyL.cons (o := _) rfl (by decide) (fun K hK => ?_) (AllReadyL.cons (o := _) rfl (by decide) (fun K hK => ?_) AllReadyL.nil)
    · go_simp
      have HBa := qza.mk (((Below.refl w5.heap.size w5).alloc (Nat.le_refl _) (.cells #[] 51)).drew)
      have HOa := qza.mk (own_nilblk20 (W := w5) (Nat.le_refl _) |>.below (Below.refl _ _).drew)
      refine hK.out _ _ (HK0.out.of HBa.out) (fun hHelda => ?_)
      clear hK K
      try simp only [Act.put, List.setIfInBounds_toArray, List.set_cons_zero, List.set_cons_succ, List.getElem_toArray, List.getElem_cons_succ, List.getElem_cons_zero]
      generalize (w5.alloc (.cells #[] 51)).drew = wa at *
      have hga : w5.heap.size < wa.heap.size := HOa.out.lt _ rfl
      refine qz26 (rs := [3, 15]) (by kernel_rfl) (by simp) ?_
      refine AllReadyL.cons (o := _) rfl (by decide) (fun K hK => ?_) (AllReadyL.cons (o := _) rfl (by decide) (fun K hK => ?_) AllReadyL.nil)
      · refine step_append_own rfl (.tmp 44) (.tmp 46) 28 51 _ 5 56 rfl Try.underlying28 infoSaw rfl (by decide) (by decide) w5.heap.size (.slice (some ⟨w5.heap.size, 0, none⟩) 0 0) [] (sw.map enc51) B sw.length e9 rfl rfl HOa.out (rawSaw hqc (Kd.C_below HQ.out (HB5.out.trans (HBa.out.mono HB5.out.size)))) HBa.out.size (by simp; omega) ?_
        intro v9 w9 ho9 hg9
        rw [List.nil_append] at ho9
        have HB9 := qza.mk (HBa.out.grown hg9 HBa.out.size (fun k e => HOa.out.base k e))
        have HO9 := qza.mk ho9
        clear ho9 hg9
        refine hK.out _ _ (HK0.out.of HB9.out) (fun hHeld9 => ?_)
        clear hK K
        try simp only [Act.put, List.setIfInBounds_toArray, List.set_cons_zero, List.set_cons_succ, List.getElem_toArray, List.getElem_cons_succ, List.getElem_cons_zero]
        refine qz26 (rs := [15]) (by kernel_rfl) (by simp) ?_
        refine AllReadyL.cons (o := _) rfl (by decide) (fun K hK => ?_) AllReadyL.nil
        go_simp
        have HBb := qza.mk (HB9.out.alloc HB9.out.size (.cells #[.int .u64 xa, .string xb, .string va, .int .u64 ve, .bool fo] 51))
        have HOb := qza.mk (HO9.out.kept (World.grownBy_alloc w9 (.cells #[.int .u64 xa, .string xb, .string va, .int .u64 ve, .bool fo] 51) none) (fun b e e2 => by cases e2))
        have HNb := qza.mk (cells_new20 (w := w9) (c := [.int .u64 xa, .string xb, .string va, .int .u64 ve, .bool fo]) (t := 51))
        refine hK.out _ _ (HK0.out.of HBb.out) (fun hHeldb => ?_)
        clear hK K
        try simp only [Act.put, List.setIfInBounds_toArray, List.set_cons_zero, List.set_cons_succ, List.getElem_toArray, List.getElem_cons_succ, List.getElem_cons_zero]
        refine qz26 (rs := [16]) (by kernel_rfl) (by simp) ?_
        refine AllReadyL.cons (o := _) rfl (by decide) (fun K hK => ?_) AllReadyL.nil
        refine qz58 (base := w5.heap.size) rfl (.tmp 47) (.tmp 59) rfl Try.underlying28 infoSaw rfl (by decide) rfl ⟨w9.heap.size, 0, none⟩ rfl (c := [.int .u64 xa, .string xb, .string va, .int .u64 ve, .bool fo]) ⟨rfl, by simp [Value.oneCell']⟩ HNb.out HOb.out HBb.out.size (by rw [List.length_map]; omega) (by rw [List.length_map]; unfold maxLen; omega) ?_
        intro v6 w28 ho28 hg28
        have HB28 := qza.mk (HBb.out.grown hg28 HBb.out.size (fun k e => HOb.out.base k e))
        obtain ⟨Ad, cd, hv6, hcd⟩ := own_sl20 ho28
        have HO28 := qza.mk ho28
        have HCD := qza.mk hcd
        subst hv6
        clear ho28 hg28 hcd
        refine hK.out _ _ (HK0.out.of HB28.out) (fun hHeld16 => ?_)
        clear hK K
        try simp only [Act.put, List.setIfInBounds_toArray, List.set_cons_zero, List.set_cons_succ]
        refine qz19 (i := 17) (oi := _) (v := .pointer (some ⟨w.heap.size, 8, none⟩)) rfl (by kernel_rfl) (by kernel_rfl) (by kernel_rfl) (by kernel_rfl) (by kernel_rfl) (fun _ _ _ h => h) (Or.inl ⟨by kernel_rfl, ?_⟩) (by assumption) ?_
        · intro w hSw; (try dsimp only at hSw); go_simp
        try simp only [Act.put, List.setIfInBounds_toArray, List.set_cons_zero, List.set_cons_succ]
        have HX28 := qza.mk (qz16 HB28.out HX5.out)
        obtain ⟨hd0, hd1, hd2, hd3, hd4, hd5, hd6, hd7, hd8⟩ := qz13 HX28.out
        obtain ⟨hf0, hf1, hf2, hf3, hf4, hf5, hf6, hf7, hf8⟩ := qz17 HX28.out
        refine qz26 (rs := [18]) (by kernel_rfl) (by simp) ?_
        refine AllReadyL.cons_last (o := _) rfl (by decide) (fun K hK => ?_) AllReadyL.nil
        go_simp
        refine hK.out _ _ ?_
        clear hK K
        try simp only [Act.put, List.setIfInBounds_toArray, List.set_cons_zero, List.set_cons_succ]
        refine qz56 (by kernel_rfl) ?_ _
        refine NoPanic.normal ?_
        go_wp2
        go_meet
        refine ⟨Ad, cd, ⟨by have h := HCD.out; simpa using h⟩, ⟨?_⟩, ⟨?_⟩, ⟨?_⟩, ⟨?_⟩⟩
        · have := qz12 HX28.out 8 (.slice Ad (sw.length + 1) cd) rfl
          simpa using this
        · exact (RowKit.Below.heap_setCell w28 ⟨w.heap.size, 8, none⟩ _ (w.heap.size + 2) (show w.heap.size + 2 ≠ w.heap.size by omega)).trans (qz16 HB28.out HZ5.out)
        · exact RowKit.Below.setCell (p := ⟨w.heap.size, 8, none⟩) (HB5.out.trans (HB28.out.mono HB5.out.size)) (Nat.le_refl _) _
        · have h := HO28.out.kept (Lib.grownBy_setCell w28 w.heap.size 8 (.slice Ad (sw.length + 1) cd)) (fun b e e2 => by have := HO28.out.base b e; have := Option.some.inj e2; omega)
          rw [List.map_append]
          simpa [enc51] using h
      · go_simp
        have HBb := qza.mk (HBa.out.alloc HBa.out.size (.cells #[.int .u64 xa, .string xb, .string va, .int .u64 ve, .bool fo] 51))
        have HOb := qza.mk (HOa.out.kept (World.grownBy_alloc wa (.cells #[.int .u64 xa, .string xb, .string va, .int .u64 ve, .bool fo] 51) none) (fun b e e2 => by cases e2))
        have NBb := qza.mk (heap_alloc_new wa (.cells #[.int .u64 xa, .string xb, .string va, .int .u64 ve, .bool fo] 51))
        refine hK.out _ _ (HK0.out.of HBb.out) (fun hHeldb => ?_)
        clear hK K
        try simp only [Act.put, List.setIfInBounds_toArray, List.set_cons_zero, List.set_cons_succ, List.getElem_toArray, List.getElem_cons_succ, List.getElem_cons_zero]
        generalize wa.alloc (.cells #[.int .u64 xa, .string xb, .string va, .int .u64 ve, .bool fo] 51) = wb at *
        refine qz26 (rs := [3]) (by kernel_rfl) (by simp) ?_
        refine AllReadyL.cons (o := _) rfl (by decide) (fun K hK => ?_) AllReadyL.nil
        refine step_append_own rfl (.tmp 44) (.tmp 46) 28 51 _ 5 56 rfl Try.underlying28 infoSaw rfl (by decide) (by decide) w5.heap.size (.slice (some ⟨w5.heap.size, 0, none⟩) 0 0) [] (sw.map enc51) B sw.length e9 rfl rfl HOb.out (rawSaw hqc (Kd.C_below HQ.out (HB5.out.trans (HBb.out.mono HB5.out.size)))) HBb.out.size (by simp; omega) ?_
        intro v9 w9 ho9 hg9
        rw [List.nil_append] at ho9
        have HB9 := qza.mk (HBb.out.grown hg9 HBb.out.size (fun k e => HOb.out.base k e))
        have HO9 := qza.mk ho9
        have HN9 := qza.mk (cells_blk20 (c := [.int .u64 xa, .string xb, .string va, .int .u64 ve, .bool fo]) ((hg9.block _ (Array.getElem?_eq_some_iff.1 NBb.out).1 (by simp [Value.ownBlock]; omega)).trans NBb.out))
        clear ho9 hg9
        refine hK.out _ _ (HK0.out.of HB9.out) (fun hHeld9 => ?_)
        clear hK K
        try simp only [Act.put, List.setIfInBounds_toArray, List.set_cons_zero, List.set_cons_succ, List.getElem_toArray, List.getElem_cons_succ, List.getElem_cons_zero]
        refine qz26 (rs := [16]) (by kernel_rfl) (by simp) ?_
        refine AllReadyL.cons (o := _) rfl (by decide) (fun K hK => ?_) AllReadyL.nil
        refine qz58 (base := w5.heap.size) rfl (.tmp 47) (.tmp 59) rfl Try.underlying28 infoSaw rfl (by decide) rfl ⟨wa.heap.size, 0, none⟩ rfl (c := [.int .u64 xa, .string xb, .string va, .int .u64 ve, .bool fo]) ⟨rfl, by simp [Value.oneCell']⟩ HN9.out HO9.out HB9.out.size (by rw [List.length_map]; omega) (by rw [List.length_map]; unfold maxLen; omega) ?_
        intro v6 w28 ho28 hg28
        have HB28 := qza.mk (HB9.out.grown hg28 HB9.out.size (fun k e => HO9.out.base k e))
        obtain ⟨Ad, cd, hv6, hcd⟩ := own_sl20 ho28
        have HO28 := qza.mk ho28
        have HCD := qza.mk hcd
        subst hv6
        clear ho28 hg28 hcd
        refine hK.out _ _ (HK0.out.of HB28.out) (fun hHeld16 => ?_)
        clear hK K
        try simp only [Act.put, List.setIfInBounds_toArray, List.set_cons_zero, List.set_cons_succ]
        refine qz19 (i := 17) (oi := _) (v := .pointer (some ⟨w.heap.size, 8, none⟩)) rfl (by kernel_rfl) (by kernel_rfl) (by kernel_rfl) (by kernel_rfl) (by kernel_rfl) (fun _ _ _ h => h) (Or.inl ⟨by kernel_rfl, ?_⟩) (by assumption) ?_
        · intro w hSw; (try dsimp only at hSw); go_simp
        try simp only [Act.put, List.setIfInBounds_toArray, List.set_cons_zero, List.set_cons_succ]
        have HX28 := qza.mk (qz16 HB28.out HX5.out)
        obtain ⟨hd0, hd1, hd2, hd3, hd4, hd5, hd6, hd7, hd8⟩ := qz13 HX28.out
        obtain ⟨hf0, hf1, hf2, hf3, hf4, hf5, hf6, hf7, hf8⟩ := qz17 HX28.out
        refine qz26 (rs := [18]) (by kernel_rfl) (by simp) ?_
        refine AllReadyL.cons_last (o := _) rfl (by decide) (fun K hK => ?_) AllReadyL.nil
        go_simp
        refine hK.out _ _ ?_
        clear hK K
        try simp only [Act.put, List.setIfInBounds_toArray, List.set_cons_zero, List.set_cons_succ]
        refine qz56 (by kernel_rfl) ?_ _
        refine NoPanic.normal ?_
        go_wp2
        go_meet
        refine ⟨Ad, cd, ⟨by have h := HCD.out; simpa using h⟩, ⟨?_⟩, ⟨?_⟩, ⟨?_⟩, ⟨?_⟩⟩
        · have := qz12 HX28.out 8 (.slice Ad (sw.length + 1) cd) rfl
          simpa using this
        · exact (RowKit.Below.heap_setCell w28 ⟨w.heap.size, 8, none⟩ _ (w.heap.size + 2) (show w.heap.size + 2 ≠ w.heap.size by omega)).trans (qz16 HB28.out HZ5.out)
        · exact RowKit.Below.setCell (p := ⟨w.heap.size, 8, none⟩) (HB5.out.trans (HB28.out.mono HB5.out.size)) (Nat.le_refl _) _
        · have h := HO28.out.kept (Lib.grownBy_setCell w28 w.heap.size 8 (.slice Ad (sw.length + 1) cd)) (fun b e e2 => by have := HO28.out.base b e; have := Option.some.inj e2; omega)
          rw [List.map_append]
          simpa [enc51] using h
    · go_simp
      have HBa := qza.mk (((Below.refl w5.heap.size w5).alloc (Nat.le_refl _) (.cells #[.int .u64 xa, .string xb, .string va, .int .u64 ve, .bool fo] 51)).drew)
      have NBa := qza.mk (show (w5.alloc (.cells #[.int .u64 xa, .string xb, .string va, .int .u64 ve, .bool fo] 51)).drew.heap[w5.heap.size]? = _ from heap_alloc_new w5 (.cells #[.int .u64 xa, .string xb, .string va, .int .u64 ve, .bool fo] 51))
      refine hK.out _ _ (HK0.out.of HBa.out) (fun hHelda => ?_)
      clear hK K
      try simp only [Act.put, List.setIfInBounds_toArray, List.set_cons_zero, List.set_cons_succ, List.getElem_toArray, List.getElem_cons_succ, List.getElem_cons_zero]
      generalize (w5.alloc (.cells #[.int .u64 xa, .string xb, .string va, .int .u64 ve, .bool fo] 51)).drew = wa at *
      have hga := (Array.getElem?_eq_some_iff.1 NBa.out).1
      refine qz26 (rs := [0]) (by kernel_rfl) (by simp) ?_
      refine AllReadyL.cons (o := _) rfl (by decide) (fun K hK => ?_) AllReadyL.nil
      go_simp
      have HBb := qza.mk (HBa.out.alloc HBa.out.size (.cells #[] 51))
      have HOb := qza.mk (own_nilblk20 (W := wa) (base := w5.heap.size) HBa.out.size)
      have NBb := qza.mk (qz14 NBa.out (.cells #[] 51))
      refine hK.out _ _ (HK0.out.of HBb.out) (fun hHeldb => ?_)
      clear hK K
      try simp only [Act.put, List.setIfInBounds_toArray, List.set_cons_zero, List.set_cons_succ, List.getElem_toArray, List.getElem_cons_succ, List.getElem_cons_zero]
      generalize wa.alloc (.cells #[] 51) = wb at *
      refine qz26 (rs := [3]) (by kernel_rfl) (by simp) ?_
      refine AllReadyL.cons (o := _) rfl (by decide) (fun K hK => ?_) AllReadyL.nil
      refine step_append_own rfl (.tmp 44) (.tmp 46) 28 51 _ 5 56 rfl Try.underlying28 infoSaw rfl (by decide) (by decide) w5.heap.size (.slice (some ⟨wa.heap.size, 0, none⟩) 0 0) [] (sw.map enc51) B sw.length e9 rfl rfl HOb.out (rawSaw hqc (Kd.C_below HQ.out (HB5.out.trans (HBb.out.mono HB5.out.size)))) HBb.out.size (by simp; omega) ?_
      intro v9 w9 ho9 hg9
      rw [List.nil_append] at ho9
      have HB9 := qza.mk (HBb.out.grown hg9 HBb.out.size (fun k e => HOb.out.base k e))
      have HO9 := qza.mk ho9
      have HN9 := qza.mk (cells_blk20 (c := [.int .u64 xa, .string xb, .string va, .int .u64 ve, .bool fo]) ((hg9.block _ (Array.getElem?_eq_some_iff.1 NBb.out).1 (by simp [Value.ownBlock]; omega)).trans NBb.out))
      clear ho9 hg9
      refine hK.out _ _ (HK0.out.of HB9.out) (fun hHeld9 => ?_)
      clear hK K
      try simp only [Act.put, List.setIfInBounds_toArray, List.set_cons_zero, List.set_cons_succ, List.getElem_toArray, List.getElem_cons_succ, List.getElem_cons_zero]
      refine qz26 (rs := [16]) (by kernel_rfl) (by simp) ?_
      refine AllReadyL.cons (o := _) rfl (by decide) (fun K hK => ?_) AllReadyL.nil
      refine qz58 (base := w5.heap.size) rfl (.tmp 47) (.tmp 59) rfl Try.underlying28 infoSaw rfl (by decide) rfl ⟨w5.heap.size, 0, none⟩ rfl (c := [.int .u64 xa, .string xb, .string va, .int .u64 ve, .bool fo]) ⟨rfl, by simp [Value.oneCell']⟩ HN9.out HO9.out HB9.out.size (by rw [List.length_map]; omega) (by rw [List.length_map]; unfold maxLen; omega) ?_
      intro v6 w28 ho28 hg28
      have HB28 := qza.mk (HB9.out.grown hg28 HB9.out.size (fun k e => HO9.out.base k e))
      obtain ⟨Ad, cd, hv6, hcd⟩ := own_sl20 ho28
      have HO28 := qza.mk ho28
      have HCD := qza.mk hcd
      subst hv6
      clear ho28 hg28 hcd
      refine hK.out _ _ (HK0.out.of HB28.out) (fun hHeld16 => ?_)
      clear hK K
      try simp only [Act.put, List.setIfInBounds_toArray, List.set_cons_zero, List.set_cons_succ]
      refine qz19 (i := 17) (oi := _) (v := .pointer (some ⟨w.heap.size, 8, none⟩)) rfl (by kernel_rfl) (by kernel_rfl) (by kernel_rfl) (by kernel_rfl) (by kernel_rfl) (fun _ _ _ h => h) (Or.inl ⟨by kernel_rfl, ?_⟩) (by assumption) ?_
      · intro w hSw; (try dsimp only at hSw); go_simp
      try simp only [Act.put, List.setIfInBounds_toArray, List.set_cons_zero, List.set_cons_succ]
      have HX28 := qza.mk (qz16 HB28.out HX5.out)
      obtain ⟨hd0, hd1, hd2, hd3, hd4, hd5, hd6, hd7, hd8⟩ := qz13 HX28.out
      obtain ⟨hf0, hf1, hf2, hf3, hf4, hf5, hf6, hf7, hf8⟩ := qz17 HX28.out
      refine qz26 (rs := [18]) (by kernel_rfl) (by simp) ?_
      refine AllReadyL.cons_last (o := _) rfl (by decide) (fun K hK => ?_) AllReadyL.nil
      go_simp
      refine hK.out _ _ ?_
      clear hK K
      try simp only [Act.put, List.setIfInBounds_toArray, List.set_cons_zero, List.set_cons_succ]
      refine qz56 (by kernel_rfl) ?_ _
      refine NoPanic.normal ?_
      go_wp2
      go_meet
      refine ⟨Ad, cd, ⟨by have h := HCD.out; simpa using h⟩, ⟨?_⟩, ⟨?_⟩, ⟨?_⟩, ⟨?_⟩⟩
      · have := qz12 HX28.out 8 (.slice Ad (sw.length + 1) cd) rfl
        simpa using this
      · exact (RowKit.Below.heap_setCell w28 ⟨w.heap.size, 8, none⟩ _ (w.heap.size + 2) (show w.heap.size + 2 ≠ w.heap.size by omega)).trans (qz16 HB28.out HZ5.out)
      · exact RowKit.Below.setCell (p := ⟨w.heap.size, 8, none⟩) (HB5.out.trans (HB28.out.mono HB5.out.size)) (Nat.le_refl _) _
      · have h := HO28.out.kept (Lib.grownBy_setCell w28 w.heap.size 8 (.slice Ad (sw.length + 1) cd)) (fun b e e2 => by have := HO28.out.base b e; have := Option.some.inj e2; omega)
        rw [List.map_append]
        simpa [enc51] using h
  case rest =>
    clear hd0 hd1 hd2 hd3 hd4 hd5 hd6 hd7 hd8 ha0 ha1 ha2 ha3 ha4 hx0 hx1 hx2 hx3 hx4
    obtain ⟨Ad, cd, HCD, HXc, HZc, HBc, HOc⟩ := hcut
    have hv2 : worksV ⟨ta, ti, st, 0, (n : Int), fa, og, cm, sw⟩ er va ve fo = if (st.length : Int) ≤ (n : Int) + 1 then ⟨ta, ti, st, 1, 0, fa, og, cm, sw ++ [⟨xa, xb, va, ve, fo⟩]⟩ else ⟨ta, ti, st, 0, (n : Int) + 1, fa, og, cm, sw ++ [⟨xa, xb, va, ve, fo⟩]⟩ := by
      unfold worksV
      dsimp only
      have hw64 : wrap64 ((n : Int) + 1) = (n : Int) + 1 := by unfold wrap64; omega
      rw [if_neg (by rw [HER.out]; decide), if_pos HER.out, hw64, Int.toNat_natCast, HXE.out]
      unfold toV
      simp
    rw [hv2] at HV
    have hlen : (sw ++ [(⟨xa, xb, va, ve, fo⟩ : S51)]).length = sw.length + 1 := by simp
    rw [← hlen] at HXc HCD HOc
    clear hlen hv2 HXE
    generalize sw ++ [(⟨xa, xb, va, ve, fo⟩ : S51)] = sw2 at *
    have hnw : IntKind.i64.wrap ((n : Int) + 1) = (n : Int) + 1 := by rw [IntKind.wrap_i64]; omega
    obtain ⟨hd0, hd1, hd2, hd3, hd4, hd5, hd6, hd7, hd8⟩ := qz13 HXc.out
    obtain ⟨hu0, hu1, hu2, hu3, hu4, hu5, hu6, hu7, hu8⟩ := qz17 HXc.out
    obtain ⟨hz0, hz1, hz2, hz3, hz4, hz5, hz6, hz7, hz8⟩ := qz13 HZc.out
    obtain ⟨hf0, hf1, hf2, hf3, hf4, hf5, hf6, hf7, hf8⟩ := qz17 HZc.out
    go_upto_region 15 with (fail)
    have HX6 : qza ((wc.setCell ⟨w.heap.size, 4, none⟩ (.int .i64 ((n : Int) + 1))).heap[w.heap.size]? = some (.cells #[.int .u64 ta, .int .u64 ti, .slice (some ⟨pb, po, none⟩) st.length c, .int .i64 0, .int .i64 ((n : Int) + 1), .bool fa, .bool og, .bool cm, .slice Ad sw2.length cd] 30 (0, 0))) := ⟨(qz12 (cs := #[.int .u64 ta, .int .u64 ti, .slice (some ⟨pb, po, none⟩) st.length c, .int .i64 0, .int .i64 (n : Int), .bool fa, .bool og, .bool cm, .slice Ad sw2.length cd]) HXc.out 4 (.int .i64 ((n : Int) + 1)) rfl)⟩
    have HZ6 : qza ((wc.setCell ⟨w.heap.size, 4, none⟩ (.int .i64 ((n : Int) + 1))).heap[w.heap.size + 2]? = some (.cells #[.int .u64 0, .int .u64 0, .slice none 0 0, .int .i64 0, .int .i64 0, .bool false, .bool false, .bool false, .slice none 0 0] 30 (0, 0))) := ⟨((RowKit.Below.heap_setCell wc ⟨w.heap.size, 4, none⟩ (.int .i64 ((n : Int) + 1)) (w.heap.size + 2) (show w.heap.size + 2 ≠ w.heap.size by omega)).trans HZc.out)⟩
    have HB6 : qza (Below w.heap.size w (wc.setCell ⟨w.heap.size, 4, none⟩ (.int .i64 ((n : Int) + 1)))) := ⟨(RowKit.Below.setCell (p := ⟨w.heap.size, 4, none⟩) HBc.out (Nat.le_refl _) (.int .i64 ((n : Int) + 1)))⟩
    have HO6 := qza.mk (HOc.out.kept ((World.grownBy.refl wc (some w.heap.size)).trans (Lib.grownBy_setCell wc w.heap.size 4 (.int .i64 ((n : Int) + 1)))) (fun b e e2 => by have := HOc.out.base b e; have := Option.some.inj e2; omega))
    change Code.wp _ _ _ _ (wc.setCell ⟨w.heap.size, 4, none⟩ (.int .i64 ((n : Int) + 1)))
    generalize (wc.setCell ⟨w.heap.size, 4, none⟩ (.int .i64 ((n : Int) + 1))) = w6 at *
    clear hd0 hd1 hd2 hd3 hd4 hd5 hd6 hd7 hd8 hz0 hz1 hz2 hz3 hz4 hz5 hz6 hz7 hz8 hf0 hf1 hf2 hf3 hf4 hf5 hf6 hf7 hf8 hu0 hu1 hu2 hu3 hu4 hu5 hu6 hu7 hu8 HXc HZc HBc HOc
    obtain ⟨hd0, hd1, hd2, hd3, hd4, hd5, hd6, hd7, hd8⟩ := qz13 HX6.out
    obtain ⟨hz0, hz1, hz2, hz3, hz4, hz5, hz6, hz7, hz8⟩ := qz13 HZ6.out
    obtain ⟨hf0, hf1, hf2, hf3, hf4, hf5, hf6, hf7, hf8⟩ := qz17 HZ6.out
    obtain ⟨hu0, hu1, hu2, hu3, hu4, hu5, hu6, hu7, hu8⟩ := qz17 HX6.out
    by_cases hle : (st.length : Int) ≤ (n : Int) + 1
    · rw [if_pos hle] at HV
      go_upto_region 43 with (fail)
      have HX7 : qza (((w6.setCell ⟨w.heap.size, 3, none⟩ (.int .i64 1)).setCell ⟨w.heap.size, 4, none⟩ (.int .i64 0)).heap[w.heap.size]? = some (.cells #[.int .u64 ta, .int .u64 ti, .slice (some ⟨pb, po, none⟩) st.length c, .int .i64 1, .int .i64 0, .bool fa, .bool og, .bool cm, .slice Ad sw2.length cd] 30 (0, 0))) := ⟨(qz12 (cs := #[.int .u64 ta, .int .u64 ti, .slice (some ⟨pb, po, none⟩) st.length c, .int .i64 1, .int .i64 ((n : Int) + 1), .bool fa, .bool og, .bool cm, .slice Ad sw2.length cd]) (qz12 (cs := #[.int .u64 ta, .int .u64 ti, .slice (some ⟨pb, po, none⟩) st.length c, .int .i64 0, .int .i64 ((n : Int) + 1), .bool fa, .bool og, .bool cm, .slice Ad sw2.length cd]) HX6.out 3 (.int .i64 1) rfl) 4 (.int .i64 0) rfl)⟩
      have HZ7 : qza (((w6.setCell ⟨w.heap.size, 3, none⟩ (.int .i64 1)).setCell ⟨w.heap.size, 4, none⟩ (.int .i64 0)).heap[w.heap.size + 2]? = some (.cells #[.int .u64 0, .int .u64 0, .slice none 0 0, .int .i64 0, .int .i64 0, .bool false, .bool false, .bool false, .slice none 0 0] 30 (0, 0))) := ⟨((RowKit.Below.heap_setCell (w6.setCell ⟨w.heap.size, 3, none⟩ (.int .i64 1)) ⟨w.heap.size, 4, none⟩ (.int .i64 0) (w.heap.size + 2) (show w.heap.size + 2 ≠ w.heap.size by omega)).trans ((RowKit.Below.heap_setCell w6 ⟨w.heap.size, 3, none⟩ (.int .i64 1) (w.heap.size + 2) (show w.heap.size + 2 ≠ w.heap.size by omega)).trans HZ6.out))⟩
      have HB7 : qza (Below w.heap.size w ((w6.setCell ⟨w.heap.size, 3, none⟩ (.int .i64 1)).setCell ⟨w.heap.size, 4, none⟩ (.int .i64 0))) := ⟨(RowKit.Below.setCell (p := ⟨w.heap.size, 4, none⟩) (RowKit.Below.setCell (p := ⟨w.heap.size, 3, none⟩) HB6.out (Nat.le_refl _) (.int .i64 1)) (Nat.le_refl _) (.int .i64 0))⟩
      have HO7 := qza.mk (HO6.out.kept (((World.grownBy.refl w6 (some w.heap.size)).trans (Lib.grownBy_setCell w6 w.heap.size 3 (.int .i64 1))).trans (Lib.grownBy_setCell (w6.setCell ⟨w.heap.size, 3, none⟩ (.int .i64 1)) w.heap.size 4 (.int .i64 0))) (fun b e e2 => by have := HO6.out.base b e; have := Option.some.inj e2; omega))
      change Code.wp _ _ _ _ ((w6.setCell ⟨w.heap.size, 3, none⟩ (.int .i64 1)).setCell ⟨w.heap.size, 4, none⟩ (.int .i64 0))
      generalize ((w6.setCell ⟨w.heap.size, 3, none⟩ (.int .i64 1)).setCell ⟨w.heap.size, 4, none⟩ (.int .i64 0)) = w7 at *
      clear hd0 hd1 hd2 hd3 hd4 hd5 hd6 hd7 hd8 hz0 hz1 hz2 hz3 hz4 hz5 hz6 hz7 hz8 hf0 hf1 hf2 hf3 hf4 hf5 hf6 hf7 hf8 hu0 hu1 hu2 hu3 hu4 hu5 hu6 hu7 hu8 HX6 HZ6 HB6 HO6
      obtain ⟨hd0, hd1, hd2, hd3, hd4, hd5, hd6, hd7, hd8⟩ := qz13 HX7.out
      obtain ⟨hz0, hz1, hz2, hz3, hz4, hz5, hz6, hz7, hz8⟩ := qz13 HZ7.out
      obtain ⟨hf0, hf1, hf2, hf3, hf4, hf5, hf6, hf7, hf8⟩ := qz17 HZ7.out
      obtain ⟨hu0, hu1, hu2, hu3, hu4, hu5, hu6, hu7, hu8⟩ := qz17 HX7.out
      go_wp2
      refine ret9 (g := w.heap.size + 2) rfl rfl rfl (qz34 HZ7.out _ _ _ _ _ _ _ _ _) ?_
      rw [HV.out]
      unfold DPost
      exact ⟨_, rfl, Or.inr (Own.lower (HO7.out.kept (putB9_grown _ _ _ _ _ _ _ _ _ _ _) (fun b e e2 => by have := HO7.out.base b e; have := Option.some.inj e2; omega)) (by omega)), qz23 HB7.out (by omega) _ _ _ _ _ _ _ _ _⟩
    · rw [if_neg hle] at HV
      go_wp2
      refine ret9 (g := w.heap.size + 2) rfl rfl rfl (qz34 HZ6.out _ _ _ _ _ _ _ _ _) ?_
      rw [HV.out]
      unfold DPost
      exact ⟨_, rfl, Or.inr (Own.lower (HO6.out.kept (putB9_grown _ _ _ _ _ _ _ _ _ _ _) (fun b e e2 => by have := HO6.out.base b e; have := Option.some.inj e2; omega)) (by omega)), qz23 HB6.out (by omega) _ _ _ _ _ _ _ _ _⟩
theorem refHear_calls (ta ti : Int) (A : Option Addr) (c : Nat) (st : List S53) (ph ap : Int) (fa og cm : Bool) (B : Option Addr) (e9 : Nat) (sw : List S51) (er : Int) (va : ByteArray) (ve : Int) (fo co : Bool) (w : World) (hr : Kd.C k53 w A st.length st) (hc : st.length ≤ c) (hq : Kd.C k51 w B sw.length sw) (hqc : sw.length ≤ e9) (hl : st.length ≤ 3000000000000) (hg : ∀ x ∈ st, 0 ≤ x.f0 ∧ x.f0 ≤ 18446744073709551615) (hswl : sw.length ≤ 2513169434843) :
    Calls Try.prog 15 #[.agg #[.int .u64 ta, .int .u64 ti, .slice A st.length c, .int .i64 ph, .int .i64 ap, .bool fa, .bool og, .bool cm, .slice B sw.length e9], .agg #[.int .i64 er, .string va, .int .u64 ve, .bool fo, .bool co]] w (DPost A c B e9 sw (hearV ⟨ta, ti, st, ph, ap, fa, og, cm, sw⟩ er va ve fo co) w) := by
  cases hn : (nextV ⟨ta, ti, st, ph, ap, fa, og, cm, sw⟩).2.2 with
  | false => exact refHear_n ta ti A c st ph ap fa og cm B e9 sw er va ve fo co w hr hc hq hqc hl hg hn
  | true =>
    rcases next_ph hn with h | h | h | h | h
    · by_cases h11 : er = 11
      · exact refHear_0b ta ti A c st ph ap fa og cm B e9 sw er va ve fo co w hr hc hq hqc hl hg h h11 hn
      · by_cases h0 : er = 0
        · exact refHear_0o ta ti A c st ph ap fa og cm B e9 sw er va ve fo co w hr hc hq hqc hl hg h h0 hswl hn
        · exact refHear_0f ta ti A c st ph ap fa og cm B e9 sw er va ve fo co w hr hc hq hqc hl hg h h11 h0 hn
    · exact refHear_1 ta ti A c st ph ap fa og cm B e9 sw er va ve fo co w hr hc hq hqc hl hg h hn
    · exact refHear_2 ta ti A c st ph ap fa og cm B e9 sw er va ve fo co w hr hc hq hqc hl hg h hn
    · exact refHear_3 ta ti A c st ph ap fa og cm B e9 sw er va ve fo co w hr hc hq hqc hl hg h hn
    · exact refHear_4 ta ti A c st ph ap fa og cm B e9 sw er va ve fo co w hr hc hq hqc hl hg h hn
end Go.Proofs.Ytkennobdoldlkaa.PAll
end
