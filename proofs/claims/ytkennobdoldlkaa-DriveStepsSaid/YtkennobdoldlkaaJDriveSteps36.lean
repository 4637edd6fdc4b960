/- Joined texts of the claim DriveSteps (part 36): contracts of functions and plain laws. -/
import Derived.Test.YtkennobdoldlkaaJDriveSteps35
set_option linter.unusedVariables false
set_option linter.unusedSimpArgs false
section
namespace Go.Proofs.Ytkennobdoldlkaa.PAll
open Go.RowKit Go.Proofs.YtkennobdoldlkaaW.PrintWords Go.Proofs.Ytkennobdoldlkaa
def hearV (d : Drv) (er : Int) (va : ByteArray) (ve : Int) (fo co : Bool) : Drv :=
  if (nextV d).2.2 = false then d
  else if d.ph = 0 then worksV d er va ve fo
  else if d.ph = 1 then (if er = 0 then toV d 2 false else toV d 3 true)
  else if d.ph = 2 then (if er = 0 then onV d 3 else toV d 3 true)
  else if d.ph = 3 then toV { d with cm := decide (er = 0) && co } 4 false
  else onV d 5
theorem swv20 {B : Option Addr} {e9 base : Nat} {sw sw2 : List S51} {w : World} {vw : Value} (h : (vw = .slice B sw.length e9 ∧ sw2 = sw) ∨ Own 5 51 w base vw (sw2.map enc51)) : ∃ A n c, vw = .slice A n c := by
  rcases h with ⟨rfl, _⟩ | h
  · exact ⟨_, _, _, rfl⟩
  · obtain ⟨A, c, e, _⟩ := own_sl20 h
    exact ⟨_, _, _, e⟩
theorem DPost.same {A : Option Addr} {c : Nat} {B : Option Addr} {e9 : Nat} {sw : List S51} {d : Drv} {w W : World} (h1 : d.sw = sw) (hb : Below w.heap.size w W) : DPost A c B e9 sw d w (.returned (dagg d (.slice A d.st.length c) (.slice B sw.length e9))) W := ⟨_, rfl, Or.inl ⟨rfl, h1⟩, hb⟩
set_option maxHeartbeats 1000000 in
set_option maxRecDepth 100000 in
theorem hear_n (ta ti : Int) (A : Option Addr) (c : Nat) (st : List S53) (ph ap : Int) (fa og cm : Bool) (B : Option Addr) (e9 : Nat) (sw : List S51) (er : Int) (va : ByteArray) (ve : Int) (fo co : Bool) (w : World) (hr : Kd.C k53 w A st.length st) (hc : st.length ≤ c) (hq : Kd.C k51 w B sw.length sw) (hqc : sw.length ≤ e9) (hl : st.length ≤ 3000000000000) (hg : ∀ x ∈ st, 0 ≤ x.f0 ∧ x.f0 ≤ 18446744073709551615) (hn : (nextV ⟨ta, ti, st, ph, ap, fa, og, cm, sw⟩).2.2 = false) :
    Calls Try.prog 14 #[.agg #[.int .u64 ta, .int .u64 ti, .slice A st.length c, .int .i64 ph, .int .i64 ap, .bool fa, .bool og, .bool cm, .slice B sw.length e9], .agg #[.int .i64 er, .string va, .int .u64 ve, .bool fo, .bool co]] w (DPost A c B e9 sw (hearV ⟨ta, ti, st, ph, ap, fa, og, cm, sw⟩ er va ve fo co) w) := by
  have hv : hearV ⟨ta, ti, st, ph, ap, fa, og, cm, sw⟩ er va ve fo co = ⟨ta, ti, st, ph, ap, fa, og, cm, sw⟩ := by
    unfold hearV
    rw [if_pos hn]
  have HV := qza.mk hv
  clear hv
  have HR := qza.mk hr
  have HQ := qza.mk hq
  have HG := qza.mk hg
  have hx := qz14 (qz14 (heap_alloc_new w (.cells #[.int .u64 ta, .int .u64 ti, .slice A st.length c, .int .i64 ph, .int .i64 ap, .bool fa, .bool og, .bool cm, .slice B sw.length e9] 30)) (.cells #[.int .i64 er, .string va, .int .u64 ve, .bool fo, .bool co] 33)) (.cells #[.int .u64 0, .int .u64 0, .slice none 0 0, .int .i64 0, .int .i64 0, .bool false, .bool false, .bool false, .slice none 0 0] 30)
  have ha := qz14 (heap_alloc_new (w.alloc (.cells #[.int .u64 ta, .int .u64 ti, .slice A st.length c, .int .i64 ph, .int .i64 ap, .bool fa, .bool og, .bool cm, .slice B sw.length e9] 30)) (.cells #[.int .i64 er, .string va, .int .u64 ve, .bool fo, .bool co] 33)) (.cells #[.int .u64 0, .int .u64 0, .slice none 0 0, .int .i64 0, .int .i64 0, .bool false, .bool false, .bool false, .slice none 0 0] 30)
  have hz : (((w.alloc (.cells #[.int .u64 ta, .int .u64 ti, .slice A st.length c, .int .i64 ph, .int .i64 ap, .bool fa, .bool og, .bool cm, .slice B sw.length e9] 30)).alloc (.cells #[.int .i64 er, .string va, .int .u64 ve, .bool fo, .bool co] 33)).alloc (.cells #[.int .u64 0, .int .u64 0, .slice none 0 0, .int .i64 0, .int .i64 0, .bool false, .bool false, .bool false, .slice none 0 0] 30)).heap[w.heap.size + 2]? = some (.cells #[.int .u64 0, .int .u64 0, .slice none 0 0, .int .i64 0, .int .i64 0, .bool false, .bool false, .bool false, .slice none 0 0] 30 (0, 0)) := by
    have h := heap_alloc_new ((w.alloc (.cells #[.int .u64 ta, .int .u64 ti, .slice A st.length c, .int .i64 ph, .int .i64 ap, .bool fa, .bool og, .bool cm, .slice B sw.length e9] 30)).alloc (.cells #[.int .i64 er, .string va, .int .u64 ve, .bool fo, .bool co] 33)) (.cells #[.int .u64 0, .int .u64 0, .slice none 0 0, .int .i64 0, .int .i64 0, .bool false, .bool false, .bool false, .slice none 0 0] 30)
    rw [World.size_alloc, World.size_alloc] at h
    exact h
  rw [World.size_alloc] at ha
  have HB0 := qza.mk ((((Below.refl w.heap.size w).alloc (Nat.le_refl _) (.cells #[.int .u64 ta, .int .u64 ti, .slice A st.length c, .int .i64 ph, .int .i64 ap, .bool fa, .bool og, .bool cm, .slice B sw.length e9] 30)).alloc (by simp) (.cells #[.int .i64 er, .string va, .int .u64 ve, .bool fo, .bool co] 33)).alloc (by simp; omega) (.cells #[.int .u64 0, .int .u64 0, .slice none 0 0, .int .i64 0, .int .i64 0, .bool false, .bool false, .bool false, .slice none 0 0] 30))
  have HSZ : qza (w.heap.size + 3 ≤ (((w.alloc (.cells #[.int .u64 ta, .int .u64 ti, .slice A st.length c, .int .i64 ph, .int .i64 ap, .bool fa, .bool og, .bool cm, .slice B sw.length e9] 30)).alloc (.cells #[.int .i64 er, .string va, .int .u64 ve, .bool fo, .bool co] 33)).alloc (.cells #[.int .u64 0, .int .u64 0, .slice none 0 0, .int .i64 0, .int .i64 0, .bool false, .bool false, .bool false, .slice none 0 0] 30)).heap.size) := ⟨by simp⟩
  clear hr hg hq
  go_enter Try.func14, Try.ntmps14
  have HX := qza.mk hx
  have HA := qza.mk ha
  have HZ := qza.mk hz
  clear hx ha hz
  go_upto_region 1 with (fail)
  change Code.wp _ _ _ _ (((w.alloc (.cells #[.int .u64 ta, .int .u64 ti, .slice A st.length c, .int .i64 ph, .int .i64 ap, .bool fa, .bool og, .bool cm, .slice B sw.length e9] 30)).alloc (.cells #[.int .i64 er, .string va, .int .u64 ve, .bool fo, .bool co] 33)).alloc (.cells #[.int .u64 0, .int .u64 0, .slice none 0 0, .int .i64 0, .int .i64 0, .bool false, .bool false, .bool false, .slice none 0 0] 30))
  generalize ((w.alloc (.cells #[.int .u64 ta, .int .u64 ti, .slice A st.length c, .int .i64 ph, .int .i64 ap, .bool fa, .bool og, .bool cm, .slice B sw.length e9] 30)).alloc (.cells #[.int .i64 er, .string va, .int .u64 ve, .bool fo, .bool co] 33)).alloc (.cells #[.int .u64 0, .int .u64 0, .slice none 0 0, .int .i64 0, .int .i64 0, .bool false, .bool false, .bool false, .slice none 0 0] 30) = w1 at *
  obtain ⟨hd0, hd1, hd2, hd3, hd4, hd5, hd6, hd7, hd8⟩ := qz13 HX.out
  obtain ⟨ha0, ha1, ha2, ha3, ha4⟩ := qz27 HA.out
  obtain ⟨hz0, hz1, hz2, hz3, hz4, hz5, hz6, hz7, hz8⟩ := qz13 HZ.out
  obtain ⟨hf0, hf1, hf2, hf3, hf4, hf5, hf6, hf7, hf8⟩ := qz17 HZ.out
  have HNX := qza.mk (next_calls ta ti A c st ph ap fa og cm B e9 sw w1 (Kd.C_below HR.out HB0.out) hc (Kd.C_below HQ.out HB0.out) hqc hl HG.out)
  unfold qz40 at HNX
  generalize nextV ⟨ta, ti, st, ph, ap, fa, og, cm, sw⟩ = av at *
  obtain ⟨ag, ⟨ak, a1, a2, akey, apu, acm, apa⟩, ais⟩ := av
  unfold oagg at HNX
  dsimp only at *
  subst hn
  go_upto_region 2 with (go_at_call 10; refine (HNX.out).mono ?_; rintro e w2 ⟨vp, vq, rfl, hp2, hq2, hb2⟩; obtain ⟨A2, c2, rfl, hc2, hC2⟩ := Sl.of_R hp2; obtain ⟨A3, c3, rfl, hc3, hC3⟩ := Sl.of_R hq2; clear hC2 hC3 hp2 hq2; have HB2 := qza.mk hb2; clear hb2)
  have HX3 := qza.mk (qz14 (qz16 HB2.out HX.out) (.cells #[.int .i64 ak, .int .u64 a1, .int .u64 a2, .string akey, .slice A2 apu.length c2, .bool acm, .slice A3 apa.length c3] 38))
  have HA3 := qza.mk (qz14 (qz16 HB2.out HA.out) (.cells #[.int .i64 ak, .int .u64 a1, .int .u64 a2, .string akey, .slice A2 apu.length c2, .bool acm, .slice A3 apa.length c3] 38))
  have HZ3 := qza.mk (qz14 (qz16 HB2.out HZ.out) (.cells #[.int .i64 ak, .int .u64 a1, .int .u64 a2, .string akey, .slice A2 apu.length c2, .bool acm, .slice A3 apa.length c3] 38))
  have HB3 := qza.mk ((HB0.out.trans (HB2.out.mono HB0.out.size)).alloc (HB0.out.trans (HB2.out.mono HB0.out.size)).size (.cells #[.int .i64 ak, .int .u64 a1, .int .u64 a2, .string akey, .slice A2 apu.length c2, .bool acm, .slice A3 apa.length c3] 38))
  have hs3 : (w2.alloc (.cells #[.int .i64 ak, .int .u64 a1, .int .u64 a2, .string akey, .slice A2 apu.length c2, .bool acm, .slice A3 apa.length c3] 38)).heap.size = w2.heap.size + 1 := by simp
  have hs2 := HB2.out.size
  have hsz := HSZ.out
  have hsz3 : w.heap.size + 3 ≤ (w2.alloc (.cells #[.int .i64 ak, .int .u64 a1, .int .u64 a2, .string akey, .slice A2 apu.length c2, .bool acm, .slice A3 apa.length c3] 38)).heap.size := by omega
  clear hs3
  change Code.wp _ _ _ _ (w2.alloc (.cells #[.int .i64 ak, .int .u64 a1, .int .u64 a2, .string akey, .slice A2 apu.length c2, .bool acm, .slice A3 apa.length c3] 38))
  generalize w2.alloc (.cells #[.int .i64 ak, .int .u64 a1, .int .u64 a2, .string akey, .slice A2 apu.length c2, .bool acm, .slice A3 apa.length c3] 38) = w3 at *
  clear hd0 hd1 hd2 hd3 hd4 hd5 hd6 hd7 hd8 ha0 ha1 ha2 ha3 ha4 hz0 hz1 hz2 hz3 hz4 hz5 hz6 hz7 hz8 hf0 hf1 hf2 hf3 hf4 hf5 hf6 hf7 hf8 HX HA HZ HNX
  obtain ⟨hd0, hd1, hd2, hd3, hd4, hd5, hd6, hd7, hd8⟩ := qz13 HX3.out
  obtain ⟨ha0, ha1, ha2, ha3, ha4⟩ := qz27 HA3.out
  obtain ⟨hz0, hz1, hz2, hz3, hz4, hz5, hz6, hz7, hz8⟩ := qz13 HZ3.out
  obtain ⟨hf0, hf1, hf2, hf3, hf4, hf5, hf6, hf7, hf8⟩ := qz17 HZ3.out
  go_wp2
  refine ret9 (g := w.heap.size + 2) rfl rfl rfl (qz34 HZ3.out _ _ _ _ _ _ _ _ _) ?_
  rw [HV.out]
  exact DPost.same (d := ⟨ta, ti, st, ph, ap, fa, og, cm, sw⟩) rfl (qz23 HB3.out (by omega) _ _ _ _ _ _ _ _ _)
theorem on_sw (d : Drv) (ph : Int) : (onV d ph).sw = d.sw := by unfold onV; split <;> rfl
theorem on_st (d : Drv) (ph : Int) : (onV d ph).st = d.st := by unfold onV; split <;> rfl
set_option maxHeartbeats 1000000 in
set_option maxRecDepth 100000 in
theorem hear_1 (ta ti : Int) (A : Option Addr) (c : Nat) (st : List S53) (ph ap : Int) (fa og cm : Bool) (B : Option Addr) (e9 : Nat) (sw : List S51) (er : Int) (va : ByteArray) (ve : Int) (fo co : Bool) (w : World) (hr : Kd.C k53 w A st.length st) (hc : st.length ≤ c) (hq : Kd.C k51 w B sw.length sw) (hqc : sw.length ≤ e9) (hl : st.length ≤ 3000000000000) (hg : ∀ x ∈ st, 0 ≤ x.f0 ∧ x.f0 ≤ 18446744073709551615) (he : ph = 1) (hn : (nextV ⟨ta, ti, st, ph, ap, fa, og, cm, sw⟩).2.2 = true) :
    Calls Try.prog 14 #[.agg #[.int .u64 ta, .int .u64 ti, .slice A st.length c, .int .i64 ph, .int .i64 ap, .bool fa, .bool og, .bool cm, .slice B sw.length e9], .agg #[.int .i64 er, .string va, .int .u64 ve, .bool fo, .bool co]] w (DPost A c B e9 sw (hearV ⟨ta, ti, st, ph, ap, fa, og, cm, sw⟩ er va ve fo co) w) := by
  subst he
  have hv : hearV ⟨ta, ti, st, 1, ap, fa, og, cm, sw⟩ er va ve fo co = if er = 0 then toV ⟨ta, ti, st, 1, ap, fa, og, cm, sw⟩ 2 false else toV ⟨ta, ti, st, 1, ap, fa, og, cm, sw⟩ 3 true := by
    unfold hearV
    rw [if_neg (by rw [hn]; simp)]
    rfl
  have HV := qza.mk hv
  clear hv
  have HR := qza.mk hr
  have HQ := qza.mk hq
  have HG := qza.mk hg
  have hx := qz14 (qz14 (heap_alloc_new w (.cells #[.int .u64 ta, .int .u64 ti, .slice A st.length c, .int .i64 1, .int .i64 ap, .bool fa, .bool og, .bool cm, .slice B sw.length e9] 30)) (.cells #[.int .i64 er, .string va, .int .u64 ve, .bool fo, .bool co] 33)) (.cells #[.int .u64 0, .int .u64 0, .slice none 0 0, .int .i64 0, .int .i64 0, .bool false, .bool false, .bool false, .slice none 0 0] 30)
  have ha := qz14 (heap_alloc_new (w.alloc (.cells #[.int .u64 ta, .int .u64 ti, .slice A st.length c, .int .i64 1, .int .i64 ap, .bool fa, .bool og, .bool cm, .slice B sw.length e9] 30)) (.cells #[.int .i64 er, .string va, .int .u64 ve, .bool fo, .bool co] 33)) (.cells #[.int .u64 0, .int .u64 0, .slice none 0 0, .int .i64 0, .int .i64 0, .bool false, .bool false, .bool false, .slice none 0 0] 30)
  have hz : (((w.alloc (.cells #[.int .u64 ta, .int .u64 ti, .slice A st.length c, .int .i64 1, .int .i64 ap, .bool fa, .bool og, .bool cm, .slice B sw.length e9] 30)).alloc (.cells #[.int .i64 er, .string va, .int .u64 ve, .bool fo, .bool co] 33)).alloc (.cells #[.int .u64 0, .int .u64 0, .slice none 0 0, .int .i64 0, .int .i64 0, .bool false, .bool false, .bool false, .slice none 0 0] 30)).heap[w.heap.size + 2]? = some (.cells #[.int .u64 0, .int .u64 0, .slice none 0 0, .int .i64 0, .int .i64 0, .bool false, .bool false, .bool false, .slice none 0 0] 30 (0, 0)) := by
    have h := heap_alloc_new ((w.alloc (.cells #[.int .u64 ta, .int .u64 ti, .slice A st.length c, .int .i64 1, .int .i64 ap, .bool fa, .bool og, .bool cm, .slice B sw.length e9] 30)).alloc (.cells #[.int .i64 er, .string va, .int .u64 ve, .bool fo, .bool co] 33)) (.cells #[.int .u64 0, .int .u64 0, .slice none 0 0, .int .i64 0, .int .i64 0, .bool false, .bool false, .bool false, .slice none 0 0] 30)
    rw [World.size_alloc, World.size_alloc] at h
    exact h
  rw [World.size_alloc] at ha
  have HB0 := qza.mk ((((Below.refl w.heap.size w).alloc (Nat.le_refl _) (.cells #[.int .u64 ta, .int .u64 ti, .slice A st.length c, .int .i64 1, .int .i64 ap, .bool fa, .bool og, .bool cm, .slice B sw.length e9] 30)).alloc (by simp) (.cells #[.int .i64 er, .string va, .int .u64 ve, .bool fo, .bool co] 33)).alloc (by simp; omega) (.cells #[.int .u64 0, .int .u64 0, .slice none 0 0, .int .i64 0, .int .i64 0, .bool false, .bool false, .bool false, .slice none 0 0] 30))
  have HSZ : qza (w.heap.size + 3 ≤ (((w.alloc (.cells #[.int .u64 ta, .int .u64 ti, .slice A st.length c, .int .i64 1, .int .i64 ap, .bool fa, .bool og, .bool cm, .slice B sw.length e9] 30)).alloc (.cells #[.int .i64 er, .string va, .int .u64 ve, .bool fo, .bool co] 33)).alloc (.cells #[.int .u64 0, .int .u64 0, .slice none 0 0, .int .i64 0, .int .i64 0, .bool false, .bool false, .bool false, .slice none 0 0] 30)).heap.size) := ⟨by simp⟩
  clear hr hg hq
  go_enter Try.func14, Try.ntmps14
  have HX := qza.mk hx
  have HA := qza.mk ha
  have HZ := qza.mk hz
  clear hx ha hz
  go_upto_region 1 with (fail)
  change Code.wp _ _ _ _ (((w.alloc (.cells #[.int .u64 ta, .int .u64 ti, .slice A st.length c, .int .i64 1, .int .i64 ap, .bool fa, .bool og, .bool cm, .slice B sw.length e9] 30)).alloc (.cells #[.int .i64 er, .string va, .int .u64 ve, .bool fo, .bool co] 33)).alloc (.cells #[.int .u64 0, .int .u64 0, .slice none 0 0, .int .i64 0, .int .i64 0, .bool false, .bool false, .bool false, .slice none 0 0] 30))
  generalize ((w.alloc (.cells #[.int .u64 ta, .int .u64 ti, .slice A st.length c, .int .i64 1, .int .i64 ap, .bool fa, .bool og, .bool cm, .slice B sw.length e9] 30)).alloc (.cells #[.int .i64 er, .string va, .int .u64 ve, .bool fo, .bool co] 33)).alloc (.cells #[.int .u64 0, .int .u64 0, .slice none 0 0, .int .i64 0, .int .i64 0, .bool false, .bool false, .bool false, .slice none 0 0] 30) = w1 at *
  obtain ⟨hd0, hd1, hd2, hd3, hd4, hd5, hd6, hd7, hd8⟩ := qz13 HX.out
  obtain ⟨ha0, ha1, ha2, ha3, ha4⟩ := qz27 HA.out
  obtain ⟨hz0, hz1, hz2, hz3, hz4, hz5, hz6, hz7, hz8⟩ := qz13 HZ.out
  obtain ⟨hf0, hf1, hf2, hf3, hf4, hf5, hf6, hf7, hf8⟩ := qz17 HZ.out
  have HNX := qza.mk (next_calls ta ti A c st 1 ap fa og cm B e9 sw w1 (Kd.C_below HR.out HB0.out) hc (Kd.C_below HQ.out HB0.out) hqc hl HG.out)
  unfold qz40 at HNX
  generalize nextV ⟨ta, ti, st, 1, ap, fa, og, cm, sw⟩ = av at *
  obtain ⟨ag, ⟨ak, a1, a2, akey, apu, acm, apa⟩, ais⟩ := av
  unfold oagg at HNX
  dsimp only at *
  subst hn
  go_upto_region 2 with (go_at_call 10; refine (HNX.out).mono ?_; rintro e w2 ⟨vp, vq, rfl, hp2, hq2, hb2⟩; obtain ⟨A2, c2, rfl, hc2, hC2⟩ := Sl.of_R hp2; obtain ⟨A3, c3, rfl, hc3, hC3⟩ := Sl.of_R hq2; clear hC2 hC3 hp2 hq2; have HB2 := qza.mk hb2; clear hb2)
  have HX3 := qza.mk (qz14 (qz16 HB2.out HX.out) (.cells #[.int .i64 ak, .int .u64 a1, .int .u64 a2, .string akey, .slice A2 apu.length c2, .bool acm, .slice A3 apa.length c3] 38))
  have HA3 := qza.mk (qz14 (qz16 HB2.out HA.out) (.cells #[.int .i64 ak, .int .u64 a1, .int .u64 a2, .string akey, .slice A2 apu.length c2, .bool acm, .slice A3 apa.length c3] 38))
  have HZ3 := qza.mk (qz14 (qz16 HB2.out HZ.out) (.cells #[.int .i64 ak, .int .u64 a1, .int .u64 a2, .string akey, .slice A2 apu.length c2, .bool acm, .slice A3 apa.length c3] 38))
  have HB3 := qza.mk ((HB0.out.trans (HB2.out.mono HB0.out.size)).alloc (HB0.out.trans (HB2.out.mono HB0.out.size)).size (.cells #[.int .i64 ak, .int .u64 a1, .int .u64 a2, .string akey, .slice A2 apu.length c2, .bool acm, .slice A3 apa.length c3] 38))
  have hs3 : (w2.alloc (.cells #[.int .i64 ak, .int .u64 a1, .int .u64 a2, .string akey, .slice A2 apu.length c2, .bool acm, .slice A3 apa.length c3] 38)).heap.size = w2.heap.size + 1 := by simp
  have hs2 := HB2.out.size
  have hsz := HSZ.out
  have hsz3 : w.heap.size + 3 ≤ (w2.alloc (.cells #[.int .i64 ak, .int .u64 a1, .int .u64 a2, .string akey, .slice A2 apu.length c2, .bool acm, .slice A3 apa.length c3] 38)).heap.size := by omega
  clear hs3
  change Code.wp _ _ _ _ (w2.alloc (.cells #[.int .i64 ak, .int .u64 a1, .int .u64 a2, .string akey, .slice A2 apu.length c2, .bool acm, .slice A3 apa.length c3] 38))
  generalize w2.alloc (.cells #[.int .i64 ak, .int .u64 a1, .int .u64 a2, .string akey, .slice A2 apu.length c2, .bool acm, .slice A3 apa.length c3] 38) = w3 at *
  clear hd0 hd1 hd2 hd3 hd4 hd5 hd6 hd7 hd8 ha0 ha1 ha2 ha3 ha4 hz0 hz1 hz2 hz3 hz4 hz5 hz6 hz7 hz8 hf0 hf1 hf2 hf3 hf4 hf5 hf6 hf7 hf8 HX HA HZ HNX
  obtain ⟨hd0, hd1, hd2, hd3, hd4, hd5, hd6, hd7, hd8⟩ := qz13 HX3.out
  obtain ⟨ha0, ha1, ha2, ha3, ha4⟩ := qz27 HA3.out
  obtain ⟨hz0, hz1, hz2, hz3, hz4, hz5, hz6, hz7, hz8⟩ := qz13 HZ3.out
  obtain ⟨hf0, hf1, hf2, hf3, hf4, hf5, hf6, hf7, hf8⟩ := qz17 HZ3.out
  by_cases her : er = 0
  · rw [if_pos her] at HV
    have hz : (er != 0) = false := by rw [her]; rfl
    have HTC := qza.mk (to_calls ta ti A c st 1 ap fa og cm B e9 sw 2 false w3 (Kd.C_below HR.out HB3.out) hc (Kd.C_below HQ.out HB3.out) hqc)
    have HTV : qza (∃ td, td = toV ⟨ta, ti, st, 1, ap, fa, og, cm, sw⟩ 2 false ∧ td.sw = sw) := ⟨⟨_, rfl, rfl⟩⟩
    obtain ⟨td, htd, hts⟩ := HTV.out
    have htst : td.st = st := by rw [htd]; rfl
    rw [← htd] at HTC HV
    have HTS := qza.mk hts
    have HTT := qza.mk htst
    clear HTV htd hts htst
    go_wp2_with (go_at_call 33; refine (HTC.out).mono ?_; rintro e w4 ⟨rfl, hb4⟩; have HZ4 := qza.mk (qz16 hb4 HZ3.out); have HP4 := qza.mk (HB3.out.trans (hb4.mono HB3.out.size)); clear hb4 hd0 hd1 hd2 hd3 hd4 hd5 hd6 hd7 hd8 ha0 ha1 ha2 ha3 ha4 hz0 hz1 hz2 hz3 hz4 hz5 hz6 hz7 hz8 hf0 hf1 hf2 hf3 hf4 hf5 hf6 hf7 hf8; obtain ⟨hz0, hz1, hz2, hz3, hz4, hz5, hz6, hz7, hz8⟩ := qz13 HZ4.out; obtain ⟨hf0, hf1, hf2, hf3, hf4, hf5, hf6, hf7, hf8⟩ := qz17 HZ4.out; unfold dagg; dsimp only)
    refine ret9 (g := w.heap.size + 2) rfl rfl rfl (qz34 HZ4.out _ _ _ _ _ _ _ _ _) ?_
    rw [HV.out]
    have hd := DPost.same (A := A) (c := c) (B := B) (e9 := e9) (sw := sw) (d := td) HTS.out (qz23 HP4.out (show w.heap.size ≤ w.heap.size + 2 by omega) (.int .u64 td.ta) (.int .u64 td.ti) (.slice A st.length c) (.int .i64 td.ph) (.int .i64 td.ap) (.bool td.fa) (.bool td.og) (.bool td.cm) (.slice B sw.length e9))
    rw [HTT.out] at hd
    exact hd
  · rw [if_neg her] at HV
    have hz : (er != 0) = true := bne_iff_ne.2 her
    have HTC := qza.mk (to_calls ta ti A c st 1 ap fa og cm B e9 sw 3 true w3 (Kd.C_below HR.out HB3.out) hc (Kd.C_below HQ.out HB3.out) hqc)
    have HTV : qza (∃ td, td = toV ⟨ta, ti, st, 1, ap, fa, og, cm, sw⟩ 3 true ∧ td.sw = sw) := ⟨⟨_, rfl, rfl⟩⟩
    obtain ⟨td, htd, hts⟩ := HTV.out
    have htst : td.st = st := by rw [htd]; rfl
    rw [← htd] at HTC HV
    have HTS := qza.mk hts
    have HTT := qza.mk htst
    clear HTV htd hts htst
    go_wp2_with (go_at_call 33; refine (HTC.out).mono ?_; rintro e w4 ⟨rfl, hb4⟩; have HZ4 := qza.mk (qz16 hb4 HZ3.out); have HP4 := qza.mk (HB3.out.trans (hb4.mono HB3.out.size)); clear hb4 hd0 hd1 hd2 hd3 hd4 hd5 hd6 hd7 hd8 ha0 ha1 ha2 ha3 ha4 hz0 hz1 hz2 hz3 hz4 hz5 hz6 hz7 hz8 hf0 hf1 hf2 hf3 hf4 hf5 hf6 hf7 hf8; obtain ⟨hz0, hz1, hz2, hz3, hz4, hz5, hz6, hz7, hz8⟩ := qz13 HZ4.out; obtain ⟨hf0, hf1, hf2, hf3, hf4, hf5, hf6, hf7, hf8⟩ := qz17 HZ4.out; unfold dagg; dsimp only)
    refine ret9 (g := w.heap.size + 2) rfl rfl rfl (qz34 HZ4.out _ _ _ _ _ _ _ _ _) ?_
    rw [HV.out]
    have hd := DPost.same (A := A) (c := c) (B := B) (e9 := e9) (sw := sw) (d := td) HTS.out (qz23 HP4.out (show w.heap.size ≤ w.heap.size + 2 by omega) (.int .u64 td.ta) (.int .u64 td.ti) (.slice A st.length c) (.int .i64 td.ph) (.int .i64 td.ap) (.bool td.fa) (.bool td.og) (.bool td.cm) (.slice B sw.length e9))
    rw [HTT.out] at hd
    exact hd
set_option maxHeartbeats 1000000 in
set_option maxRecDepth 100000 in
theorem hear_2 (ta ti : Int) (A : Option Addr) (c : Nat) (st : List S53) (ph ap : Int) (fa og cm : Bool) (B : Option Addr) (e9 : Nat) (sw : List S51) (er : Int) (va : ByteArray) (ve : Int) (fo co : Bool) (w : World) (hr : Kd.C k53 w A st.length st) (hc : st.length ≤ c) (hq : Kd.C k51 w B sw.length sw) (hqc : sw.length ≤ e9) (hl : st.length ≤ 3000000000000) (hg : ∀ x ∈ st, 0 ≤ x.f0 ∧ x.f0 ≤ 18446744073709551615) (he : ph = 2) (hn : (nextV ⟨ta, ti, st, ph, ap, fa, og, cm, sw⟩).2.2 = true) :
    Calls Try.prog 14 #[.agg #[.int .u64 ta, .int .u64 ti, .slice A st.length c, .int .i64 ph, .int .i64 ap, .bool fa, .bool og, .bool cm, .slice B sw.length e9], .agg #[.int .i64 er, .string va, .int .u64 ve, .bool fo, .bool co]] w (DPost A c B e9 sw (hearV ⟨ta, ti, st, ph, ap, fa, og, cm, sw⟩ er va ve fo co) w) := by
  subst he
  have hv : hearV ⟨ta, ti, st, 2, ap, fa, og, cm, sw⟩ er va ve fo co = if er = 0 then onV ⟨ta, ti, st, 2, ap, fa, og, cm, sw⟩ 3 else toV ⟨ta, ti, st, 2, ap, fa, og, cm, sw⟩ 3 true := by
    unfold hearV
    rw [if_neg (by rw [hn]; simp)]
    rfl
  have HV := qza.mk hv
  clear hv
  have HR := qza.mk hr
  have HQ := qza.mk hq
  have HG := qza.mk hg
  have hx := qz14 (qz14 (heap_alloc_new w (.cells #[.int .u64 ta, .int .u64 ti, .slice A st.length c, .int .i64 2, .int .i64 ap, .bool fa, .bool og, .bool cm, .slice B sw.length e9] 30)) (.cells #[.int .i64 er, .string va, .int .u64 ve, .bool fo, .bool co] 33)) (.cells #[.int .u64 0, .int .u64 0, .slice none 0 0, .int .i64 0, .int .i64 0, .bool false, .bool false, .bool false, .slice none 0 0] 30)
  have ha := qz14 (heap_alloc_new (w.alloc (.cells #[.int .u64 ta, .int .u64 ti, .slice A st.length c, .int .i64 2, .int .i64 ap, .bool fa, .bool og, .bool cm, .slice B sw.length e9] 30)) (.cells #[.int .i64 er, .string va, .int .u64 ve, .bool fo, .bool co] 33)) (.cells #[.int .u64 0, .int .u64 0, .slice none 0 0, .int .i64 0, .int .i64 0, .bool false, .bool false, .bool false, .slice none 0 0] 30)
  have hz : (((w.alloc (.cells #[.int .u64 ta, .int .u64 ti, .slice A st.length c, .int .i64 2, .int .i64 ap, .bool fa, .bool og, .bool cm, .slice B sw.length e9] 30)).alloc (.cells #[.int .i64 er, .string va, .int .u64 ve, .bool fo, .bool co] 33)).alloc (.cells #[.int .u64 0, .int .u64 0, .slice none 0 0, .int .i64 0, .int .i64 0, .bool false, .bool false, .bool false, .slice none 0 0] 30)).heap[w.heap.size + 2]? = some (.cells #[.int .u64 0, .int .u64 0, .slice none 0 0, .int .i64 0, .int .i64 0, .bool false, .bool false, .bool false, .slice none 0 0] 30 (0, 0)) := by
    have h := heap_alloc_new ((w.alloc (.cells #[.int .u64 ta, .int .u64 ti, .slice A st.length c, .int .i64 2, .int .i64 ap, .bool fa, .bool og, .bool cm, .slice B sw.length e9] 30)).alloc (.cells #[.int .i64 er, .string va, .int .u64 ve, .bool fo, .bool co] 33)) (.cells #[.int .u64 0, .int .u64 0, .slice none 0 0, .int .i64 0, .int .i64 0, .bool false, .bool false, .bool false, .slice none 0 0] 30)
    rw [World.size_alloc, World.size_alloc] at h
    exact h
  rw [World.size_alloc] at ha
  have HB0 := qza.mk ((((Below.refl w.heap.size w).alloc (Nat.le_refl _) (.cells #[.int .u64 ta, .int .u64 ti, .slice A st.length c, .int .i64 2, .int .i64 ap, .bool fa, .bool og, .bool cm, .slice B sw.length e9] 30)).alloc (by simp) (.cells #[.int .i64 er, .string va, .int .u64 ve, .bool fo, .bool co] 33)).alloc (by simp; omega) (.cells #[.int .u64 0, .int .u64 0, .slice none 0 0, .int .i64 0, .int .i64 0, .bool false, .bool false, .bool false, .slice none 0 0] 30))
  have HSZ : qza (w.heap.size + 3 ≤ (((w.alloc (.cells #[.int .u64 ta, .int .u64 ti, .slice A st.length c, .int .i64 2, .int .i64 ap, .bool fa, .bool og, .bool cm, .slice B sw.length e9] 30)).alloc (.cells #[.int .i64 er, .string va, .int .u64 ve, .bool fo, .bool co] 33)).alloc (.cells #[.int .u64 0, .int .u64 0, .slice none 0 0, .int .i64 0, .int .i64 0, .bool false, .bool false, .bool false, .slice none 0 0] 30)).heap.size) := ⟨by simp⟩
  clear hr hg hq
  go_enter Try.func14, Try.ntmps14
  have HX := qza.mk hx
  have HA := qza.mk ha
  have HZ := qza.mk hz
  clear hx ha hz
  go_upto_region 1 with (fail)
  change Code.wp _ _ _ _ (((w.alloc (.cells #[.int .u64 ta, .int .u64 ti, .slice A st.length c, .int .i64 2, .int .i64 ap, .bool fa, .bool og, .bool cm, .slice B sw.length e9] 30)).alloc (.cells #[.int .i64 er, .string va, .int .u64 ve, .bool fo, .bool co] 33)).alloc (.cells #[.int .u64 0, .int .u64 0, .slice none 0 0, .int .i64 0, .int .i64 0, .bool false, .bool false, .bool false, .slice none 0 0] 30))
  generalize ((w.alloc (.cells #[.int .u64 ta, .int .u64 ti, .slice A st.length c, .int .i64 2, .int .i64 ap, .bool fa, .bool og, .bool cm, .slice B sw.length e9] 30)).alloc (.cells #[.int .i64 er, .string va, .int .u64 ve, .bool fo, .bool co] 33)).alloc (.cells #[.int .u64 0, .int .u64 0, .slice none 0 0, .int .i64 0, .int .i64 0, .bool false, .bool false, .bool false, .slice none 0 0] 30) = w1 at *
  obtain ⟨hd0, hd1, hd2, hd3, hd4, hd5, hd6, hd7, hd8⟩ := qz13 HX.out
  obtain ⟨ha0, ha1, ha2, ha3, ha4⟩ := qz27 HA.out
  obtain ⟨hz0, hz1, hz2, hz3, hz4, hz5, hz6, hz7, hz8⟩ := qz13 HZ.out
  obtain ⟨hf0, hf1, hf2, hf3, hf4, hf5, hf6, hf7, hf8⟩ := qz17 HZ.out
  have HNX := qza.mk (next_calls ta ti A c st 2 ap fa og cm B e9 sw w1 (Kd.C_below HR.out HB0.out) hc (Kd.C_below HQ.out HB0.out) hqc hl HG.out)
  unfold qz40 at HNX
  generalize nextV ⟨ta, ti, st, 2, ap, fa, og, cm, sw⟩ = av at *
  obtain ⟨ag, ⟨ak, a1, a2, akey, apu, acm, apa⟩, ais⟩ := av
  unfold oagg at HNX
  dsimp only at *
  subst hn
  go_upto_region 2 with (go_at_call 10; refine (HNX.out).mono ?_; rintro e w2 ⟨vp, vq, rfl, hp2, hq2, hb2⟩; obtain ⟨A2, c2, rfl, hc2, hC2⟩ := Sl.of_R hp2; obtain ⟨A3, c3, rfl, hc3, hC3⟩ := Sl.of_R hq2; clear hC2 hC3 hp2 hq2; have HB2 := qza.mk hb2; clear hb2)
  have HX3 := qza.mk (qz14 (qz16 HB2.out HX.out) (.cells #[.int .i64 ak, .int .u64 a1, .int .u64 a2, .string akey, .slice A2 apu.length c2, .bool acm, .slice A3 apa.length c3] 38))
  have HA3 := qza.mk (qz14 (qz16 HB2.out HA.out) (.cells #[.int .i64 ak, .int .u64 a1, .int .u64 a2, .string akey, .slice A2 apu.length c2, .bool acm, .slice A3 apa.length c3] 38))
  have HZ3 := qza.mk (qz14 (qz16 HB2.out HZ.out) (.cells #[.int .i64 ak, .int .u64 a1, .int .u64 a2, .string akey, .slice A2 apu.length c2, .bool acm, .slice A3 apa.length c3] 38))
  have HB3 := qza.mk ((HB0.out.trans (HB2.out.mono HB0.out.size)).alloc (HB0.out.trans (HB2.out.mono HB0.out.size)).size (.cells #[.int .i64 ak, .int .u64 a1, .int .u64 a2, .string akey, .slice A2 apu.length c2, .bool acm, .slice A3 apa.length c3] 38))
  have hs3 : (w2.alloc (.cells #[.int .i64 ak, .int .u64 a1, .int .u64 a2, .string akey, .slice A2 apu.length c2, .bool acm, .slice A3 apa.length c3] 38)).heap.size = w2.heap.size + 1 := by simp
  have hs2 := HB2.out.size
  have hsz := HSZ.out
  have hsz3 : w.heap.size + 3 ≤ (w2.alloc (.cells #[.int .i64 ak, .int .u64 a1, .int .u64 a2, .string akey, .slice A2 apu.length c2, .bool acm, .slice A3 apa.length c3] 38)).heap.size := by omega
  clear hs3
  change Code.wp _ _ _ _ (w2.alloc (.cells #[.int .i64 ak, .int .u64 a1, .int .u64 a2, .string akey, .slice A2 apu.length c2, .bool acm, .slice A3 apa.length c3] 38))
  generalize w2.alloc (.cells #[.int .i64 ak, .int .u64 a1, .int .u64 a2, .string akey, .slice A2 apu.length c2, .bool acm, .slice A3 apa.length c3] 38) = w3 at *
  clear hd0 hd1 hd2 hd3 hd4 hd5 hd6 hd7 hd8 ha0 ha1 ha2 ha3 ha4 hz0 hz1 hz2 hz3 hz4 hz5 hz6 hz7 hz8 hf0 hf1 hf2 hf3 hf4 hf5 hf6 hf7 hf8 HX HA HZ HNX
  obtain ⟨hd0, hd1, hd2, hd3, hd4, hd5, hd6, hd7, hd8⟩ := qz13 HX3.out
  obtain ⟨ha0, ha1, ha2, ha3, ha4⟩ := qz27 HA3.out
  obtain ⟨hz0, hz1, hz2, hz3, hz4, hz5, hz6, hz7, hz8⟩ := qz13 HZ3.out
  obtain ⟨hf0, hf1, hf2, hf3, hf4, hf5, hf6, hf7, hf8⟩ := qz17 HZ3.out
  by_cases her : er = 0
  · rw [if_pos her] at HV
    have hz : (er != 0) = false := by rw [her]; rfl
    have HTC := qza.mk (on_calls ta ti A c st 2 ap fa og cm B e9 sw 3 w3 (Kd.C_below HR.out HB3.out) hc (Kd.C_below HQ.out HB3.out) hqc hl HG.out)
    have HTV : qza (∃ td, td = onV ⟨ta, ti, st, 2, ap, fa, og, cm, sw⟩ 3 ∧ td.sw = sw ∧ td.st = st) := ⟨⟨_, rfl, on_sw _ _, on_st _ _⟩⟩
    obtain ⟨td, htd, hts, htst⟩ := HTV.out
    rw [← htd] at HTC HV
    have HTS := qza.mk hts
    have HTT := qza.mk htst
    clear HTV htd hts htst
    go_wp2_with (go_at_call 34; refine (HTC.out).mono ?_; rintro e w4 ⟨rfl, hb4⟩; have HZ4 := qza.mk (qz16 hb4 HZ3.out); have HP4 := qza.mk (HB3.out.trans (hb4.mono HB3.out.size)); clear hb4 hd0 hd1 hd2 hd3 hd4 hd5 hd6 hd7 hd8 ha0 ha1 ha2 ha3 ha4 hz0 hz1 hz2 hz3 hz4 hz5 hz6 hz7 hz8 hf0 hf1 hf2 hf3 hf4 hf5 hf6 hf7 hf8; obtain ⟨hz0, hz1, hz2, hz3, hz4, hz5, hz6, hz7, hz8⟩ := qz13 HZ4.out; obtain ⟨hf0, hf1, hf2, hf3, hf4, hf5, hf6, hf7, hf8⟩ := qz17 HZ4.out; unfold dagg; dsimp only)
    refine ret9 (g := w.heap.size + 2) rfl rfl rfl (qz34 HZ4.out _ _ _ _ _ _ _ _ _) ?_
    rw [HV.out]
    have hd := DPost.same (A := A) (c := c) (B := B) (e9 := e9) (sw := sw) (d := td) HTS.out (qz23 HP4.out (show w.heap.size ≤ w.heap.size + 2 by omega) (.int .u64 td.ta) (.int .u64 td.ti) (.slice A st.length c) (.int .i64 td.ph) (.int .i64 td.ap) (.bool td.fa) (.bool td.og) (.bool td.cm) (.slice B sw.length e9))
    rw [HTT.out] at hd
    exact hd
  · rw [if_neg her] at HV
    have hz : (er != 0) = true := bne_iff_ne.2 her
    have HTC := qza.mk (to_calls ta ti A c st 2 ap fa og cm B e9 sw 3 true w3 (Kd.C_below HR.out HB3.out) hc (Kd.C_below HQ.out HB3.out) hqc)
    have HTV : qza (∃ td, td = toV ⟨ta, ti, st, 2, ap, fa, og, cm, sw⟩ 3 true ∧ td.sw = sw) := ⟨⟨_, rfl, rfl⟩⟩
    obtain ⟨td, htd, hts⟩ := HTV.out
    have htst : td.st = st := by rw [htd]; rfl
    rw [← htd] at HTC HV
    have HTS := qza.mk hts
    have HTT := qza.mk htst
    clear HTV htd hts htst
    go_wp2_with (go_at_call 33; refine (HTC.out).mono ?_; rintro e w4 ⟨rfl, hb4⟩; have HZ4 := qza.mk (qz16 hb4 HZ3.out); have HP4 := qza.mk (HB3.out.trans (hb4.mono HB3.out.size)); clear hb4 hd0 hd1 hd2 hd3 hd4 hd5 hd6 hd7 hd8 ha0 ha1 ha2 ha3 ha4 hz0 hz1 hz2 hz3 hz4 hz5 hz6 hz7 hz8 hf0 hf1 hf2 hf3 hf4 hf5 hf6 hf7 hf8; obtain ⟨hz0, hz1, hz2, hz3, hz4, hz5, hz6, hz7, hz8⟩ := qz13 HZ4.out; obtain ⟨hf0, hf1, hf2, hf3, hf4, hf5, hf6, hf7, hf8⟩ := qz17 HZ4.out; unfold dagg; dsimp only)
    refine ret9 (g := w.heap.size + 2) rfl rfl rfl (qz34 HZ4.out _ _ _ _ _ _ _ _ _) ?_
    rw [HV.out]
    have hd := DPost.same (A := A) (c := c) (B := B) (e9 := e9) (sw := sw) (d := td) HTS.out (qz23 HP4.out (show w.heap.size ≤ w.heap.size + 2 by omega) (.int .u64 td.ta) (.int .u64 td.ti) (.slice A st.length c) (.int .i64 td.ph) (.int .i64 td.ap) (.bool td.fa) (.bool td.og) (.bool td.cm) (.slice B sw.length e9))
    rw [HTT.out] at hd
    exact hd
set_option maxHeartbeats 1000000 in
set_option maxRecDepth 100000 in
theorem hear_x (ta ti : Int) (A : Option Addr) (c : Nat) (st : List S53) (ph ap : Int) (fa og cm : Bool) (B : Option Addr) (e9 : Nat) (sw : List S51) (er : Int) (va : ByteArray) (ve : Int) (fo co : Bool) (w : World) (hr : Kd.C k53 w A st.length st) (hc : st.length ≤ c) (hq : Kd.C k51 w B sw.length sw) (hqc : sw.length ≤ e9) (hl : st.length ≤ 3000000000000) (hg : ∀ x ∈ st, 0 ≤ x.f0 ∧ x.f0 ≤ 18446744073709551615) (he0 : ¬ ph = 0) (he1 : ¬ ph = 1) (he2 : ¬ ph = 2) (he3 : ¬ ph = 3) (hn : (nextV ⟨ta, ti, st, ph, ap, fa, og, cm, sw⟩).2.2 = true) :
    Calls Try.prog 14 #[.agg #[.int .u64 ta, .int .u64 ti, .slice A st.length c, .int .i64 ph, .int .i64 ap, .bool fa, .bool og, .bool cm, .slice B sw.length e9], .agg #[.int .i64 er, .string va, .int .u64 ve, .bool fo, .bool co]] w (DPost A c B e9 sw (hearV ⟨ta, ti, st, ph, ap, fa, og, cm, sw⟩ er va ve fo co) w) := by
  have hv : hearV ⟨ta, ti, st, ph, ap, fa, og, cm, sw⟩ er va ve fo co = onV ⟨ta, ti, st, ph, ap, fa, og, cm, sw⟩ 5 := by
    unfold hearV
    rw [if_neg (by rw [hn]; simp), if_neg he0, if_neg he1, if_neg he2, if_neg he3]
  have HV := qza.mk hv
  clear hv
  have HR := qza.mk hr
  have HQ := qza.mk hq
  have HG := qza.mk hg
  have hx := qz14 (qz14 (heap_alloc_new w (.cells #[.int .u64 ta, .int .u64 ti, .slice A st.length c, .int .i64 ph, .int .i64 ap, .bool fa, .bool og, .bool cm, .slice B sw.length e9] 30)) (.cells #[.int .i64 er, .string va, .int .u64 ve, .bool fo, .bool co] 33)) (.cells #[.int .u64 0, .int .u64 0, .slice none 0 0, .int .i64 0, .int .i64 0, .bool false, .bool false, .bool false, .slice none 0 0] 30)
  have ha := qz14 (heap_alloc_new (w.alloc (.cells #[.int .u64 ta, .int .u64 ti, .slice A st.length c, .int .i64 ph, .int .i64 ap, .bool fa, .bool og, .bool cm, .slice B sw.length e9] 30)) (.cells #[.int .i64 er, .string va, .int .u64 ve, .bool fo, .bool co] 33)) (.cells #[.int .u64 0, .int .u64 0, .slice none 0 0, .int .i64 0, .int .i64 0, .bool false, .bool false, .bool false, .slice none 0 0] 30)
  have hz : (((w.alloc (.cells #[.int .u64 ta, .int .u64 ti, .slice A st.length c, .int .i64 ph, .int .i64 ap, .bool fa, .bool og, .bool cm, .slice B sw.length e9] 30)).alloc (.cells #[.int .i64 er, .string va, .int .u64 ve, .bool fo, .bool co] 33)).alloc (.cells #[.int .u64 0, .int .u64 0, .slice none 0 0, .int .i64 0, .int .i64 0, .bool false, .bool false, .bool false, .slice none 0 0] 30)).heap[w.heap.size + 2]? = some (.cells #[.int .u64 0, .int .u64 0, .slice none 0 0, .int .i64 0, .int .i64 0, .bool false, .bool false, .bool false, .slice none 0 0] 30 (0, 0)) := by
    have h := heap_alloc_new ((w.alloc (.cells #[.int .u64 ta, .int .u64 ti, .slice A st.length c, .int .i64 ph, .int .i64 ap, .bool fa, .bool og, .bool cm, .slice B sw.length e9] 30)).alloc (.cells #[.int .i64 er, .string va, .int .u64 ve, .bool fo, .bool co] 33)) (.cells #[.int .u64 0, .int .u64 0, .slice none 0 0, .int .i64 0, .int .i64 0, .bool false, .bool false, .bool false, .slice none 0 0] 30)
    rw [World.size_alloc, World.size_alloc] at h
    exact h
  rw [World.size_alloc] at ha
  have HB0 := qza.mk ((((Below.refl w.heap.size w).alloc (Nat.le_refl _) (.cells #[.int .u64 ta, .int .u64 ti, .slice A st.length c, .int .i64 ph, .int .i64 ap, .bool fa, .bool og, .bool cm, .slice B sw.length e9] 30)).alloc (by simp) (.cells #[.int .i64 er, .string va, .int .u64 ve, .bool fo, .bool co] 33)).alloc (by simp; omega) (.cells #[.int .u64 0, .int .u64 0, .slice none 0 0, .int .i64 0, .int .i64 0, .bool false, .bool false, .bool false, .slice none 0 0] 30))
  have HSZ : qza (w.heap.size + 3 ≤ (((w.alloc (.cells #[.int .u64 ta, .int .u64 ti, .slice A st.length c, .int .i64 ph, .int .i64 ap, .bool fa, .bool og, .bool cm, .slice B sw.length e9] 30)).alloc (.cells #[.int .i64 er, .string va, .int .u64 ve, .bool fo, .bool co] 33)).alloc (.cells #[.int .u64 0, .int .u64 0, .slice none 0 0, .int .i64 0, .int .i64 0, .bool false, .bool false, .bool false, .slice none 0 0] 30)).heap.size) := ⟨by simp⟩
  clear hr hg hq
  go_enter Try.func14, Try.ntmps14
  have HX := qza.mk hx
  have HA := qza.mk ha
  have HZ := qza.mk hz
  clear hx ha hz
  go_upto_region 1 with (fail)
  change Code.wp _ _ _ _ (((w.alloc (.cells #[.int .u64 ta, .int .u64 ti, .slice A st.length c, .int .i64 ph, .int .i64 ap, .bool fa, .bool og, .bool cm, .slice B sw.length e9] 30)).alloc (.cells #[.int .i64 er, .string va, .int .u64 ve, .bool fo, .bool co] 33)).alloc (.cells #[.int .u64 0, .int .u64 0, .slice none 0 0, .int .i64 0, .int .i64 0, .bool false, .bool false, .bool false, .slice none 0 0] 30))
  generalize ((w.alloc (.cells #[.int .u64 ta, .int .u64 ti, .slice A st.length c, .int .i64 ph, .int .i64 ap, .bool fa, .bool og, .bool cm, .slice B sw.length e9] 30)).alloc (.cells #[.int .i64 er, .string va, .int .u64 ve, .bool fo, .bool co] 33)).alloc (.cells #[.int .u64 0, .int .u64 0, .slice none 0 0, .int .i64 0, .int .i64 0, .bool false, .bool false, .bool false, .slice none 0 0] 30) = w1 at *
  obtain ⟨hd0, hd1, hd2, hd3, hd4, hd5, hd6, hd7, hd8⟩ := qz13 HX.out
  obtain ⟨ha0, ha1, ha2, ha3, ha4⟩ := qz27 HA.out
  obtain ⟨hz0, hz1, hz2, hz3, hz4, hz5, hz6, hz7, hz8⟩ := qz13 HZ.out
  obtain ⟨hf0, hf1, hf2, hf3, hf4, hf5, hf6, hf7, hf8⟩ := qz17 HZ.out
  have HNX := qza.mk (next_calls ta ti A c st ph ap fa og cm B e9 sw w1 (Kd.C_below HR.out HB0.out) hc (Kd.C_below HQ.out HB0.out) hqc hl HG.out)
  unfold qz40 at HNX
  generalize nextV ⟨ta, ti, st, ph, ap, fa, og, cm, sw⟩ = av at *
  obtain ⟨ag, ⟨ak, a1, a2, akey, apu, acm, apa⟩, ais⟩ := av
  unfold oagg at HNX
  dsimp only at *
  subst hn
  go_upto_region 2 with (go_at_call 10; refine (HNX.out).mono ?_; rintro e w2 ⟨vp, vq, rfl, hp2, hq2, hb2⟩; obtain ⟨A2, c2, rfl, hc2, hC2⟩ := Sl.of_R hp2; obtain ⟨A3, c3, rfl, hc3, hC3⟩ := Sl.of_R hq2; clear hC2 hC3 hp2 hq2; have HB2 := qza.mk hb2; clear hb2)
  have HX3 := qza.mk (qz14 (qz16 HB2.out HX.out) (.cells #[.int .i64 ak, .int .u64 a1, .int .u64 a2, .string akey, .slice A2 apu.length c2, .bool acm, .slice A3 apa.length c3] 38))
  have HA3 := qza.mk (qz14 (qz16 HB2.out HA.out) (.cells #[.int .i64 ak, .int .u64 a1, .int .u64 a2, .string akey, .slice A2 apu.length c2, .bool acm, .slice A3 apa.length c3] 38))
  have HZ3 := qza.mk (qz14 (qz16 HB2.out HZ.out) (.cells #[.int .i64 ak, .int .u64 a1, .int .u64 a2, .string akey, .slice A2 apu.length c2, .bool acm, .slice A3 apa.length c3] 38))
  have HB3 := qza.mk ((HB0.out.trans (HB2.out.mono HB0.out.size)).alloc (HB0.out.trans (HB2.out.mono HB0.out.size)).size (.cells #[.int .i64 ak, .int .u64 a1, .int .u64 a2, .string akey, .slice A2 apu.length c2, .bool acm, .slice A3 apa.length c3] 38))
  have hs3 : (w2.alloc (.cells #[.int .i64 ak, .int .u64 a1, .int .u64 a2, .string akey, .slice A2 apu.length c2, .bool acm, .slice A3 apa.length c3] 38)).heap.size = w2.heap.size + 1 := by simp
  have hs2 := HB2.out.size
  have hsz := HSZ.out
  have hsz3 : w.heap.size + 3 ≤ (w2.alloc (.cells #[.int .i64 ak, .int .u64 a1, .int .u64 a2, .string akey, .slice A2 apu.length c2, .bool acm, .slice A3 apa.length c3] 38)).heap.size := by omega
  clear hs3
  change Code.wp _ _ _ _ (w2.alloc (.cells #[.int .i64 ak, .int .u64 a1, .int .u64 a2, .string akey, .slice A2 apu.length c2, .bool acm, .slice A3 apa.length c3] 38))
  generalize w2.alloc (.cells #[.int .i64 ak, .int .u64 a1, .int .u64 a2, .string akey, .slice A2 apu.length c2, .bool acm, .slice A3 apa.length c3] 38) = w3 at *
  clear hd0 hd1 hd2 hd3 hd4 hd5 hd6 hd7 hd8 ha0 ha1 ha2 ha3 ha4 hz0 hz1 hz2 hz3 hz4 hz5 hz6 hz7 hz8 hf0 hf1 hf2 hf3 hf4 hf5 hf6 hf7 hf8 HX HA HZ HNX
  obtain ⟨hd0, hd1, hd2, hd3, hd4, hd5, hd6, hd7, hd8⟩ := qz13 HX3.out
  obtain ⟨ha0, ha1, ha2, ha3, ha4⟩ := qz27 HA3.out
  obtain ⟨hz0, hz1, hz2, hz3, hz4, hz5, hz6, hz7, hz8⟩ := qz13 HZ3.out
  obtain ⟨hf0, hf1, hf2, hf3, hf4, hf5, hf6, hf7, hf8⟩ := qz17 HZ3.out
  have HTC := qza.mk (on_calls ta ti A c st ph ap fa og cm B e9 sw 5 w3 (Kd.C_below HR.out HB3.out) hc (Kd.C_below HQ.out HB3.out) hqc hl HG.out)
  have HTV : qza (∃ td, td = onV ⟨ta, ti, st, ph, ap, fa, og, cm, sw⟩ 5 ∧ td.sw = sw ∧ td.st = st) := ⟨⟨_, rfl, on_sw _ _, on_st _ _⟩⟩
  obtain ⟨td, htd, hts, htst⟩ := HTV.out
  rw [← htd] at HTC HV
  have HTS := qza.mk hts
  have HTT := qza.mk htst
  clear HTV htd hts htst
  go_wp2_with (go_at_call 34; refine (HTC.out).mono ?_; rintro e w4 ⟨rfl, hb4⟩; have HZ4 := qza.mk (qz16 hb4 HZ3.out); have HP4 := qza.mk (HB3.out.trans (hb4.mono HB3.out.size)); clear hb4 hd0 hd1 hd2 hd3 hd4 hd5 hd6 hd7 hd8 ha0 ha1 ha2 ha3 ha4 hz0 hz1 hz2 hz3 hz4 hz5 hz6 hz7 hz8 hf0 hf1 hf2 hf3 hf4 hf5 hf6 hf7 hf8; obtain ⟨hz0, hz1, hz2, hz3, hz4, hz5, hz6, hz7, hz8⟩ := qz13 HZ4.out; obtain ⟨hf0, hf1, hf2, hf3, hf4, hf5, hf6, hf7, hf8⟩ := qz17 HZ4.out; unfold dagg; dsimp only)
  refine ret9 (g := w.heap.size + 2) rfl rfl rfl (qz34 HZ4.out _ _ _ _ _ _ _ _ _) ?_
  rw [HV.out]
  have hd := DPost.same (A := A) (c := c) (B := B) (e9 := e9) (sw := sw) (d := td) HTS.out (qz23 HP4.out (show w.heap.size ≤ w.heap.size + 2 by omega) (.int .u64 td.ta) (.int .u64 td.ti) (.slice A st.length c) (.int .i64 td.ph) (.int .i64 td.ap) (.bool td.fa) (.bool td.og) (.bool td.cm) (.slice B sw.length e9))
  rw [HTT.out] at hd
  exact hd
set_option maxHeartbeats 1000000 in
set_option maxRecDepth 100000 in
theorem hear_3 (ta ti : Int) (A : Option Addr) (c : Nat) (st : List S53) (ph ap : Int) (fa og cm : Bool) (B : Option Addr) (e9 : Nat) (sw : List S51) (er : Int) (va : ByteArray) (ve : Int) (fo co : Bool) (w : World) (hr : Kd.C k53 w A st.length st) (hc : st.length ≤ c) (hq : Kd.C k51 w B sw.length sw) (hqc : sw.length ≤ e9) (hl : st.length ≤ 3000000000000) (hg : ∀ x ∈ st, 0 ≤ x.f0 ∧ x.f0 ≤ 18446744073709551615) (he : ph = 3) (hn : (nextV ⟨ta, ti, st, ph, ap, fa, og, cm, sw⟩).2.2 = true) :
    Calls Try.prog 14 #[.agg #[.int .u64 ta, .int .u64 ti, .slice A st.length c, .int .i64 ph, .int .i64 ap, .bool fa, .bool og, .bool cm, .slice B sw.length e9], .agg #[.int .i64 er, .string va, .int .u64 ve, .bool fo, .bool co]] w (DPost A c B e9 sw (hearV ⟨ta, ti, st, ph, ap, fa, og, cm, sw⟩ er va ve fo co) w) := by
  subst he
  have hv : hearV ⟨ta, ti, st, 3, ap, fa, og, cm, sw⟩ er va ve fo co = toV ⟨ta, ti, st, 3, ap, fa, og, decide (er = 0) && co, sw⟩ 4 false := by
    unfold hearV
    rw [if_neg (by rw [hn]; simp)]
    rfl
  have HV := qza.mk hv
  clear hv
  have HR := qza.mk hr
  have HQ := qza.mk hq
  have HG := qza.mk hg
  have hx := qz14 (qz14 (heap_alloc_new w (.cells #[.int .u64 ta, .int .u64 ti, .slice A st.length c, .int .i64 3, .int .i64 ap, .bool fa, .bool og, .bool cm, .slice B sw.length e9] 30)) (.cells #[.int .i64 er, .string va, .int .u64 ve, .bool fo, .bool co] 33)) (.cells #[.int .u64 0, .int .u64 0, .slice none 0 0, .int .i64 0, .int .i64 0, .bool false, .bool false, .bool false, .slice none 0 0] 30)
  have ha := qz14 (heap_alloc_new (w.alloc (.cells #[.int .u64 ta, .int .u64 ti, .slice A st.length c, .int .i64 3, .int .i64 ap, .bool fa, .bool og, .bool cm, .slice B sw.length e9] 30)) (.cells #[.int .i64 er, .string va, .int .u64 ve, .bool fo, .bool co] 33)) (.cells #[.int .u64 0, .int .u64 0, .slice none 0 0, .int .i64 0, .int .i64 0, .bool false, .bool false, .bool false, .slice none 0 0] 30)
  have hz : (((w.alloc (.cells #[.int .u64 ta, .int .u64 ti, .slice A st.length c, .int .i64 3, .int .i64 ap, .bool fa, .bool og, .bool cm, .slice B sw.length e9] 30)).alloc (.cells #[.int .i64 er, .string va, .int .u64 ve, .bool fo, .bool co] 33)).alloc (.cells #[.int .u64 0, .int .u64 0, .slice none 0 0, .int .i64 0, .int .i64 0, .bool false, .bool false, .bool false, .slice none 0 0] 30)).heap[w.heap.size + 2]? = some (.cells #[.int .u64 0, .int .u64 0, .slice none 0 0, .int .i64 0, .int .i64 0, .bool false, .bool false, .bool false, .slice none 0 0] 30 (0, 0)) := by
    have h := heap_alloc_new ((w.alloc (.cells #[.int .u64 ta, .int .u64 ti, .slice A st.length c, .int .i64 3, .int .i64 ap, .bool fa, .bool og, .bool cm, .slice B sw.length e9] 30)).alloc (.cells #[.int .i64 er, .string va, .int .u64 ve, .bool fo, .bool co] 33)) (.cells #[.int .u64 0, .int .u64 0, .slice none 0 0, .int .i64 0, .int .i64 0, .bool false, .bool false, .bool false, .slice none 0 0] 30)
    rw [World.size_alloc, World.size_alloc] at h
    exact h
  rw [World.size_alloc] at ha
  have HB0 := qza.mk ((((Below.refl w.heap.size w).alloc (Nat.le_refl _) (.cells #[.int .u64 ta, .int .u64 ti, .slice A st.length c, .int .i64 3, .int .i64 ap, .bool fa, .bool og, .bool cm, .slice B sw.length e9] 30)).alloc (by simp) (.cells #[.int .i64 er, .string va, .int .u64 ve, .bool fo, .bool co] 33)).alloc (by simp; omega) (.cells #[.int .u64 0, .int .u64 0, .slice none 0 0, .int .i64 0, .int .i64 0, .bool false, .bool false, .bool false, .slice none 0 0] 30))
  have HSZ : qza (w.heap.size + 3 ≤ (((w.alloc (.cells #[.int .u64 ta, .int .u64 ti, .slice A st.length c, .int .i64 3, .int .i64 ap, .bool fa, .bool og, .bool cm, .slice B sw.length e9] 30)).alloc (.cells #[.int .i64 er, .string va, .int .u64 ve, .bool fo, .bool co] 33)).alloc (.cells #[.int .u64 0, .int .u64 0, .slice none 0 0, .int .i64 0, .int .i64 0, .bool false, .bool false, .bool false, .slice none 0 0] 30)).heap.size) := ⟨by simp⟩
  clear hr hg hq
  go_enter Try.func14, Try.ntmps14
  have HX := qza.mk hx
  have HA := qza.mk ha
  have HZ := qza.mk hz
  clear hx ha hz
  go_upto_region 1 with (fail)
  change Code.wp _ _ _ _ (((w.alloc (.cells #[.int .u64 ta, .int .u64 ti, .slice A st.length c, .int .i64 3, .int .i64 ap, .bool fa, .bool og, .bool cm, .slice B sw.length e9] 30)).alloc (.cells #[.int .i64 er, .string va, .int .u64 ve, .bool fo, .bool co] 33)).alloc (.cells #[.int .u64 0, .int .u64 0, .slice none 0 0, .int .i64 0, .int .i64 0, .bool false, .bool false, .bool false, .slice none 0 0] 30))
  generalize ((w.alloc (.cells #[.int .u64 ta, .int .u64 ti, .slice A st.length c, .int .i64 3, .int .i64 ap, .bool fa, .bool og, .bool cm, .slice B sw.length e9] 30)).alloc (.cells #[.int .i64 er, .string va, .int .u64 ve, .bool fo, .bool co] 33)).alloc (.cells #[.int .u64 0, .int .u64 0, .slice none 0 0, .int .i64 0, .int .i64 0, .bool false, .bool false, .bool false, .slice none 0 0] 30) = w1 at *
  obtain ⟨hd0, hd1, hd2, hd3, hd4, hd5, hd6, hd7, hd8⟩ := qz13 HX.out
  obtain ⟨ha0, ha1, ha2, ha3, ha4⟩ := qz27 HA.out
  obtain ⟨hz0, hz1, hz2, hz3, hz4, hz5, hz6, hz7, hz8⟩ := qz13 HZ.out
  obtain ⟨hf0, hf1, hf2, hf3, hf4, hf5, hf6, hf7, hf8⟩ := qz17 HZ.out
  have HNX := qza.mk (next_calls ta ti A c st 3 ap fa og cm B e9 sw w1 (Kd.C_below HR.out HB0.out) hc (Kd.C_below HQ.out HB0.out) hqc hl HG.out)
  unfold qz40 at HNX
  generalize nextV ⟨ta, ti, st, 3, ap, fa, og, cm, sw⟩ = av at *
  obtain ⟨ag, ⟨ak, a1, a2, akey, apu, acm, apa⟩, ais⟩ := av
  unfold oagg at HNX
  dsimp only at *
  subst hn
  go_upto_region 2 with (go_at_call 10; refine (HNX.out).mono ?_; rintro e w2 ⟨vp, vq, rfl, hp2, hq2, hb2⟩; obtain ⟨A2, c2, rfl, hc2, hC2⟩ := Sl.of_R hp2; obtain ⟨A3, c3, rfl, hc3, hC3⟩ := Sl.of_R hq2; clear hC2 hC3 hp2 hq2; have HB2 := qza.mk hb2; clear hb2)
  have HX3 := qza.mk (qz14 (qz16 HB2.out HX.out) (.cells #[.int .i64 ak, .int .u64 a1, .int .u64 a2, .string akey, .slice A2 apu.length c2, .bool acm, .slice A3 apa.length c3] 38))
  have HA3 := qza.mk (qz14 (qz16 HB2.out HA.out) (.cells #[.int .i64 ak, .int .u64 a1, .int .u64 a2, .string akey, .slice A2 apu.length c2, .bool acm, .slice A3 apa.length c3] 38))
  have HZ3 := qza.mk (qz14 (qz16 HB2.out HZ.out) (.cells #[.int .i64 ak, .int .u64 a1, .int .u64 a2, .string akey, .slice A2 apu.length c2, .bool acm, .slice A3 apa.length c3] 38))
  have HB3 := qza.mk ((HB0.out.trans (HB2.out.mono HB0.out.size)).alloc (HB0.out.trans (HB2.out.mono HB0.out.size)).size (.cells #[.int .i64 ak, .int .u64 a1, .int .u64 a2, .string akey, .slice A2 apu.length c2, .bool acm, .slice A3 apa.length c3] 38))
  have hs3 : (w2.alloc (.cells #[.int .i64 ak, .int .u64 a1, .int .u64 a2, .string akey, .slice A2 apu.length c2, .bool acm, .slice A3 apa.length c3] 38)).heap.size = w2.heap.size + 1 := by simp
  have hs2 := HB2.out.size
  have hsz := HSZ.out
  have hsz3 : w.heap.size + 3 ≤ (w2.alloc (.cells #[.int .i64 ak, .int .u64 a1, .int .u64 a2, .string akey, .slice A2 apu.length c2, .bool acm, .slice A3 apa.length c3] 38)).heap.size := by omega
  clear hs3
  change Code.wp _ _ _ _ (w2.alloc (.cells #[.int .i64 ak, .int .u64 a1, .int .u64 a2, .string akey, .slice A2 apu.length c2, .bool acm, .slice A3 apa.length c3] 38))
  generalize w2.alloc (.cells #[.int .i64 ak, .int .u64 a1, .int .u64 a2, .string akey, .slice A2 apu.length c2, .bool acm, .slice A3 apa.length c3] 38) = w3 at *
  clear hd0 hd1 hd2 hd3 hd4 hd5 hd6 hd7 hd8 ha0 ha1 ha2 ha3 ha4 hz0 hz1 hz2 hz3 hz4 hz5 hz6 hz7 hz8 hf0 hf1 hf2 hf3 hf4 hf5 hf6 hf7 hf8 HX HA HZ HNX
  obtain ⟨hd0, hd1, hd2, hd3, hd4, hd5, hd6, hd7, hd8⟩ := qz13 HX3.out
  obtain ⟨ha0, ha1, ha2, ha3, ha4⟩ := qz27 HA3.out
  obtain ⟨hz0, hz1, hz2, hz3, hz4, hz5, hz6, hz7, hz8⟩ := qz13 HZ3.out
  obtain ⟨hf0, hf1, hf2, hf3, hf4, hf5, hf6, hf7, hf8⟩ := qz17 HZ3.out
  by_cases her : er = 0
  · rw [decide_eq_true her, Bool.true_and] at HV
    have hz : (er == 0) = true := by rw [her]; rfl
    obtain ⟨hu0, hu1, hu2, hu3, hu4, hu5, hu6, hu7, hu8⟩ := qz17 HX3.out
    go_upto_region 17 with (fail)
    have HX4 : qza ((w3.setCell ⟨w.heap.size, 7, none⟩ (.bool co)).heap[w.heap.size]? = some (.cells #[.int .u64 ta, .int .u64 ti, .slice A st.length c, .int .i64 3, .int .i64 ap, .bool fa, .bool og, .bool co, .slice B sw.length e9] 30 (0, 0))) := ⟨qz12 (cs := #[.int .u64 ta, .int .u64 ti, .slice A st.length c, .int .i64 3, .int .i64 ap, .bool fa, .bool og, .bool cm, .slice B sw.length e9]) HX3.out 7 (.bool co) rfl⟩
    have HZ4 := qza.mk ((RowKit.Below.heap_setCell w3 ⟨w.heap.size, 7, none⟩ (.bool co) (w.heap.size + 2) (show w.heap.size + 2 ≠ w.heap.size by omega)).trans HZ3.out)
    have HB4 := qza.mk (RowKit.Below.setCell (p := ⟨w.heap.size, 7, none⟩) HB3.out (Nat.le_refl _) (.bool co))
    change Code.wp _ _ _ _ (w3.setCell ⟨w.heap.size, 7, none⟩ (.bool co))
    generalize w3.setCell ⟨w.heap.size, 7, none⟩ (.bool co) = w3b at *
    clear hd0 hd1 hd2 hd3 hd4 hd5 hd6 hd7 hd8 ha0 ha1 ha2 ha3 ha4 hz0 hz1 hz2 hz3 hz4 hz5 hz6 hz7 hz8 hf0 hf1 hf2 hf3 hf4 hf5 hf6 hf7 hf8 hu0 hu1 hu2 hu3 hu4 hu5 hu6 hu7 hu8 HX3 HA3 HZ3 HB3
    obtain ⟨hd0, hd1, hd2, hd3, hd4, hd5, hd6, hd7, hd8⟩ := qz13 HX4.out
    have HTC := qza.mk (to_calls ta ti A c st 3 ap fa og co B e9 sw 4 false w3b (Kd.C_below HR.out HB4.out) hc (Kd.C_below HQ.out HB4.out) hqc)
    have hor : (fa || false) = fa := by simp
    unfold dagg toV at HTC
    unfold toV at HV
    dsimp only at HTC HV
    rw [hor] at HTC HV
    clear hor
    go_wp2_with (go_at_call 33; refine (HTC.out).mono ?_; rintro e w4 ⟨rfl, hb4⟩; have HZ5 := qza.mk (qz16 hb4 HZ4.out); have HP5 := qza.mk (HB4.out.trans (hb4.mono HB4.out.size)); clear hb4 hd0 hd1 hd2 hd3 hd4 hd5 hd6 hd7 hd8; obtain ⟨hz0, hz1, hz2, hz3, hz4, hz5, hz6, hz7, hz8⟩ := qz13 HZ5.out; obtain ⟨hf0, hf1, hf2, hf3, hf4, hf5, hf6, hf7, hf8⟩ := qz17 HZ5.out)
    refine ret9 (g := w.heap.size + 2) rfl rfl rfl (qz34 HZ5.out _ _ _ _ _ _ _ _ _) ?_
    rw [HV.out]
    exact DPost.same (d := ⟨ta, ti, st, 4, 0, fa, og, co, sw⟩) rfl (qz23 HP5.out (by omega) _ _ _ _ _ _ _ _ _)
  · rw [decide_eq_false her, Bool.false_and] at HV
    have hz : (er == 0) = false := beq_eq_false_iff_ne.2 her
    obtain ⟨hu0, hu1, hu2, hu3, hu4, hu5, hu6, hu7, hu8⟩ := qz17 HX3.out
    go_upto_region 17 with (fail)
    have HX4 : qza ((w3.setCell ⟨w.heap.size, 7, none⟩ (.bool false)).heap[w.heap.size]? = some (.cells #[.int .u64 ta, .int .u64 ti, .slice A st.length c, .int .i64 3, .int .i64 ap, .bool fa, .bool og, .bool false, .slice B sw.length e9] 30 (0, 0))) := ⟨qz12 (cs := #[.int .u64 ta, .int .u64 ti, .slice A st.length c, .int .i64 3, .int .i64 ap, .bool fa, .bool og, .bool cm, .slice B sw.length e9]) HX3.out 7 (.bool false) rfl⟩
    have HZ4 := qza.mk ((RowKit.Below.heap_setCell w3 ⟨w.heap.size, 7, none⟩ (.bool false) (w.heap.size + 2) (show w.heap.size + 2 ≠ w.heap.size by omega)).trans HZ3.out)
    have HB4 := qza.mk (RowKit.Below.setCell (p := ⟨w.heap.size, 7, none⟩) HB3.out (Nat.le_refl _) (.bool false))
    change Code.wp _ _ _ _ (w3.setCell ⟨w.heap.size, 7, none⟩ (.bool false))
    generalize w3.setCell ⟨w.heap.size, 7, none⟩ (.bool false) = w3b at *
    clear hd0 hd1 hd2 hd3 hd4 hd5 hd6 hd7 hd8 ha0 ha1 ha2 ha3 ha4 hz0 hz1 hz2 hz3 hz4 hz5 hz6 hz7 hz8 hf0 hf1 hf2 hf3 hf4 hf5 hf6 hf7 hf8 hu0 hu1 hu2 hu3 hu4 hu5 hu6 hu7 hu8 HX3 HA3 HZ3 HB3
    obtain ⟨hd0, hd1, hd2, hd3, hd4, hd5, hd6, hd7, hd8⟩ := qz13 HX4.out
    have HTC := qza.mk (to_calls ta ti A c st 3 ap fa og false B e9 sw 4 false w3b (Kd.C_below HR.out HB4.out) hc (Kd.C_below HQ.out HB4.out) hqc)
    have hor : (fa || false) = fa := by simp
    unfold dagg toV at HTC
    unfold toV at HV
    dsimp only at HTC HV
    rw [hor] at HTC HV
    clear hor
    go_wp2_with (go_at_call 33; refine (HTC.out).mono ?_; rintro e w4 ⟨rfl, hb4⟩; have HZ5 := qza.mk (qz16 hb4 HZ4.out); have HP5 := qza.mk (HB4.out.trans (hb4.mono HB4.out.size)); clear hb4 hd0 hd1 hd2 hd3 hd4 hd5 hd6 hd7 hd8; obtain ⟨hz0, hz1, hz2, hz3, hz4, hz5, hz6, hz7, hz8⟩ := qz13 HZ5.out; obtain ⟨hf0, hf1, hf2, hf3, hf4, hf5, hf6, hf7, hf8⟩ := qz17 HZ5.out)
    refine ret9 (g := w.heap.size + 2) rfl rfl rfl (qz34 HZ5.out _ _ _ _ _ _ _ _ _) ?_
    rw [HV.out]
    exact DPost.same (d := ⟨ta, ti, st, 4, 0, fa, og, false, sw⟩) rfl (qz23 HP5.out (by omega) _ _ _ _ _ _ _ _ _)
theorem works_st (d : Drv) (er : Int) (va : ByteArray) (ve : Int) (fo : Bool) : (worksV d er va ve fo).st = d.st := by
  unfold worksV
  split
  · rfl
  · split
    · split <;> rfl
    · rfl
theorem next0_range {d : Drv} (h : d.ph = 0) (hn : (nextV d).2.2 = true) : 0 ≤ d.ap ∧ d.ap < (d.st.length : Int) := by
  unfold nextV at hn
  by_cases h1 : d.ap < 0 ∨ (d.st.length : Int) ≤ d.ap
  · have e : qz28 d = (0, zOrd, false) := by unfold qz28; rw [if_pos h, if_pos h1]
    rw [e] at hn
    simp at hn
  · omega
theorem works_calls (ta ti : Int) (A : Option Addr) (c : Nat) (st : List S53) (ph ap : Int) (fa og cm : Bool) (B : Option Addr) (e9 : Nat) (sw : List S51) (er : Int) (va : ByteArray) (ve : Int) (fo co : Bool) (w : World) (hr : Kd.C k53 w A st.length st) (hc : st.length ≤ c) (hq : Kd.C k51 w B sw.length sw) (hqc : sw.length ≤ e9) (hl : st.length ≤ 3000000000000) (hg : ∀ x ∈ st, 0 ≤ x.f0 ∧ x.f0 ≤ 18446744073709551615) (hap : 0 ≤ ap ∧ ap < (st.length : Int)) (hswl : sw.length ≤ 2513169434843) :
    Calls Try.prog 32 #[.agg #[.int .u64 ta, .int .u64 ti, .slice A st.length c, .int .i64 ph, .int .i64 ap, .bool fa, .bool og, .bool cm, .slice B sw.length e9], .agg #[.int .i64 er, .string va, .int .u64 ve, .bool fo, .bool co]] w (DPost A c B e9 sw (worksV ⟨ta, ti, st, ph, ap, fa, og, cm, sw⟩ er va ve fo) w) := by
  by_cases h0 : er = 0
  · subst h0
    exact works_0 ta ti A c st ph ap fa og cm B e9 sw 0 va ve fo co w hr hc hq hqc hl hg rfl hap hswl
  · by_cases h1 : er = 11
    · subst h1
      exact works_11 ta ti A c st ph ap fa og cm B e9 sw 11 va ve fo co w hr hc hq hqc hl hg rfl
    · exact works_x ta ti A c st ph ap fa og cm B e9 sw er va ve fo co w hr hc hq hqc hl hg h0 h1
set_option maxHeartbeats 1000000 in
set_option maxRecDepth 100000 in
theorem hear_0 (ta ti : Int) (A : Option Addr) (c : Nat) (st : List S53) (ph ap : Int) (fa og cm : Bool) (B : Option Addr) (e9 : Nat) (sw : List S51) (er : Int) (va : ByteArray) (ve : Int) (fo co : Bool) (w : World) (hr : Kd.C k53 w A st.length st) (hc : st.length ≤ c) (hq : Kd.C k51 w B sw.length sw) (hqc : sw.length ≤ e9) (hl : st.length ≤ 3000000000000) (hg : ∀ x ∈ st, 0 ≤ x.f0 ∧ x.f0 ≤ 18446744073709551615) (he : ph = 0) (hswl : sw.length ≤ 2513169434843) (hn : (nextV ⟨ta, ti, st, ph, ap, fa, og, cm, sw⟩).2.2 = true) :
    Calls Try.prog 14 #[.agg #[.int .u64 ta, .int .u64 ti, .slice A st.length c, .int .i64 ph, .int .i64 ap, .bool fa, .bool og, .bool cm, .slice B sw.length e9], .agg #[.int .i64 er, .string va, .int .u64 ve, .bool fo, .bool co]] w (DPost A c B e9 sw (hearV ⟨ta, ti, st, ph, ap, fa, og, cm, sw⟩ er va ve fo co) w) := by
  subst he
  have hv : hearV ⟨ta, ti, st, 0, ap, fa, og, cm, sw⟩ er va ve fo co = worksV ⟨ta, ti, st, 0, ap, fa, og, cm, sw⟩ er va ve fo := by
    unfold hearV
    rw [if_neg (by rw [hn]; simp)]
    rfl
  have HV := qza.mk hv
  have HAP := qza.mk (next0_range (d := ⟨ta, ti, st, 0, ap, fa, og, cm, sw⟩) rfl hn)
  clear hv
  have HR := qza.mk hr
  have HQ := qza.mk hq
  have HG := qza.mk hg
  have hx := qz14 (qz14 (heap_alloc_new w (.cells #[.int .u64 ta, .int .u64 ti, .slice A st.length c, .int .i64 0, .int .i64 ap, .bool fa, .bool og, .bool cm, .slice B sw.length e9] 30)) (.cells #[.int .i64 er, .string va, .int .u64 ve, .bool fo, .bool co] 33)) (.cells #[.int .u64 0, .int .u64 0, .slice none 0 0, .int .i64 0, .int .i64 0, .bool false, .bool false, .bool false, .slice none 0 0] 30)
  have ha := qz14 (heap_alloc_new (w.alloc (.cells #[.int .u64 ta, .int .u64 ti, .slice A st.length c, .int .i64 0, .int .i64 ap, .bool fa, .bool og, .bool cm, .slice B sw.length e9] 30)) (.cells #[.int .i64 er, .string va, .int .u64 ve, .bool fo, .bool co] 33)) (.cells #[.int .u64 0, .int .u64 0, .slice none 0 0, .int .i64 0, .int .i64 0, .bool false, .bool false, .bool false, .slice none 0 0] 30)
  have hz : (((w.alloc (.cells #[.int .u64 ta, .int .u64 ti, .slice A st.length c, .int .i64 0, .int .i64 ap, .bool fa, .bool og, .bool cm, .slice B sw.length e9] 30)).alloc (.cells #[.int .i64 er, .string va, .int .u64 ve, .bool fo, .bool co] 33)).alloc (.cells #[.int .u64 0, .int .u64 0, .slice none 0 0, .int .i64 0, .int .i64 0, .bool false, .bool false, .bool false, .slice none 0 0] 30)).heap[w.heap.size + 2]? = some (.cells #[.int .u64 0, .int .u64 0, .slice none 0 0, .int .i64 0, .int .i64 0, .bool false, .bool false, .bool false, .slice none 0 0] 30 (0, 0)) := by
    have h := heap_alloc_new ((w.alloc (.cells #[.int .u64 ta, .int .u64 ti, .slice A st.length c, .int .i64 0, .int .i64 ap, .bool fa, .bool og, .bool cm, .slice B sw.length e9] 30)).alloc (.cells #[.int .i64 er, .string va, .int .u64 ve, .bool fo, .bool co] 33)) (.cells #[.int .u64 0, .int .u64 0, .slice none 0 0, .int .i64 0, .int .i64 0, .bool false, .bool false, .bool false, .slice none 0 0] 30)
    rw [World.size_alloc, World.size_alloc] at h
    exact h
  rw [World.size_alloc] at ha
  have HB0 := qza.mk ((((Below.refl w.heap.size w).alloc (Nat.le_refl _) (.cells #[.int .u64 ta, .int .u64 ti, .slice A st.length c, .int .i64 0, .int .i64 ap, .bool fa, .bool og, .bool cm, .slice B sw.length e9] 30)).alloc (by simp) (.cells #[.int .i64 er, .string va, .int .u64 ve, .bool fo, .bool co] 33)).alloc (by simp; omega) (.cells #[.int .u64 0, .int .u64 0, .slice none 0 0, .int .i64 0, .int .i64 0, .bool false, .bool false, .bool false, .slice none 0 0] 30))
  have HSZ : qza (w.heap.size + 3 ≤ (((w.alloc (.cells #[.int .u64 ta, .int .u64 ti, .slice A st.length c, .int .i64 0, .int .i64 ap, .bool fa, .bool og, .bool cm, .slice B sw.length e9] 30)).alloc (.cells #[.int .i64 er, .string va, .int .u64 ve, .bool fo, .bool co] 33)).alloc (.cells #[.int .u64 0, .int .u64 0, .slice none 0 0, .int .i64 0, .int .i64 0, .bool false, .bool false, .bool false, .slice none 0 0] 30)).heap.size) := ⟨by simp⟩
  clear hr hg hq
  go_enter Try.func14, Try.ntmps14
  have HX := qza.mk hx
  have HA := qza.mk ha
  have HZ := qza.mk hz
  clear hx ha hz
  go_upto_region 1 with (fail)
  change Code.wp _ _ _ _ (((w.alloc (.cells #[.int .u64 ta, .int .u64 ti, .slice A st.length c, .int .i64 0, .int .i64 ap, .bool fa, .bool og, .bool cm, .slice B sw.length e9] 30)).alloc (.cells #[.int .i64 er, .string va, .int .u64 ve, .bool fo, .bool co] 33)).alloc (.cells #[.int .u64 0, .int .u64 0, .slice none 0 0, .int .i64 0, .int .i64 0, .bool false, .bool false, .bool false, .slice none 0 0] 30))
  generalize ((w.alloc (.cells #[.int .u64 ta, .int .u64 ti, .slice A st.length c, .int .i64 0, .int .i64 ap, .bool fa, .bool og, .bool cm, .slice B sw.length e9] 30)).alloc (.cells #[.int .i64 er, .string va, .int .u64 ve, .bool fo, .bool co] 33)).alloc (.cells #[.int .u64 0, .int .u64 0, .slice none 0 0, .int .i64 0, .int .i64 0, .bool false, .bool false, .bool false, .slice none 0 0] 30) = w1 at *
  obtain ⟨hd0, hd1, hd2, hd3, hd4, hd5, hd6, hd7, hd8⟩ := qz13 HX.out
  obtain ⟨ha0, ha1, ha2, ha3, ha4⟩ := qz27 HA.out
  obtain ⟨hz0, hz1, hz2, hz3, hz4, hz5, hz6, hz7, hz8⟩ := qz13 HZ.out
  obtain ⟨hf0, hf1, hf2, hf3, hf4, hf5, hf6, hf7, hf8⟩ := qz17 HZ.out
  have HNX := qza.mk (next_calls ta ti A c st 0 ap fa og cm B e9 sw w1 (Kd.C_below HR.out HB0.out) hc (Kd.C_below HQ.out HB0.out) hqc hl HG.out)
  unfold qz40 at HNX
  generalize nextV ⟨ta, ti, st, 0, ap, fa, og, cm, sw⟩ = av at *
  obtain ⟨ag, ⟨ak, a1, a2, akey, apu, acm, apa⟩, ais⟩ := av
  unfold oagg at HNX
  dsimp only at *
  subst hn
  go_upto_region 2 with (go_at_call 10; refine (HNX.out).mono ?_; rintro e w2 ⟨vp, vq, rfl, hp2, hq2, hb2⟩; obtain ⟨A2, c2, rfl, hc2, hC2⟩ := Sl.of_R hp2; obtain ⟨A3, c3, rfl, hc3, hC3⟩ := Sl.of_R hq2; clear hC2 hC3 hp2 hq2; have HB2 := qza.mk hb2; clear hb2)
  have HX3 := qza.mk (qz14 (qz16 HB2.out HX.out) (.cells #[.int .i64 ak, .int .u64 a1, .int .u64 a2, .string akey, .slice A2 apu.length c2, .bool acm, .slice A3 apa.length c3] 38))
  have HA3 := qza.mk (qz14 (qz16 HB2.out HA.out) (.cells #[.int .i64 ak, .int .u64 a1, .int .u64 a2, .string akey, .slice A2 apu.length c2, .bool acm, .slice A3 apa.length c3] 38))
  have HZ3 := qza.mk (qz14 (qz16 HB2.out HZ.out) (.cells #[.int .i64 ak, .int .u64 a1, .int .u64 a2, .string akey, .slice A2 apu.length c2, .bool acm, .slice A3 apa.length c3] 38))
  have HB3 := qza.mk ((HB0.out.trans (HB2.out.mono HB0.out.size)).alloc (HB0.out.trans (HB2.out.mono HB0.out.size)).size (.cells #[.int .i64 ak, .int .u64 a1, .int .u64 a2, .string akey, .slice A2 apu.length c2, .bool acm, .slice A3 apa.length c3] 38))
  have hs3 : (w2.alloc (.cells #[.int .i64 ak, .int .u64 a1, .int .u64 a2, .string akey, .slice A2 apu.length c2, .bool acm, .slice A3 apa.length c3] 38)).heap.size = w2.heap.size + 1 := by simp
  have hs2 := HB2.out.size
  have hsz := HSZ.out
  have hsz3 : w.heap.size + 3 ≤ (w2.alloc (.cells #[.int .i64 ak, .int .u64 a1, .int .u64 a2, .string akey, .slice A2 apu.length c2, .bool acm, .slice A3 apa.length c3] 38)).heap.size := by omega
  clear hs3
  change Code.wp _ _ _ _ (w2.alloc (.cells #[.int .i64 ak, .int .u64 a1, .int .u64 a2, .string akey, .slice A2 apu.length c2, .bool acm, .slice A3 apa.length c3] 38))
  generalize w2.alloc (.cells #[.int .i64 ak, .int .u64 a1, .int .u64 a2, .string akey, .slice A2 apu.length c2, .bool acm, .slice A3 apa.length c3] 38) = w3 at *
  clear hd0 hd1 hd2 hd3 hd4 hd5 hd6 hd7 hd8 ha0 ha1 ha2 ha3 ha4 hz0 hz1 hz2 hz3 hz4 hz5 hz6 hz7 hz8 hf0 hf1 hf2 hf3 hf4 hf5 hf6 hf7 hf8 HX HA HZ HNX
  obtain ⟨hd0, hd1, hd2, hd3, hd4, hd5, hd6, hd7, hd8⟩ := qz13 HX3.out
  obtain ⟨ha0, ha1, ha2, ha3, ha4⟩ := qz27 HA3.out
  obtain ⟨hz0, hz1, hz2, hz3, hz4, hz5, hz6, hz7, hz8⟩ := qz13 HZ3.out
  obtain ⟨hf0, hf1, hf2, hf3, hf4, hf5, hf6, hf7, hf8⟩ := qz17 HZ3.out
  have HTC := qza.mk (works_calls ta ti A c st 0 ap fa og cm B e9 sw er va ve fo co w3 (Kd.C_below HR.out HB3.out) hc (Kd.C_below HQ.out HB3.out) hqc hl HG.out HAP.out hswl)
  have HTV : qza (∃ td, td = worksV ⟨ta, ti, st, 0, ap, fa, og, cm, sw⟩ er va ve fo ∧ td.st = st) := ⟨⟨_, rfl, works_st _ _ _ _ _⟩⟩
  obtain ⟨td, htd, htst⟩ := HTV.out
  rw [← htd] at HTC HV
  have HTT := qza.mk htst
  clear HTV htd htst
  unfold DPost at HTC
  rw [HTT.out] at HTC
  go_wp2_with (go_at_call 32; refine (HTC.out).mono ?_; rintro e w4 ⟨vw, rfl, hsw, hb4⟩; obtain ⟨Av, nv, cv, rfl⟩ := swv20 hsw; have HSW := qza.mk hsw; have HZ4 := qza.mk (qz16 hb4 HZ3.out); have HP4 := qza.mk (HB3.out.trans (hb4.mono HB3.out.size)); clear hsw hb4 hd0 hd1 hd2 hd3 hd4 hd5 hd6 hd7 hd8 ha0 ha1 ha2 ha3 ha4 hz0 hz1 hz2 hz3 hz4 hz5 hz6 hz7 hz8 hf0 hf1 hf2 hf3 hf4 hf5 hf6 hf7 hf8; obtain ⟨hz0, hz1, hz2, hz3, hz4, hz5, hz6, hz7, hz8⟩ := qz13 HZ4.out; obtain ⟨hf0, hf1, hf2, hf3, hf4, hf5, hf6, hf7, hf8⟩ := qz17 HZ4.out; unfold dagg; dsimp only)
  refine ret9 (g := w.heap.size + 2) rfl rfl rfl (qz34 HZ4.out _ _ _ _ _ _ _ _ _) ?_
  rw [HV.out]
  unfold DPost
  rw [HTT.out]
  refine ⟨_, rfl, ?_, qz23 HP4.out (by omega) _ _ _ _ _ _ _ _ _⟩
  rcases HSW.out with h | h
  · exact Or.inl h
  · exact Or.inr (Own.lower (h.kept (putB9_grown _ _ _ _ _ _ _ _ _ _ _) (fun b e e2 => by have := h.base b e; have := Option.some.inj e2; omega)) (by omega))
theorem hear_calls (ta ti : Int) (A : Option Addr) (c : Nat) (st : List S53) (ph ap : Int) (fa og cm : Bool) (B : Option Addr) (e9 : Nat) (sw : List S51) (er : Int) (va : ByteArray) (ve : Int) (fo co : Bool) (w : World) (hr : Kd.C k53 w A st.length st) (hc : st.length ≤ c) (hq : Kd.C k51 w B sw.length sw) (hqc : sw.length ≤ e9) (hl : st.length ≤ 3000000000000) (hg : ∀ x ∈ st, 0 ≤ x.f0 ∧ x.f0 ≤ 18446744073709551615) (hswl : sw.length ≤ 2513169434843) :
    Calls Try.prog 14 #[.agg #[.int .u64 ta, .int .u64 ti, .slice A st.length c, .int .i64 ph, .int .i64 ap, .bool fa, .bool og, .bool cm, .slice B sw.length e9], .agg #[.int .i64 er, .string va, .int .u64 ve, .bool fo, .bool co]] w (DPost A c B e9 sw (hearV ⟨ta, ti, st, ph, ap, fa, og, cm, sw⟩ er va ve fo co) w) := by
  cases hn : (nextV ⟨ta, ti, st, ph, ap, fa, og, cm, sw⟩).2.2 with
  | false => exact hear_n ta ti A c st ph ap fa og cm B e9 sw er va ve fo co w hr hc hq hqc hl hg hn
  | true =>
    by_cases h0 : ph = 0
    · exact hear_0 ta ti A c st ph ap fa og cm B e9 sw er va ve fo co w hr hc hq hqc hl hg h0 hswl hn
    · by_cases h1 : ph = 1
      · exact hear_1 ta ti A c st ph ap fa og cm B e9 sw er va ve fo co w hr hc hq hqc hl hg h1 hn
      · by_cases h2 : ph = 2
        · exact hear_2 ta ti A c st ph ap fa og cm B e9 sw er va ve fo co w hr hc hq hqc hl hg h2 hn
        · by_cases h3 : ph = 3
          · exact hear_3 ta ti A c st ph ap fa og cm B e9 sw er va ve fo co w hr hc hq hqc hl hg h3 hn
          · exact hear_x ta ti A c st ph ap fa og cm B e9 sw er va ve fo co w hr hc hq hqc hl hg h0 h1 h2 h3 hn
end Go.Proofs.Ytkennobdoldlkaa.PAll
end
