/- Joined texts of the claim DriveSteps (part 34): contracts of functions and plain laws. -/
import Derived.Test.YtkennobdoldlkaaJDriveSteps33
set_option linter.unusedVariables false
set_option linter.unusedSimpArgs false
section
namespace Go.Proofs.Ytkennobdoldlkaa.PAll
open Go.RowKit Go.Proofs.YtkennobdoldlkaaW.PrintWords Go.Proofs.Ytkennobdoldlkaa
def nextV (d : Drv) : Int × Ord × Bool := if (qz28 d).2.2 = true then ((qz28 d).1, { (qz28 d).2.1 with ta := d.ta, ti := d.ti }, true) else (0, zOrd, false)
def qz40 (d : Drv) (w : World) (e : Ending) (w' : World) : Prop := ∃ vp vq, e = .returned (.tuple #[.int .u64 (nextV d).1, oagg (nextV d).2.1 vp vq, .bool (nextV d).2.2]) ∧ Kd.R k74 74 w' w.heap.size (fun _ => True) vp (nextV d).2.1.puts ∧ Kd.R (Kd.int .u64) 22 w' w.heap.size (fun _ => True) vq (nextV d).2.1.parts ∧ Below w.heap.size w w'
theorem keepN20 {α : Type} {d : Kd α} {e base g : Nat} {w w' : World} {v : Value} {xs : List α} (h : Kd.R d e w base (fun _ => True) v xs) (hg : w.grownBy w' (some g)) (hge : w.heap.size ≤ g) : Kd.R d e w' base (fun _ => True) v xs :=
  Kd.R_mono (Kd.R_grown (Kd.R_bound h) hg (fun k hk e => by have := hk.2.2.1; cases e; omega)) (fun _ _ => trivial)
set_option maxHeartbeats 1000000 in
set_option maxRecDepth 100000 in
theorem next_calls (ta ti : Int) (A : Option Addr) (c : Nat) (st : List S53) (ph ap : Int) (fa og cm : Bool) (B : Option Addr) (e9 : Nat) (sw : List S51) (w : World) (hr : Kd.C k53 w A st.length st) (hc : st.length ≤ c) (hq : Kd.C k51 w B sw.length sw) (hqc : sw.length ≤ e9) (hl : st.length ≤ 3000000000000) (hg : ∀ x ∈ st, 0 ≤ x.f0 ∧ x.f0 ≤ 18446744073709551615) :
    Calls Try.prog 10 #[.agg #[.int .u64 ta, .int .u64 ti, .slice A st.length c, .int .i64 ph, .int .i64 ap, .bool fa, .bool og, .bool cm, .slice B sw.length e9]] w (qz40 ⟨ta, ti, st, ph, ap, fa, og, cm, sw⟩ w) := by
  have HR := qza.mk hr
  have HQ := qza.mk hq
  have HG := qza.mk hg
  have hx := qz14 (heap_alloc_new w (.cells #[.int .u64 ta, .int .u64 ti, .slice A st.length c, .int .i64 ph, .int .i64 ap, .bool fa, .bool og, .bool cm, .slice B sw.length e9] 30)) (.cells #[.int .i64 0, .int .u64 0, .int .u64 0, .string ⟨#[]⟩, .slice none 0 0, .bool false, .slice none 0 0] 38)
  have hz := heap_alloc_new (w.alloc (.cells #[.int .u64 ta, .int .u64 ti, .slice A st.length c, .int .i64 ph, .int .i64 ap, .bool fa, .bool og, .bool cm, .slice B sw.length e9] 30)) (.cells #[.int .i64 0, .int .u64 0, .int .u64 0, .string ⟨#[]⟩, .slice none 0 0, .bool false, .slice none 0 0] 38)
  rw [World.size_alloc] at hz
  have HB0 := qza.mk (((Below.refl w.heap.size w).alloc (Nat.le_refl _) (.cells #[.int .u64 ta, .int .u64 ti, .slice A st.length c, .int .i64 ph, .int .i64 ap, .bool fa, .bool og, .bool cm, .slice B sw.length e9] 30)).alloc (by simp) (.cells #[.int .i64 0, .int .u64 0, .int .u64 0, .string ⟨#[]⟩, .slice none 0 0, .bool false, .slice none 0 0] 38))
  have HSZ : qza (w.heap.size + 2 ≤ ((w.alloc (.cells #[.int .u64 ta, .int .u64 ti, .slice A st.length c, .int .i64 ph, .int .i64 ap, .bool fa, .bool og, .bool cm, .slice B sw.length e9] 30)).alloc (.cells #[.int .i64 0, .int .u64 0, .int .u64 0, .string ⟨#[]⟩, .slice none 0 0, .bool false, .slice none 0 0] 38)).heap.size) := ⟨by simp⟩
  clear hr hg hq
  go_enter Try.func10, Try.ntmps10
  have HX := qza.mk hx
  have HZ := qza.mk hz
  clear hx hz
  go_upto_region 1 with (fail)
  change Code.wp _ _ _ _ ((w.alloc (.cells #[.int .u64 ta, .int .u64 ti, .slice A st.length c, .int .i64 ph, .int .i64 ap, .bool fa, .bool og, .bool cm, .slice B sw.length e9] 30)).alloc (.cells #[.int .i64 0, .int .u64 0, .int .u64 0, .string ⟨#[]⟩, .slice none 0 0, .bool false, .slice none 0 0] 38))
  generalize (w.alloc (.cells #[.int .u64 ta, .int .u64 ti, .slice A st.length c, .int .i64 ph, .int .i64 ap, .bool fa, .bool og, .bool cm, .slice B sw.length e9] 30)).alloc (.cells #[.int .i64 0, .int .u64 0, .int .u64 0, .string ⟨#[]⟩, .slice none 0 0, .bool false, .slice none 0 0] 38) = w1 at *
  obtain ⟨hd0, hd1, hd2, hd3, hd4, hd5, hd6, hd7, hd8⟩ := qz13 HX.out
  have HAS := qza.mk (asked_calls ta ti A c st ph ap fa og cm B e9 sw w1 (Kd.C_below HR.out HB0.out) hc (Kd.C_below HQ.out HB0.out) hqc hl HG.out)
  have HNV : qza (nextV ⟨ta, ti, st, ph, ap, fa, og, cm, sw⟩ = if (qz28 ⟨ta, ti, st, ph, ap, fa, og, cm, sw⟩).2.2 = true then ((qz28 ⟨ta, ti, st, ph, ap, fa, og, cm, sw⟩).1, { (qz28 ⟨ta, ti, st, ph, ap, fa, og, cm, sw⟩).2.1 with ta := ta, ti := ti }, true) else (0, zOrd, false)) := ⟨rfl⟩
  unfold AskPost at HAS
  generalize qz28 ⟨ta, ti, st, ph, ap, fa, og, cm, sw⟩ = av at *
  obtain ⟨ag, ⟨ak, a1, a2, akey, apu, acm, apa⟩, ais⟩ := av
  unfold oagg at HAS
  dsimp only at *
  go_upto_region 2 with (go_at_call 30; refine (HAS.out).mono ?_; rintro e w2 ⟨vp, vq, rfl, hp2, hq2, hb2⟩; obtain ⟨A2, c2, rfl, hc2, hC2⟩ := Sl.of_R hp2; obtain ⟨A3, c3, rfl, hc3, hC3⟩ := Sl.of_R hq2; clear hC2 hC3; have HP2 := qza.mk hp2; have HQ2 := qza.mk hq2; have HB2 := qza.mk hb2; clear hp2 hq2 hb2)
  have HO3 := qza.mk (heap_alloc_new w2 (.cells #[.int .i64 ak, .int .u64 a1, .int .u64 a2, .string akey, .slice A2 apu.length c2, .bool acm, .slice A3 apa.length c3] 38))
  have HX3 := qza.mk (qz14 (qz16 HB2.out HX.out) (.cells #[.int .i64 ak, .int .u64 a1, .int .u64 a2, .string akey, .slice A2 apu.length c2, .bool acm, .slice A3 apa.length c3] 38))
  have HZ3 := qza.mk (qz14 (qz16 HB2.out HZ.out) (.cells #[.int .i64 ak, .int .u64 a1, .int .u64 a2, .string akey, .slice A2 apu.length c2, .bool acm, .slice A3 apa.length c3] 38))
  have HB3 := qza.mk ((HB0.out.trans (HB2.out.mono HB0.out.size)).alloc (HB0.out.trans (HB2.out.mono HB0.out.size)).size (.cells #[.int .i64 ak, .int .u64 a1, .int .u64 a2, .string akey, .slice A2 apu.length c2, .bool acm, .slice A3 apa.length c3] 38))
  have hs3 : (w2.alloc (.cells #[.int .i64 ak, .int .u64 a1, .int .u64 a2, .string akey, .slice A2 apu.length c2, .bool acm, .slice A3 apa.length c3] 38)).heap.size = w2.heap.size + 1 := by simp
  have HG3 := qza.mk (World.grownBy_alloc w2 (.cells #[.int .i64 ak, .int .u64 a1, .int .u64 a2, .string akey, .slice A2 apu.length c2, .bool acm, .slice A3 apa.length c3] 38) (some w2.heap.size))
  have hs2 := HB2.out.size
  have hsz := HSZ.out
  change Code.wp _ _ _ _ (w2.alloc (.cells #[.int .i64 ak, .int .u64 a1, .int .u64 a2, .string akey, .slice A2 apu.length c2, .bool acm, .slice A3 apa.length c3] 38))
  generalize w2.alloc (.cells #[.int .i64 ak, .int .u64 a1, .int .u64 a2, .string akey, .slice A2 apu.length c2, .bool acm, .slice A3 apa.length c3] 38) = w3 at *
  clear hd0 hd1 hd2 hd3 hd4 hd5 hd6 hd7 hd8 HX HZ HAS
  obtain ⟨hd0, hd1, hd2, hd3, hd4, hd5, hd6, hd7, hd8⟩ := qz13 HX3.out
  obtain ⟨hz0, hz1, hz2, hz3, hz4, hz5, hz6⟩ := qz41 HZ3.out
  obtain ⟨hy0, hy1, hy2, hy3, hy4, hy5, hy6⟩ := frozB7 HZ3.out
  cases ais with
  | false =>
    rw [if_neg (by simp)] at HNV
    clear HO3 HG3 HP2 HQ2
    go_wp2
    refine ret7 (g := w.heap.size + 1) rfl rfl rfl rfl rfl (putB7_at HZ3.out _ _ _ _ _ _ _) ?_
    unfold qz40
    rw [HNV.out]
    exact ⟨_, _, rfl, Kd.R_nil _ _ _ _ _, Kd.R_nil _ _ _ _ _, qz47 HB3.out (by omega) _ _ _ _ _ _ _⟩
  | true =>
    rw [if_pos rfl] at HNV
    have HW4 : qza (∃ w4, w4 = (w3.setCell ⟨w2.heap.size, 1, none⟩ (.int .u64 ta)).setCell ⟨w2.heap.size, 2, none⟩ (.int .u64 ti)) := ⟨_, rfl⟩
    obtain ⟨w4, hw4⟩ := HW4.out
    have HO4 : qza (w4.heap[w2.heap.size]? = some (.cells #[.int .i64 ak, .int .u64 ta, .int .u64 ti, .string akey, .slice A2 apu.length c2, .bool acm, .slice A3 apa.length c3] 38 (0, 0))) := ⟨by rw [hw4]; exact qz12 (cs := #[.int .i64 ak, .int .u64 ta, .int .u64 a2, .string akey, .slice A2 apu.length c2, .bool acm, .slice A3 apa.length c3]) (qz12 (cs := #[.int .i64 ak, .int .u64 a1, .int .u64 a2, .string akey, .slice A2 apu.length c2, .bool acm, .slice A3 apa.length c3]) HO3.out 1 (.int .u64 ta) rfl) 2 (.int .u64 ti) rfl⟩
    have HZ4 : qza (w4.heap[w.heap.size + 1]? = some (.cells #[.int .i64 0, .int .u64 0, .int .u64 0, .string ⟨#[]⟩, .slice none 0 0, .bool false, .slice none 0 0] 38 (0, 0))) := ⟨by rw [hw4]; exact ((RowKit.Below.heap_setCell _ ⟨w2.heap.size, 2, none⟩ _ (w.heap.size + 1) (show w.heap.size + 1 ≠ w2.heap.size by omega)).trans (RowKit.Below.heap_setCell w3 ⟨w2.heap.size, 1, none⟩ _ (w.heap.size + 1) (show w.heap.size + 1 ≠ w2.heap.size by omega))).trans HZ3.out⟩
    have HB4 : qza (Below w.heap.size w w4) := ⟨by rw [hw4]; exact RowKit.Below.setCell (p := ⟨w2.heap.size, 2, none⟩) (RowKit.Below.setCell (p := ⟨w2.heap.size, 1, none⟩) HB3.out (show w.heap.size ≤ w2.heap.size by omega) _) (show w.heap.size ≤ w2.heap.size by omega) _⟩
    have HG4 : qza (w2.grownBy w4 (some w2.heap.size)) := ⟨by rw [hw4]; exact (HG3.out.trans (Lib.grownBy_setCell _ _ 1 _)).trans (Lib.grownBy_setCell _ _ 2 _)⟩
    have hs4 : w.heap.size + 2 ≤ w4.heap.size := by rw [hw4, World.size_setCell, World.size_setCell]; omega
    have HWE := qza.mk hw4
    clear hw4 HW4
    have HPE := qza.mk (keepN20 HP2.out HG4.out (Nat.le_refl _))
    have HQE := qza.mk (keepN20 HQ2.out HG4.out (Nat.le_refl _))
    obtain ⟨hx0, hx1, hx2, hx3, hx4, hx5, hx6⟩ := qz41 HO3.out
    obtain ⟨hw0, hw1, hw2, hw3, hw4, hw5, hw6⟩ := frozB7 HO3.out
    clear HP2 HQ2 HG4 HG3 HX3 HB3 hs3
    go_upto_region 5 with (fail)
    change Code.wp _ _ _ _ ((w3.setCell ⟨w2.heap.size, 1, none⟩ (.int .u64 ta)).setCell ⟨w2.heap.size, 2, none⟩ (.int .u64 ti))
    rw [← HWE.out]
    clear HWE hd0 hd1 hd2 hd3 hd4 hd5 hd6 hd7 hd8 hz0 hz1 hz2 hz3 hz4 hz5 hz6 hy0 hy1 hy2 hy3 hy4 hy5 hy6 hx0 hx1 hx2 hx3 hx4 hx5 hx6 hw0 hw1 hw2 hw3 hw4 hw5 hw6 HO3 HZ3
    obtain ⟨hx0, hx1, hx2, hx3, hx4, hx5, hx6⟩ := qz41 HO4.out
    obtain ⟨hz0, hz1, hz2, hz3, hz4, hz5, hz6⟩ := qz41 HZ4.out
    obtain ⟨hy0, hy1, hy2, hy3, hy4, hy5, hy6⟩ := frozB7 HZ4.out
    go_region
    go_wp2
    refine ret7D (w := w4) (g := w.heap.size + 1) rfl rfl rfl rfl rfl HZ4.out ?_
    unfold qz40
    rw [HNV.out]
    exact ⟨_, _, rfl, Kd.R_below (keepR20 HPE.out (putB7_grown _ _ _ _ _ _ _ _ _) (by omega) (by omega)) ((Below.refl _ _).drew), Kd.R_below (keepR20 HQE.out (putB7_grown _ _ _ _ _ _ _ _ _) (by omega) (by omega)) ((Below.refl _ _).drew), (qz47 HB4.out (by omega) _ _ _ _ _ _ _).drew⟩
end Go.Proofs.Ytkennobdoldlkaa.PAll
end
