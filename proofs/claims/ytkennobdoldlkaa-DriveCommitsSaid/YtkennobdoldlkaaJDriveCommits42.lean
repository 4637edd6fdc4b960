/- Joined texts of the claim DriveCommits (part 42): contracts of functions and plain laws. -/
import Derived.Test.YtkennobdoldlkaaJDriveCommits36
import Derived.Test.YtkennobdoldlkaaJDriveCommits41
section
/- drive.Begin, drive.Orphan. -/
namespace Go.Proofs.Ytkennobdoldlkaa.PAll
open Go.RowKit Go.Proofs.YtkennobdoldlkaaW.PrintWords Go.Proofs.Ytkennobdoldlkaa
set_option linter.unusedVariables false
set_option linter.unusedSimpArgs false
def zDrv : Drv := ⟨0, 0, [], 0, 0, false, false, false, []⟩
def beginV (ta ti : Int) (st : List S53) : Drv × Int := if mayV ta ti st = true then (⟨ta, ti, st, 0, 0, false, false, false, []⟩, 0) else (zDrv, 1)
/-- A new drive: its steps in a row of the call's own, nothing seen. -/
def BPost (r : Drv × Int) (w : World) (e : Ending) (w' : World) : Prop := ∃ vs, e = .returned (.tuple #[dagg r.1 vs (.slice none 0 0), .int .i64 r.2]) ∧ r.1.sw = [] ∧ Own 5 53 w' w.heap.size vs (r.1.st.map enc53) ∧ Below w.heap.size w w'
set_option maxHeartbeats 1000000 in
set_option maxRecDepth 100000 in
theorem begin_calls (ta ti : Int) (A : Option Addr) (c : Nat) (st : List S53) (w : World) (hr : Kd.C k53 w A st.length st) (hc : st.length ≤ c) (hl : st.length ≤ 3000000000000) (hg : ∀ x ∈ st, 0 ≤ x.f0 ∧ x.f0 ≤ 18446744073709551615) :
    Calls Try.prog 16 #[.agg #[.int .u64 ta, .int .u64 ti, .slice A st.length c]] w (BPost (beginV ta ti st) w) := by
  have HR := Aside0.mk hr
  have HG := Aside0.mk hg
  have hx := stayA20 (heap_alloc_new w (.cells #[.int .u64 ta, .int .u64 ti, .slice A st.length c] 27)) (.cells #[.int .u64 0, .int .u64 0, .slice none 0 0, .int .i64 0, .int .i64 0, .bool false, .bool false, .bool false, .slice none 0 0] 30)
  have hz := heap_alloc_new (w.alloc (.cells #[.int .u64 ta, .int .u64 ti, .slice A st.length c] 27)) (.cells #[.int .u64 0, .int .u64 0, .slice none 0 0, .int .i64 0, .int .i64 0, .bool false, .bool false, .bool false, .slice none 0 0] 30)
  rw [World.size_alloc] at hz
  have HB0 := Aside0.mk (((Below.refl w.heap.size w).alloc (Nat.le_refl _) (.cells #[.int .u64 ta, .int .u64 ti, .slice A st.length c] 27)).alloc (by simp) (.cells #[.int .u64 0, .int .u64 0, .slice none 0 0, .int .i64 0, .int .i64 0, .bool false, .bool false, .bool false, .slice none 0 0] 30))
  have HSZ : Aside0 (w.heap.size + 2 ≤ ((w.alloc (.cells #[.int .u64 ta, .int .u64 ti, .slice A st.length c] 27)).alloc (.cells #[.int .u64 0, .int .u64 0, .slice none 0 0, .int .i64 0, .int .i64 0, .bool false, .bool false, .bool false, .slice none 0 0] 30)).heap.size) := ⟨by simp⟩
  have HBV : Aside0 (beginV ta ti st = if mayV ta ti st = true then (⟨ta, ti, st, 0, 0, false, false, false, []⟩, 0) else (zDrv, 1)) := ⟨rfl⟩
  clear hr hg
  go_enter Try.func16, Try.ntmps16
  have HX := Aside0.mk hx
  have HZ := Aside0.mk hz
  clear hx hz
  go_upto_region 1 with (fail)
  change Code.wp _ _ _ _ ((w.alloc (.cells #[.int .u64 ta, .int .u64 ti, .slice A st.length c] 27)).alloc (.cells #[.int .u64 0, .int .u64 0, .slice none 0 0, .int .i64 0, .int .i64 0, .bool false, .bool false, .bool false, .slice none 0 0] 30))
  generalize (w.alloc (.cells #[.int .u64 ta, .int .u64 ti, .slice A st.length c] 27)).alloc (.cells #[.int .u64 0, .int .u64 0, .slice none 0 0, .int .i64 0, .int .i64 0, .bool false, .bool false, .bool false, .slice none 0 0] 30) = w1 at *
  have hsz := HSZ.out
  obtain ⟨hp0, hp1, hp2⟩ := cellsB3 HX.out
  have HMC := Aside0.mk (may_calls ta ti A c st w1 (Kd.C_below HR.out HB0.out) hc hl HG.out)
  have HL12 : Aside0 (mayV ta ti st = true → st.length ≤ 12) := ⟨fun h => by
    unfold mayV at h
    simp only [Bool.and_eq_true, decide_eq_true_eq] at h
    exact h.1.1.1.1.1.2⟩
  generalize mayV ta ti st = mv at *
  cases mv with
  | false =>
    rw [if_neg (by simp)] at HBV
    go_wp2_with (go_at_call 26; refine (HMC.out).mono ?_; rintro e w2 ⟨rfl, hb2⟩; have HZ2 := Aside0.mk (stay20 hb2 HZ.out); have HB2 := Aside0.mk (HB0.out.trans (hb2.mono HB0.out.size)); clear hb2 hp0 hp1 hp2; obtain ⟨hz0, hz1, hz2, hz3, hz4, hz5, hz6, hz7, hz8⟩ := cellsB9 HZ2.out; obtain ⟨hf0, hf1, hf2, hf3, hf4, hf5, hf6, hf7, hf8⟩ := frozB9 HZ2.out)
    refine ret9t (g := w.heap.size + 1) rfl rfl rfl rfl (putB9_at HZ2.out _ _ _ _ _ _ _ _ _) ?_
    unfold BPost
    rw [HBV.out]
    exact ⟨_, rfl, rfl, Own.nil _ _ _ _, putB9_below HB2.out (by omega) _ _ _ _ _ _ _ _ _⟩
  | true =>
    rw [if_pos rfl] at HBV
    have hst := HL12.out rfl
    go_upto_region 3 with (go_at_call 26; refine (HMC.out).mono ?_; rintro e w2 ⟨rfl, hb2⟩; have HB2a := Aside0.mk hb2; clear hb2)
    have HZ2 := Aside0.mk (stay20 HB2a.out HZ.out)
    have HX2 := Aside0.mk (stay20 HB2a.out HX.out)
    have HB2 := Aside0.mk (HB0.out.trans (HB2a.out.mono HB0.out.size))
    have hs2 := HB2a.out.size
    have HCL := Aside0.mk (CloneStep (.slice A st.length c) (st.map enc53) w2 (flat53.sl ⟨_, _, rfl, hc, Kd.C_below HR.out HB2.out⟩) (by rw [List.length_map]; omega))
    clear hp0 hp1 hp2
    obtain ⟨hp0, hp1, hp2⟩ := cellsB3 HX2.out
    obtain ⟨hq0, hq1, hq2⟩ := frozB3 HX2.out
    go_upto_region 4 with (go_at_call 35; refine (HCL.out).mono ?_; rintro e w3 ⟨v3, rfl, ho3, hb3⟩; obtain ⟨A3, c3, rfl, hc3⟩ := own_sl20 ho3; have HX3 := Aside0.mk (stay20 hb3 HX2.out); have HO3 := Aside0.mk ho3; have HB3 := Aside0.mk hb3; clear ho3 hb3 hp0 hp1 hp2 hq0 hq1 hq2; obtain ⟨hp0, hp1, hp2⟩ := cellsB3 HX3.out; obtain ⟨hq0, hq1, hq2⟩ := frozB3 HX3.out)
    have HZ3 := Aside0.mk (stay20 HB3.out HZ2.out)
    have HP3 := Aside0.mk (HB2.out.trans (HB3.out.mono HB2.out.size))
    rw [List.length_map] at *
    have HX4 : Aside0 ((w3.setCell ⟨w.heap.size, 2, none⟩ (.slice A3 st.length c3)).heap[w.heap.size]? = some (.cells #[.int .u64 ta, .int .u64 ti, .slice A3 st.length c3] 27 (0, 0))) := ⟨blk_put (cs := #[.int .u64 ta, .int .u64 ti, .slice A st.length c]) HX3.out 2 (.slice A3 st.length c3) rfl⟩
    have HZ4 := Aside0.mk ((RowKit.Below.heap_setCell w3 ⟨w.heap.size, 2, none⟩ (.slice A3 st.length c3) (w.heap.size + 1) (show w.heap.size + 1 ≠ w.heap.size by omega)).trans HZ3.out)
    have HB4 := Aside0.mk (RowKit.Below.setCell (p := ⟨w.heap.size, 2, none⟩) HP3.out (Nat.le_refl _) (.slice A3 st.length c3))
    have HO4 := Aside0.mk (HO3.out.kept (Lib.grownBy_setCell w3 w.heap.size 2 (.slice A3 st.length c3)) (fun b e e2 => by have := HO3.out.base b e; have := Option.some.inj e2; omega))
    change Code.wp _ _ _ _ (w3.setCell ⟨w.heap.size, 2, none⟩ (.slice A3 st.length c3))
    generalize w3.setCell ⟨w.heap.size, 2, none⟩ (.slice A3 st.length c3) = w4 at *
    clear hp0 hp1 hp2 hq0 hq1 hq2 HX3 HX2 HZ3 HZ2
    obtain ⟨hp0, hp1, hp2⟩ := cellsB3 HX4.out
    obtain ⟨hz0, hz1, hz2, hz3, hz4, hz5, hz6, hz7, hz8⟩ := cellsB9 HZ4.out
    obtain ⟨hf0, hf1, hf2, hf3, hf4, hf5, hf6, hf7, hf8⟩ := frozB9 HZ4.out
    go_wp2
    refine ret9t (g := w.heap.size + 1) rfl rfl rfl rfl (putB9_at HZ4.out _ _ _ _ _ _ _ _ _) ?_
    unfold BPost
    rw [HBV.out]
    exact ⟨_, rfl, rfl, Own.lower (HO4.out.kept (putB9_grown _ _ _ _ _ _ _ _ _ _ _) (fun b e e2 => by have := HO4.out.base b e; have := Option.some.inj e2; omega)) (by omega), putB9_below HB4.out (by omega) _ _ _ _ _ _ _ _ _⟩
end Go.Proofs.Ytkennobdoldlkaa.PAll
end
