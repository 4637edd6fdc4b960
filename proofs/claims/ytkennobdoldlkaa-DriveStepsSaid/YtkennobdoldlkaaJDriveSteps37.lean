/- Joined texts of the claim DriveSteps (part 37): contracts of functions and plain laws. -/
import Derived.Test.YtkennobdoldlkaaJDriveSteps31
import Derived.Test.YtkennobdoldlkaaJDriveSteps36
set_option linter.unusedVariables false
set_option linter.unusedSimpArgs false
section
namespace Go.Proofs.Ytkennobdoldlkaa.PAll
open Go.RowKit Go.Proofs.YtkennobdoldlkaaW.PrintWords Go.Proofs.Ytkennobdoldlkaa
def zDrv : Drv := ⟨0, 0, [], 0, 0, false, false, false, []⟩
def beginV (ta ti : Int) (st : List S53) : Drv × Int := if mayV ta ti st = true then (⟨ta, ti, st, 0, 0, false, false, false, []⟩, 0) else (zDrv, 1)
def BPost (r : Drv × Int) (w : World) (e : Ending) (w' : World) : Prop := ∃ vs, e = .returned (.tuple #[dagg r.1 vs (.slice none 0 0), .int .i64 r.2]) ∧ r.1.sw = [] ∧ Own 5 53 w' w.heap.size vs (r.1.st.map enc53) ∧ Below w.heap.size w w'
set_option maxHeartbeats 1000000 in
set_option maxRecDepth 100000 in
theorem begin_calls (ta ti : Int) (A : Option Addr) (c : Nat) (st : List S53) (w : World) (hr : Kd.C k53 w A st.length st) (hc : st.length ≤ c) (hl : st.length ≤ 3000000000000) (hg : ∀ x ∈ st, 0 ≤ x.f0 ∧ x.f0 ≤ 18446744073709551615) :
    Calls Try.prog 16 #[.agg #[.int .u64 ta, .int .u64 ti, .slice A st.length c]] w (BPost (beginV ta ti st) w) := by
  have HR := qza.mk hr
  have HG := qza.mk hg
  have hx := qz14 (heap_alloc_new w (.cells #[.int .u64 ta, .int .u64 ti, .slice A st.length c] 27)) (.cells #[.int .u64 0, .int .u64 0, .slice none 0 0, .int .i64 0, .int .i64 0, .bool false, .bool false, .bool false, .slice none 0 0] 30)
  have hz := heap_alloc_new (w.alloc (.cells #[.int .u64 ta, .int .u64 ti, .slice A st.length c] 27)) (.cells #[.int .u64 0, .int .u64 0, .slice none 0 0, .int .i64 0, .int .i64 0, .bool false, .bool false, .bool false, .slice none 0 0] 30)
  rw [World.size_alloc] at hz
  have HB0 := qza.mk (((Below.refl w.heap.size w).alloc (Nat.le_refl _) (.cells #[.int .u64 ta, .int .u64 ti, .slice A st.length c] 27)).alloc (by simp) (.cells #[.int .u64 0, .int .u64 0, .slice none 0 0, .int .i64 0, .int .i64 0, .bool false, .bool false, .bool false, .slice none 0 0] 30))
  have HSZ : qza (w.heap.size + 2 ≤ ((w.alloc (.cells #[.int .u64 ta, .int .u64 ti, .slice A st.length c] 27)).alloc (.cells #[.int .u64 0, .int .u64 0, .slice none 0 0, .int .i64 0, .int .i64 0, .bool false, .bool false, .bool false, .slice none 0 0] 30)).heap.size) := ⟨by simp⟩
  have HBV : qza (beginV ta ti st = if mayV ta ti st = true then (⟨ta, ti, st, 0, 0, false, false, false, []⟩, 0) else (zDrv, 1)) := ⟨rfl⟩
  clear hr hg
  go_enter Try.func16, Try.ntmps16
  have HX := qza.mk hx
  have HZ := qza.mk hz
  clear hx hz
  go_upto_region 1 with (fail)
  change Code.wp _ _ _ _ ((w.alloc (.cells #[.int .u64 ta, .int .u64 ti, .slice A st.length c] 27)).alloc (.cells #[.int .u64 0, .int .u64 0, .slice none 0 0, .int .i64 0, .int .i64 0, .bool false, .bool false, .bool false, .slice none 0 0] 30))
  generalize (w.alloc (.cells #[.int .u64 ta, .int .u64 ti, .slice A st.length c] 27)).alloc (.cells #[.int .u64 0, .int .u64 0, .slice none 0 0, .int .i64 0, .int .i64 0, .bool false, .bool false, .bool false, .slice none 0 0] 30) = w1 at *
  have hsz := HSZ.out
  obtain ⟨hp0, hp1, hp2⟩ := cellsB3 HX.out
  have HMC := qza.mk (may_calls ta ti A c st w1 (Kd.C_below HR.out HB0.out) hc hl HG.out)
  have HL12 : qza (mayV ta ti st = true → st.length ≤ 12) := ⟨fun h => by
    unfold mayV at h
    simp only [Bool.and_eq_true, decide_eq_true_eq] at h
    exact h.1.1.1.1.1.2⟩
  generalize mayV ta ti st = mv at *
  cases mv with
  | false =>
    rw [if_neg (by simp)] at HBV
    go_wp2_with (go_at_call 26; refine (HMC.out).mono ?_; rintro e w2 ⟨rfl, hb2⟩; have HZ2 := qza.mk (qz16 hb2 HZ.out); have HB2 := qza.mk (HB0.out.trans (hb2.mono HB0.out.size)); clear hb2 hp0 hp1 hp2; obtain ⟨hz0, hz1, hz2, hz3, hz4, hz5, hz6, hz7, hz8⟩ := qz13 HZ2.out; obtain ⟨hf0, hf1, hf2, hf3, hf4, hf5, hf6, hf7, hf8⟩ := qz17 HZ2.out)
    refine ret9t (g := w.heap.size + 1) rfl rfl rfl rfl (qz34 HZ2.out _ _ _ _ _ _ _ _ _) ?_
    unfold BPost
    rw [HBV.out]
    exact ⟨_, rfl, rfl, Own.nil _ _ _ _, qz23 HB2.out (by omega) _ _ _ _ _ _ _ _ _⟩
  | true =>
    rw [if_pos rfl] at HBV
    have hst := HL12.out rfl
    go_upto_region 3 with (go_at_call 26; refine (HMC.out).mono ?_; rintro e w2 ⟨rfl, hb2⟩; have HB2a := qza.mk hb2; clear hb2)
    have HZ2 := qza.mk (qz16 HB2a.out HZ.out)
    have HX2 := qza.mk (qz16 HB2a.out HX.out)
    have HB2 := qza.mk (HB0.out.trans (HB2a.out.mono HB0.out.size))
    have hs2 := HB2a.out.size
    have HCL := qza.mk (CloneStep (.slice A st.length c) (st.map enc53) w2 (flat53.sl ⟨_, _, rfl, hc, Kd.C_below HR.out HB2.out⟩) (by rw [List.length_map]; omega))
    clear hp0 hp1 hp2
    obtain ⟨hp0, hp1, hp2⟩ := cellsB3 HX2.out
    obtain ⟨hq0, hq1, hq2⟩ := frozB3 HX2.out
    go_upto_region 4 with (go_at_call 35; refine (HCL.out).mono ?_; rintro e w3 ⟨v3, rfl, ho3, hb3⟩; obtain ⟨A3, c3, rfl, hc3⟩ := own_sl20 ho3; have HX3 := qza.mk (qz16 hb3 HX2.out); have HO3 := qza.mk ho3; have HB3 := qza.mk hb3; clear ho3 hb3 hp0 hp1 hp2 hq0 hq1 hq2; obtain ⟨hp0, hp1, hp2⟩ := cellsB3 HX3.out; obtain ⟨hq0, hq1, hq2⟩ := frozB3 HX3.out)
    have HZ3 := qza.mk (qz16 HB3.out HZ2.out)
    have HP3 := qza.mk (HB2.out.trans (HB3.out.mono HB2.out.size))
    rw [List.length_map] at *
    have HX4 : qza ((w3.setCell ⟨w.heap.size, 2, none⟩ (.slice A3 st.length c3)).heap[w.heap.size]? = some (.cells #[.int .u64 ta, .int .u64 ti, .slice A3 st.length c3] 27 (0, 0))) := ⟨qz12 (cs := #[.int .u64 ta, .int .u64 ti, .slice A st.length c]) HX3.out 2 (.slice A3 st.length c3) rfl⟩
    have HZ4 := qza.mk ((RowKit.Below.heap_setCell w3 ⟨w.heap.size, 2, none⟩ (.slice A3 st.length c3) (w.heap.size + 1) (show w.heap.size + 1 ≠ w.heap.size by omega)).trans HZ3.out)
    have HB4 := qza.mk (RowKit.Below.setCell (p := ⟨w.heap.size, 2, none⟩) HP3.out (Nat.le_refl _) (.slice A3 st.length c3))
    have HO4 := qza.mk (HO3.out.kept (Lib.grownBy_setCell w3 w.heap.size 2 (.slice A3 st.length c3)) (fun b e e2 => by have := HO3.out.base b e; have := Option.some.inj e2; omega))
    change Code.wp _ _ _ _ (w3.setCell ⟨w.heap.size, 2, none⟩ (.slice A3 st.length c3))
    generalize w3.setCell ⟨w.heap.size, 2, none⟩ (.slice A3 st.length c3) = w4 at *
    clear hp0 hp1 hp2 hq0 hq1 hq2 HX3 HX2 HZ3 HZ2
    obtain ⟨hp0, hp1, hp2⟩ := cellsB3 HX4.out
    obtain ⟨hz0, hz1, hz2, hz3, hz4, hz5, hz6, hz7, hz8⟩ := qz13 HZ4.out
    obtain ⟨hf0, hf1, hf2, hf3, hf4, hf5, hf6, hf7, hf8⟩ := qz17 HZ4.out
    go_wp2
    refine ret9t (g := w.heap.size + 1) rfl rfl rfl rfl (qz34 HZ4.out _ _ _ _ _ _ _ _ _) ?_
    unfold BPost
    rw [HBV.out]
    exact ⟨_, rfl, rfl, Own.lower (HO4.out.kept (putB9_grown _ _ _ _ _ _ _ _ _ _ _) (fun b e e2 => by have := HO4.out.base b e; have := Option.some.inj e2; omega)) (by omega), qz23 HB4.out (by omega) _ _ _ _ _ _ _ _ _⟩
theorem hear_st (d : Drv) (er : Int) (va : ByteArray) (ve : Int) (fo co : Bool) : (hearV d er va ve fo co).st = d.st := by
  unfold hearV
  split
  · rfl
  · split
    · exact works_st _ _ _ _ _
    · split
      · split <;> rfl
      · split
        · split
          · exact on_st _ _
          · rfl
        · split
          · rfl
          · exact on_st _ _
theorem works_sw (d : Drv) (er : Int) (va : ByteArray) (ve : Int) (fo : Bool) : (worksV d er va ve fo).sw.length ≤ d.sw.length + 1 := by
  unfold worksV
  split
  · omega
  · split
    · split
      · show (d.sw ++ _).length ≤ _; simp
      · show (d.sw ++ _).length ≤ _; simp
    · show d.sw.length ≤ _; omega
theorem hear_sw (d : Drv) (er : Int) (va : ByteArray) (ve : Int) (fo co : Bool) : (hearV d er va ve fo co).sw.length ≤ d.sw.length + 1 := by
  unfold hearV
  split
  · omega
  · split
    · exact works_sw _ _ _ _ _
    · split
      · split <;> (show d.sw.length ≤ _; omega)
      · split
        · split
          · rw [on_sw]; omega
          · show d.sw.length ≤ _; omega
        · split
          · show d.sw.length ≤ _; omega
          · rw [on_sw]; omega
structure DOk (d : Drv) : Prop where
  len : d.st.length ≤ 3000000000000
  rng : ∀ x ∈ d.st, 0 ≤ x.f0 ∧ x.f0 ≤ 18446744073709551615
  saw : d.sw.length ≤ 2513169434843
structure DrvAt (ws w : World) (q : Nat) (d : Drv) (A : Option Addr) (c : Nat) (B : Option Addr) (e9 : Nat) : Prop where
  cells : w.heap[q]? = some (.cells #[.int .u64 d.ta, .int .u64 d.ti, .slice A d.st.length c, .int .i64 d.ph, .int .i64 d.ap, .bool d.fa, .bool d.og, .bool d.cm, .slice B d.sw.length e9] 30 (0, 0))
  len : d.st.length ≤ c
  st : Kd.C k53 ws A d.st.length d.st
  old : Below ws.heap.size ws w
  box : ws.heap.size ≤ q
  sw : Own 5 51 w (q + 1) (.slice B d.sw.length e9) (d.sw.map enc51)
theorem DrvAt.lt {ws w : World} {q : Nat} {d : Drv} {A : Option Addr} {c : Nat} {B : Option Addr} {e9 : Nat} (h : DrvAt ws w q d A c B e9) : q < w.heap.size := (Array.getElem?_eq_some_iff.1 h.cells).1
theorem DrvAt.below {ws w w' : World} {q : Nat} {d : Drv} {A : Option Addr} {c : Nat} {B : Option Addr} {e9 : Nat} (h : DrvAt ws w q d A c B e9) (hb : Below w.heap.size w w') : DrvAt ws w' q d A c B e9 :=
  ⟨qz16 hb h.cells, h.len, h.st, h.old.trans (hb.mono h.old.size), h.box, h.sw.below hb⟩
theorem DrvAt.sawC {ws w : World} {q : Nat} {d : Drv} {A : Option Addr} {c : Nat} {B : Option Addr} {e9 : Nat} (h : DrvAt ws w q d A c B e9) : Kd.C k51 w B d.sw.length d.sw ∧ d.sw.length ≤ e9 := by
  obtain ⟨A', c', e, hc, hC⟩ := flat51.ofsl h.sw.sl
  cases e
  exact ⟨hC, hc⟩
theorem DrvAt.next {ws w : World} {q : Nat} {d : Drv} {A : Option Addr} {c : Nat} {B : Option Addr} {e9 : Nat} (h : DrvAt ws w q d A c B e9) (ok : DOk d) (W : World) (hb : Below w.heap.size w W) :
    Calls Try.prog 10 #[.agg #[.int .u64 d.ta, .int .u64 d.ti, .slice A d.st.length c, .int .i64 d.ph, .int .i64 d.ap, .bool d.fa, .bool d.og, .bool d.cm, .slice B d.sw.length e9]] W (qz40 d W) :=
  next_calls d.ta d.ti A c d.st d.ph d.ap d.fa d.og d.cm B e9 d.sw W (Kd.C_below h.st (h.old.trans (hb.mono h.old.size))) h.len (Kd.C_below h.sawC.1 hb) h.sawC.2 ok.len ok.rng
theorem DrvAt.hear {ws w : World} {q : Nat} {d : Drv} {A : Option Addr} {c : Nat} {B : Option Addr} {e9 : Nat} (h : DrvAt ws w q d A c B e9) (ok : DOk d) (er : Int) (va : ByteArray) (ve : Int) (fo co : Bool) (W : World) (hb : Below w.heap.size w W) :
    Calls Try.prog 14 #[.agg #[.int .u64 d.ta, .int .u64 d.ti, .slice A d.st.length c, .int .i64 d.ph, .int .i64 d.ap, .bool d.fa, .bool d.og, .bool d.cm, .slice B d.sw.length e9], .agg #[.int .i64 er, .string va, .int .u64 ve, .bool fo, .bool co]] W fun e w' => ∃ B' e9', e = .returned (.agg #[.int .u64 (hearV d er va ve fo co).ta, .int .u64 (hearV d er va ve fo co).ti, .slice A (hearV d er va ve fo co).st.length c, .int .i64 (hearV d er va ve fo co).ph, .int .i64 (hearV d er va ve fo co).ap, .bool (hearV d er va ve fo co).fa, .bool (hearV d er va ve fo co).og, .bool (hearV d er va ve fo co).cm, .slice B' (hearV d er va ve fo co).sw.length e9']) ∧
      Below W.heap.size W w' ∧ Own 5 51 w' (q + 1) (.slice B' (hearV d er va ve fo co).sw.length e9') ((hearV d er va ve fo co).sw.map enc51) := by
  refine (hear_calls d.ta d.ti A c d.st d.ph d.ap d.fa d.og d.cm B e9 d.sw er va ve fo co W (Kd.C_below h.st (h.old.trans (hb.mono h.old.size))) h.len (Kd.C_below h.sawC.1 hb) h.sawC.2 ok.len ok.rng ok.saw).mono ?_
  rintro e w' ⟨vw, rfl, hs, hb'⟩
  change (vw = .slice B d.sw.length e9 ∧ (hearV d er va ve fo co).sw = d.sw) ∨ Own 5 51 w' W.heap.size vw ((hearV d er va ve fo co).sw.map enc51) at hs
  have hq := h.lt
  rcases hs with ⟨rfl, hs⟩ | ho
  · refine ⟨B, e9, ?_, hb', ?_⟩
    · rw [hs]; rfl
    · rw [hs]; exact (h.sw.below hb).below hb'
  · obtain ⟨B', e9', rfl, _⟩ := own_sl20 ho
    rw [List.length_map] at *
    exact ⟨B', e9', rfl, hb', ho.lower (by have := hb.size; omega)⟩
theorem DrvAt.put {ws w W : World} {q : Nat} {d d' : Drv} {A : Option Addr} {c : Nat} {B : Option Addr} {e9 : Nat} (h : DrvAt ws w q d A c B e9) (hst : d'.st = d.st) {B' : Option Addr} {e9' : Nat} (hb : Below w.heap.size w W) (ho : Own 5 51 W (q + 1) (.slice B' d'.sw.length e9') (d'.sw.map enc51)) :
    DrvAt ws (putB9 W q (.int .u64 d'.ta) (.int .u64 d'.ti) (.slice A d'.st.length c) (.int .i64 d'.ph) (.int .i64 d'.ap) (.bool d'.fa) (.bool d'.og) (.bool d'.cm) (.slice B' d'.sw.length e9')) q d' A c B' e9' :=
  ⟨qz34 (qz16 hb h.cells) _ _ _ _ _ _ _ _ _, by rw [hst]; exact h.len, by rw [hst]; exact h.st, qz23 (h.old.trans (hb.mono h.old.size)) h.box _ _ _ _ _ _ _ _ _, h.box,
    ho.kept (putB9_grown _ _ _ _ _ _ _ _ _ _ _) (fun b e e2 => by have := ho.base b e; have := Option.some.inj e2; omega)⟩
theorem DrvAt.made {w0 w : World} {r : Drv} {A : Option Addr} {n c : Nat} (hs : r.sw = []) (ho : Own 5 53 w w0.heap.size (.slice A n c) (r.st.map enc53)) (hn : n = r.st.length) :
    DrvAt w (w.alloc (.cells #[.int .u64 r.ta, .int .u64 r.ti, .slice A r.st.length c, .int .i64 r.ph, .int .i64 r.ap, .bool r.fa, .bool r.og, .bool r.cm, .slice none 0 0] 30)) w.heap.size r A c none 0 := by
  subst hn
  obtain ⟨A', c', e, hc, hC⟩ := flat53.ofsl ho.sl
  cases e
  refine ⟨?_, hc, hC, (Below.refl _ _).alloc (Nat.le_refl _) _, Nat.le_refl _, ?_⟩
  · rw [hs]; exact heap_alloc_new w _
  · rw [hs]; exact Own.nil _ _ _ _
def exStp : List S53 := [⟨1, ⟨#[97]⟩, ⟨#[49]⟩, true, false⟩, ⟨2, ⟨#[98]⟩, ⟨#[]⟩, false, false⟩]
def exD : Nat → Drv
  | 0 => ⟨1, 0, exStp, 0, 0, false, false, false, []⟩
  | j + 1 => hearV (exD j) 0 ⟨#[]⟩ 0 false true
def exK (j : Nat) : Int := [2, 1, 5, 3, 3, 6, 4, 4].getD j 0
def exG (j : Nat) : Int := [1, 2, 0, 1, 2, 0, 1, 2].getD j 0
theorem ex_begin : beginV 1 0 exStp = (exD 0, 0) := by kernel_rfl
theorem ex_next : ∀ j : Fin 8, (nextV (exD j)).2.2 = true ∧ (nextV (exD j)).1 = exG j ∧ (nextV (exD j)).2.1.kind = exK j := by
  intro j
  match j with
  | 0 => exact ⟨by kernel_rfl, by kernel_rfl, by kernel_rfl⟩
  | 1 => exact ⟨by kernel_rfl, by kernel_rfl, by kernel_rfl⟩
  | 2 => exact ⟨by kernel_rfl, by kernel_rfl, by kernel_rfl⟩
  | 3 => exact ⟨by kernel_rfl, by kernel_rfl, by kernel_rfl⟩
  | 4 => exact ⟨by kernel_rfl, by kernel_rfl, by kernel_rfl⟩
  | 5 => exact ⟨by kernel_rfl, by kernel_rfl, by kernel_rfl⟩
  | 6 => exact ⟨by kernel_rfl, by kernel_rfl, by kernel_rfl⟩
  | 7 => exact ⟨by kernel_rfl, by kernel_rfl, by kernel_rfl⟩
theorem ex_end : (nextV (exD 8)).2.2 = false ∧ (exD 8).ph = 5 ∧ (exD 8).cm = true := ⟨by kernel_rfl, by kernel_rfl, by kernel_rfl⟩
theorem ex_st (j : Nat) : (exD j).st = exStp := by
  induction j with
  | zero => rfl
  | succ j ih => exact (hear_st _ _ _ _ _ _).trans ih
theorem ex_sw (j : Nat) : (exD j).sw.length ≤ j := by
  induction j with
  | zero => exact Nat.le_refl _
  | succ j ih => exact Nat.le_trans (hear_sw _ _ _ _ _ _) (by omega)
theorem ex_ok (j : Nat) (hj : j ≤ 8) : DOk (exD j) := by
  refine ⟨?_, ?_, ?_⟩
  · rw [ex_st]; decide
  · rw [ex_st]
    intro x hx
    simp only [exStp, List.mem_cons, List.not_mem_nil, or_false] at hx
    rcases hx with rfl | rfl
    · exact ⟨by show (0 : Int) ≤ 1; omega, by show (1 : Int) ≤ 18446744073709551615; omega⟩
    · exact ⟨by show (0 : Int) ≤ 2; omega, by show (2 : Int) ≤ 18446744073709551615; omega⟩
  · have := ex_sw j; omega
end Go.Proofs.Ytkennobdoldlkaa.PAll
end
