/- Joined texts of the claim DriveSteps (part 33): contracts of functions and plain laws. -/
import Derived.BigRegion
import Derived.Deep.QuietTactic
import Derived.Deep.RegionWith
import Derived.Test.YtkennobdoldlkaaJDriveSteps32
set_option linter.unusedVariables false
set_option linter.unusedSimpArgs false
section
namespace Go.Proofs.Ytkennobdoldlkaa.PAll
open Go.RowKit Go.Proofs.YtkennobdoldlkaaW.PrintWords Go.Proofs.Ytkennobdoldlkaa
structure Ord where
  kind : Int
  ta : Int
  ti : Int
  key : ByteArray
  puts : List S74
  commit : Bool
  parts : List Int
def oagg (o : Ord) (vp vq : Value) : Value := .agg #[.int .i64 o.kind, .int .u64 o.ta, .int .u64 o.ti, .string o.key, vp, .bool o.commit, vq]
def zOrd : Ord := ⟨0, 0, 0, ⟨#[]⟩, [], false, []⟩
def qz28 (d : Drv) : Int × Ord × Bool :=
  if d.ph = 0 then (if d.ap < 0 ∨ (d.st.length : Int) ≤ d.ap then (0, zOrd, false) else ((d.st[d.ap.toNat]!).f0, ⟨if (d.st[d.ap.toNat]!).f3 = true then 2 else 1, 0, 0, (d.st[d.ap.toNat]!).f1, [], false, []⟩, true))
  else if d.ph = 1 then (0, ⟨5, 0, 0, ⟨#[]⟩, [], false, qz20 d.st⟩, true)
  else if d.ph = 2 then ((partV d.st d.ap).1, ⟨3, 0, 0, ⟨#[]⟩, putsV d.st (partV d.st d.ap).1, false, []⟩, (partV d.st d.ap).2)
  else if d.ph = 3 then (if d.og = true then (0, ⟨7, 0, 0, ⟨#[]⟩, [], false, []⟩, true) else (0, ⟨6, 0, 0, ⟨#[]⟩, [], !d.fa, []⟩, true))
  else if d.ph = 4 then ((partV d.st d.ap).1, ⟨4, 0, 0, ⟨#[]⟩, [], d.cm, []⟩, (partV d.st d.ap).2)
  else (0, zOrd, false)
def AskPost (d : Drv) (w : World) (e : Ending) (w' : World) : Prop := ∃ vp vq, e = .returned (.tuple #[.int .u64 (qz28 d).1, oagg (qz28 d).2.1 vp vq, .bool (qz28 d).2.2]) ∧ Kd.R k74 74 w' w.heap.size (fun _ => True) vp (qz28 d).2.1.puts ∧ Kd.R (Kd.int .u64) 22 w' w.heap.size (fun _ => True) vq (qz28 d).2.1.parts ∧ Below w.heap.size w w'
theorem keepR20 {α : Type} {d : Kd α} {e base b0 g : Nat} {w w' : World} {v : Value} {xs : List α} (h : Kd.R d e w base (fun _ => True) v xs) (hg : w.grownBy w' (some g)) (hlt : g < base) (hb : b0 ≤ base) : Kd.R d e w' b0 (fun _ => True) v xs :=
  Kd.R_mono (Kd.R_lower (Kd.R_grown (Kd.R_bound h) hg (fun k hk e => by have := hk.2.1; cases e; omega)) hb) (fun _ _ => trivial)
theorem AskPost.plain {d : Drv} {w W : World} {g : Int} {o : Ord} {b : Bool} (h : qz28 d = (g, o, b)) (hp : o.puts = []) (hq : o.parts = []) (hb : Below w.heap.size w W) : AskPost d w (.returned (.tuple #[.int .u64 g, .agg #[.int .i64 o.kind, .int .u64 o.ta, .int .u64 o.ti, .string o.key, .slice none 0 0, .bool o.commit, .slice none 0 0], .bool b])) W := by
  unfold AskPost
  rw [h]
  exact ⟨_, _, rfl, by rw [hp]; exact Kd.R_nil _ _ _ _ _, by rw [hq]; exact Kd.R_nil _ _ _ _ _, hb⟩
set_option maxHeartbeats 600000 in
set_option maxRecDepth 100000 in
theorem asked_0a (ta ti : Int) (A : Option Addr) (c : Nat) (st : List S53) (ph ap : Int) (fa og cm : Bool) (B : Option Addr) (e9 : Nat) (sw : List S51) (w : World) (hr : Kd.C k53 w A st.length st) (hc : st.length ≤ c) (hq : Kd.C k51 w B sw.length sw) (hqc : sw.length ≤ e9) (hl : st.length ≤ 3000000000000) (hg : ∀ x ∈ st, 0 ≤ x.f0 ∧ x.f0 ≤ 18446744073709551615) (h0 : ph = 0) (h1 : ap < 0 ∨ (st.length : Int) ≤ ap) :
    Calls Try.prog 30 #[.agg #[.int .u64 ta, .int .u64 ti, .slice A st.length c, .int .i64 ph, .int .i64 ap, .bool fa, .bool og, .bool cm, .slice B sw.length e9]] w (AskPost ⟨ta, ti, st, ph, ap, fa, og, cm, sw⟩ w) := by
  subst h0
  have HR := qza.mk hr
  have HQ := qza.mk hq
  have HG := qza.mk hg
  have hx := qz14 (heap_alloc_new w (.cells #[.int .u64 ta, .int .u64 ti, .slice A st.length c, .int .i64 0, .int .i64 ap, .bool fa, .bool og, .bool cm, .slice B sw.length e9] 30)) (.cells #[.int .i64 0, .int .u64 0, .int .u64 0, .string ⟨#[]⟩, .slice none 0 0, .bool false, .slice none 0 0] 38)
  have hz := heap_alloc_new (w.alloc (.cells #[.int .u64 ta, .int .u64 ti, .slice A st.length c, .int .i64 0, .int .i64 ap, .bool fa, .bool og, .bool cm, .slice B sw.length e9] 30)) (.cells #[.int .i64 0, .int .u64 0, .int .u64 0, .string ⟨#[]⟩, .slice none 0 0, .bool false, .slice none 0 0] 38)
  rw [World.size_alloc] at hz
  have HB0 := qza.mk (((Below.refl w.heap.size w).alloc (Nat.le_refl _) (.cells #[.int .u64 ta, .int .u64 ti, .slice A st.length c, .int .i64 0, .int .i64 ap, .bool fa, .bool og, .bool cm, .slice B sw.length e9] 30)).alloc (by simp) (.cells #[.int .i64 0, .int .u64 0, .int .u64 0, .string ⟨#[]⟩, .slice none 0 0, .bool false, .slice none 0 0] 38))
  have HSZ : qza (w.heap.size + 2 ≤ ((w.alloc (.cells #[.int .u64 ta, .int .u64 ti, .slice A st.length c, .int .i64 0, .int .i64 ap, .bool fa, .bool og, .bool cm, .slice B sw.length e9] 30)).alloc (.cells #[.int .i64 0, .int .u64 0, .int .u64 0, .string ⟨#[]⟩, .slice none 0 0, .bool false, .slice none 0 0] 38)).heap.size) := ⟨by simp⟩
  clear hr hg hq
  go_enter Try.func30, Try.ntmps30
  have HX := qza.mk hx
  have HZ := qza.mk hz
  clear hx hz
  go_upto_region 1 with (fail)
  change Code.wp _ _ _ _ ((w.alloc (.cells #[.int .u64 ta, .int .u64 ti, .slice A st.length c, .int .i64 0, .int .i64 ap, .bool fa, .bool og, .bool cm, .slice B sw.length e9] 30)).alloc (.cells #[.int .i64 0, .int .u64 0, .int .u64 0, .string ⟨#[]⟩, .slice none 0 0, .bool false, .slice none 0 0] 38))
  generalize (w.alloc (.cells #[.int .u64 ta, .int .u64 ti, .slice A st.length c, .int .i64 0, .int .i64 ap, .bool fa, .bool og, .bool cm, .slice B sw.length e9] 30)).alloc (.cells #[.int .i64 0, .int .u64 0, .int .u64 0, .string ⟨#[]⟩, .slice none 0 0, .bool false, .slice none 0 0] 38) = w1 at *
  obtain ⟨hd0, hd1, hd2, hd3, hd4, hd5, hd6, hd7, hd8⟩ := qz13 HX.out
  obtain ⟨hz0, hz1, hz2, hz3, hz4, hz5, hz6⟩ := qz41 HZ.out
  obtain ⟨hy0, hy1, hy2, hy3, hy4, hy5, hy6⟩ := frozB7 HZ.out
  by_cases h2 : ap < 0
  · go_wp2
    refine ret7 (g := w.heap.size + 1) rfl rfl rfl rfl rfl (putB7_at HZ.out _ _ _ _ _ _ _) ?_
    exact AskPost.plain (o := zOrd) (by unfold qz28; rw [if_pos rfl, if_pos h1]) rfl rfl (qz47 HB0.out (by omega) _ _ _ _ _ _ _)
  · have h3 : (st.length : Int) ≤ ap := by omega
    go_wp2
    refine ret7 (g := w.heap.size + 1) rfl rfl rfl rfl rfl (putB7_at HZ.out _ _ _ _ _ _ _) ?_
    exact AskPost.plain (o := zOrd) (by unfold qz28; rw [if_pos rfl, if_pos h1]) rfl rfl (qz47 HB0.out (by omega) _ _ _ _ _ _ _)
set_option maxHeartbeats 600000 in
set_option maxRecDepth 100000 in
theorem asked_x (ta ti : Int) (A : Option Addr) (c : Nat) (st : List S53) (ph ap : Int) (fa og cm : Bool) (B : Option Addr) (e9 : Nat) (sw : List S51) (w : World) (hr : Kd.C k53 w A st.length st) (hc : st.length ≤ c) (hq : Kd.C k51 w B sw.length sw) (hqc : sw.length ≤ e9) (hl : st.length ≤ 3000000000000) (hg : ∀ x ∈ st, 0 ≤ x.f0 ∧ x.f0 ≤ 18446744073709551615) (h0 : ¬ ph = 0) (h1 : ¬ ph = 1) (h2 : ¬ ph = 2) (h3 : ¬ ph = 3) (h4 : ¬ ph = 4) :
    Calls Try.prog 30 #[.agg #[.int .u64 ta, .int .u64 ti, .slice A st.length c, .int .i64 ph, .int .i64 ap, .bool fa, .bool og, .bool cm, .slice B sw.length e9]] w (AskPost ⟨ta, ti, st, ph, ap, fa, og, cm, sw⟩ w) := by
  have HR := qza.mk hr
  have HQ := qza.mk hq
  have HG := qza.mk hg
  have hx := qz14 (heap_alloc_new w (.cells #[.int .u64 ta, .int .u64 ti, .slice A st.length c, .int .i64 ph, .int .i64 ap, .bool fa, .bool og, .bool cm, .slice B sw.length e9] 30)) (.cells #[.int .i64 0, .int .u64 0, .int .u64 0, .string ⟨#[]⟩, .slice none 0 0, .bool false, .slice none 0 0] 38)
  have hz := heap_alloc_new (w.alloc (.cells #[.int .u64 ta, .int .u64 ti, .slice A st.length c, .int .i64 ph, .int .i64 ap, .bool fa, .bool og, .bool cm, .slice B sw.length e9] 30)) (.cells #[.int .i64 0, .int .u64 0, .int .u64 0, .string ⟨#[]⟩, .slice none 0 0, .bool false, .slice none 0 0] 38)
  rw [World.size_alloc] at hz
  have HB0 := qza.mk (((Below.refl w.heap.size w).alloc (Nat.le_refl _) (.cells #[.int .u64 ta, .int .u64 ti, .slice A st.length c, .int .i64 ph, .int .i64 ap, .bool fa, .bool og, .bool cm, .slice B sw.length e9] 30)).alloc (by simp) (.cells #[.int .i64 0, .int .u64 0, .int .u64 0, .string ⟨#[]⟩, .slice none 0 0, .bool false, .slice none 0 0] 38))
  have HSZ : qza (w.heap.size + 2 ≤ ((w.alloc (.cells #[.int .u64 ta, .int .u64 ti, .slice A st.length c, .int .i64 ph, .int .i64 ap, .bool fa, .bool og, .bool cm, .slice B sw.length e9] 30)).alloc (.cells #[.int .i64 0, .int .u64 0, .int .u64 0, .string ⟨#[]⟩, .slice none 0 0, .bool false, .slice none 0 0] 38)).heap.size) := ⟨by simp⟩
  clear hr hg hq
  go_enter Try.func30, Try.ntmps30
  have HX := qza.mk hx
  have HZ := qza.mk hz
  clear hx hz
  go_upto_region 1 with (fail)
  change Code.wp _ _ _ _ ((w.alloc (.cells #[.int .u64 ta, .int .u64 ti, .slice A st.length c, .int .i64 ph, .int .i64 ap, .bool fa, .bool og, .bool cm, .slice B sw.length e9] 30)).alloc (.cells #[.int .i64 0, .int .u64 0, .int .u64 0, .string ⟨#[]⟩, .slice none 0 0, .bool false, .slice none 0 0] 38))
  generalize (w.alloc (.cells #[.int .u64 ta, .int .u64 ti, .slice A st.length c, .int .i64 ph, .int .i64 ap, .bool fa, .bool og, .bool cm, .slice B sw.length e9] 30)).alloc (.cells #[.int .i64 0, .int .u64 0, .int .u64 0, .string ⟨#[]⟩, .slice none 0 0, .bool false, .slice none 0 0] 38) = w1 at *
  obtain ⟨hd0, hd1, hd2, hd3, hd4, hd5, hd6, hd7, hd8⟩ := qz13 HX.out
  obtain ⟨hz0, hz1, hz2, hz3, hz4, hz5, hz6⟩ := qz41 HZ.out
  obtain ⟨hy0, hy1, hy2, hy3, hy4, hy5, hy6⟩ := frozB7 HZ.out
  go_wp2
  refine ret7 (g := w.heap.size + 1) rfl rfl rfl rfl rfl (putB7_at HZ.out _ _ _ _ _ _ _) ?_
  exact AskPost.plain (o := zOrd) (by unfold qz28; rw [if_neg h0, if_neg h1, if_neg h2, if_neg h3, if_neg h4]) rfl rfl (qz47 HB0.out (by omega) _ _ _ _ _ _ _)
set_option maxHeartbeats 600000 in
set_option maxRecDepth 100000 in
theorem asked_3 (ta ti : Int) (A : Option Addr) (c : Nat) (st : List S53) (ph ap : Int) (fa og cm : Bool) (B : Option Addr) (e9 : Nat) (sw : List S51) (w : World) (hr : Kd.C k53 w A st.length st) (hc : st.length ≤ c) (hq : Kd.C k51 w B sw.length sw) (hqc : sw.length ≤ e9) (hl : st.length ≤ 3000000000000) (hg : ∀ x ∈ st, 0 ≤ x.f0 ∧ x.f0 ≤ 18446744073709551615) (h0 : ph = 3) :
    Calls Try.prog 30 #[.agg #[.int .u64 ta, .int .u64 ti, .slice A st.length c, .int .i64 ph, .int .i64 ap, .bool fa, .bool og, .bool cm, .slice B sw.length e9]] w (AskPost ⟨ta, ti, st, ph, ap, fa, og, cm, sw⟩ w) := by
  subst h0
  have HR := qza.mk hr
  have HQ := qza.mk hq
  have HG := qza.mk hg
  have hx := qz14 (heap_alloc_new w (.cells #[.int .u64 ta, .int .u64 ti, .slice A st.length c, .int .i64 3, .int .i64 ap, .bool fa, .bool og, .bool cm, .slice B sw.length e9] 30)) (.cells #[.int .i64 0, .int .u64 0, .int .u64 0, .string ⟨#[]⟩, .slice none 0 0, .bool false, .slice none 0 0] 38)
  have hz := heap_alloc_new (w.alloc (.cells #[.int .u64 ta, .int .u64 ti, .slice A st.length c, .int .i64 3, .int .i64 ap, .bool fa, .bool og, .bool cm, .slice B sw.length e9] 30)) (.cells #[.int .i64 0, .int .u64 0, .int .u64 0, .string ⟨#[]⟩, .slice none 0 0, .bool false, .slice none 0 0] 38)
  rw [World.size_alloc] at hz
  have HB0 := qza.mk (((Below.refl w.heap.size w).alloc (Nat.le_refl _) (.cells #[.int .u64 ta, .int .u64 ti, .slice A st.length c, .int .i64 3, .int .i64 ap, .bool fa, .bool og, .bool cm, .slice B sw.length e9] 30)).alloc (by simp) (.cells #[.int .i64 0, .int .u64 0, .int .u64 0, .string ⟨#[]⟩, .slice none 0 0, .bool false, .slice none 0 0] 38))
  have HSZ : qza (w.heap.size + 2 ≤ ((w.alloc (.cells #[.int .u64 ta, .int .u64 ti, .slice A st.length c, .int .i64 3, .int .i64 ap, .bool fa, .bool og, .bool cm, .slice B sw.length e9] 30)).alloc (.cells #[.int .i64 0, .int .u64 0, .int .u64 0, .string ⟨#[]⟩, .slice none 0 0, .bool false, .slice none 0 0] 38)).heap.size) := ⟨by simp⟩
  clear hr hg hq
  go_enter Try.func30, Try.ntmps30
  have HX := qza.mk hx
  have HZ := qza.mk hz
  clear hx hz
  go_upto_region 1 with (fail)
  change Code.wp _ _ _ _ ((w.alloc (.cells #[.int .u64 ta, .int .u64 ti, .slice A st.length c, .int .i64 3, .int .i64 ap, .bool fa, .bool og, .bool cm, .slice B sw.length e9] 30)).alloc (.cells #[.int .i64 0, .int .u64 0, .int .u64 0, .string ⟨#[]⟩, .slice none 0 0, .bool false, .slice none 0 0] 38))
  generalize (w.alloc (.cells #[.int .u64 ta, .int .u64 ti, .slice A st.length c, .int .i64 3, .int .i64 ap, .bool fa, .bool og, .bool cm, .slice B sw.length e9] 30)).alloc (.cells #[.int .i64 0, .int .u64 0, .int .u64 0, .string ⟨#[]⟩, .slice none 0 0, .bool false, .slice none 0 0] 38) = w1 at *
  obtain ⟨hd0, hd1, hd2, hd3, hd4, hd5, hd6, hd7, hd8⟩ := qz13 HX.out
  obtain ⟨hz0, hz1, hz2, hz3, hz4, hz5, hz6⟩ := qz41 HZ.out
  obtain ⟨hy0, hy1, hy2, hy3, hy4, hy5, hy6⟩ := frozB7 HZ.out
  cases og with
  | true =>
    go_wp2
    refine ret7 (g := w.heap.size + 1) rfl rfl rfl rfl rfl (putB7_at HZ.out _ _ _ _ _ _ _) ?_
    exact AskPost.plain (o := ⟨7, 0, 0, ⟨#[]⟩, [], false, []⟩) rfl rfl rfl (qz47 HB0.out (by omega) _ _ _ _ _ _ _)
  | false =>
    have hsz := HSZ.out
    go_upto_region 18 with (fail)
    go_region
    go_wp2
    refine ret7D (w := w1) (g := w.heap.size + 1) rfl rfl rfl rfl rfl HZ.out ?_
    exact AskPost.plain (o := ⟨6, 0, 0, ⟨#[]⟩, [], !fa, []⟩) rfl rfl rfl (qz47 HB0.out (by omega) _ _ _ _ _ _ _).drew
set_option maxHeartbeats 600000 in
set_option maxRecDepth 100000 in
theorem asked_0b (ta ti : Int) (A : Option Addr) (c : Nat) (st : List S53) (ph ap : Int) (fa og cm : Bool) (B : Option Addr) (e9 : Nat) (sw : List S51) (w : World) (hr : Kd.C k53 w A st.length st) (hc : st.length ≤ c) (hq : Kd.C k51 w B sw.length sw) (hqc : sw.length ≤ e9) (hl : st.length ≤ 3000000000000) (hg : ∀ x ∈ st, 0 ≤ x.f0 ∧ x.f0 ≤ 18446744073709551615) (h0 : ph = 0) (h1 : ¬ (ap < 0 ∨ (st.length : Int) ≤ ap)) :
    Calls Try.prog 30 #[.agg #[.int .u64 ta, .int .u64 ti, .slice A st.length c, .int .i64 ph, .int .i64 ap, .bool fa, .bool og, .bool cm, .slice B sw.length e9]] w (AskPost ⟨ta, ti, st, ph, ap, fa, og, cm, sw⟩ w) := by
  subst h0
  have HR := qza.mk hr
  have HQ := qza.mk hq
  have HG := qza.mk hg
  have hx := qz14 (heap_alloc_new w (.cells #[.int .u64 ta, .int .u64 ti, .slice A st.length c, .int .i64 0, .int .i64 ap, .bool fa, .bool og, .bool cm, .slice B sw.length e9] 30)) (.cells #[.int .i64 0, .int .u64 0, .int .u64 0, .string ⟨#[]⟩, .slice none 0 0, .bool false, .slice none 0 0] 38)
  have hz := heap_alloc_new (w.alloc (.cells #[.int .u64 ta, .int .u64 ti, .slice A st.length c, .int .i64 0, .int .i64 ap, .bool fa, .bool og, .bool cm, .slice B sw.length e9] 30)) (.cells #[.int .i64 0, .int .u64 0, .int .u64 0, .string ⟨#[]⟩, .slice none 0 0, .bool false, .slice none 0 0] 38)
  rw [World.size_alloc] at hz
  have HB0 := qza.mk (((Below.refl w.heap.size w).alloc (Nat.le_refl _) (.cells #[.int .u64 ta, .int .u64 ti, .slice A st.length c, .int .i64 0, .int .i64 ap, .bool fa, .bool og, .bool cm, .slice B sw.length e9] 30)).alloc (by simp) (.cells #[.int .i64 0, .int .u64 0, .int .u64 0, .string ⟨#[]⟩, .slice none 0 0, .bool false, .slice none 0 0] 38))
  have HSZ : qza (w.heap.size + 2 ≤ ((w.alloc (.cells #[.int .u64 ta, .int .u64 ti, .slice A st.length c, .int .i64 0, .int .i64 ap, .bool fa, .bool og, .bool cm, .slice B sw.length e9] 30)).alloc (.cells #[.int .i64 0, .int .u64 0, .int .u64 0, .string ⟨#[]⟩, .slice none 0 0, .bool false, .slice none 0 0] 38)).heap.size) := ⟨by simp⟩
  clear hr hg hq
  go_enter Try.func30, Try.ntmps30
  have HX := qza.mk hx
  have HZ := qza.mk hz
  clear hx hz
  go_upto_region 1 with (fail)
  change Code.wp _ _ _ _ ((w.alloc (.cells #[.int .u64 ta, .int .u64 ti, .slice A st.length c, .int .i64 0, .int .i64 ap, .bool fa, .bool og, .bool cm, .slice B sw.length e9] 30)).alloc (.cells #[.int .i64 0, .int .u64 0, .int .u64 0, .string ⟨#[]⟩, .slice none 0 0, .bool false, .slice none 0 0] 38))
  generalize (w.alloc (.cells #[.int .u64 ta, .int .u64 ti, .slice A st.length c, .int .i64 0, .int .i64 ap, .bool fa, .bool og, .bool cm, .slice B sw.length e9] 30)).alloc (.cells #[.int .i64 0, .int .u64 0, .int .u64 0, .string ⟨#[]⟩, .slice none 0 0, .bool false, .slice none 0 0] 38) = w1 at *
  obtain ⟨hd0, hd1, hd2, hd3, hd4, hd5, hd6, hd7, hd8⟩ := qz13 HX.out
  obtain ⟨hz0, hz1, hz2, hz3, hz4, hz5, hz6⟩ := qz41 HZ.out
  obtain ⟨hy0, hy1, hy2, hy3, hy4, hy5, hy6⟩ := frozB7 HZ.out
  obtain ⟨n, rfl⟩ : ∃ n : Nat, ap = (n : Int) := ⟨ap.toNat, by omega⟩
  have hn : n < st.length := by omega
  have hnz : (n : Int) < (st.length : Int) := by omega
  have hnz0 : ¬ (n : Int) < 0 := by omega
  have hnz1 : (0 : Int) ≤ (n : Int) := by omega
  have hnz2 : ¬ (st.length : Int) ≤ (n : Int) := by omega
  have hstl : st.length ≤ 9223372036854775807 := by omega
  obtain ⟨pb, po, rfl, hs0, hs1, hs2, hs3, hs4⟩ := stepRow (Kd.C_below HR.out HB0.out) n hn
  generalize hxe : st[n]! = x at *
  have HXE := qza.mk hxe
  clear hxe
  obtain ⟨xa, xb, xc, xd, xe⟩ := x
  dsimp only at *
  have hsz := HSZ.out
  go_upto_region 6 with (fail)
  change Code.wp _ _ _ _ (w1.alloc (.cells #[.int .u64 xa, .string xb, .string xc, .bool xd, .bool xe] 53))
  have HS5 := qza.mk (heap_alloc_new w1 (.cells #[.int .u64 xa, .string xb, .string xc, .bool xd, .bool xe] 53))
  have HZ5 := qza.mk (qz14 HZ.out (.cells #[.int .u64 xa, .string xb, .string xc, .bool xd, .bool xe] 53))
  have HB5 := qza.mk (HB0.out.alloc HB0.out.size (.cells #[.int .u64 xa, .string xb, .string xc, .bool xd, .bool xe] 53))
  have hs5 : (w1.alloc (.cells #[.int .u64 xa, .string xb, .string xc, .bool xd, .bool xe] 53)).heap.size = w1.heap.size + 1 := by simp
  clear hs0 hs1 hs2 hs3 hs4 hd0 hd1 hd2 hd3 hd4 hd5 hd6 hd7 hd8 hz0 hz1 hz2 hz3 hz4 hz5 hz6 hy0 hy1 hy2 hy3 hy4 hy5 hy6 HX HZ HB0 HSZ
  generalize w1.alloc (.cells #[.int .u64 xa, .string xb, .string xc, .bool xd, .bool xe] 53) = w5 at *
  obtain ⟨hx0, hx1, hx2, hx3, hx4⟩ := qz27 HS5.out
  go_upto_region 7 with (fail)
  change Code.wp _ _ _ _ (w5.alloc (.cells #[.int .i64 1, .int .u64 0, .int .u64 0, .string xb, .slice none 0 0, .bool false, .slice none 0 0] 38))
  have ho6 := heap_alloc_new w5 (.cells #[.int .i64 1, .int .u64 0, .int .u64 0, .string xb, .slice none 0 0, .bool false, .slice none 0 0] 38)
  rw [hs5] at ho6
  have HO6 := qza.mk ho6
  clear ho6
  have HS6 := qza.mk (qz14 HS5.out (.cells #[.int .i64 1, .int .u64 0, .int .u64 0, .string xb, .slice none 0 0, .bool false, .slice none 0 0] 38))
  have HZ6 := qza.mk (qz14 HZ5.out (.cells #[.int .i64 1, .int .u64 0, .int .u64 0, .string xb, .slice none 0 0, .bool false, .slice none 0 0] 38))
  have HB6 := qza.mk (HB5.out.alloc HB5.out.size (.cells #[.int .i64 1, .int .u64 0, .int .u64 0, .string xb, .slice none 0 0, .bool false, .slice none 0 0] 38))
  have hs6 : (w5.alloc (.cells #[.int .i64 1, .int .u64 0, .int .u64 0, .string xb, .slice none 0 0, .bool false, .slice none 0 0] 38)).heap.size = w5.heap.size + 1 := by simp
  clear hx0 hx1 hx2 hx3 hx4 HS5 HZ5 HB5
  generalize w5.alloc (.cells #[.int .i64 1, .int .u64 0, .int .u64 0, .string xb, .slice none 0 0, .bool false, .slice none 0 0] 38) = w6 at *
  rw [hs5] at hs6
  generalize w1.heap.size = b5 at *
  obtain ⟨hx0, hx1, hx2, hx3, hx4⟩ := qz27 HS6.out
  obtain ⟨hz0, hz1, hz2, hz3, hz4, hz5, hz6⟩ := qz41 HO6.out
  obtain ⟨hy0, hy1, hy2, hy3, hy4, hy5, hy6⟩ := frozB7 HO6.out
  cases xd with
  | true =>
    have he : qz28 ⟨ta, ti, st, 0, (n : Int), fa, og, cm, sw⟩ = (xa, ⟨2, 0, 0, xb, [], false, []⟩, true) := by
      unfold qz28
      dsimp only
      rw [if_pos rfl, if_neg (show ¬ ((n : Int) < 0 ∨ (st.length : Int) ≤ (n : Int)) by omega), Int.toNat_natCast, HXE.out]
      rfl
    have HE := qza.mk he
    clear he
    go_upto_region 9 with (fail)
    have HO7 : qza ((w6.setCell ⟨(b5 + 1), 0, none⟩ (.int .i64 2)).heap[(b5 + 1)]? = some (.cells #[.int .i64 2, .int .u64 0, .int .u64 0, .string xb, .slice none 0 0, .bool false, .slice none 0 0] 38 (0, 0))) := ⟨qz12 (cs := #[.int .i64 1, .int .u64 0, .int .u64 0, .string xb, .slice none 0 0, .bool false, .slice none 0 0]) HO6.out 0 (.int .i64 2) rfl⟩
    have HS7 := qza.mk ((RowKit.Below.heap_setCell w6 ⟨(b5 + 1), 0, none⟩ (.int .i64 2) b5 (show b5 ≠ (b5 + 1) by omega)).trans HS6.out)
    have HZ7 := qza.mk ((RowKit.Below.heap_setCell w6 ⟨(b5 + 1), 0, none⟩ (.int .i64 2) (w.heap.size + 1) (show w.heap.size + 1 ≠ (b5 + 1) by omega)).trans HZ6.out)
    have HB7 := qza.mk (RowKit.Below.setCell (p := ⟨(b5 + 1), 0, none⟩) HB6.out (show w.heap.size ≤ (b5 + 1) by omega) (.int .i64 2))
    have hs7 : w.heap.size + 2 ≤ (w6.setCell ⟨(b5 + 1), 0, none⟩ (.int .i64 2)).heap.size := by rw [World.size_setCell]; omega
    change Code.wp _ _ _ _ (w6.setCell ⟨(b5 + 1), 0, none⟩ (.int .i64 2))
    generalize w6.setCell ⟨(b5 + 1), 0, none⟩ (.int .i64 2) = w7 at *
    clear hx0 hx1 hx2 hx3 hx4 hy0 hy1 hy2 hy3 hy4 hy5 hy6 hz0 hz1 hz2 hz3 hz4 hz5 hz6
    obtain ⟨hx0, hx1, hx2, hx3, hx4⟩ := qz27 HS7.out
    obtain ⟨hk0, hk1, hk2, hk3, hk4, hk5, hk6⟩ := qz41 HO7.out
    obtain ⟨hz0, hz1, hz2, hz3, hz4, hz5, hz6⟩ := qz41 HZ7.out
    obtain ⟨hy0, hy1, hy2, hy3, hy4, hy5, hy6⟩ := frozB7 HZ7.out
    go_region
    go_wp2
    refine ret7D (w := w7) (g := w.heap.size + 1) rfl rfl rfl rfl rfl HZ7.out ?_
    exact AskPost.plain HE.out rfl rfl (qz47 HB7.out (by omega) _ _ _ _ _ _ _).drew
  | false =>
    have he : qz28 ⟨ta, ti, st, 0, (n : Int), fa, og, cm, sw⟩ = (xa, ⟨1, 0, 0, xb, [], false, []⟩, true) := by
      unfold qz28
      dsimp only
      rw [if_pos rfl, if_neg (show ¬ ((n : Int) < 0 ∨ (st.length : Int) ≤ (n : Int)) by omega), Int.toNat_natCast, HXE.out]
      rfl
    have HE := qza.mk he
    clear he
    go_upto_region 9 with (fail)
    have HO7 := HO6
    have HS7 := HS6
    have HZ7 := HZ6
    have HB7 := HB6
    have hs7 : w.heap.size + 2 ≤ w6.heap.size := by omega
    clear hx0 hx1 hx2 hx3 hx4 hy0 hy1 hy2 hy3 hy4 hy5 hy6 hz0 hz1 hz2 hz3 hz4 hz5 hz6
    obtain ⟨hx0, hx1, hx2, hx3, hx4⟩ := qz27 HS7.out
    obtain ⟨hk0, hk1, hk2, hk3, hk4, hk5, hk6⟩ := qz41 HO7.out
    obtain ⟨hz0, hz1, hz2, hz3, hz4, hz5, hz6⟩ := qz41 HZ7.out
    obtain ⟨hy0, hy1, hy2, hy3, hy4, hy5, hy6⟩ := frozB7 HZ7.out
    go_region
    go_wp2
    refine ret7D (w := w6) (g := w.heap.size + 1) rfl rfl rfl rfl rfl HZ7.out ?_
    exact AskPost.plain HE.out rfl rfl (qz47 HB7.out (by omega) _ _ _ _ _ _ _).drew
set_option maxHeartbeats 600000 in
set_option maxRecDepth 100000 in
theorem asked_1 (ta ti : Int) (A : Option Addr) (c : Nat) (st : List S53) (ph ap : Int) (fa og cm : Bool) (B : Option Addr) (e9 : Nat) (sw : List S51) (w : World) (hr : Kd.C k53 w A st.length st) (hc : st.length ≤ c) (hq : Kd.C k51 w B sw.length sw) (hqc : sw.length ≤ e9) (hl : st.length ≤ 3000000000000) (hg : ∀ x ∈ st, 0 ≤ x.f0 ∧ x.f0 ≤ 18446744073709551615) (h0 : ph = 1) :
    Calls Try.prog 30 #[.agg #[.int .u64 ta, .int .u64 ti, .slice A st.length c, .int .i64 ph, .int .i64 ap, .bool fa, .bool og, .bool cm, .slice B sw.length e9]] w (AskPost ⟨ta, ti, st, ph, ap, fa, og, cm, sw⟩ w) := by
  subst h0
  have HR := qza.mk hr
  have HQ := qza.mk hq
  have HG := qza.mk hg
  have hx := qz14 (heap_alloc_new w (.cells #[.int .u64 ta, .int .u64 ti, .slice A st.length c, .int .i64 1, .int .i64 ap, .bool fa, .bool og, .bool cm, .slice B sw.length e9] 30)) (.cells #[.int .i64 0, .int .u64 0, .int .u64 0, .string ⟨#[]⟩, .slice none 0 0, .bool false, .slice none 0 0] 38)
  have hz := heap_alloc_new (w.alloc (.cells #[.int .u64 ta, .int .u64 ti, .slice A st.length c, .int .i64 1, .int .i64 ap, .bool fa, .bool og, .bool cm, .slice B sw.length e9] 30)) (.cells #[.int .i64 0, .int .u64 0, .int .u64 0, .string ⟨#[]⟩, .slice none 0 0, .bool false, .slice none 0 0] 38)
  rw [World.size_alloc] at hz
  have HB0 := qza.mk (((Below.refl w.heap.size w).alloc (Nat.le_refl _) (.cells #[.int .u64 ta, .int .u64 ti, .slice A st.length c, .int .i64 1, .int .i64 ap, .bool fa, .bool og, .bool cm, .slice B sw.length e9] 30)).alloc (by simp) (.cells #[.int .i64 0, .int .u64 0, .int .u64 0, .string ⟨#[]⟩, .slice none 0 0, .bool false, .slice none 0 0] 38))
  have HSZ : qza (w.heap.size + 2 ≤ ((w.alloc (.cells #[.int .u64 ta, .int .u64 ti, .slice A st.length c, .int .i64 1, .int .i64 ap, .bool fa, .bool og, .bool cm, .slice B sw.length e9] 30)).alloc (.cells #[.int .i64 0, .int .u64 0, .int .u64 0, .string ⟨#[]⟩, .slice none 0 0, .bool false, .slice none 0 0] 38)).heap.size) := ⟨by simp⟩
  clear hr hg hq
  go_enter Try.func30, Try.ntmps30
  have HX := qza.mk hx
  have HZ := qza.mk hz
  clear hx hz
  go_upto_region 1 with (fail)
  change Code.wp _ _ _ _ ((w.alloc (.cells #[.int .u64 ta, .int .u64 ti, .slice A st.length c, .int .i64 1, .int .i64 ap, .bool fa, .bool og, .bool cm, .slice B sw.length e9] 30)).alloc (.cells #[.int .i64 0, .int .u64 0, .int .u64 0, .string ⟨#[]⟩, .slice none 0 0, .bool false, .slice none 0 0] 38))
  generalize (w.alloc (.cells #[.int .u64 ta, .int .u64 ti, .slice A st.length c, .int .i64 1, .int .i64 ap, .bool fa, .bool og, .bool cm, .slice B sw.length e9] 30)).alloc (.cells #[.int .i64 0, .int .u64 0, .int .u64 0, .string ⟨#[]⟩, .slice none 0 0, .bool false, .slice none 0 0] 38) = w1 at *
  obtain ⟨hd0, hd1, hd2, hd3, hd4, hd5, hd6, hd7, hd8⟩ := qz13 HX.out
  obtain ⟨hz0, hz1, hz2, hz3, hz4, hz5, hz6⟩ := qz41 HZ.out
  obtain ⟨hy0, hy1, hy2, hy3, hy4, hy5, hy6⟩ := frozB7 HZ.out
  have HPW := qza.mk (parts_walk ta ti A c st w1 (Kd.C_below HR.out HB0.out) hc (by omega) HG.out)
  have hsz := HSZ.out
  go_wp2_with (go_at_call 17; refine (HPW.out).mono ?_; rintro e w2 ⟨v2, rfl, hR2, hb2⟩; obtain ⟨A2, c2, rfl, hc2, hC2⟩ := Sl.of_R hR2; clear hC2; have HR2 := qza.mk hR2; have HZ2 := qza.mk (qz16 hb2 HZ.out); have HB2 := qza.mk (HB0.out.trans (hb2.mono HB0.out.size)); clear hR2 hb2 hd0 hd1 hd2 hd3 hd4 hd5 hd6 hd7 hd8 hz0 hz1 hz2 hz3 hz4 hz5 hz6 hy0 hy1 hy2 hy3 hy4 hy5 hy6; obtain ⟨hz0, hz1, hz2, hz3, hz4, hz5, hz6⟩ := qz41 HZ2.out; obtain ⟨hy0, hy1, hy2, hy3, hy4, hy5, hy6⟩ := frozB7 HZ2.out)
  refine ret7 (g := w.heap.size + 1) rfl rfl rfl rfl rfl (putB7_at HZ2.out _ _ _ _ _ _ _) ?_
  exact ⟨_, _, rfl, Kd.R_nil _ _ _ _ _, keepR20 HR2.out (putB7_grown _ _ _ _ _ _ _ _ _) (by omega) (by omega), qz47 HB2.out (by omega) _ _ _ _ _ _ _⟩
set_option maxHeartbeats 600000 in
set_option maxRecDepth 100000 in
theorem asked_2 (ta ti : Int) (A : Option Addr) (c : Nat) (st : List S53) (ph ap : Int) (fa og cm : Bool) (B : Option Addr) (e9 : Nat) (sw : List S51) (w : World) (hr : Kd.C k53 w A st.length st) (hc : st.length ≤ c) (hq : Kd.C k51 w B sw.length sw) (hqc : sw.length ≤ e9) (hl : st.length ≤ 3000000000000) (hg : ∀ x ∈ st, 0 ≤ x.f0 ∧ x.f0 ≤ 18446744073709551615) (h0 : ph = 2) :
    Calls Try.prog 30 #[.agg #[.int .u64 ta, .int .u64 ti, .slice A st.length c, .int .i64 ph, .int .i64 ap, .bool fa, .bool og, .bool cm, .slice B sw.length e9]] w (AskPost ⟨ta, ti, st, ph, ap, fa, og, cm, sw⟩ w) := by
  subst h0
  have HR := qza.mk hr
  have HQ := qza.mk hq
  have HG := qza.mk hg
  have hx := qz14 (heap_alloc_new w (.cells #[.int .u64 ta, .int .u64 ti, .slice A st.length c, .int .i64 2, .int .i64 ap, .bool fa, .bool og, .bool cm, .slice B sw.length e9] 30)) (.cells #[.int .i64 0, .int .u64 0, .int .u64 0, .string ⟨#[]⟩, .slice none 0 0, .bool false, .slice none 0 0] 38)
  have hz := heap_alloc_new (w.alloc (.cells #[.int .u64 ta, .int .u64 ti, .slice A st.length c, .int .i64 2, .int .i64 ap, .bool fa, .bool og, .bool cm, .slice B sw.length e9] 30)) (.cells #[.int .i64 0, .int .u64 0, .int .u64 0, .string ⟨#[]⟩, .slice none 0 0, .bool false, .slice none 0 0] 38)
  rw [World.size_alloc] at hz
  have HB0 := qza.mk (((Below.refl w.heap.size w).alloc (Nat.le_refl _) (.cells #[.int .u64 ta, .int .u64 ti, .slice A st.length c, .int .i64 2, .int .i64 ap, .bool fa, .bool og, .bool cm, .slice B sw.length e9] 30)).alloc (by simp) (.cells #[.int .i64 0, .int .u64 0, .int .u64 0, .string ⟨#[]⟩, .slice none 0 0, .bool false, .slice none 0 0] 38))
  have HSZ : qza (w.heap.size + 2 ≤ ((w.alloc (.cells #[.int .u64 ta, .int .u64 ti, .slice A st.length c, .int .i64 2, .int .i64 ap, .bool fa, .bool og, .bool cm, .slice B sw.length e9] 30)).alloc (.cells #[.int .i64 0, .int .u64 0, .int .u64 0, .string ⟨#[]⟩, .slice none 0 0, .bool false, .slice none 0 0] 38)).heap.size) := ⟨by simp⟩
  clear hr hg hq
  go_enter Try.func30, Try.ntmps30
  have HX := qza.mk hx
  have HZ := qza.mk hz
  clear hx hz
  go_upto_region 1 with (fail)
  change Code.wp _ _ _ _ ((w.alloc (.cells #[.int .u64 ta, .int .u64 ti, .slice A st.length c, .int .i64 2, .int .i64 ap, .bool fa, .bool og, .bool cm, .slice B sw.length e9] 30)).alloc (.cells #[.int .i64 0, .int .u64 0, .int .u64 0, .string ⟨#[]⟩, .slice none 0 0, .bool false, .slice none 0 0] 38))
  generalize (w.alloc (.cells #[.int .u64 ta, .int .u64 ti, .slice A st.length c, .int .i64 2, .int .i64 ap, .bool fa, .bool og, .bool cm, .slice B sw.length e9] 30)).alloc (.cells #[.int .i64 0, .int .u64 0, .int .u64 0, .string ⟨#[]⟩, .slice none 0 0, .bool false, .slice none 0 0] 38) = w1 at *
  obtain ⟨hd0, hd1, hd2, hd3, hd4, hd5, hd6, hd7, hd8⟩ := qz13 HX.out
  obtain ⟨hz0, hz1, hz2, hz3, hz4, hz5, hz6⟩ := qz41 HZ.out
  obtain ⟨hy0, hy1, hy2, hy3, hy4, hy5, hy6⟩ := frozB7 HZ.out
  have HPC := qza.mk (part_calls ta ti A c st 2 ap fa og cm B e9 sw w1 (Kd.C_below HR.out HB0.out) hc (Kd.C_below HQ.out HB0.out) hqc hl HG.out)
  have hsz := HSZ.out
  have HPV : qza (∃ pv, pv = partV st ap) := ⟨⟨_, rfl⟩⟩
  obtain ⟨⟨pg, pis⟩, hpv⟩ := HPV.out
  rw [← hpv] at HPC
  have HPE := qza.mk hpv
  clear hpv HPV
  dsimp only at *
  go_upto_region 14 with (go_at_call 49; refine (HPC.out).mono ?_; rintro e w2 ⟨rfl, hb2⟩; have HB2a := qza.mk hb2; clear hb2)
  have HX2 := qza.mk (qz16 HB2a.out HX.out)
  have HZ2 := qza.mk (qz16 HB2a.out HZ.out)
  have HB2 := qza.mk (HB0.out.trans (HB2a.out.mono HB0.out.size))
  have hs2 := HB2a.out.size
  clear hd0 hd1 hd2 hd3 hd4 hd5 hd6 hd7 hd8 hz0 hz1 hz2 hz3 hz4 hz5 hz6 hy0 hy1 hy2 hy3 hy4 hy5 hy6 HPC
  obtain ⟨hd0, hd1, hd2, hd3, hd4, hd5, hd6, hd7, hd8⟩ := qz13 HX2.out
  obtain ⟨hz0, hz1, hz2, hz3, hz4, hz5, hz6⟩ := qz41 HZ2.out
  obtain ⟨hy0, hy1, hy2, hy3, hy4, hy5, hy6⟩ := frozB7 HZ2.out
  have HPU := qza.mk (puts_walk ta ti A c st pg w2 (Kd.C_below HR.out HB2.out) hc hl)
  go_wp2_with (go_at_call 21; refine (HPU.out).mono ?_; rintro e w3 ⟨v3, rfl, hR3, hb3⟩; obtain ⟨A3, c3, rfl, hc3, hC3⟩ := Sl.of_R hR3; clear hC3; have HR3 := qza.mk hR3; have HZ3 := qza.mk (qz16 hb3 HZ2.out); have HB3 := qza.mk (HB2.out.trans (hb3.mono HB2.out.size)); clear hR3 hb3 hd0 hd1 hd2 hd3 hd4 hd5 hd6 hd7 hd8 hz0 hz1 hz2 hz3 hz4 hz5 hz6 hy0 hy1 hy2 hy3 hy4 hy5 hy6; obtain ⟨hz0, hz1, hz2, hz3, hz4, hz5, hz6⟩ := qz41 HZ3.out; obtain ⟨hy0, hy1, hy2, hy3, hy4, hy5, hy6⟩ := frozB7 HZ3.out)
  refine ret7 (g := w.heap.size + 1) rfl rfl rfl rfl rfl (putB7_at HZ3.out _ _ _ _ _ _ _) ?_
  have he : qz28 ⟨ta, ti, st, 2, ap, fa, og, cm, sw⟩ = (pg, ⟨3, 0, 0, ⟨#[]⟩, putsV st pg, false, []⟩, pis) := by
    show ((partV st ap).1, (⟨3, 0, 0, ⟨#[]⟩, putsV st (partV st ap).1, false, []⟩ : Ord), (partV st ap).2) = _
    rw [← HPE.out]
  unfold AskPost
  rw [he]
  exact ⟨_, _, rfl, keepR20 HR3.out (putB7_grown _ _ _ _ _ _ _ _ _) (by omega) (by omega), Kd.R_nil _ _ _ _ _, qz47 HB3.out (by omega) _ _ _ _ _ _ _⟩
set_option maxHeartbeats 600000 in
set_option maxRecDepth 100000 in
theorem asked_4 (ta ti : Int) (A : Option Addr) (c : Nat) (st : List S53) (ph ap : Int) (fa og cm : Bool) (B : Option Addr) (e9 : Nat) (sw : List S51) (w : World) (hr : Kd.C k53 w A st.length st) (hc : st.length ≤ c) (hq : Kd.C k51 w B sw.length sw) (hqc : sw.length ≤ e9) (hl : st.length ≤ 3000000000000) (hg : ∀ x ∈ st, 0 ≤ x.f0 ∧ x.f0 ≤ 18446744073709551615) (h0 : ph = 4) :
    Calls Try.prog 30 #[.agg #[.int .u64 ta, .int .u64 ti, .slice A st.length c, .int .i64 ph, .int .i64 ap, .bool fa, .bool og, .bool cm, .slice B sw.length e9]] w (AskPost ⟨ta, ti, st, ph, ap, fa, og, cm, sw⟩ w) := by
  subst h0
  have HR := qza.mk hr
  have HQ := qza.mk hq
  have HG := qza.mk hg
  have hx := qz14 (heap_alloc_new w (.cells #[.int .u64 ta, .int .u64 ti, .slice A st.length c, .int .i64 4, .int .i64 ap, .bool fa, .bool og, .bool cm, .slice B sw.length e9] 30)) (.cells #[.int .i64 0, .int .u64 0, .int .u64 0, .string ⟨#[]⟩, .slice none 0 0, .bool false, .slice none 0 0] 38)
  have hz := heap_alloc_new (w.alloc (.cells #[.int .u64 ta, .int .u64 ti, .slice A st.length c, .int .i64 4, .int .i64 ap, .bool fa, .bool og, .bool cm, .slice B sw.length e9] 30)) (.cells #[.int .i64 0, .int .u64 0, .int .u64 0, .string ⟨#[]⟩, .slice none 0 0, .bool false, .slice none 0 0] 38)
  rw [World.size_alloc] at hz
  have HB0 := qza.mk (((Below.refl w.heap.size w).alloc (Nat.le_refl _) (.cells #[.int .u64 ta, .int .u64 ti, .slice A st.length c, .int .i64 4, .int .i64 ap, .bool fa, .bool og, .bool cm, .slice B sw.length e9] 30)).alloc (by simp) (.cells #[.int .i64 0, .int .u64 0, .int .u64 0, .string ⟨#[]⟩, .slice none 0 0, .bool false, .slice none 0 0] 38))
  have HSZ : qza (w.heap.size + 2 ≤ ((w.alloc (.cells #[.int .u64 ta, .int .u64 ti, .slice A st.length c, .int .i64 4, .int .i64 ap, .bool fa, .bool og, .bool cm, .slice B sw.length e9] 30)).alloc (.cells #[.int .i64 0, .int .u64 0, .int .u64 0, .string ⟨#[]⟩, .slice none 0 0, .bool false, .slice none 0 0] 38)).heap.size) := ⟨by simp⟩
  clear hr hg hq
  go_enter Try.func30, Try.ntmps30
  have HX := qza.mk hx
  have HZ := qza.mk hz
  clear hx hz
  go_upto_region 1 with (fail)
  change Code.wp _ _ _ _ ((w.alloc (.cells #[.int .u64 ta, .int .u64 ti, .slice A st.length c, .int .i64 4, .int .i64 ap, .bool fa, .bool og, .bool cm, .slice B sw.length e9] 30)).alloc (.cells #[.int .i64 0, .int .u64 0, .int .u64 0, .string ⟨#[]⟩, .slice none 0 0, .bool false, .slice none 0 0] 38))
  generalize (w.alloc (.cells #[.int .u64 ta, .int .u64 ti, .slice A st.length c, .int .i64 4, .int .i64 ap, .bool fa, .bool og, .bool cm, .slice B sw.length e9] 30)).alloc (.cells #[.int .i64 0, .int .u64 0, .int .u64 0, .string ⟨#[]⟩, .slice none 0 0, .bool false, .slice none 0 0] 38) = w1 at *
  obtain ⟨hd0, hd1, hd2, hd3, hd4, hd5, hd6, hd7, hd8⟩ := qz13 HX.out
  obtain ⟨hz0, hz1, hz2, hz3, hz4, hz5, hz6⟩ := qz41 HZ.out
  obtain ⟨hy0, hy1, hy2, hy3, hy4, hy5, hy6⟩ := frozB7 HZ.out
  have HPC := qza.mk (part_calls ta ti A c st 4 ap fa og cm B e9 sw w1 (Kd.C_below HR.out HB0.out) hc (Kd.C_below HQ.out HB0.out) hqc hl HG.out)
  have hsz := HSZ.out
  have HPV : qza (∃ pv, pv = partV st ap) := ⟨⟨_, rfl⟩⟩
  obtain ⟨⟨pg, pis⟩, hpv⟩ := HPV.out
  rw [← hpv] at HPC
  have HPE := qza.mk hpv
  clear hpv HPV
  dsimp only at *
  go_upto_region 21 with (go_at_call 49; refine (HPC.out).mono ?_; rintro e w2 ⟨rfl, hb2⟩; have HB2a := qza.mk hb2; clear hb2)
  have HX2 := qza.mk (qz16 HB2a.out HX.out)
  have HZ2 := qza.mk (qz16 HB2a.out HZ.out)
  have HB2 := qza.mk (HB0.out.trans (HB2a.out.mono HB0.out.size))
  have hs2 := HB2a.out.size
  clear hd0 hd1 hd2 hd3 hd4 hd5 hd6 hd7 hd8 hz0 hz1 hz2 hz3 hz4 hz5 hz6 hy0 hy1 hy2 hy3 hy4 hy5 hy6 HPC
  obtain ⟨hd0, hd1, hd2, hd3, hd4, hd5, hd6, hd7, hd8⟩ := qz13 HX2.out
  obtain ⟨hz0, hz1, hz2, hz3, hz4, hz5, hz6⟩ := qz41 HZ2.out
  obtain ⟨hy0, hy1, hy2, hy3, hy4, hy5, hy6⟩ := frozB7 HZ2.out
  have he : qz28 ⟨ta, ti, st, 4, ap, fa, og, cm, sw⟩ = (pg, ⟨4, 0, 0, ⟨#[]⟩, [], cm, []⟩, pis) := by
    show ((partV st ap).1, (⟨4, 0, 0, ⟨#[]⟩, [], cm, []⟩ : Ord), (partV st ap).2) = _
    rw [← HPE.out]
  have HE := qza.mk he
  have hsz2 : w.heap.size + 2 ≤ w2.heap.size := by omega
  clear he
  go_region
  go_wp2
  refine ret7D (w := w2) (g := w.heap.size + 1) rfl rfl rfl rfl rfl HZ2.out ?_
  exact AskPost.plain HE.out rfl rfl (qz47 HB2.out (by omega) _ _ _ _ _ _ _).drew
theorem asked_calls (ta ti : Int) (A : Option Addr) (c : Nat) (st : List S53) (ph ap : Int) (fa og cm : Bool) (B : Option Addr) (e9 : Nat) (sw : List S51) (w : World) (hr : Kd.C k53 w A st.length st) (hc : st.length ≤ c) (hq : Kd.C k51 w B sw.length sw) (hqc : sw.length ≤ e9) (hl : st.length ≤ 3000000000000) (hg : ∀ x ∈ st, 0 ≤ x.f0 ∧ x.f0 ≤ 18446744073709551615) :
    Calls Try.prog 30 #[.agg #[.int .u64 ta, .int .u64 ti, .slice A st.length c, .int .i64 ph, .int .i64 ap, .bool fa, .bool og, .bool cm, .slice B sw.length e9]] w (AskPost ⟨ta, ti, st, ph, ap, fa, og, cm, sw⟩ w) := by
  by_cases h0 : ph = 0
  · by_cases h1 : ap < 0 ∨ (st.length : Int) ≤ ap
    · exact asked_0a ta ti A c st ph ap fa og cm B e9 sw w hr hc hq hqc hl hg h0 h1
    · exact asked_0b ta ti A c st ph ap fa og cm B e9 sw w hr hc hq hqc hl hg h0 h1
  · by_cases h1 : ph = 1
    · exact asked_1 ta ti A c st ph ap fa og cm B e9 sw w hr hc hq hqc hl hg h1
    · by_cases h2 : ph = 2
      · exact asked_2 ta ti A c st ph ap fa og cm B e9 sw w hr hc hq hqc hl hg h2
      · by_cases h3 : ph = 3
        · exact asked_3 ta ti A c st ph ap fa og cm B e9 sw w hr hc hq hqc hl hg h3
        · by_cases h4 : ph = 4
          · exact asked_4 ta ti A c st ph ap fa og cm B e9 sw w hr hc hq hqc hl hg h4
          · exact asked_x ta ti A c st ph ap fa og cm B e9 sw w hr hc hq hqc hl hg h0 h1 h2 h3 h4
end Go.Proofs.Ytkennobdoldlkaa.PAll
end
