/- Joined texts of the claim DriveSteps (part 35): contracts of functions and plain laws. -/
import Derived.Deep.CutRange
import Derived.Deep.DeepCutAuto
import Derived.Deep.RegionHeld3
import Derived.Test.YtkennobdoldlkaaJDriveSteps3
import Derived.Test.YtkennobdoldlkaaJDriveSteps34
set_option linter.unusedVariables false
set_option linter.unusedSimpArgs false
section
namespace Go.Proofs.Ytkennobdoldlkaa.PAll
open Go.RowKit Go.Proofs.YtkennobdoldlkaaW.PrintWords Go.Proofs.YtkennobdoldlkaaW.PrintLast Go.Proofs.Ytkennobdoldlkaa
theorem qz58 {P : Program} {k e t : Nat} {z : Value} {bytes base : Nat} {w : World} {v : Value} {css : List (List Value)} {c : List Value} {ops : Array Oper} {o : Oper} {a : Act} {K : Act → World → Prop} {Q : Exit → Act → World → Prop} {E : Prop} (hgd : o.guard = none) (s x : Operand)
    (ho : o.op = .call { callee := .builtin .append, args := #[s, x], argTypes := #[t, t] }) (ht : P.underlying t = some (.slice e)) (hinfo : (P.info? e).map (fun i => (i.zero, i.size, i.bytes)) = some (some z, k, bytes)) (hz : z.cells.size = k) (hs0 : 0 < k)
    (hs : a.eval s = v) (ad : Addr) (hx : a.eval x = .slice (some ad) 1 1) (hc : c.length = k ∧ ∀ u ∈ c, u.oneCell' = true) (hnews : ∀ j u, c[j]? = some u → w.cell? (ad.add j) = some u) (HO : Own k e w base v css) (hbase : base ≤ w.heap.size) (hl : (css.length + 1) * bytes ≤ 140737488355328) (h63 : css.length + 1 ≤ maxLen)
    (h : ∀ v1 w1, Own k e w1 base v1 (css ++ [c]) → w.grownBy w1 v.ownBlock → K (a.put o.dst v1) w1) :
    if Region.wanted o (yielded ops a.tmps) = true then Oper.wp P o a w K Q else E := by
  cases hi : P.info? e with
  | none => rw [hi] at hinfo; cases hinfo
  | some i =>
    rw [hi] at hinfo
    simp only [Option.map_some, Option.some.injEq, Prod.mk.injEq] at hinfo
    obtain ⟨h1, h2, h3⟩ := hinfo
    refine step_append_lies w hgd s x t ho base e i z k bytes ht hi h1 h2 h3 hz hs0 v css.length css.flatten hs HO.2 ad 1 1 c hx (by rw [hc.1]; omega) hnews hc.2 (by omega) h63 hl hbase _ rfl (fun g cap w' ho hg _ _ => h _ w' ⟨fun y hy => ?_, ?_⟩ hg)
    · rcases List.mem_append.1 hy with hy | hy
      · exact HO.1 y hy
      · rw [List.mem_singleton.1 hy]; exact hc
    · rw [List.length_append, List.flatten_append, List.length_singleton, List.flatten_cons, List.flatten_nil, List.append_nil]
      exact ho
theorem cells_new20 {w : World} {c : List Value} {t : TypeId} : ∀ j u, c[j]? = some u → (w.alloc (.cells c.toArray t)).cell? (Addr.add ⟨w.heap.size, 0, none⟩ j) = some u := fun j u hu => by
  rw [Addr.add_lit, Nat.zero_add, qz30 (heap_alloc_new w (.cells c.toArray t))]
  exact hu
theorem cells_blk20 {w : World} {b : Nat} {c : List Value} {t : TypeId} (h : w.heap[b]? = some (.cells c.toArray t (0, 0))) : ∀ j u, c[j]? = some u → w.cell? (Addr.add ⟨b, 0, none⟩ j) = some u := fun j u hu => by
  rw [Addr.add_lit, Nat.zero_add, qz30 h]
  exact hu
theorem own_sl20 {k e base : Nat} {w : World} {v : Value} {css : List (List Value)} (h : Own k e w base v css) : ∃ A c, v = .slice A css.length c ∧ css.length ≤ c := by
  obtain ⟨A, c, h1, h2, _⟩ := h.sl
  exact ⟨A, c, h1, h2⟩
theorem own_C20 {e base : Nat} {w : World} {A : Option Addr} {n c : Nat} {l : List S51} (h : Own 5 e w base (.slice A n c) (l.map enc51)) : Kd.C k51 w A l.length l := by
  obtain ⟨A', c', e, _, hC⟩ := flat51.ofsl h.sl
  cases e
  exact hC
def worksV (d : Drv) (er : Int) (va : ByteArray) (ve : Int) (fo : Bool) : Drv :=
  if er = 11 then d else if er = 0 then
    (if (d.st.length : Int) ≤ wrap64 (d.ap + 1) then toV { d with ap := wrap64 (d.ap + 1), sw := d.sw ++ [⟨(d.st[d.ap.toNat]!).f0, (d.st[d.ap.toNat]!).f1, va, ve, fo⟩] } 1 false else { d with ap := wrap64 (d.ap + 1), sw := d.sw ++ [⟨(d.st[d.ap.toNat]!).f0, (d.st[d.ap.toNat]!).f1, va, ve, fo⟩] })
  else toV d 3 true
def DPost (A : Option Addr) (c : Nat) (B : Option Addr) (e9 : Nat) (sw : List S51) (d : Drv) (w : World) (e : Ending) (w' : World) : Prop := ∃ vw, e = .returned (dagg d (.slice A d.st.length c) vw) ∧ ((vw = .slice B sw.length e9 ∧ d.sw = sw) ∨ Own 5 51 w' w.heap.size vw (d.sw.map enc51)) ∧ Below w.heap.size w w'
def K6 (w W : World) (p0 p1 p2 p3 p4 p5 : Addr) (v0 v1 v2 v3 v4 v5 : Value) : Prop := W.cell? p0 = some v0 ∧ W.cell? p1 = some v1 ∧ W.cell? p2 = some v2 ∧ W.cell? p3 = some v3 ∧ W.cell? p4 = some v4 ∧ W.cell? p5 = some v5 ∧ Below w.heap.size w W
theorem K6.of {w W' : World} {p0 p1 p2 p3 p4 p5 : Addr} {v0 v1 v2 v3 v4 v5 : Value} (h : K6 w w p0 p1 p2 p3 p4 p5 v0 v1 v2 v3 v4 v5) (hb : Below w.heap.size w W') : W'.cell? p0 = some v0 ∧ W'.cell? p1 = some v1 ∧ W'.cell? p2 = some v2 ∧ W'.cell? p3 = some v3 ∧ W'.cell? p4 = some v4 ∧ W'.cell? p5 = some v5 ∧ Below w.heap.size w W' := by
  obtain ⟨h1, h2, h3, h4, h5, h6, h7⟩ := h
  exact ⟨(hb.cell (World.block_lt_of_cell? _ _ h1)).trans h1, (hb.cell (World.block_lt_of_cell? _ _ h2)).trans h2, (hb.cell (World.block_lt_of_cell? _ _ h3)).trans h3, (hb.cell (World.block_lt_of_cell? _ _ h4)).trans h4, (hb.cell (World.block_lt_of_cell? _ _ h5)).trans h5, (hb.cell (World.block_lt_of_cell? _ _ h6)).trans h6, hb⟩
set_option maxHeartbeats 800000 in
set_option maxRecDepth 100000 in
theorem works_11 (ta ti : Int) (A : Option Addr) (c : Nat) (st : List S53) (ph ap : Int) (fa og cm : Bool) (B : Option Addr) (e9 : Nat) (sw : List S51) (er : Int) (va : ByteArray) (ve : Int) (fo co : Bool) (w : World) (hr : Kd.C k53 w A st.length st) (hc : st.length ≤ c) (hq : Kd.C k51 w B sw.length sw) (hqc : sw.length ≤ e9) (hl : st.length ≤ 3000000000000) (hg : ∀ x ∈ st, 0 ≤ x.f0 ∧ x.f0 ≤ 18446744073709551615) (he : er = 11) :
    Calls Try.prog 32 #[.agg #[.int .u64 ta, .int .u64 ti, .slice A st.length c, .int .i64 ph, .int .i64 ap, .bool fa, .bool og, .bool cm, .slice B sw.length e9], .agg #[.int .i64 er, .string va, .int .u64 ve, .bool fo, .bool co]] w (DPost A c B e9 sw (worksV ⟨ta, ti, st, ph, ap, fa, og, cm, sw⟩ er va ve fo) w) := by
  subst he
  have HR := qza.mk hr
  have HQ := qza.mk hq
  have HG := qza.mk hg
  have hx := qz14 (qz14 (heap_alloc_new w (.cells #[.int .u64 ta, .int .u64 ti, .slice A st.length c, .int .i64 ph, .int .i64 ap, .bool fa, .bool og, .bool cm, .slice B sw.length e9] 30)) (.cells #[.int .i64 11, .string va, .int .u64 ve, .bool fo, .bool co] 33)) (.cells #[.int .u64 0, .int .u64 0, .slice none 0 0, .int .i64 0, .int .i64 0, .bool false, .bool false, .bool false, .slice none 0 0] 30)
  have ha := qz14 (heap_alloc_new (w.alloc (.cells #[.int .u64 ta, .int .u64 ti, .slice A st.length c, .int .i64 ph, .int .i64 ap, .bool fa, .bool og, .bool cm, .slice B sw.length e9] 30)) (.cells #[.int .i64 11, .string va, .int .u64 ve, .bool fo, .bool co] 33)) (.cells #[.int .u64 0, .int .u64 0, .slice none 0 0, .int .i64 0, .int .i64 0, .bool false, .bool false, .bool false, .slice none 0 0] 30)
  have hz : (((w.alloc (.cells #[.int .u64 ta, .int .u64 ti, .slice A st.length c, .int .i64 ph, .int .i64 ap, .bool fa, .bool og, .bool cm, .slice B sw.length e9] 30)).alloc (.cells #[.int .i64 11, .string va, .int .u64 ve, .bool fo, .bool co] 33)).alloc (.cells #[.int .u64 0, .int .u64 0, .slice none 0 0, .int .i64 0, .int .i64 0, .bool false, .bool false, .bool false, .slice none 0 0] 30)).heap[w.heap.size + 2]? = some (.cells #[.int .u64 0, .int .u64 0, .slice none 0 0, .int .i64 0, .int .i64 0, .bool false, .bool false, .bool false, .slice none 0 0] 30 (0, 0)) := by
    have h := heap_alloc_new ((w.alloc (.cells #[.int .u64 ta, .int .u64 ti, .slice A st.length c, .int .i64 ph, .int .i64 ap, .bool fa, .bool og, .bool cm, .slice B sw.length e9] 30)).alloc (.cells #[.int .i64 11, .string va, .int .u64 ve, .bool fo, .bool co] 33)) (.cells #[.int .u64 0, .int .u64 0, .slice none 0 0, .int .i64 0, .int .i64 0, .bool false, .bool false, .bool false, .slice none 0 0] 30)
    rw [World.size_alloc, World.size_alloc] at h
    exact h
  rw [World.size_alloc] at ha
  have HB0 := qza.mk ((((Below.refl w.heap.size w).alloc (Nat.le_refl _) (.cells #[.int .u64 ta, .int .u64 ti, .slice A st.length c, .int .i64 ph, .int .i64 ap, .bool fa, .bool og, .bool cm, .slice B sw.length e9] 30)).alloc (by simp) (.cells #[.int .i64 11, .string va, .int .u64 ve, .bool fo, .bool co] 33)).alloc (by simp; omega) (.cells #[.int .u64 0, .int .u64 0, .slice none 0 0, .int .i64 0, .int .i64 0, .bool false, .bool false, .bool false, .slice none 0 0] 30))
  have HSZ : qza (w.heap.size + 3 ≤ (((w.alloc (.cells #[.int .u64 ta, .int .u64 ti, .slice A st.length c, .int .i64 ph, .int .i64 ap, .bool fa, .bool og, .bool cm, .slice B sw.length e9] 30)).alloc (.cells #[.int .i64 11, .string va, .int .u64 ve, .bool fo, .bool co] 33)).alloc (.cells #[.int .u64 0, .int .u64 0, .slice none 0 0, .int .i64 0, .int .i64 0, .bool false, .bool false, .bool false, .slice none 0 0] 30)).heap.size) := ⟨by simp⟩
  clear hr hg hq
  go_enter Try.func32, Try.ntmps32
  have HX := qza.mk hx
  have HA := qza.mk ha
  have HZ := qza.mk hz
  clear hx ha hz
  go_upto_region 1 with (fail)
  change Code.wp _ _ _ _ (((w.alloc (.cells #[.int .u64 ta, .int .u64 ti, .slice A st.length c, .int .i64 ph, .int .i64 ap, .bool fa, .bool og, .bool cm, .slice B sw.length e9] 30)).alloc (.cells #[.int .i64 11, .string va, .int .u64 ve, .bool fo, .bool co] 33)).alloc (.cells #[.int .u64 0, .int .u64 0, .slice none 0 0, .int .i64 0, .int .i64 0, .bool false, .bool false, .bool false, .slice none 0 0] 30))
  generalize ((w.alloc (.cells #[.int .u64 ta, .int .u64 ti, .slice A st.length c, .int .i64 ph, .int .i64 ap, .bool fa, .bool og, .bool cm, .slice B sw.length e9] 30)).alloc (.cells #[.int .i64 11, .string va, .int .u64 ve, .bool fo, .bool co] 33)).alloc (.cells #[.int .u64 0, .int .u64 0, .slice none 0 0, .int .i64 0, .int .i64 0, .bool false, .bool false, .bool false, .slice none 0 0] 30) = w1 at *
  obtain ⟨hd0, hd1, hd2, hd3, hd4, hd5, hd6, hd7, hd8⟩ := qz13 HX.out
  obtain ⟨ha0, ha1, ha2, ha3, ha4⟩ := qz27 HA.out
  obtain ⟨hz0, hz1, hz2, hz3, hz4, hz5, hz6, hz7, hz8⟩ := qz13 HZ.out
  obtain ⟨hf0, hf1, hf2, hf3, hf4, hf5, hf6, hf7, hf8⟩ := qz17 HZ.out
  go_wp2
  refine ret9 (g := w.heap.size + 2) rfl rfl rfl (qz34 HZ.out _ _ _ _ _ _ _ _ _) ?_
  exact ⟨_, rfl, Or.inl ⟨rfl, rfl⟩, qz23 HB0.out (by omega) _ _ _ _ _ _ _ _ _⟩
set_option maxHeartbeats 800000 in
set_option maxRecDepth 100000 in
theorem works_x (ta ti : Int) (A : Option Addr) (c : Nat) (st : List S53) (ph ap : Int) (fa og cm : Bool) (B : Option Addr) (e9 : Nat) (sw : List S51) (er : Int) (va : ByteArray) (ve : Int) (fo co : Bool) (w : World) (hr : Kd.C k53 w A st.length st) (hc : st.length ≤ c) (hq : Kd.C k51 w B sw.length sw) (hqc : sw.length ≤ e9) (hl : st.length ≤ 3000000000000) (hg : ∀ x ∈ st, 0 ≤ x.f0 ∧ x.f0 ≤ 18446744073709551615) (he0 : ¬ er = 0) (he1 : ¬ er = 11) :
    Calls Try.prog 32 #[.agg #[.int .u64 ta, .int .u64 ti, .slice A st.length c, .int .i64 ph, .int .i64 ap, .bool fa, .bool og, .bool cm, .slice B sw.length e9], .agg #[.int .i64 er, .string va, .int .u64 ve, .bool fo, .bool co]] w (DPost A c B e9 sw (worksV ⟨ta, ti, st, ph, ap, fa, og, cm, sw⟩ er va ve fo) w) := by
  have HR := qza.mk hr
  have HQ := qza.mk hq
  have HG := qza.mk hg
  have hx := qz14 (qz14 (heap_alloc_new w (.cells #[.int .u64 ta, .int .u64 ti, .slice A st.length c, .int .i64 ph, .int .i64 ap, .bool fa, .bool og, .bool cm, .slice B sw.length e9] 30)) (.cells #[.int .i64 er, .string va, .int .u64 ve, .bool fo, .bool co] 33)) (.cells #[.int .u64 0, .int .u64 0, .slice none 0 0, .int .i64 0, .int .i64 0, .bool false, .bool false, .bool false, .slice none 0 0] 30)
  have ha := qz14 (heap_alloc_new (w.alloc (.cells #[.int .u64 ta, .int .u64 ti, .slice A st.length c, .int .i64 ph, .int .i64 ap, .bool fa, .bool og, .bool cm, .slice B sw.length e9] 30)) (.cells #[.int .i64 er, .string va, .int .u64 ve, .bool fo, .bool co] 33)) (.cells #[.int .u64 0, .int .u64 0, .slice none 0 0, .int .i64 0, .int .i64 0, .bool false, .bool false, .bool false, .slice none 0 0] 30)
  have hz : (((w.alloc (.cells #[.int .u64 ta, .int .u64 ti, .slice A st.length c, .int .i64 ph, .int .i64 ap, .bool fa, .bool og, .bool cm, .slice B sw.length e9] 30)).alloc (.cells #[.int .i64 er, .string va, .int .u64 ve, .bool fo, .bool co] 33)).alloc (.cells #[.int .u64 0, .int .u64 0, .slice none 0 0, .int .i64 0, .int .i64 0, .bool false, .bool false, .bool false, .slice none 0 0] 30)).heap[w.heap.size + 2]? = some (.cells #[.int .u64 0, .int .u64 0, .slice none 0 0, .int .i64 0, .int .i64 0, .bool false, .bool false, .bool false, .slice none 0 0] 30 (0, 0)) := by
    have h := heap_alloc_new ((w.alloc (.cells #[.int .u64 ta, .int .u64 ti, .slice A st.length c, .int .i64 ph, .int .i64 ap, .bool fa, .bool og, .bool cm, .slice B sw.length e9] 30)).alloc (.cells #[.int .i64 er, .string va, .int .u64 ve, .bool fo, .bool co] 33)) (.cells #[.int .u64 0, .int .u64 0, .slice none 0 0, .int .i64 0, .int .i64 0, .bool false, .bool false, .bool false, .slice none 0 0] 30)
    rw [World.size_alloc, World.size_alloc] at h
    exact h
  rw [World.size_alloc] at ha
  have HB0 := qza.mk ((((Below.refl w.heap.size w).alloc (Nat.le_refl _) (.cells #[.int .u64 ta, .int .u64 ti, .slice A st.length c, .int .i64 ph, .int .i64 ap, .bool fa, .bool og, .bool cm, .slice B sw.length e9] 30)).alloc (by simp) (.cells #[.int .i64 er, .string va, .int .u64 ve, .bool fo, .bool co] 33)).alloc (by simp; omega) (.cells #[.int .u64 0, .int .u64 0, .slice none 0 0, .int .i64 0, .int .i64 0, .bool false, .bool false, .bool false, .slice none 0 0] 30))
  have HSZ : qza (w.heap.size + 3 ≤ (((w.alloc (.cells #[.int .u64 ta, .int .u64 ti, .slice A st.length c, .int .i64 ph, .int .i64 ap, .bool fa, .bool og, .bool cm, .slice B sw.length e9] 30)).alloc (.cells #[.int .i64 er, .string va, .int .u64 ve, .bool fo, .bool co] 33)).alloc (.cells #[.int .u64 0, .int .u64 0, .slice none 0 0, .int .i64 0, .int .i64 0, .bool false, .bool false, .bool false, .slice none 0 0] 30)).heap.size) := ⟨by simp⟩
  clear hr hg hq
  go_enter Try.func32, Try.ntmps32
  have HX := qza.mk hx
  have HA := qza.mk ha
  have HZ := qza.mk hz
  clear hx ha hz
  go_upto_region 1 with (fail)
  change Code.wp _ _ _ _ (((w.alloc (.cells #[.int .u64 ta, .int .u64 ti, .slice A st.length c, .int .i64 ph, .int .i64 ap, .bool fa, .bool og, .bool cm, .slice B sw.length e9] 30)).alloc (.cells #[.int .i64 er, .string va, .int .u64 ve, .bool fo, .bool co] 33)).alloc (.cells #[.int .u64 0, .int .u64 0, .slice none 0 0, .int .i64 0, .int .i64 0, .bool false, .bool false, .bool false, .slice none 0 0] 30))
  generalize ((w.alloc (.cells #[.int .u64 ta, .int .u64 ti, .slice A st.length c, .int .i64 ph, .int .i64 ap, .bool fa, .bool og, .bool cm, .slice B sw.length e9] 30)).alloc (.cells #[.int .i64 er, .string va, .int .u64 ve, .bool fo, .bool co] 33)).alloc (.cells #[.int .u64 0, .int .u64 0, .slice none 0 0, .int .i64 0, .int .i64 0, .bool false, .bool false, .bool false, .slice none 0 0] 30) = w1 at *
  obtain ⟨hd0, hd1, hd2, hd3, hd4, hd5, hd6, hd7, hd8⟩ := qz13 HX.out
  obtain ⟨ha0, ha1, ha2, ha3, ha4⟩ := qz27 HA.out
  obtain ⟨hz0, hz1, hz2, hz3, hz4, hz5, hz6, hz7, hz8⟩ := qz13 HZ.out
  obtain ⟨hf0, hf1, hf2, hf3, hf4, hf5, hf6, hf7, hf8⟩ := qz17 HZ.out
  have HTC := qza.mk (to_calls ta ti A c st ph ap fa og cm B e9 sw 3 true w1 (Kd.C_below HR.out HB0.out) hc (Kd.C_below HQ.out HB0.out) hqc)
  have hor : (fa || true) = true := by simp
  unfold dagg toV at HTC
  dsimp only at HTC
  rw [hor] at HTC
  go_wp2_with (go_at_call 33; refine (HTC.out).mono ?_; rintro e w4 ⟨rfl, hb4⟩; have HZ4 := qza.mk (qz16 hb4 HZ.out); have HP4 := qza.mk (HB0.out.trans (hb4.mono HB0.out.size)); clear hb4 hd0 hd1 hd2 hd3 hd4 hd5 hd6 hd7 hd8 hz0 hz1 hz2 hz3 hz4 hz5 hz6 hz7 hz8 hf0 hf1 hf2 hf3 hf4 hf5 hf6 hf7 hf8; obtain ⟨hz0, hz1, hz2, hz3, hz4, hz5, hz6, hz7, hz8⟩ := qz13 HZ4.out; obtain ⟨hf0, hf1, hf2, hf3, hf4, hf5, hf6, hf7, hf8⟩ := qz17 HZ4.out)
  refine ret9 (g := w.heap.size + 2) rfl rfl rfl (qz34 HZ4.out _ _ _ _ _ _ _ _ _) ?_
  have hv : worksV ⟨ta, ti, st, ph, ap, fa, og, cm, sw⟩ er va ve fo = ⟨ta, ti, st, 3, 0, true, og, cm, sw⟩ := by
    unfold worksV
    rw [if_neg he1, if_neg he0]
    unfold toV
    simp
  unfold DPost
  rw [hv]
  exact ⟨_, rfl, Or.inl ⟨rfl, rfl⟩, qz23 HP4.out (by omega) _ _ _ _ _ _ _ _ _⟩
set_option maxHeartbeats 800000 in
set_option maxRecDepth 100000 in
theorem works_0 (ta ti : Int) (A : Option Addr) (c : Nat) (st : List S53) (ph ap : Int) (fa og cm : Bool) (B : Option Addr) (e9 : Nat) (sw : List S51) (er : Int) (va : ByteArray) (ve : Int) (fo co : Bool) (w : World) (hr : Kd.C k53 w A st.length st) (hc : st.length ≤ c) (hq : Kd.C k51 w B sw.length sw) (hqc : sw.length ≤ e9) (hl : st.length ≤ 3000000000000) (hg : ∀ x ∈ st, 0 ≤ x.f0 ∧ x.f0 ≤ 18446744073709551615) (he : er = 0) (hap : 0 ≤ ap ∧ ap < (st.length : Int)) (hswl : sw.length ≤ 2513169434843) :
    Calls Try.prog 32 #[.agg #[.int .u64 ta, .int .u64 ti, .slice A st.length c, .int .i64 ph, .int .i64 ap, .bool fa, .bool og, .bool cm, .slice B sw.length e9], .agg #[.int .i64 er, .string va, .int .u64 ve, .bool fo, .bool co]] w (DPost A c B e9 sw (worksV ⟨ta, ti, st, ph, ap, fa, og, cm, sw⟩ er va ve fo) w) := by
  subst he
  have HR := qza.mk hr
  have HQ := qza.mk hq
  have HG := qza.mk hg
  have hx := qz14 (qz14 (heap_alloc_new w (.cells #[.int .u64 ta, .int .u64 ti, .slice A st.length c, .int .i64 ph, .int .i64 ap, .bool fa, .bool og, .bool cm, .slice B sw.length e9] 30)) (.cells #[.int .i64 0, .string va, .int .u64 ve, .bool fo, .bool co] 33)) (.cells #[.int .u64 0, .int .u64 0, .slice none 0 0, .int .i64 0, .int .i64 0, .bool false, .bool false, .bool false, .slice none 0 0] 30)
  have ha := qz14 (heap_alloc_new (w.alloc (.cells #[.int .u64 ta, .int .u64 ti, .slice A st.length c, .int .i64 ph, .int .i64 ap, .bool fa, .bool og, .bool cm, .slice B sw.length e9] 30)) (.cells #[.int .i64 0, .string va, .int .u64 ve, .bool fo, .bool co] 33)) (.cells #[.int .u64 0, .int .u64 0, .slice none 0 0, .int .i64 0, .int .i64 0, .bool false, .bool false, .bool false, .slice none 0 0] 30)
  have hz : (((w.alloc (.cells #[.int .u64 ta, .int .u64 ti, .slice A st.length c, .int .i64 ph, .int .i64 ap, .bool fa, .bool og, .bool cm, .slice B sw.length e9] 30)).alloc (.cells #[.int .i64 0, .string va, .int .u64 ve, .bool fo, .bool co] 33)).alloc (.cells #[.int .u64 0, .int .u64 0, .slice none 0 0, .int .i64 0, .int .i64 0, .bool false, .bool false, .bool false, .slice none 0 0] 30)).heap[w.heap.size + 2]? = some (.cells #[.int .u64 0, .int .u64 0, .slice none 0 0, .int .i64 0, .int .i64 0, .bool false, .bool false, .bool false, .slice none 0 0] 30 (0, 0)) := by
    have h := heap_alloc_new ((w.alloc (.cells #[.int .u64 ta, .int .u64 ti, .slice A st.length c, .int .i64 ph, .int .i64 ap, .bool fa, .bool og, .bool cm, .slice B sw.length e9] 30)).alloc (.cells #[.int .i64 0, .string va, .int .u64 ve, .bool fo, .bool co] 33)) (.cells #[.int .u64 0, .int .u64 0, .slice none 0 0, .int .i64 0, .int .i64 0, .bool false, .bool false, .bool false, .slice none 0 0] 30)
    rw [World.size_alloc, World.size_alloc] at h
    exact h
  rw [World.size_alloc] at ha
  have HB0 := qza.mk ((((Below.refl w.heap.size w).alloc (Nat.le_refl _) (.cells #[.int .u64 ta, .int .u64 ti, .slice A st.length c, .int .i64 ph, .int .i64 ap, .bool fa, .bool og, .bool cm, .slice B sw.length e9] 30)).alloc (by simp) (.cells #[.int .i64 0, .string va, .int .u64 ve, .bool fo, .bool co] 33)).alloc (by simp; omega) (.cells #[.int .u64 0, .int .u64 0, .slice none 0 0, .int .i64 0, .int .i64 0, .bool false, .bool false, .bool false, .slice none 0 0] 30))
  have HSZ : qza (w.heap.size + 3 ≤ (((w.alloc (.cells #[.int .u64 ta, .int .u64 ti, .slice A st.length c, .int .i64 ph, .int .i64 ap, .bool fa, .bool og, .bool cm, .slice B sw.length e9] 30)).alloc (.cells #[.int .i64 0, .string va, .int .u64 ve, .bool fo, .bool co] 33)).alloc (.cells #[.int .u64 0, .int .u64 0, .slice none 0 0, .int .i64 0, .int .i64 0, .bool false, .bool false, .bool false, .slice none 0 0] 30)).heap.size) := ⟨by simp⟩
  clear hr hg hq
  go_enter Try.func32, Try.ntmps32
  have HX := qza.mk hx
  have HA := qza.mk ha
  have HZ := qza.mk hz
  clear hx ha hz
  go_upto_region 1 with (fail)
  change Code.wp _ _ _ _ (((w.alloc (.cells #[.int .u64 ta, .int .u64 ti, .slice A st.length c, .int .i64 ph, .int .i64 ap, .bool fa, .bool og, .bool cm, .slice B sw.length e9] 30)).alloc (.cells #[.int .i64 0, .string va, .int .u64 ve, .bool fo, .bool co] 33)).alloc (.cells #[.int .u64 0, .int .u64 0, .slice none 0 0, .int .i64 0, .int .i64 0, .bool false, .bool false, .bool false, .slice none 0 0] 30))
  generalize ((w.alloc (.cells #[.int .u64 ta, .int .u64 ti, .slice A st.length c, .int .i64 ph, .int .i64 ap, .bool fa, .bool og, .bool cm, .slice B sw.length e9] 30)).alloc (.cells #[.int .i64 0, .string va, .int .u64 ve, .bool fo, .bool co] 33)).alloc (.cells #[.int .u64 0, .int .u64 0, .slice none 0 0, .int .i64 0, .int .i64 0, .bool false, .bool false, .bool false, .slice none 0 0] 30) = w1 at *
  obtain ⟨hd0, hd1, hd2, hd3, hd4, hd5, hd6, hd7, hd8⟩ := qz13 HX.out
  obtain ⟨ha0, ha1, ha2, ha3, ha4⟩ := qz27 HA.out
  obtain ⟨hz0, hz1, hz2, hz3, hz4, hz5, hz6, hz7, hz8⟩ := qz13 HZ.out
  obtain ⟨hf0, hf1, hf2, hf3, hf4, hf5, hf6, hf7, hf8⟩ := qz17 HZ.out
  obtain ⟨n, rfl⟩ : ∃ n : Nat, ap = (n : Int) := ⟨ap.toNat, by omega⟩
  have hn : n < st.length := by omega
  have hnz : (n : Int) < (st.length : Int) := by omega
  have hnz1 : (0 : Int) ≤ (n : Int) := by omega
  have hstl : st.length ≤ 9223372036854775807 := by omega
  obtain ⟨pb, po, rfl, hs0, hs1, hs2, hs3, hs4⟩ := stepRow (Kd.C_below HR.out HB0.out) n hn
  generalize hxe : st[n]! = x at *
  have HXE := qza.mk hxe
  clear hxe
  obtain ⟨xa, xb, xc, xd, xe⟩ := x
  dsimp only at *
  have hsz := HSZ.out
  go_upto_region 6 with (fail)
  change Code.wp _ _ _ _ (w1.alloc (.cells #[.int .u64 xa, .string xb, .string xc, .bool xd, .bool xe] 53))
  have HS5 := qza.mk (heap_alloc_new w1 (.cells #[.int .u64 xa, .string xb, .string xc, .bool xd, .bool xe] 53))
  have HX5 := qza.mk (qz14 HX.out (.cells #[.int .u64 xa, .string xb, .string xc, .bool xd, .bool xe] 53))
  have HA5 := qza.mk (qz14 HA.out (.cells #[.int .u64 xa, .string xb, .string xc, .bool xd, .bool xe] 53))
  have HZ5 := qza.mk (qz14 HZ.out (.cells #[.int .u64 xa, .string xb, .string xc, .bool xd, .bool xe] 53))
  have HB5 := qza.mk (HB0.out.alloc HB0.out.size (.cells #[.int .u64 xa, .string xb, .string xc, .bool xd, .bool xe] 53))
  have hs5 : w.heap.size + 4 ≤ (w1.alloc (.cells #[.int .u64 xa, .string xb, .string xc, .bool xd, .bool xe] 53)).heap.size := by simp; omega
  clear hs0 hs1 hs2 hs3 hs4 hd0 hd1 hd2 hd3 hd4 hd5 hd6 hd7 hd8 ha0 ha1 ha2 ha3 ha4 hz0 hz1 hz2 hz3 hz4 hz5 hz6 hz7 hz8 hf0 hf1 hf2 hf3 hf4 hf5 hf6 hf7 hf8 HX HA HZ HB0 HSZ
  have hq5 : w.heap.size + 3 ≤ w1.heap.size := hsz
  clear hsz
  generalize w1.alloc (.cells #[.int .u64 xa, .string xb, .string xc, .bool xd, .bool xe] 53) = w5 at *
  generalize w1.heap.size = b5 at *
  obtain ⟨hd0, hd1, hd2, hd3, hd4, hd5, hd6, hd7, hd8⟩ := qz13 HX5.out
  obtain ⟨ha0, ha1, ha2, ha3, ha4⟩ := qz27 HA5.out
  obtain ⟨hx0, hx1, hx2, hx3, hx4⟩ := qz27 HS5.out
  have HCL := qza.mk (fun (W : World) (h : Below w5.heap.size w5 W) => CloneSaw (.slice B sw.length e9) (sw.map enc51) W (flat51.sl ⟨_, _, rfl, hqc, Kd.C_below HQ.out (HB5.out.trans (h.mono HB5.out.size))⟩) (by rw [List.length_map]; omega))
  go_cut [] from 20 to 36 (fun wx => ∃ Ad cd, qza (sw.length + 1 ≤ cd) ∧ qza (wx.heap[w.heap.size]? = some (.cells #[.int .u64 ta, .int .u64 ti, .slice (some ⟨pb, po, none⟩) st.length c, .int .i64 ph, .int .i64 (n : Int), .bool fa, .bool og, .bool cm, .slice Ad (sw.length + 1) cd] 30 (0, 0))) ∧ qza (wx.heap[w.heap.size + 2]? = some (.cells #[.int .u64 0, .int .u64 0, .slice none 0 0, .int .i64 0, .int .i64 0, .bool false, .bool false, .bool false, .slice none 0 0] 30 (0, 0))) ∧ qza (Below w.heap.size w wx) ∧ qza (Own 5 51 wx w5.heap.size (.slice Ad (sw.length + 1) cd) ((sw ++ [(⟨xa, xb, va, ve, fo⟩ : S51)]).map enc51)))
  case first =>
    have hK0 : K6 w5 w5 ⟨w.heap.size, 8, none⟩ ⟨b5, 0, none⟩ ⟨b5, 1, none⟩ ⟨w.heap.size + 1, 1, none⟩ ⟨w.heap.size + 1, 2, none⟩ ⟨w.heap.size + 1, 3, none⟩ (.slice B sw.length e9) (.int .u64 xa) (.string xb) (.string va) (.int .u64 ve) (.bool fo) := ⟨hd8, hx0, hx1, ha1, ha2, ha3, Below.refl _ _⟩
    have HK0 := qza.mk hK0
    have hS0 := hK0.of ((Below.refl w5.heap.size w5).drew)
    have HBD := qza.mk ((Below.refl w5.heap.size w5).drew)
    clear hd0 hd1 hd2 hd3 hd4 hd5 hd6 hd7 hd8 ha0 ha1 ha2 ha3 ha4 hx0 hx1 hx2 hx3 hx4 hK0
    refine wp_region_noPanic ?_
    refine qz59 (ds := [17]) (S := (fun w' => w'.cell? ⟨w.heap.size, 8, none⟩ = some (.slice B sw.length e9) ∧ w'.cell? ⟨b5, 0, none⟩ = some (.int .u64 xa) ∧ w'.cell? ⟨b5, 1, none⟩ = some (.string xb) ∧ w'.cell? ⟨w.heap.size + 1, 1, none⟩ = some (.string va) ∧ w'.cell? ⟨w.heap.size + 1, 2, none⟩ = some (.int .u64 ve) ∧ w'.cell? ⟨w.heap.size + 1, 3, none⟩ = some (.bool fo) ∧ Below w5.heap.size w5 w')) (by kernel_rfl) hS0 (fun hHeld => ?_)
    clear hS0
    refine qz19 (i := 0) (oi := _) (v := .pointer (some ⟨w.heap.size, 8, none⟩)) rfl (by kernel_rfl) (by kernel_rfl) (by kernel_rfl) (by kernel_rfl) (by kernel_rfl) (fun _ _ _ h => h) (Or.inl ⟨by kernel_rfl, ?_⟩) (by assumption) ?_
    · intro w hSw; (try dsimp only at hSw); go_simp
    try simp only [Act.put, List.setIfInBounds_toArray, List.set_cons_zero, List.set_cons_succ]
    refine qz19 (i := 1) (oi := _) (v := .slice B sw.length e9) rfl (by kernel_rfl) (by kernel_rfl) (by kernel_rfl) (by kernel_rfl) (by kernel_rfl) (fun _ _ _ h => h) (Or.inl ⟨by kernel_rfl, ?_⟩) (by assumption) ?_
    · intro w hSw; (try dsimp only at hSw); go_simp
    try simp only [Act.put, List.setIfInBounds_toArray, List.set_cons_zero, List.set_cons_succ]
    refine qz19 (i := 3) (oi := _) (v := .pointer (some ⟨b5, 0, none⟩)) rfl (by kernel_rfl) (by kernel_rfl) (by kernel_rfl) (by kernel_rfl) (by kernel_rfl) (fun _ _ _ h => h) (Or.inl ⟨by kernel_rfl, ?_⟩) (by assumption) ?_
    · intro w hSw; (try dsimp only at hSw); go_simp
    try simp only [Act.put, List.setIfInBounds_toArray, List.set_cons_zero, List.set_cons_succ]
    refine qz19 (i := 4) (oi := _) (v := .int .u64 xa) rfl (by kernel_rfl) (by kernel_rfl) (by kernel_rfl) (by kernel_rfl) (by kernel_rfl) (fun _ _ _ h => h) (Or.inl ⟨by kernel_rfl, ?_⟩) (by assumption) ?_
    · intro w hSw; (try dsimp only at hSw); go_simp
    try simp only [Act.put, List.setIfInBounds_toArray, List.set_cons_zero, List.set_cons_succ]
    refine qz19 (i := 5) (oi := _) (v := .pointer (some ⟨b5, 1, none⟩)) rfl (by kernel_rfl) (by kernel_rfl) (by kernel_rfl) (by kernel_rfl) (by kernel_rfl) (fun _ _ _ h => h) (Or.inl ⟨by kernel_rfl, ?_⟩) (by assumption) ?_
    · intro w hSw; (try dsimp only at hSw); go_simp
    try simp only [Act.put, List.setIfInBounds_toArray, List.set_cons_zero, List.set_cons_succ]
    refine qz19 (i := 6) (oi := _) (v := .string xb) rfl (by kernel_rfl) (by kernel_rfl) (by kernel_rfl) (by kernel_rfl) (by kernel_rfl) (fun _ _ _ h => h) (Or.inl ⟨by kernel_rfl, ?_⟩) (by assumption) ?_
    · intro w hSw; (try dsimp only at hSw); go_simp
    try simp only [Act.put, List.setIfInBounds_toArray, List.set_cons_zero, List.set_cons_succ]
    refine qz19 (i := 7) (oi := _) (v := .pointer (some ⟨w.heap.size + 1, 1, none⟩)) rfl (by kernel_rfl) (by kernel_rfl) (by kernel_rfl) (by kernel_rfl) (by kernel_rfl) (fun _ _ _ h => h) (Or.inl ⟨by kernel_rfl, ?_⟩) (by assumption) ?_
    · intro w hSw; (try dsimp only at hSw); go_simp
    try simp only [Act.put, List.setIfInBounds_toArray, List.set_cons_zero, List.set_cons_succ]
    refine qz19 (i := 8) (oi := _) (v := .string va) rfl (by kernel_rfl) (by kernel_rfl) (by kernel_rfl) (by kernel_rfl) (by kernel_rfl) (fun _ _ _ h => h) (Or.inl ⟨by kernel_rfl, ?_⟩) (by assumption) ?_
    · intro w hSw; (try dsimp only at hSw); go_simp
    try simp only [Act.put, List.setIfInBounds_toArray, List.set_cons_zero, List.set_cons_succ]
    refine qz19 (i := 9) (oi := _) (v := .pointer (some ⟨w.heap.size + 1, 2, none⟩)) rfl (by kernel_rfl) (by kernel_rfl) (by kernel_rfl) (by kernel_rfl) (by kernel_rfl) (fun _ _ _ h => h) (Or.inl ⟨by kernel_rfl, ?_⟩) (by assumption) ?_
    · intro w hSw; (try dsimp only at hSw); go_simp
    try simp only [Act.put, List.setIfInBounds_toArray, List.set_cons_zero, List.set_cons_succ]
    refine qz19 (i := 10) (oi := _) (v := .int .u64 ve) rfl (by kernel_rfl) (by kernel_rfl) (by kernel_rfl) (by kernel_rfl) (by kernel_rfl) (fun _ _ _ h => h) (Or.inl ⟨by kernel_rfl, ?_⟩) (by assumption) ?_
    · intro w hSw; (try dsimp only at hSw); go_simp
    try simp only [Act.put, List.setIfInBounds_toArray, List.set_cons_zero, List.set_cons_succ]
    refine qz19 (i := 11) (oi := _) (v := .pointer (some ⟨w.heap.size + 1, 3, none⟩)) rfl (by kernel_rfl) (by kernel_rfl) (by kernel_rfl) (by kernel_rfl) (by kernel_rfl) (fun _ _ _ h => h) (Or.inl ⟨by kernel_rfl, ?_⟩) (by assumption) ?_
    · intro w hSw; (try dsimp only at hSw); go_simp
    try simp only [Act.put, List.setIfInBounds_toArray, List.set_cons_zero, List.set_cons_succ]
    refine qz19 (i := 12) (oi := _) (v := .bool fo) rfl (by kernel_rfl) (by kernel_rfl) (by kernel_rfl) (by kernel_rfl) (by kernel_rfl) (fun _ _ _ h => h) (Or.inl ⟨by kernel_rfl, ?_⟩) (by assumption) ?_
    · intro w hSw; (try dsimp only at hSw); go_simp
    try simp only [Act.put, List.setIfInBounds_toArray, List.set_cons_zero, List.set_cons_succ]
    refine qz19 (i := 13) (oi := _) (v := .agg #[.int .u64 xa, .string xb, .string va, .int .u64 ve, .bool fo]) rfl (by kernel_rfl) (by kernel_rfl) (by kernel_rfl) (by kernel_rfl) (by kernel_rfl) (fun _ _ _ h => h) (Or.inl ⟨by kernel_rfl, ?_⟩) (by assumption) ?_
    · intro w hSw; (try dsimp only at hSw); go_simp
    try simp only [Act.put, List.setIfInBounds_toArray, List.set_cons_zero, List.set_cons_succ]
    clear hHeld
    have hsd := HBD.out.size
    refine qz26 (rs := [2, 14]) (by kernel_rfl) (by simp) ?_
    refine AllReadyL.cons (o := _) rfl (by decide) (fun K hK => ?_) (AllReadyL.cons (o := _) rfl (by decide) (fun K hK => ?_) AllReadyL.nil)
    · go_simp; go_at_call 50; with_reducible refine (HCL.out _ HBD.out).mono ?_; rintro e w26 ⟨v5, rfl, ho26, hb26⟩; go_simp
      have HB26 := qza.mk (HBD.out.trans (hb26.mono hsd))
      have HO26 := qza.mk (ho26.lower hsd)
      clear ho26 hb26
      refine hK.out _ _ (HK0.out.of HB26.out) (fun hHeld2 => ?_)
      clear hK K
      try simp only [Act.put, List.setIfInBounds_toArray, List.set_cons_zero, List.set_cons_succ]
      refine qz26 (rs := [14]) (by kernel_rfl) (by simp) ?_
      refine AllReadyL.cons (o := _) rfl (by decide) (fun K hK => ?_) AllReadyL.nil
      go_simp
      have HB27 := qza.mk (HB26.out.alloc HB26.out.size (.cells #[.int .u64 xa, .string xb, .string va, .int .u64 ve, .bool fo] 51))
      have HO27 := qza.mk (HO26.out.kept (World.grownBy_alloc w26 (.cells #[.int .u64 xa, .string xb, .string va, .int .u64 ve, .bool fo] 51) none) (fun b e e2 => by cases e2))
      have HN27 := qza.mk (cells_new20 (w := w26) (c := [.int .u64 xa, .string xb, .string va, .int .u64 ve, .bool fo]) (t := 51))
      refine hK.out _ _ (HK0.out.of HB27.out) (fun hHeld8 => ?_)
      clear hK K
      try simp only [Act.put, List.setIfInBounds_toArray, List.set_cons_zero, List.set_cons_succ]
      refine qz26 (rs := [15]) (by kernel_rfl) (by simp) ?_
      refine AllReadyL.cons (o := _) rfl (by decide) (fun K hK => ?_) AllReadyL.nil
      refine qz58 (base := w5.heap.size) rfl (.tmp 22) (.tmp 34) rfl Try.underlying28 infoSaw rfl (by decide) rfl ⟨w26.heap.size, 0, none⟩ rfl (c := [.int .u64 xa, .string xb, .string va, .int .u64 ve, .bool fo]) ⟨rfl, by simp [Value.oneCell']⟩ HN27.out HO27.out HB27.out.size (by rw [List.length_map]; omega) (by rw [List.length_map]; unfold maxLen; omega) ?_
      intro v6 w28 ho28 hg28
      have HB28 := qza.mk (HB27.out.grown hg28 HB27.out.size (fun k e => HO27.out.base k e))
      obtain ⟨Ad, cd, hv6, hcd⟩ := own_sl20 ho28
      have HO28 := qza.mk ho28
      have HCD := qza.mk hcd
      subst hv6
      clear ho28 hg28 hcd
      refine hK.out _ _ (HK0.out.of HB28.out) (fun hHeld15 => ?_)
      clear hK K
      try simp only [Act.put, List.setIfInBounds_toArray, List.set_cons_zero, List.set_cons_succ]
      refine qz19 (i := 16) (oi := _) (v := .pointer (some ⟨w.heap.size, 8, none⟩)) rfl (by kernel_rfl) (by kernel_rfl) (by kernel_rfl) (by kernel_rfl) (by kernel_rfl) (fun _ _ _ h => h) (Or.inl ⟨by kernel_rfl, ?_⟩) (by assumption) ?_
      · intro w hSw; (try dsimp only at hSw); go_simp
      try simp only [Act.put, List.setIfInBounds_toArray, List.set_cons_zero, List.set_cons_succ]
      have HX28 := qza.mk (qz16 HB28.out HX5.out)
      obtain ⟨hd0, hd1, hd2, hd3, hd4, hd5, hd6, hd7, hd8⟩ := qz13 HX28.out
      obtain ⟨hf0, hf1, hf2, hf3, hf4, hf5, hf6, hf7, hf8⟩ := qz17 HX28.out
      refine qz26 (rs := [17]) (by kernel_rfl) (by simp) ?_
      refine AllReadyL.cons_last (o := _) rfl (by decide) (fun K hK => ?_) AllReadyL.nil
      go_simp
      refine hK.out _ _ ?_
      clear hK K
      try simp only [Act.put, List.setIfInBounds_toArray, List.set_cons_zero, List.set_cons_succ]
      refine qz56 (by kernel_rfl) ?_ _
      refine NoPanic.normal ?_
      go_wp2
      go_meet
      refine ⟨Ad, cd, ⟨by have h := HCD.out; simpa using h⟩, ⟨?_⟩, ⟨?_⟩, ⟨?_⟩, ⟨?_⟩⟩
      · have := qz12 HX28.out 8 (.slice Ad (sw.length + 1) cd) rfl
        simpa using this
      · exact (RowKit.Below.heap_setCell w28 ⟨w.heap.size, 8, none⟩ _ (w.heap.size + 2) (show w.heap.size + 2 ≠ w.heap.size by omega)).trans (qz16 HB28.out HZ5.out)
      · exact RowKit.Below.setCell (p := ⟨w.heap.size, 8, none⟩) (HB5.out.trans (HB28.out.mono HB5.out.size)) (Nat.le_refl _) _
      · have h := HO28.out.kept (Lib.grownBy_setCell w28 w.heap.size 8 (.slice Ad (sw.length + 1) cd)) (fun b e e2 => by have := HO28.out.base b e; have := Option.some.inj e2; omega)
        rw [List.map_append]
        simpa [enc51] using h
    · go_simp
      have HBA := qza.mk ((Below.refl w5.heap.size w5).alloc (Nat.le_refl _) (.cells #[.int .u64 xa, .string xb, .string va, .int .u64 ve, .bool fo] 51)).drew
      have NBA := qza.mk (show (w5.alloc (.cells #[.int .u64 xa, .string xb, .string va, .int .u64 ve, .bool fo] 51)).drew.heap[w5.heap.size]? = _ from heap_alloc_new w5 (.cells #[.int .u64 xa, .string xb, .string va, .int .u64 ve, .bool fo] 51))
      refine hK.out _ _ (HK0.out.of HBA.out) (fun hHeld8 => ?_)
      clear hK K
      try simp only [Act.put, List.setIfInBounds_toArray, List.set_cons_zero, List.set_cons_succ]
      refine qz26 (rs := [2]) (by kernel_rfl) (by simp) ?_
      refine AllReadyL.cons (o := _) rfl (by decide) (fun K hK => ?_) AllReadyL.nil
      go_simp; go_at_call 50; with_reducible refine (HCL.out _ HBA.out).mono ?_; rintro e w26 ⟨v5, rfl, ho26, hb26⟩; go_simp
      have HB27 := qza.mk (HBA.out.trans (hb26.mono HBA.out.size))
      have HO27 := qza.mk (ho26.lower HBA.out.size)
      have HN27 := qza.mk (cells_blk20 (c := [.int .u64 xa, .string xb, .string va, .int .u64 ve, .bool fo]) (qz16 hb26 NBA.out))
      clear ho26 hb26
      refine hK.out _ _ (HK0.out.of HB27.out) (fun hHeld2 => ?_)
      clear hK K
      try simp only [Act.put, List.setIfInBounds_toArray, List.set_cons_zero, List.set_cons_succ]
      refine qz26 (rs := [15]) (by kernel_rfl) (by simp) ?_
      refine AllReadyL.cons (o := _) rfl (by decide) (fun K hK => ?_) AllReadyL.nil
      refine qz58 (base := w5.heap.size) rfl (.tmp 22) (.tmp 34) rfl Try.underlying28 infoSaw rfl (by decide) rfl ⟨w5.heap.size, 0, none⟩ rfl (c := [.int .u64 xa, .string xb, .string va, .int .u64 ve, .bool fo]) ⟨rfl, by simp [Value.oneCell']⟩ HN27.out HO27.out HB27.out.size (by rw [List.length_map]; omega) (by rw [List.length_map]; unfold maxLen; omega) ?_
      intro v6 w28 ho28 hg28
      have HB28 := qza.mk (HB27.out.grown hg28 HB27.out.size (fun k e => HO27.out.base k e))
      obtain ⟨Ad, cd, hv6, hcd⟩ := own_sl20 ho28
      have HO28 := qza.mk ho28
      have HCD := qza.mk hcd
      subst hv6
      clear ho28 hg28 hcd
      refine hK.out _ _ (HK0.out.of HB28.out) (fun hHeld15 => ?_)
      clear hK K
      try simp only [Act.put, List.setIfInBounds_toArray, List.set_cons_zero, List.set_cons_succ]
      refine qz19 (i := 16) (oi := _) (v := .pointer (some ⟨w.heap.size, 8, none⟩)) rfl (by kernel_rfl) (by kernel_rfl) (by kernel_rfl) (by kernel_rfl) (by kernel_rfl) (fun _ _ _ h => h) (Or.inl ⟨by kernel_rfl, ?_⟩) (by assumption) ?_
      · intro w hSw; (try dsimp only at hSw); go_simp
      try simp only [Act.put, List.setIfInBounds_toArray, List.set_cons_zero, List.set_cons_succ]
      have HX28 := qza.mk (qz16 HB28.out HX5.out)
      obtain ⟨hd0, hd1, hd2, hd3, hd4, hd5, hd6, hd7, hd8⟩ := qz13 HX28.out
      obtain ⟨hf0, hf1, hf2, hf3, hf4, hf5, hf6, hf7, hf8⟩ := qz17 HX28.out
      refine qz26 (rs := [17]) (by kernel_rfl) (by simp) ?_
      refine AllReadyL.cons_last (o := _) rfl (by decide) (fun K hK => ?_) AllReadyL.nil
      go_simp
      refine hK.out _ _ ?_
      clear hK K
      try simp only [Act.put, List.setIfInBounds_toArray, List.set_cons_zero, List.set_cons_succ]
      refine qz56 (by kernel_rfl) ?_ _
      refine NoPanic.normal ?_
      go_wp2
      go_meet
      refine ⟨Ad, cd, ⟨by have h := HCD.out; simpa using h⟩, ⟨?_⟩, ⟨?_⟩, ⟨?_⟩, ⟨?_⟩⟩
      · have := qz12 HX28.out 8 (.slice Ad (sw.length + 1) cd) rfl
        simpa using this
      · exact (RowKit.Below.heap_setCell w28 ⟨w.heap.size, 8, none⟩ _ (w.heap.size + 2) (show w.heap.size + 2 ≠ w.heap.size by omega)).trans (qz16 HB28.out HZ5.out)
      · exact RowKit.Below.setCell (p := ⟨w.heap.size, 8, none⟩) (HB5.out.trans (HB28.out.mono HB5.out.size)) (Nat.le_refl _) _
      · have h := HO28.out.kept (Lib.grownBy_setCell w28 w.heap.size 8 (.slice Ad (sw.length + 1) cd)) (fun b e e2 => by have := HO28.out.base b e; have := Option.some.inj e2; omega)
        rw [List.map_append]
        simpa [enc51] using h
  case rest =>
    clear hd0 hd1 hd2 hd3 hd4 hd5 hd6 hd7 hd8 ha0 ha1 ha2 ha3 ha4 hx0 hx1 hx2 hx3 hx4
    obtain ⟨Ad, cd, HCD, HXc, HZc, HBc, HOc⟩ := hcut
    have hv : worksV ⟨ta, ti, st, ph, (n : Int), fa, og, cm, sw⟩ 0 va ve fo = if (st.length : Int) ≤ wrap64 ((n : Int) + 1) then toV ⟨ta, ti, st, ph, wrap64 ((n : Int) + 1), fa, og, cm, sw ++ [⟨xa, xb, va, ve, fo⟩]⟩ 1 false else ⟨ta, ti, st, ph, wrap64 ((n : Int) + 1), fa, og, cm, sw ++ [⟨xa, xb, va, ve, fo⟩]⟩ := by
      unfold worksV
      dsimp only
      rw [if_neg (by omega), if_pos rfl, Int.toNat_natCast, HXE.out]
    have HV := qza.mk hv
    have hlen : (sw ++ [(⟨xa, xb, va, ve, fo⟩ : S51)]).length = sw.length + 1 := by simp
    rw [← hlen] at HXc HCD HOc
    clear hlen hv HXE
    generalize sw ++ [(⟨xa, xb, va, ve, fo⟩ : S51)] = sw2 at *
    have ha1 : wrap64 ((n : Int) + 1) = (n : Int) + 1 := by unfold wrap64; omega
    rw [ha1] at HV
    clear ha1
    obtain ⟨hd0, hd1, hd2, hd3, hd4, hd5, hd6, hd7, hd8⟩ := qz13 HXc.out
    obtain ⟨hf0, hf1, hf2, hf3, hf4, hf5, hf6, hf7, hf8⟩ := qz17 HXc.out
    go_upto_region 8 with (fail)
    have HX2 : qza ((wc.setCell ⟨w.heap.size, 4, none⟩ (.int .i64 ((n : Int) + 1))).heap[w.heap.size]? = some (.cells #[.int .u64 ta, .int .u64 ti, .slice (some ⟨pb, po, none⟩) st.length c, .int .i64 ph, .int .i64 ((n : Int) + 1), .bool fa, .bool og, .bool cm, .slice Ad sw2.length cd] 30 (0, 0))) := ⟨qz12 (cs := #[.int .u64 ta, .int .u64 ti, .slice (some ⟨pb, po, none⟩) st.length c, .int .i64 ph, .int .i64 (n : Int), .bool fa, .bool og, .bool cm, .slice Ad sw2.length cd]) HXc.out 4 (.int .i64 ((n : Int) + 1)) rfl⟩
    have HZ2 := qza.mk ((RowKit.Below.heap_setCell wc ⟨w.heap.size, 4, none⟩ (.int .i64 ((n : Int) + 1)) (w.heap.size + 2) (show w.heap.size + 2 ≠ w.heap.size by omega)).trans HZc.out)
    have HB2 := qza.mk (RowKit.Below.setCell (p := ⟨w.heap.size, 4, none⟩) HBc.out (Nat.le_refl _) (.int .i64 ((n : Int) + 1)))
    have HO2 := qza.mk (HOc.out.kept (Lib.grownBy_setCell wc w.heap.size 4 (.int .i64 ((n : Int) + 1))) (fun b e e2 => by have := HOc.out.base b e; have := Option.some.inj e2; omega))
    change Code.wp _ _ _ _ (wc.setCell ⟨w.heap.size, 4, none⟩ (.int .i64 ((n : Int) + 1)))
    generalize wc.setCell ⟨w.heap.size, 4, none⟩ (.int .i64 ((n : Int) + 1)) = w2 at *
    clear hd0 hd1 hd2 hd3 hd4 hd5 hd6 hd7 hd8 hf0 hf1 hf2 hf3 hf4 hf5 hf6 hf7 hf8 HXc HZc HBc HOc
    obtain ⟨hd0, hd1, hd2, hd3, hd4, hd5, hd6, hd7, hd8⟩ := qz13 HX2.out
    obtain ⟨hz0, hz1, hz2, hz3, hz4, hz5, hz6, hz7, hz8⟩ := qz13 HZ2.out
    obtain ⟨hf0, hf1, hf2, hf3, hf4, hf5, hf6, hf7, hf8⟩ := qz17 HZ2.out
    have hgr := fun (W : World) (v0 v1 v2 v3 v4 v5 v6 v7 v8 : Value) => putB9_grown W (w.heap.size + 2) v0 v1 v2 v3 v4 v5 v6 v7 v8
    have HGR := qza.mk hgr
    clear hgr
    by_cases hle : (st.length : Int) ≤ (n : Int) + 1
    · have HTC := qza.mk (to_calls ta ti (some ⟨pb, po, none⟩) c st ph ((n : Int) + 1) fa og cm Ad cd sw2 1 false w2 (Kd.C_below HR.out HB2.out) hc (own_C20 HO2.out) HCD.out)
      rw [if_pos hle] at HV
      have hor : (fa || false) = fa := by simp
      unfold dagg toV at HTC
      unfold toV at HV
      dsimp only at HTC HV
      rw [hor] at HTC HV
      clear hor
      go_wp2_with (go_at_call 33; refine (HTC.out).mono ?_; rintro e w4 ⟨rfl, hb4⟩; have HZ4 := qza.mk (qz16 hb4 HZ2.out); have HP4 := qza.mk (HB2.out.trans (hb4.mono HB2.out.size)); have HO4 := qza.mk (HO2.out.below hb4); clear hb4 hd0 hd1 hd2 hd3 hd4 hd5 hd6 hd7 hd8 hz0 hz1 hz2 hz3 hz4 hz5 hz6 hz7 hz8 hf0 hf1 hf2 hf3 hf4 hf5 hf6 hf7 hf8; obtain ⟨hz0, hz1, hz2, hz3, hz4, hz5, hz6, hz7, hz8⟩ := qz13 HZ4.out; obtain ⟨hf0, hf1, hf2, hf3, hf4, hf5, hf6, hf7, hf8⟩ := qz17 HZ4.out)
      refine ret9 (g := w.heap.size + 2) rfl rfl rfl (qz34 HZ4.out _ _ _ _ _ _ _ _ _) ?_
      unfold DPost
      rw [HV.out]
      exact ⟨_, rfl, Or.inr (Own.lower (HO4.out.kept (HGR.out _ _ _ _ _ _ _ _ _ _) (fun b e e2 => by have := HO4.out.base b e; have := Option.some.inj e2; omega)) (by omega)), qz23 HP4.out (by omega) _ _ _ _ _ _ _ _ _⟩
    · rw [if_neg hle] at HV
      go_wp2
      refine ret9 (g := w.heap.size + 2) rfl rfl rfl (qz34 HZ2.out _ _ _ _ _ _ _ _ _) ?_
      unfold DPost
      rw [HV.out]
      exact ⟨_, rfl, Or.inr (Own.lower (HO2.out.kept (HGR.out _ _ _ _ _ _ _ _ _ _) (fun b e e2 => by have := HO2.out.base b e; have := Option.some.inj e2; omega)) (by omega)), qz23 HB2.out (by omega) _ _ _ _ _ _ _ _ _⟩
end Go.Proofs.Ytkennobdoldlkaa.PAll
end
