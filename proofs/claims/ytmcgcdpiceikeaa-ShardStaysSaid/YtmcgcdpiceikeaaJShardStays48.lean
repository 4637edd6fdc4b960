/- Joined texts of the claim ShardStays (part 48): contracts of functions and plain laws. -/
import Derived.Deep.CutRange
import Derived.Deep.DeepCutAuto
import Derived.Deep.RegionHeld3
import Derived.Test.YtmcgcdpiceikeaaJShardStays28
import Derived.Test.YtmcgcdpiceikeaaJShardStays45
import Derived.Test.YtmcgcdpiceikeaaJShardStays46
import Derived.Test.YtmcgcdpiceikeaaJShardStays47
set_option linter.unusedVariables false
set_option linter.unusedSimpArgs false
section
namespace Go.Proofs.Ytmcgcdpiceikeaa.PAll
open Go.RowKit Go.Proofs.YtmcgcdpiceikeaaW.PrintWords Go.Proofs.YtmcgcdpiceikeaaW.PrintMore Go.Proofs.Ytmcgcdpiceikeaa
theorem right11_true (A : Option Addr) (c : Nat) (l : List S50) (w : World) (hr : Kd.C k50 w A l.length l) (hc : l.length ≤ c) (h : rightR l = true) :
    Calls Try.prog 31 #[.slice A l.length c] w fun e w' => e = .returned (.bool true) ∧ Below w.heap.size w w' := by
  have hs : ∀ x ∈ l, x.f0.size ≤ 9223372036854775806 := fun x hx => by
    obtain ⟨p, q, _⟩ := ((rightR_iff _).1 h).2.1 x hx
    omega
  have e := rRight_ev l hs
  rw [h] at e
  obtain ⟨k, hk⟩ := e.rounds
  refine (ferruleref11_Right.calls k A c l true w hr hc hk).mono ?_
  rintro e w' ⟨rfl, hd⟩
  exact ⟨rfl, by first | exact hd | exact hd.below⟩
def B5 (w W : World) (b : Nat) (a0 a1 a2 a3 a4 : Value) : Prop := W.cell? ⟨b, 0, none⟩ = some a0 ∧ W.cell? ⟨b, 1, none⟩ = some a1 ∧ W.cell? ⟨b, 2, none⟩ = some a2 ∧ W.cell? ⟨b, 3, none⟩ = some a3 ∧ W.cell? ⟨b, 4, none⟩ = some a4 ∧ Below w.heap.size w W
theorem B5.keep {w W w' : World} {b : Nat} {a0 a1 a2 a3 a4 : Value} (h : B5 w W b a0 a1 a2 a3 a4) (hb : Below W.heap.size W w') : B5 w w' b a0 a1 a2 a3 a4 := by
  obtain ⟨h1, h2, h3, h4, h5, h6⟩ := h
  exact ⟨(hb.cell (World.block_lt_of_cell? _ _ h1)).trans h1, (hb.cell (World.block_lt_of_cell? _ _ h2)).trans h2, (hb.cell (World.block_lt_of_cell? _ _ h3)).trans h3, (hb.cell (World.block_lt_of_cell? _ _ h4)).trans h4, (hb.cell (World.block_lt_of_cell? _ _ h5)).trans h5, h6.trans (hb.mono h6.size)⟩
def B52 (w W : World) (b : Nat) (a0 a1 a2 a3 a4 : Value) (c : Nat) (o : Nat) (d0 d1 : Value) : Prop := W.cell? ⟨b, 0, none⟩ = some a0 ∧ W.cell? ⟨b, 1, none⟩ = some a1 ∧ W.cell? ⟨b, 2, none⟩ = some a2 ∧ W.cell? ⟨b, 3, none⟩ = some a3 ∧ W.cell? ⟨b, 4, none⟩ = some a4 ∧ W.cell? ⟨c, o, none⟩ = some d0 ∧ W.cell? ⟨c, o + 1, none⟩ = some d1 ∧ Below w.heap.size w W
theorem B52.keep {w W w' : World} {b : Nat} {a0 a1 a2 a3 a4 : Value} {c o : Nat} {d0 d1 : Value} (h : B52 w W b a0 a1 a2 a3 a4 c o d0 d1) (hb : Below W.heap.size W w') : B52 w w' b a0 a1 a2 a3 a4 c o d0 d1 := by
  obtain ⟨h1, h2, h3, h4, h5, h6, h7, h8⟩ := h
  obtain ⟨g1, g2, g3, g4, g5, g8⟩ := B5.keep ⟨h1, h2, h3, h4, h5, h8⟩ hb
  exact ⟨g1, g2, g3, g4, g5, (hb.cell (World.block_lt_of_cell? _ _ h6)).trans h6, (hb.cell (World.block_lt_of_cell? _ _ h7)).trans h7, g8⟩
theorem findI_nodup {α β : Type} [Inhabited α] {f : α → β} {p : α → Bool} {l : List α} {i : Nat} (hn : (l.map f).Nodup) (hi : i < l.length) (hp : p l[i]! = true) (hq : ∀ x ∈ l, p x = true → f x = f l[i]!) : findI p l = (i : Int) := by
  refine findI_hit p l i hi hp fun j hj => ?_
  cases h : p l[j]! with
  | false => rfl
  | true =>
    exfalso
    have hj' : j < l.length := by omega
    have e := hq _ (by rw [getElem!_pos l j hj']; exact List.getElem_mem _) h
    have := (List.getElem_inj (h₀ := by simpa using hj') (h₁ := by simpa using hi) hn).1 (by
      rw [List.getElem_map, List.getElem_map]
      rw [getElem!_pos l j hj', getElem!_pos l i hi] at e
      exact e)
    omega
def K5 (w W : World) (p0 p1 p2 p3 p4 : Addr) (v0 v1 v2 v3 v4 : Value) : Prop := W.cell? p0 = some v0 ∧ W.cell? p1 = some v1 ∧ W.cell? p2 = some v2 ∧ W.cell? p3 = some v3 ∧ W.cell? p4 = some v4 ∧ Below w.heap.size w W
theorem K5.keep {w W w' : World} {p0 p1 p2 p3 p4 : Addr} {v0 v1 v2 v3 v4 : Value} (h : K5 w W p0 p1 p2 p3 p4 v0 v1 v2 v3 v4) (hb : Below W.heap.size W w') : K5 w w' p0 p1 p2 p3 p4 v0 v1 v2 v3 v4 := by
  obtain ⟨h1, h2, h3, h4, h5, h6⟩ := h
  exact ⟨(hb.cell (World.block_lt_of_cell? _ _ h1)).trans h1, (hb.cell (World.block_lt_of_cell? _ _ h2)).trans h2, (hb.cell (World.block_lt_of_cell? _ _ h3)).trans h3, (hb.cell (World.block_lt_of_cell? _ _ h4)).trans h4, (hb.cell (World.block_lt_of_cell? _ _ h5)).trans h5, h6.trans (hb.mono h6.size)⟩
def K7 (w W : World) (p0 p1 p2 p3 p4 p5 p6 : Addr) (v0 v1 v2 v3 v4 v5 v6 : Value) : Prop := W.cell? p0 = some v0 ∧ W.cell? p1 = some v1 ∧ W.cell? p2 = some v2 ∧ W.cell? p3 = some v3 ∧ W.cell? p4 = some v4 ∧ W.cell? p5 = some v5 ∧ W.cell? p6 = some v6 ∧ Below w.heap.size w W
theorem K7.keep {w W w' : World} {p0 p1 p2 p3 p4 p5 p6 : Addr} {v0 v1 v2 v3 v4 v5 v6 : Value} (h : K7 w W p0 p1 p2 p3 p4 p5 p6 v0 v1 v2 v3 v4 v5 v6) (hb : Below W.heap.size W w') : K7 w w' p0 p1 p2 p3 p4 p5 p6 v0 v1 v2 v3 v4 v5 v6 := by
  obtain ⟨h1, h2, h3, h4, h5, h6, h7, h8⟩ := h
  exact ⟨(hb.cell (World.block_lt_of_cell? _ _ h1)).trans h1, (hb.cell (World.block_lt_of_cell? _ _ h2)).trans h2, (hb.cell (World.block_lt_of_cell? _ _ h3)).trans h3, (hb.cell (World.block_lt_of_cell? _ _ h4)).trans h4, (hb.cell (World.block_lt_of_cell? _ _ h5)).trans h5, (hb.cell (World.block_lt_of_cell? _ _ h6)).trans h6, (hb.cell (World.block_lt_of_cell? _ _ h7)).trans h7, h8.trans (hb.mono h8.size)⟩
theorem has12r_calls (A : Option Addr) (c : Nat) (l : List S75) (t : S30) (key : ByteArray) (wr : Bool) (w : World) (hr : Kd.C k75 w A l.length l) (hc : l.length ≤ c) : Calls Try.prog 18 #[.slice A l.length c, .agg #[.int .u64 t.f0, .int .u64 t.f1], .string key, .bool wr] w fun e w' => e = .returned (.bool (hasV l t key wr)) ∧ Below w.heap.size w w' := by
  obtain ⟨k, hk⟩ := (rHas_ev l t key wr hr.2.1).rounds
  refine (ferruleref12_Has.calls k A c l t.f0 t.f1 key wr _ w hr hc hk).mono ?_
  rintro e w' ⟨rfl, hd⟩
  exact ⟨rfl, by first | exact hd | exact hd.below⟩
set_option maxHeartbeats 4000000 in
set_option maxRecDepth 100000 in
theorem right13_calls (A0 : Option Addr) (c0 : Nat) (A1 : Option Addr) (c1 : Nat) (A2 : Option Addr) (c2 : Nat) (A3 : Option Addr) (c3 : Nat) (s : Shd) (w : World) (hI : InvS s)
    (a0 : Kd.C k50 w A0 s.rows.length s.rows) (a0' : s.rows.length ≤ c0) (a1 : Kd.C k75 w A1 s.holds.length s.holds) (a1' : s.holds.length ≤ c1) (a2 : Kd.C k48 w A2 s.opens.length s.opens) (a2' : s.opens.length ≤ c2) (a3 : Kd.C k68 w A3 s.dones.length s.dones) (a3' : s.dones.length ≤ c3) :
    Calls Try.prog 14 #[.agg #[.slice A0 s.rows.length c0, .slice A1 s.holds.length c1, .slice A2 s.opens.length c2, .slice A3 s.dones.length c3, .int .u64 s.ver]] w fun e w' => e = .returned (.bool true) ∧ Below w.heap.size w w' := by
  have HI := qza.mk hI
  obtain ⟨rs, hs, os, ds, ver⟩ := s
  dsimp only at *
  have hsum : (os.length : Int) + (ds.length : Int) ≤ 64 := by have := hI.n; dsimp only at this; omega
  have hky : (keysV rs os [] : Int) ≤ 32 := by have := hI.keys; dsimp only at this; omega
  have hrl := ((rightR_iff _).1 hI.rows).1
  have hoc := openCount_bound (fun x hx => (hI.wf x hx).2.2.1)
  have hn := hI.n
  dsimp only at hrl hoc hn
  have hxa := heap_alloc_new w (.cells #[.slice A0 rs.length c0, .slice A1 hs.length c1, .slice A2 os.length c2, .slice A3 ds.length c3, .int .u64 ver] 28)
  have HB0 := qza.mk ((Below.refl w.heap.size w).alloc (Nat.le_refl _) (.cells #[.slice A0 rs.length c0, .slice A1 hs.length c1, .slice A2 os.length c2, .slice A3 ds.length c3, .int .u64 ver] 28))
  have H11 := qza.mk (fun (W : World) (h : Below w.heap.size w W) => right11_true A0 c0 rs W (Kd.C_below a0 h) a0' hI.rows)
  have H12 := qza.mk (fun (W : World) (h : Below w.heap.size w W) => right12_calls A1 c1 hs W (Kd.C_below a1 h) a1' hI.locks)
  have HKY := qza.mk (fun (W : World) (h : Below w.heap.size w W) => keys13_calls A0 c0 (.slice A1 hs.length c1) A2 c2 (.slice A3 ds.length c3) rs os ver W (Kd.C_below a0 h) (Kd.C_below a2 h) (by omega))
  have HKN := qza.mk (fun (W : World) (h : Below w.heap.size w W) (t : S30) => known13_calls (.slice A0 rs.length c0) (.slice A1 hs.length c1) (.slice A3 ds.length c3) A2 c2 os ver t W (Kd.C_below a2 h))
  have HOV := qza.mk (fun (W : World) (h : Below w.heap.size w W) (t : S30) => over13_calls (.slice A0 rs.length c0) (.slice A1 hs.length c1) (.slice A2 os.length c2) A3 c3 ds ver t W (Kd.C_below a3 h))
  have HA1 := qza.mk a1
  have HA2 := qza.mk a2
  have HA3 := qza.mk a3
  clear a0 a0' a1 a2 a2' a3 a3' hI
  go_enter Try.func14, Try.ntmps14
  have HXA := qza.mk (fun (W : World) (h : Below (w.alloc (.cells #[.slice A0 rs.length c0, .slice A1 hs.length c1, .slice A2 os.length c2, .slice A3 ds.length c3, .int .u64 ver] 28)).heap.size (w.alloc (.cells #[.slice A0 rs.length c0, .slice A1 hs.length c1, .slice A2 os.length c2, .slice A3 ds.length c3, .int .u64 ver] 28)) W) => stay h hxa (Array.getElem?_eq_some_iff.1 hxa).1)
  clear hxa
  have hsz : ¬ (64 : Int) < (os.length : Int) + (ds.length : Int) := by omega
  have hkz : ¬ (32 : Int) < (keysV rs os [] : Int) := by omega
  go_wp2_with (first
    | (go_at_call 31; refine (H11.out _ HB0.out).mono ?_; rintro e w3 ⟨rfl, hb3⟩; obtain ⟨ha0, ha1, ha2, ha3, ha4⟩ := qz4 (HXA.out _ hb3); have HB3 := qza.mk hb3; clear hb3)
    | (go_at_call 32; refine (H12.out _ (HB0.out.trans (HB3.out.mono HB0.out.size))).mono ?_; rintro e w4 ⟨rfl, hb4'⟩; have hb4 := HB3.out.trans (hb4'.mono HB3.out.size); clear ha0 ha1 ha2 ha3 ha4; obtain ⟨ha0, ha1, ha2, ha3, ha4⟩ := qz4 (HXA.out _ hb4); have HB4 := qza.mk hb4; clear hb4 hb4')
    | (go_at_call 33; refine (HKY.out _ (HB0.out.trans (HB4.out.mono HB0.out.size))).mono ?_; rintro e w5 ⟨rfl, hb5'⟩; have hb5 := HB4.out.trans (hb5'.mono HB4.out.size); clear ha0 ha1 ha2 ha3 ha4; obtain ⟨ha0, ha1, ha2, ha3, ha4⟩ := qz4 (HXA.out _ hb5); have HB5 := qza.mk hb5; clear hb5 hb5'))
  clear ha0 ha1 ha2 ha3 ha4
  generalize hW1 : (w.alloc (.cells #[.slice A0 rs.length c0, .slice A1 hs.length c1, .slice A2 os.length c2, .slice A3 ds.length c3, .int .u64 ver] 28)) = W1 at *
  go_loopg [5] os.length (fun gg s5 wv => ∃ kk : Nat, kk ≤ os.length ∧ os.length - kk ≤ gg ∧ s5 = .int .i64 kk ∧ qza (Below W1.heap.size W1 wv))
  case atStart => exact ⟨0, Nat.zero_le _, by omega, rfl, HB5⟩
  case round =>
    obtain ⟨kk, hkk, hgk, rfl, HBv⟩ := hrel
    obtain ⟨ha0, ha1, ha2, ha3, ha4⟩ := qz4 (HXA.out _ HBv.out)
    have HBw := qza.mk (HB0.out.trans (HBv.out.mono HB0.out.size))
    by_cases hlt : kk < os.length
    · have hltz : (kk : Int) < (os.length : Int) := by omega
      have hkz : (0 : Int) ≤ (kk : Int) := by omega
      obtain ⟨ob, oo, rfl, P, pc, hpc, hpr, ho0, ho1, ho2, ho3, ho4⟩ := qz53 (Kd.C_below HA2.out HBw.out) kk hlt
      have hmem := bang_mem hlt
      have hfk : findI (qz16 (os[kk]!).f0) os = (kk : Int) := findI_nodup (f := fun x => x.f0) HI.out.uniq hlt (same_iff.2 rfl) (fun x _ hx => same_iff.1 (show qz34 x.f0 (os[kk]!).f0 = true from hx))
      have hfo : findI (qz25 (os[kk]!).f0) ds = -1 := findI_neg _ _ (fun h => by
        obtain ⟨d, hd, he⟩ := over_iff.1 h
        exact HI.out.apart _ hmem d hd he.symm)
      obtain ⟨hw1, hw2, hw3, hw4⟩ := HI.out.wf _ hmem
      have HKK := qza.mk (fun (W : World) (h : Below w.heap.size w W) => HKN.out W h (os[kk]!).f0)
      rw [hfk] at HKK
      have HOO := qza.mk (fun (W : World) (h : Below w.heap.size w W) => HOV.out W h (os[kk]!).f0)
      rw [hfo] at HOO
      have HW4 := qza.mk hw4
      have HHS := qza.mk (fun (W : World) (h : Below w.heap.size w W) (p : S54) => has12r_calls A1 c1 hs (os[kk]!).f0 p.f0 true W (Kd.C_below HA1.out h) a1')
      clear hfk hfo hmem hw4
      generalize os[kk]! = x at *
      obtain ⟨⟨ya, yi⟩, xf, xw, xp⟩ := x
      dsimp only at *
      have hpl : xp.length ≤ 9223372036854775807 := hpr.2.1
      have HPR := qza.mk hpr
      clear hpr
      go_upto_region 9 with (fail)
      have HX9 := qza.mk (heap_alloc_new wr (.cells #[.int .u64 ya, .int .u64 yi, .bool xf, .bool xw, .slice P xp.length pc] 48))
      have HB9 := qza.mk ((Below.refl wr.heap.size wr).alloc (Nat.le_refl _) (.cells #[.int .u64 ya, .int .u64 yi, .bool xf, .bool xw, .slice P xp.length pc] 48))
      have HBv8 := qza.mk (HBv.out.trans (HB9.out.mono HBv.out.size))
      have HBw8 := qza.mk (HB0.out.trans (HBv8.out.mono HB0.out.size))
      have HPR8 := qza.mk (Kd.C_below HPR.out HB9.out)
      have HFT := qza.mk (fun (W : World) (h : Below (wr.alloc (.cells #[.int .u64 ya, .int .u64 yi, .bool xf, .bool xw, .slice P xp.length pc] 48)).heap.size (wr.alloc (.cells #[.int .u64 ya, .int .u64 yi, .bool xf, .bool xw, .slice P xp.length pc] 48)) W) => ferruleref11_Fits.calls P pc xp 0 W (Kd.C_below HPR8.out h) hpc (by show some (fitsV xp) = some 0; rw [hw3]))
      clear HPR HB9 HBv HBw ha0 ha1 ha2 ha3 ha4 ho0 ho1 ho2 ho3 ho4 hw3
      generalize wr.alloc (.cells #[.int .u64 ya, .int .u64 yi, .bool xf, .bool xw, .slice P xp.length pc] 48) = w8 at *
      generalize wr.heap.size = xb at *
      clear wr
      go_cut [88] from 51 to 88 (fun v88 wx => v88 = .bool false ∧ qza (Below w8.heap.size w8 wx))
      case first =>
        cases xf with
        | true =>
          have e := hw1 rfl
          subst e
          clear hw1 hw2
          obtain ⟨ha0, ha1, ha2, ha3, ha4⟩ := qz4 (HXA.out _ HBv8.out)
          obtain ⟨hx0, hx1, hx2, hx3, hx4⟩ := qz4 HX9.out
          go_wp2_with (first
            | (go_at_call 34; with_reducible refine (HKK.out _ HBw8.out).mono ?_; rintro e w9 ⟨rfl, hb9⟩; clear ha0 ha1 ha2 ha3 ha4 hx0 hx1 hx2 hx3 hx4; obtain ⟨ha0, ha1, ha2, ha3, ha4⟩ := qz4 (HXA.out _ (HBv8.out.trans (hb9.mono HBv8.out.size))); obtain ⟨hx0, hx1, hx2, hx3, hx4⟩ := qz4 (stay hb9 HX9.out (Array.getElem?_eq_some_iff.1 HX9.out).1); have HB9a := qza.mk hb9; clear hb9)
            | (go_at_call 35; with_reducible refine (HOO.out _ (HBw8.out.trans (HB9a.out.mono HBw8.out.size))).mono ?_; rintro e w10 ⟨rfl, hb10'⟩; have hb10 := HB9a.out.trans (hb10'.mono HB9a.out.size); clear ha0 ha1 ha2 ha3 ha4 hx0 hx1 hx2 hx3 hx4; obtain ⟨ha0, ha1, ha2, ha3, ha4⟩ := qz4 (HXA.out _ (HBv8.out.trans (hb10.mono HBv8.out.size))); obtain ⟨hx0, hx1, hx2, hx3, hx4⟩ := qz4 (stay hb10 HX9.out (Array.getElem?_eq_some_iff.1 HX9.out).1); have HB10a := qza.mk hb10; clear hb10 hb10')
            | (go_at_call 36; (first | with_reducible refine (HFT.out _ HB10a.out).mono ?_ | refine (HFT.out _ HB10a.out).mono ?_); rintro e w11 ⟨rfl, hb11'⟩; have hb11 := HB10a.out.trans (hb11'.mono HB10a.out.size); have HB11a := qza.mk hb11; clear hb11 hb11'))
          go_meet
          exact ⟨rfl, HB11a⟩
        | false =>
          have e := hw2 rfl
          subst e
          clear hw1 hw2
          obtain ⟨ha0, ha1, ha2, ha3, ha4⟩ := qz4 (HXA.out _ HBv8.out)
          obtain ⟨hx0, hx1, hx2, hx3, hx4⟩ := qz4 HX9.out
          go_wp2_with (first
            | (go_at_call 34; with_reducible refine (HKK.out _ HBw8.out).mono ?_; rintro e w9 ⟨rfl, hb9⟩; clear ha0 ha1 ha2 ha3 ha4 hx0 hx1 hx2 hx3 hx4; obtain ⟨ha0, ha1, ha2, ha3, ha4⟩ := qz4 (HXA.out _ (HBv8.out.trans (hb9.mono HBv8.out.size))); obtain ⟨hx0, hx1, hx2, hx3, hx4⟩ := qz4 (stay hb9 HX9.out (Array.getElem?_eq_some_iff.1 HX9.out).1); have HB9a := qza.mk hb9; clear hb9)
            | (go_at_call 35; with_reducible refine (HOO.out _ (HBw8.out.trans (HB9a.out.mono HBw8.out.size))).mono ?_; rintro e w10 ⟨rfl, hb10'⟩; have hb10 := HB9a.out.trans (hb10'.mono HB9a.out.size); clear ha0 ha1 ha2 ha3 ha4 hx0 hx1 hx2 hx3 hx4; obtain ⟨ha0, ha1, ha2, ha3, ha4⟩ := qz4 (HXA.out _ (HBv8.out.trans (hb10.mono HBv8.out.size))); obtain ⟨hx0, hx1, hx2, hx3, hx4⟩ := qz4 (stay hb10 HX9.out (Array.getElem?_eq_some_iff.1 HX9.out).1); have HB10a := qza.mk hb10; clear hb10 hb10')
            | (go_at_call 36; (first | with_reducible refine (HFT.out _ HB10a.out).mono ?_ | refine (HFT.out _ HB10a.out).mono ?_); rintro e w11 ⟨rfl, hb11'⟩; have hb11 := HB10a.out.trans (hb11'.mono HB10a.out.size); have HB11a := qza.mk hb11; clear hb11 hb11'))
          go_meet
          exact ⟨rfl, HB11a⟩
      case rest =>
        obtain ⟨rfl, HBc⟩ := hcut
        clear HKK HOO HFT hw1 hw2
        go_wp2
        go_loopg [7] xp.length (fun gg s7 wv => ∃ jj : Nat, jj ≤ xp.length ∧ xp.length - jj ≤ gg ∧ s7 = .int .i64 jj ∧ qza (Below w8.heap.size w8 wv))
        case atStart => exact ⟨0, Nat.zero_le _, by omega, rfl, HBc⟩
        case round =>
          clear HBc
          obtain ⟨jj, hjj, hgj, rfl, HBx⟩ := hrel
          have hbx := HBx.out
          have HBy := qza.mk (HBw8.out.trans (hbx.mono HBw8.out.size))
          obtain ⟨ha0, ha1, ha2, ha3, ha4⟩ := qz4 (HXA.out _ (HBv8.out.trans (hbx.mono HBv8.out.size)))
          obtain ⟨hx0, hx1, hx2, hx3, hx4⟩ := qz4 (stay hbx HX9.out (Array.getElem?_eq_some_iff.1 HX9.out).1)
          clear ha0 ha2 ha3 ha4 hx2 hx3
          by_cases hlj : jj < xp.length
          · have hljz : (jj : Int) < (xp.length : Int) := by omega
            have hjz : (0 : Int) ≤ (jj : Int) := by omega
            obtain ⟨pb, po, rfl, hp0, hp1, hp2⟩ := putCells (Kd.C_below HPR8.out hbx) jj hlj
            have hhv := HW4.out _ (bang_mem hlj)
            have HHA := qza.mk (fun (W : World) (h : Below w.heap.size w W) => HHS.out W h xp[jj]!)
            rw [hhv] at HHA
            generalize (xp[jj]!).f0 = pk at *
            clear hhv hbx hp1 hp2
            have hS0 : K5 wr wr ⟨w.heap.size, 1, none⟩ ⟨xb, 0, none⟩ ⟨xb, 1, none⟩ ⟨xb, 4, none⟩ ⟨pb, po + jj * 3, none⟩ (.slice A1 hs.length c1) (.int .u64 ya) (.int .u64 yi) (.slice (some ⟨pb, po, none⟩) xp.length pc) (.string pk) := ⟨ha1, hx0, hx1, hx4, hp0, Below.refl _ _⟩
            unfold K5 at hS0
            go_wp2
            go_region_held3 (fun w' => w'.cell? ⟨w.heap.size, 1, none⟩ = some (.slice A1 hs.length c1) ∧ w'.cell? ⟨xb, 0, none⟩ = some (.int .u64 ya) ∧ w'.cell? ⟨xb, 1, none⟩ = some (.int .u64 yi) ∧ w'.cell? ⟨xb, 4, none⟩ = some (.slice (some ⟨pb, po, none⟩) xp.length pc) ∧ w'.cell? ⟨pb, po + jj * 3, none⟩ = some (.string pk) ∧ Below wr.heap.size wr w') (first | exact K5.keep (by assumption) (by assumption) | exact K5.keep (by assumption) ((Below.refl _ _).drew)) ((go_at_call 18; with_reducible refine (HHA.out _ (HBy.out.trans ((by assumption : _ ∧ _ ∧ _ ∧ _ ∧ _ ∧ Below wr.heap.size wr _).2.2.2.2.2.mono HBy.out.size))).mono ?_; rintro e w' ⟨rfl, hb⟩))
            have hB9 := (K5.keep (K5.keep hS0 ((Below.refl _ _).drew)) hb).2.2.2.2.2
            have HB9 := qza.mk (HBx.out.trans (hB9.mono HBx.out.size))
            clear hB9 hb hS0 ha1 hx0 hx1 hx4 hp0 HBx HBy
            go_wp2
            go_roundg (xp.length - (jj + 1))
            case measure => omega
            case rel => exact ⟨jj + 1, by omega, by omega, by go_num, HB9⟩
          · have hljz : ¬ (jj : Int) < (xp.length : Int) := by omega
            clear hbx
            go_wp2
            go_roundg (os.length - (kk + 1))
            case measure => omega
            case rel => exact ⟨kk + 1, by omega, by omega, by go_num, ⟨HBv8.out.trans (HBx.out.mono HBv8.out.size)⟩⟩
    · have hltz : ¬ (kk : Int) < (os.length : Int) := by omega
      go_wp2
      go_loopg [9] ds.length (fun gg s9 wv => ∃ jj : Nat, jj ≤ ds.length ∧ ds.length - jj ≤ gg ∧ s9 = .int .i64 jj ∧ qza (Below W1.heap.size W1 wv))
      case atStart => exact ⟨0, Nat.zero_le _, by omega, rfl, HBv⟩
      case round =>
        clear ha0 ha1 ha2 ha3 ha4 HBw HBv
        obtain ⟨jj, hjj, hgj, rfl, HBv⟩ := hrel
        obtain ⟨ha0, ha1, ha2, ha3, ha4⟩ := qz4 (HXA.out _ HBv.out)
        have HBw := qza.mk (HB0.out.trans (HBv.out.mono HB0.out.size))
        by_cases hlt2 : jj < ds.length
        · have hltz2 : (jj : Int) < (ds.length : Int) := by omega
          have hjz : (0 : Int) ≤ (jj : Int) := by omega
          obtain ⟨xb, xo, rfl, hx0, hx1, hx2⟩ := doneRow (Kd.C_below HA3.out HBw.out) jj hlt2
          have hfd : findI (qz25 (ds[jj]!).f0) ds = (jj : Int) := findI_nodup (f := fun x => x.f0) HI.out.dun hlt2 (same_iff.2 rfl) (fun x _ hx => same_iff.1 (show qz34 x.f0 (ds[jj]!).f0 = true from hx))
          have HO := qza.mk (fun (W : World) (h : Below w.heap.size w W) => HOV.out W h (ds[jj]!).f0)
          rw [hfd] at HO
          generalize (ds[jj]!).f0 = t at *
          obtain ⟨ya, yi⟩ := t
          dsimp only at *
          have hS0 : B52 wr wr w.heap.size (.slice A0 rs.length c0) (.slice A1 hs.length c1) (.slice A2 os.length c2) (.slice (some ⟨xb, xo, none⟩) ds.length c3) (.int .u64 ver) xb (xo + jj * 3) (.int .u64 ya) (.int .u64 yi) := ⟨ha0, ha1, ha2, ha3, ha4, hx0, hx1, Below.refl _ _⟩
          unfold B52 at hS0
          go_wp2
          go_region_held3 (fun w' => w'.cell? ⟨w.heap.size, 0, none⟩ = some (.slice A0 rs.length c0) ∧ w'.cell? ⟨w.heap.size, 1, none⟩ = some (.slice A1 hs.length c1) ∧ w'.cell? ⟨w.heap.size, 2, none⟩ = some (.slice A2 os.length c2) ∧ w'.cell? ⟨w.heap.size, 3, none⟩ = some (.slice (some ⟨xb, xo, none⟩) ds.length c3) ∧ w'.cell? ⟨w.heap.size, 4, none⟩ = some (.int .u64 ver) ∧ w'.cell? ⟨xb, xo + jj * 3, none⟩ = some (.int .u64 ya) ∧ w'.cell? ⟨xb, xo + jj * 3 + 1, none⟩ = some (.int .u64 yi) ∧ Below wr.heap.size wr w') (first | exact B52.keep (by assumption) (by assumption) | exact B52.keep (by assumption) ((Below.refl _ _).drew)) ((go_at_call 35; with_reducible refine (HO.out _ (HBw.out.trans ((by assumption : _ ∧ _ ∧ _ ∧ _ ∧ _ ∧ _ ∧ _ ∧ Below wr.heap.size wr _).2.2.2.2.2.2.2.mono HBw.out.size))).mono ?_; rintro e w' ⟨rfl, hb⟩))
          have hB9 := (B52.keep (B52.keep hS0 ((Below.refl _ _).drew)) hb).2.2.2.2.2.2.2
          have HB9 := qza.mk (HBv.out.trans (hB9.mono HBv.out.size))
          clear hB9 hb hS0 hfd ha0 ha1 ha2 ha3 ha4 hx0 hx1
          go_wp2
          go_roundg (ds.length - (jj + 1))
          case measure => omega
          case rel => exact ⟨jj + 1, by omega, by omega, by go_num, HB9⟩
        · have hltz2 : ¬ (jj : Int) < (ds.length : Int) := by omega
          go_wp2
          go_loopg [10] hs.length (fun gg s10 wv => ∃ ll : Nat, ll ≤ hs.length ∧ hs.length - ll ≤ gg ∧ s10 = .int .i64 ll ∧ qza (Below W1.heap.size W1 wv))
          case atStart => exact ⟨0, Nat.zero_le _, by omega, rfl, HBv⟩
          case round =>
            clear ha0 ha1 ha2 ha3 ha4 HBw HBv
            obtain ⟨ll, hll, hgl, rfl, HBv⟩ := hrel
            obtain ⟨ha0, ha1, ha2, ha3, ha4⟩ := qz4 (HXA.out _ HBv.out)
            have HBw := qza.mk (HB0.out.trans (HBv.out.mono HB0.out.size))
            by_cases hlt3 : ll < hs.length
            · have hltz3 : (ll : Int) < (hs.length : Int) := by omega
              have hlz : (0 : Int) ≤ (ll : Int) := by omega
              obtain ⟨xb, xo, rfl, hx0, hx1, hx2, hx3⟩ := holdCells (Kd.C_below HA1.out HBw.out) ll hlt3
              obtain ⟨x, hxm, hxe, hxw⟩ := HI.out.held _ (bang_mem hlt3)
              have hk0 : 0 ≤ findI (qz16 (hs[ll]!).f1) os := known_iff.2 ⟨x, hxm, hxe⟩
              obtain ⟨i, hi, hfi⟩ := qz56 _ _ hk0
              clear hk0
              have hib := findI_bang hi hfi
              have hie : (os[i]!).f0 = (hs[ll]!).f1 := same_iff.1 hib
              have hfw : (os[i]!).f2 = false := by
                rw [uniq_eq HI.out.uniq _ (bang_mem hi) _ hxm (hie.trans hxe.symm)]
                exact hxw
              have HO := qza.mk (fun (W : World) (h : Below w.heap.size w W) => HKN.out W h (hs[ll]!).f1)
              rw [hfi] at HO
              obtain ⟨ob, oo, rfl, P, pc, hpc, hpr, ho0, ho1, ho2, ho3, ho4⟩ := qz53 (Kd.C_below HA2.out HBw.out) i hi
              rw [hfw] at ho3
              clear hib hie hpc hpr ho0 ho1 ho2 ho4 hfw hxm hxe hxw hfi hx0 hx3
              have hhl : hs.length ≤ 9223372036854775807 := HA1.out.2.1
              have hiz : ¬ (i : Int) < 0 := by omega
              have hiz0 : (0 : Int) ≤ (i : Int) := by omega
              have hilz : (i : Int) < (os.length : Int) := by omega
              have hol : os.length ≤ 9223372036854775807 := HA2.out.2.1
              generalize (hs[ll]!).f1 = t at *
              obtain ⟨ya, yi⟩ := t
              dsimp only at *
              have hS0 : K7 wr wr ⟨w.heap.size, 0, none⟩ ⟨w.heap.size, 1, none⟩ ⟨w.heap.size, 2, none⟩ ⟨w.heap.size, 3, none⟩ ⟨w.heap.size, 4, none⟩ ⟨xb, xo + ll * 4 + 1, none⟩ ⟨xb, xo + ll * 4 + 2, none⟩ (.slice A0 rs.length c0) (.slice (some ⟨xb, xo, none⟩) hs.length c1) (.slice (some ⟨ob, oo, none⟩) os.length c2) (.slice A3 ds.length c3) (.int .u64 ver) (.int .u64 ya) (.int .u64 yi) := ⟨ha0, ha1, ha2, ha3, ha4, hx1, hx2, Below.refl _ _⟩
              unfold K7 at hS0
              have HO3 := qza.mk ho3
              clear ho3
              go_wp2
              go_region_held3 (fun w' => w'.cell? ⟨w.heap.size, 0, none⟩ = some (.slice A0 rs.length c0) ∧ w'.cell? ⟨w.heap.size, 1, none⟩ = some (.slice (some ⟨xb, xo, none⟩) hs.length c1) ∧ w'.cell? ⟨w.heap.size, 2, none⟩ = some (.slice (some ⟨ob, oo, none⟩) os.length c2) ∧ w'.cell? ⟨w.heap.size, 3, none⟩ = some (.slice A3 ds.length c3) ∧ w'.cell? ⟨w.heap.size, 4, none⟩ = some (.int .u64 ver) ∧ w'.cell? ⟨xb, xo + ll * 4 + 1, none⟩ = some (.int .u64 ya) ∧ w'.cell? ⟨xb, xo + ll * 4 + 2, none⟩ = some (.int .u64 yi) ∧ Below wr.heap.size wr w') (first | exact K7.keep (by assumption) (by assumption) | exact K7.keep (by assumption) ((Below.refl _ _).drew)) ((go_at_call 34; with_reducible refine (HO.out _ (HBw.out.trans ((by assumption : _ ∧ _ ∧ _ ∧ _ ∧ _ ∧ _ ∧ _ ∧ Below wr.heap.size wr _).2.2.2.2.2.2.2.mono HBw.out.size))).mono ?_; rintro e w' ⟨rfl, hb⟩))
              have hK9 := K7.keep (K7.keep hS0 ((Below.refl _ _).drew)) hb
              have hB9 := hK9.2.2.2.2.2.2.2
              have ho3 := (hB9.cell (World.block_lt_of_cell? _ _ HO3.out)).trans HO3.out
              have HB9 := qza.mk (HBv.out.trans (hB9.mono HBv.out.size))
              clear hS0 ha0 ha1 ha2 ha3 ha4 hx1 hx2 hb
              obtain ⟨ha0, ha1, ha2, ha3, ha4, hx1, hx2, _⟩ := hK9
              clear hB9 ha0 ha1 ha3 ha4 hx1 hx2
              go_wp2
              go_roundg (hs.length - (ll + 1))
              case measure => omega
              case rel => exact ⟨ll + 1, by omega, by omega, by go_num, HB9⟩
            · have hltz3 : ¬ (ll : Int) < (hs.length : Int) := by omega
              go_wp2
              go_ret
              exact ⟨rfl, HBw.out⟩
end Go.Proofs.Ytmcgcdpiceikeaa.PAll
end
