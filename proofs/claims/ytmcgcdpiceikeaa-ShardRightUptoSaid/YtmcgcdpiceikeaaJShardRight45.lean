/- Joined texts of the claim ShardRight (part 45): contracts of functions and plain laws. -/
import Derived.Deep.CutRange
import Derived.Deep.DeepCutAuto
import Derived.Deep.RegionHeld3
import Derived.Test.YtmcgcdpiceikeaaJShardRight43
import Derived.Test.YtmcgcdpiceikeaaJShardRight44
section
/- ferruleref13.Right, whatever shard there is. -/
namespace Go.Proofs.Ytmcgcdpiceikeaa.PAll
open Go.RowKit Go.Proofs.YtmcgcdpiceikeaaW.PrintWords Go.Proofs.YtmcgcdpiceikeaaW.PrintMore Go.Proofs.Ytmcgcdpiceikeaa
set_option linter.unusedVariables false
set_option linter.unusedSimpArgs false
theorem right11_any (A : Option Addr) (c : Nat) (l : List S50) (w : World) (hr : Kd.C k50 w A l.length l) (hc : l.length ≤ c) (hs : ∀ x ∈ l, x.f0.size ≤ 9223372036854775806) :
    Calls Try.prog 31 #[.slice A l.length c] w fun e w' => e = .returned (.bool (rightR l)) ∧ Below w.heap.size w w' := by
  obtain ⟨k, hk⟩ := (rRight_ev l hs).rounds
  refine (ferruleref11_Right.calls k A c l _ w hr hc hk).mono ?_
  rintro e w' ⟨rfl, hd⟩
  exact ⟨rfl, by first | exact hd | exact hd.below⟩
def openBad (os : List S48) (ds : List S68) (i : Nat) : Bool := decide (findI (isOpenT (os[i]!).f0) os ≠ (i : Int)) || (decide (0 ≤ findI (isDoneT (os[i]!).f0) ds) || (((os[i]!).f1 && (os[i]!).f2) || ((!(os[i]!).f1 && decide (0 < (os[i]!).f3.length)) || decide (fitsV (os[i]!).f3 ≠ 0))))
def putsBad (hs : List S75) (os : List S48) (i : Nat) : Bool := (os[i]!).f3.any (fun p => !hasV hs (os[i]!).f0 p.f0 true)
def doneBad (ds : List S68) (i : Nat) : Bool := decide (findI (isDoneT (ds[i]!).f0) ds ≠ (i : Int))
def holdBad (hs : List S75) (os : List S48) (i : Nat) : Bool := decide (findI (isOpenT (hs[i]!).f1) os < 0) || (os[(findI (isOpenT (hs[i]!).f1) os).toNat]!).f2
def rest13V (hs : List S75) (os : List S48) (ds : List S68) : Bool := (List.range os.length).all (fun i => !openBad os ds i && !putsBad hs os i) && ((List.range ds.length).all (fun i => !doneBad ds i) && (List.range hs.length).all (fun i => !holdBad hs os i))
/-- Which shards are right. -/
def right13V (rs : List S50) (hs : List S75) (os : List S48) (ds : List S68) : Bool := rightR rs && rl12V hs && decide (os.length + ds.length ≤ 64) && decide (keysV rs os [] ≤ 32) && rest13V hs os ds
theorem range_no {n i : Nat} {p : Nat → Bool} (hi : i < n) (h : p i = false) : (List.range n).all p = false := by
  cases hv : (List.range n).all p with
  | false => rfl
  | true => rw [List.all_eq_true.1 hv i (List.mem_range.2 hi)] at h; cases h
theorem range_yes {n : Nat} {p : Nat → Bool} (h : ∀ i, i < n → p i = true) : (List.range n).all p = true := List.all_eq_true.2 fun i hi => h i (List.mem_range.1 hi)
theorem r13_rest {rs : List S50} {hs : List S75} {os : List S48} {ds : List S68} (h : rest13V hs os ds = false) : right13V rs hs os ds = false := by unfold right13V; rw [h, Bool.and_false]
theorem r13_open {rs : List S50} {hs : List S75} {os : List S48} {ds : List S68} {i : Nat} (hi : i < os.length) (h : openBad os ds i = true ∨ putsBad hs os i = true) : right13V rs hs os ds = false := r13_rest (by
  unfold rest13V
  rw [range_no hi (by rcases h with h | h <;> rw [h] <;> simp), Bool.false_and])
theorem r13_done {rs : List S50} {hs : List S75} {os : List S48} {ds : List S68} {i : Nat} (hi : i < ds.length) (h : doneBad ds i = true) : right13V rs hs os ds = false := r13_rest (by
  unfold rest13V
  rw [range_no (n := ds.length) hi (by rw [h]; rfl), Bool.false_and, Bool.and_false])
theorem r13_hold {rs : List S50} {hs : List S75} {os : List S48} {ds : List S68} {i : Nat} (hi : i < hs.length) (h : holdBad hs os i = true) : right13V rs hs os ds = false := r13_rest (by
  unfold rest13V
  rw [range_no (n := hs.length) hi (by rw [h]; rfl), Bool.and_false, Bool.and_false])
theorem r13_yes {hs : List S75} {os : List S48} {ds : List S68} (h1 : ∀ i, i < os.length → openBad os ds i = false ∧ putsBad hs os i = false) (h2 : ∀ i, i < ds.length → doneBad ds i = false) (h3 : ∀ i, i < hs.length → holdBad hs os i = false) : rest13V hs os ds = true := by
  unfold rest13V
  rw [range_yes (fun i hi => by rw [(h1 i hi).1, (h1 i hi).2]; rfl), range_yes (fun i hi => by rw [h2 i hi]; rfl), range_yes (fun i hi => by rw [h3 i hi]; rfl)]
  rfl
theorem any_no {α : Type} [Inhabited α] {p : α → Bool} {l : List α} {j : Nat} (hj : j < l.length) (h : p l[j]! = true) : l.any p = true := List.any_eq_true.2 ⟨_, bang_mem hj, h⟩
theorem any_all {α : Type} [Inhabited α] {p : α → Bool} {l : List α} (h : ∀ j, j < l.length → p l[j]! = false) : l.any p = false := by
  cases hv : l.any p with
  | false => rfl
  | true =>
    obtain ⟨x, hx, hp⟩ := List.any_eq_true.1 hv
    obtain ⟨j, hj, rfl⟩ := List.mem_iff_getElem.1 hx
    rw [← getElem!_pos l j hj, h j hj] at hp
    cases hp
set_option maxHeartbeats 8000000 in
set_option maxRecDepth 100000 in
theorem right13g_calls (A0 : Option Addr) (c0 : Nat) (A1 : Option Addr) (c1 : Nat) (A2 : Option Addr) (c2 : Nat) (A3 : Option Addr) (c3 : Nat) (rs : List S50) (hs : List S75) (os : List S48) (ds : List S68) (ver : Int) (w : World) (hrs : ∀ x ∈ rs, x.f0.size ≤ 9223372036854775806) (hkc : rs.length + openCount os < 8796093022208)
    (a0 : Kd.C k50 w A0 rs.length rs) (a0' : rs.length ≤ c0) (a1 : Kd.C k75 w A1 hs.length hs) (a1' : hs.length ≤ c1) (a2 : Kd.C k48 w A2 os.length os) (a2' : os.length ≤ c2) (a3 : Kd.C k68 w A3 ds.length ds) (a3' : ds.length ≤ c3) (hsm : os.length + ds.length ≤ 9223372036854775807) :
    Calls Try.prog 14 #[.agg #[.slice A0 rs.length c0, .slice A1 hs.length c1, .slice A2 os.length c2, .slice A3 ds.length c3, .int .u64 ver]] w fun e w' => e = .returned (.bool (right13V rs hs os ds)) ∧ Below w.heap.size w w' := by
  have hxa := heap_alloc_new w (.cells #[.slice A0 rs.length c0, .slice A1 hs.length c1, .slice A2 os.length c2, .slice A3 ds.length c3, .int .u64 ver] 28)
  have HB0 := Aside0.mk ((Below.refl w.heap.size w).alloc (Nat.le_refl _) (.cells #[.slice A0 rs.length c0, .slice A1 hs.length c1, .slice A2 os.length c2, .slice A3 ds.length c3, .int .u64 ver] 28))
  have H11 := Aside0.mk (fun (W : World) (h : Below w.heap.size w W) => right11_any A0 c0 rs W (Kd.C_below a0 h) a0' hrs)
  have H12 := Aside0.mk (fun (W : World) (h : Below w.heap.size w W) => right12g_calls A1 c1 hs W (Kd.C_below a1 h) a1')
  have HKY := Aside0.mk (fun (W : World) (h : Below w.heap.size w W) => keys13_calls A0 c0 (.slice A1 hs.length c1) A2 c2 (.slice A3 ds.length c3) rs os ver W (Kd.C_below a0 h) (Kd.C_below a2 h) (by omega))
  have HKN := Aside0.mk (fun (W : World) (h : Below w.heap.size w W) (t : S30) => known13_calls (.slice A0 rs.length c0) (.slice A1 hs.length c1) (.slice A3 ds.length c3) A2 c2 os ver t W (Kd.C_below a2 h))
  have HOV := Aside0.mk (fun (W : World) (h : Below w.heap.size w W) (t : S30) => over13_calls (.slice A0 rs.length c0) (.slice A1 hs.length c1) (.slice A2 os.length c2) A3 c3 ds ver t W (Kd.C_below a3 h))
  have HA1 := Aside0.mk a1
  have HA2 := Aside0.mk a2
  have HA3 := Aside0.mk a3
  have ho63 : os.length ≤ 9223372036854775807 := a2.2.1
  have hd63 : ds.length ≤ 9223372036854775807 := a3.2.1
  have hh63 : hs.length ≤ 9223372036854775807 := a1.2.1
  clear a0 a0' a1 a2 a2' a3 a3' hrs
  go_enter Try.func14, Try.ntmps14
  have HXA := Aside0.mk (fun (W : World) (h : Below (w.alloc (.cells #[.slice A0 rs.length c0, .slice A1 hs.length c1, .slice A2 os.length c2, .slice A3 ds.length c3, .int .u64 ver] 28)).heap.size (w.alloc (.cells #[.slice A0 rs.length c0, .slice A1 hs.length c1, .slice A2 os.length c2, .slice A3 ds.length c3, .int .u64 ver] 28)) W) => stay h hxa (Array.getElem?_eq_some_iff.1 hxa).1)
  clear hxa
  have HV : Aside0 (right13V rs hs os ds = (rightR rs && rl12V hs && decide (os.length + ds.length ≤ 64) && decide (keysV rs os [] ≤ 32) && rest13V hs os ds)) := ⟨rfl⟩
  have hosum : IntKind.i64.wrap ((os.length : Int) + (ds.length : Int)) = (os.length : Int) + (ds.length : Int) := by rw [IntKind.wrap_i64]; omega
  cases h11 : rightR rs with
  | false =>
    rw [h11] at H11
    have HNO : Aside0 (right13V rs hs os ds = false) := ⟨by rw [HV.out, h11]; rfl⟩
    clear h11 HV
    go_wp2_with (first
      | (go_at_call 31; refine (H11.out _ HB0.out).mono ?_; rintro e w3 ⟨rfl, hb3⟩; obtain ⟨ha0, ha1, ha2, ha3, ha4⟩ := cells_5 (HXA.out _ hb3); have HB3 := Aside0.mk hb3; clear hb3)
      | (go_at_call 32; refine (H12.out _ (HB0.out.trans (HB3.out.mono HB0.out.size))).mono ?_; rintro e w4 ⟨rfl, hb4'⟩; have hb4 := HB3.out.trans (hb4'.mono HB3.out.size); clear ha0 ha1 ha2 ha3 ha4; obtain ⟨ha0, ha1, ha2, ha3, ha4⟩ := cells_5 (HXA.out _ hb4); have HB4 := Aside0.mk hb4; clear hb4 hb4'))
    go_ret
    exact ⟨by rw [HNO.out]; first | done | rfl, HB0.out.trans (HB4.out.mono HB0.out.size)⟩
  | true =>
    rw [h11] at H11
    cases h12 : rl12V hs with
    | false =>
      rw [h12] at H12
      have HNO : Aside0 (right13V rs hs os ds = false) := ⟨by rw [HV.out, h11, h12]; rfl⟩
      clear h11 h12 HV
      go_wp2_with (first
        | (go_at_call 31; refine (H11.out _ HB0.out).mono ?_; rintro e w3 ⟨rfl, hb3⟩; obtain ⟨ha0, ha1, ha2, ha3, ha4⟩ := cells_5 (HXA.out _ hb3); have HB3 := Aside0.mk hb3; clear hb3)
        | (go_at_call 32; refine (H12.out _ (HB0.out.trans (HB3.out.mono HB0.out.size))).mono ?_; rintro e w4 ⟨rfl, hb4'⟩; have hb4 := HB3.out.trans (hb4'.mono HB3.out.size); clear ha0 ha1 ha2 ha3 ha4; obtain ⟨ha0, ha1, ha2, ha3, ha4⟩ := cells_5 (HXA.out _ hb4); have HB4 := Aside0.mk hb4; clear hb4 hb4'))
      go_ret
      exact ⟨by rw [HNO.out]; first | done | rfl, HB0.out.trans (HB4.out.mono HB0.out.size)⟩
    | true =>
      rw [h12] at H12
      by_cases hsum : (64 : Int) < (os.length : Int) + (ds.length : Int)
      · have HNO : Aside0 (right13V rs hs os ds = false) := ⟨by rw [HV.out, h11, h12, decide_eq_false (show ¬ os.length + ds.length ≤ 64 by omega)]; rfl⟩
        clear h11 h12 HV
        go_wp2_with (first
          | (go_at_call 31; refine (H11.out _ HB0.out).mono ?_; rintro e w3 ⟨rfl, hb3⟩; obtain ⟨ha0, ha1, ha2, ha3, ha4⟩ := cells_5 (HXA.out _ hb3); have HB3 := Aside0.mk hb3; clear hb3)
          | (go_at_call 32; refine (H12.out _ (HB0.out.trans (HB3.out.mono HB0.out.size))).mono ?_; rintro e w4 ⟨rfl, hb4'⟩; have hb4 := HB3.out.trans (hb4'.mono HB3.out.size); clear ha0 ha1 ha2 ha3 ha4; obtain ⟨ha0, ha1, ha2, ha3, ha4⟩ := cells_5 (HXA.out _ hb4); have HB4 := Aside0.mk hb4; clear hb4 hb4'))
        go_ret
        exact ⟨by rw [HNO.out]; first | done | rfl, HB0.out.trans (HB4.out.mono HB0.out.size)⟩
      · by_cases hkz : (32 : Int) < (keysV rs os [] : Int)
        · have HNO : Aside0 (right13V rs hs os ds = false) := ⟨by rw [HV.out, h11, h12, decide_eq_true (show os.length + ds.length ≤ 64 by omega), decide_eq_false (show ¬ keysV rs os [] ≤ 32 by omega)]; rfl⟩
          clear h11 h12 HV
          go_wp2_with (first
            | (go_at_call 31; refine (H11.out _ HB0.out).mono ?_; rintro e w3 ⟨rfl, hb3⟩; obtain ⟨ha0, ha1, ha2, ha3, ha4⟩ := cells_5 (HXA.out _ hb3); have HB3 := Aside0.mk hb3; clear hb3)
            | (go_at_call 32; refine (H12.out _ (HB0.out.trans (HB3.out.mono HB0.out.size))).mono ?_; rintro e w4 ⟨rfl, hb4'⟩; have hb4 := HB3.out.trans (hb4'.mono HB3.out.size); clear ha0 ha1 ha2 ha3 ha4; obtain ⟨ha0, ha1, ha2, ha3, ha4⟩ := cells_5 (HXA.out _ hb4); have HB4 := Aside0.mk hb4; clear hb4 hb4')
            | (go_at_call 33; refine (HKY.out _ (HB0.out.trans (HB4.out.mono HB0.out.size))).mono ?_; rintro e w5 ⟨rfl, hb5'⟩; have hb5 := HB4.out.trans (hb5'.mono HB4.out.size); clear ha0 ha1 ha2 ha3 ha4; obtain ⟨ha0, ha1, ha2, ha3, ha4⟩ := cells_5 (HXA.out _ hb5); have HB5 := Aside0.mk hb5; clear hb5 hb5'))
          go_ret
          exact ⟨by rw [HNO.out]; first | done | rfl, HB0.out.trans (HB5.out.mono HB0.out.size)⟩
        · rw [h11, h12, decide_eq_true (show os.length + ds.length ≤ 64 by omega), decide_eq_true (show keysV rs os [] ≤ 32 by omega), Bool.true_and, Bool.true_and, Bool.true_and] at HV
          clear h11 h12
          go_wp2_with (first
            | (go_at_call 31; refine (H11.out _ HB0.out).mono ?_; rintro e w3 ⟨rfl, hb3⟩; obtain ⟨ha0, ha1, ha2, ha3, ha4⟩ := cells_5 (HXA.out _ hb3); have HB3 := Aside0.mk hb3; clear hb3)
            | (go_at_call 32; refine (H12.out _ (HB0.out.trans (HB3.out.mono HB0.out.size))).mono ?_; rintro e w4 ⟨rfl, hb4'⟩; have hb4 := HB3.out.trans (hb4'.mono HB3.out.size); clear ha0 ha1 ha2 ha3 ha4; obtain ⟨ha0, ha1, ha2, ha3, ha4⟩ := cells_5 (HXA.out _ hb4); have HB4 := Aside0.mk hb4; clear hb4 hb4')
            | (go_at_call 33; refine (HKY.out _ (HB0.out.trans (HB4.out.mono HB0.out.size))).mono ?_; rintro e w5 ⟨rfl, hb5'⟩; have hb5 := HB4.out.trans (hb5'.mono HB4.out.size); clear ha0 ha1 ha2 ha3 ha4; obtain ⟨ha0, ha1, ha2, ha3, ha4⟩ := cells_5 (HXA.out _ hb5); have HB5 := Aside0.mk hb5; clear hb5 hb5'))
          clear ha0 ha1 ha2 ha3 ha4
          generalize hW1 : (w.alloc (.cells #[.slice A0 rs.length c0, .slice A1 hs.length c1, .slice A2 os.length c2, .slice A3 ds.length c3, .int .u64 ver] 28)) = W1 at *
          go_loopg [5] os.length (fun gg s5 wv => ∃ kk : Nat, kk ≤ os.length ∧ os.length - kk ≤ gg ∧ s5 = .int .i64 kk ∧ Aside0 (Below W1.heap.size W1 wv) ∧ Aside0 (∀ i, i < kk → openBad os ds i = false ∧ putsBad hs os i = false))
          case atStart => exact ⟨0, Nat.zero_le _, by omega, rfl, HB5, ⟨fun i h => absurd h (by omega)⟩⟩
          case round =>
            obtain ⟨kk, hkk, hgk, rfl, HBv, HOI⟩ := hrel
            obtain ⟨ha0, ha1, ha2, ha3, ha4⟩ := cells_5 (HXA.out _ HBv.out)
            have HBw := Aside0.mk (HB0.out.trans (HBv.out.mono HB0.out.size))
            by_cases hlt : kk < os.length
            · have hltz : (kk : Int) < (os.length : Int) := by omega
              have hkz : (0 : Int) ≤ (kk : Int) := by omega
              obtain ⟨ob, oo, rfl, P, pc, hpc, hpr, ho0, ho1, ho2, ho3, ho4⟩ := openRow (Kd.C_below HA2.out HBw.out) kk hlt
              have HKK := Aside0.mk (fun (W : World) (h : Below w.heap.size w W) => HKN.out W h (os[kk]!).f0)
              have HOO := Aside0.mk (fun (W : World) (h : Below w.heap.size w W) => HOV.out W h (os[kk]!).f0)
              have HHS := Aside0.mk (fun (W : World) (h : Below w.heap.size w W) (p : S54) => has12r_calls A1 c1 hs (os[kk]!).f0 p.f0 true W (Kd.C_below HA1.out h) a1')
              have HBAD : Aside0 (openBad os ds kk = (decide (findI (isOpenT (os[kk]!).f0) os ≠ (kk : Int)) || (decide (0 ≤ findI (isDoneT (os[kk]!).f0) ds) || (((os[kk]!).f1 && (os[kk]!).f2) || ((!(os[kk]!).f1 && decide (0 < (os[kk]!).f3.length)) || decide (fitsV (os[kk]!).f3 ≠ 0)))))) := ⟨rfl⟩
              have HPBD : Aside0 (putsBad hs os kk = (os[kk]!).f3.any (fun p => !hasV hs (os[kk]!).f0 p.f0 true)) := ⟨rfl⟩
              have HNB := Aside0.mk (r13_open (rs := rs) (hs := hs) (os := os) (ds := ds) hlt)
              generalize findI (isOpenT (os[kk]!).f0) os = kn at *
              generalize findI (isDoneT (os[kk]!).f0) ds = ov at *
              generalize os[kk]! = x at *
              obtain ⟨⟨ya, yi⟩, xf, xw, xp⟩ := x
              dsimp only at *
              have hpl : xp.length ≤ 9223372036854775807 := hpr.2.1
              have HPR := Aside0.mk hpr
              clear hpr
              go_upto_region 9 with (fail)
              have HX9 := Aside0.mk (heap_alloc_new wr (.cells #[.int .u64 ya, .int .u64 yi, .bool xf, .bool xw, .slice P xp.length pc] 48))
              have HB9 := Aside0.mk ((Below.refl wr.heap.size wr).alloc (Nat.le_refl _) (.cells #[.int .u64 ya, .int .u64 yi, .bool xf, .bool xw, .slice P xp.length pc] 48))
              have HBv8 := Aside0.mk (HBv.out.trans (HB9.out.mono HBv.out.size))
              have HBw8 := Aside0.mk (HB0.out.trans (HBv8.out.mono HB0.out.size))
              have HPR8 := Aside0.mk (Kd.C_below HPR.out HB9.out)
              have HFT := Aside0.mk (fun (W : World) (h : Below (wr.alloc (.cells #[.int .u64 ya, .int .u64 yi, .bool xf, .bool xw, .slice P xp.length pc] 48)).heap.size (wr.alloc (.cells #[.int .u64 ya, .int .u64 yi, .bool xf, .bool xw, .slice P xp.length pc] 48)) W) => ferruleref11_Fits.calls P pc xp (fitsV xp) W (Kd.C_below HPR8.out h) hpc rfl)
              clear HPR HB9 HBv HBw ha0 ha1 ha2 ha3 ha4 ho0 ho1 ho2 ho3 ho4
              generalize wr.alloc (.cells #[.int .u64 ya, .int .u64 yi, .bool xf, .bool xw, .slice P xp.length pc] 48) = w8 at *
              generalize wr.heap.size = xb at *
              clear wr
              go_cut [88] from 51 to 88 (fun v88 wx => v88 = .bool (openBad os ds kk) ∧ Aside0 (Below w8.heap.size w8 wx))
              case first =>
                by_cases hkn : kn = (kk : Int)
                · subst hkn
                  rw [decide_eq_false (show ¬ ((kk : Int) ≠ (kk : Int)) from fun h => h rfl), Bool.false_or] at HBAD
                  by_cases hov : 0 ≤ ov
                  · rw [decide_eq_true hov, Bool.true_or] at HBAD
                    obtain ⟨ha0, ha1, ha2, ha3, ha4⟩ := cells_5 (HXA.out _ HBv8.out)
                    obtain ⟨hx0, hx1, hx2, hx3, hx4⟩ := cells_5 HX9.out
                    go_wp2_with (first
                      | (go_at_call 34; with_reducible refine (HKK.out _ HBw8.out).mono ?_; rintro e w9 ⟨rfl, hb9⟩; clear ha0 ha1 ha2 ha3 ha4 hx0 hx1 hx2 hx3 hx4; obtain ⟨ha0, ha1, ha2, ha3, ha4⟩ := cells_5 (HXA.out _ (HBv8.out.trans (hb9.mono HBv8.out.size))); obtain ⟨hx0, hx1, hx2, hx3, hx4⟩ := cells_5 (stay hb9 HX9.out (Array.getElem?_eq_some_iff.1 HX9.out).1); have HB9a := Aside0.mk hb9; clear hb9)
                      | (go_at_call 35; with_reducible refine (HOO.out _ (HBw8.out.trans (HB9a.out.mono HBw8.out.size))).mono ?_; rintro e w10 ⟨rfl, hb10'⟩; have hb10 := HB9a.out.trans (hb10'.mono HB9a.out.size); clear ha0 ha1 ha2 ha3 ha4 hx0 hx1 hx2 hx3 hx4; obtain ⟨ha0, ha1, ha2, ha3, ha4⟩ := cells_5 (HXA.out _ (HBv8.out.trans (hb10.mono HBv8.out.size))); obtain ⟨hx0, hx1, hx2, hx3, hx4⟩ := cells_5 (stay hb10 HX9.out (Array.getElem?_eq_some_iff.1 HX9.out).1); have HB10a := Aside0.mk hb10; clear hb10 hb10'))
                    go_meet
                    exact ⟨congrArg Value.bool HBAD.out.symm, HB10a⟩
                  · rw [decide_eq_false hov, Bool.false_or] at HBAD
                    cases xf with
                    | true =>
                      cases xw with
                      | true =>
                        obtain ⟨ha0, ha1, ha2, ha3, ha4⟩ := cells_5 (HXA.out _ HBv8.out)
                        obtain ⟨hx0, hx1, hx2, hx3, hx4⟩ := cells_5 HX9.out
                        go_wp2_with (first
                          | (go_at_call 34; with_reducible refine (HKK.out _ HBw8.out).mono ?_; rintro e w9 ⟨rfl, hb9⟩; clear ha0 ha1 ha2 ha3 ha4 hx0 hx1 hx2 hx3 hx4; obtain ⟨ha0, ha1, ha2, ha3, ha4⟩ := cells_5 (HXA.out _ (HBv8.out.trans (hb9.mono HBv8.out.size))); obtain ⟨hx0, hx1, hx2, hx3, hx4⟩ := cells_5 (stay hb9 HX9.out (Array.getElem?_eq_some_iff.1 HX9.out).1); have HB9a := Aside0.mk hb9; clear hb9)
                          | (go_at_call 35; with_reducible refine (HOO.out _ (HBw8.out.trans (HB9a.out.mono HBw8.out.size))).mono ?_; rintro e w10 ⟨rfl, hb10'⟩; have hb10 := HB9a.out.trans (hb10'.mono HB9a.out.size); clear ha0 ha1 ha2 ha3 ha4 hx0 hx1 hx2 hx3 hx4; obtain ⟨ha0, ha1, ha2, ha3, ha4⟩ := cells_5 (HXA.out _ (HBv8.out.trans (hb10.mono HBv8.out.size))); obtain ⟨hx0, hx1, hx2, hx3, hx4⟩ := cells_5 (stay hb10 HX9.out (Array.getElem?_eq_some_iff.1 HX9.out).1); have HB10a := Aside0.mk hb10; clear hb10 hb10'))
                        go_meet
                        exact ⟨congrArg Value.bool (HBAD.out.trans rfl).symm, HB10a⟩
                      | false =>
                        by_cases hf : fitsV xp = 0
                        · rw [hf] at HFT HBAD
                          obtain ⟨ha0, ha1, ha2, ha3, ha4⟩ := cells_5 (HXA.out _ HBv8.out)
                          obtain ⟨hx0, hx1, hx2, hx3, hx4⟩ := cells_5 HX9.out
                          go_wp2_with (first
                            | (go_at_call 34; with_reducible refine (HKK.out _ HBw8.out).mono ?_; rintro e w9 ⟨rfl, hb9⟩; clear ha0 ha1 ha2 ha3 ha4 hx0 hx1 hx2 hx3 hx4; obtain ⟨ha0, ha1, ha2, ha3, ha4⟩ := cells_5 (HXA.out _ (HBv8.out.trans (hb9.mono HBv8.out.size))); obtain ⟨hx0, hx1, hx2, hx3, hx4⟩ := cells_5 (stay hb9 HX9.out (Array.getElem?_eq_some_iff.1 HX9.out).1); have HB9a := Aside0.mk hb9; clear hb9)
                            | (go_at_call 35; with_reducible refine (HOO.out _ (HBw8.out.trans (HB9a.out.mono HBw8.out.size))).mono ?_; rintro e w10 ⟨rfl, hb10'⟩; have hb10 := HB9a.out.trans (hb10'.mono HB9a.out.size); clear ha0 ha1 ha2 ha3 ha4 hx0 hx1 hx2 hx3 hx4; obtain ⟨ha0, ha1, ha2, ha3, ha4⟩ := cells_5 (HXA.out _ (HBv8.out.trans (hb10.mono HBv8.out.size))); obtain ⟨hx0, hx1, hx2, hx3, hx4⟩ := cells_5 (stay hb10 HX9.out (Array.getElem?_eq_some_iff.1 HX9.out).1); have HB10a := Aside0.mk hb10; clear hb10 hb10')
                            | (go_at_call 36; (first | with_reducible refine (HFT.out _ HB10a.out).mono ?_ | refine (HFT.out _ HB10a.out).mono ?_); rintro e w11 ⟨rfl, hb11'⟩; have hb11 := HB10a.out.trans (hb11'.mono HB10a.out.size); have HB11a := Aside0.mk hb11; clear hb11 hb11'))
                          go_meet
                          exact ⟨congrArg Value.bool (HBAD.out.trans (by first | (simp; done) | (simp; omega))).symm, HB11a⟩
                        · obtain ⟨ha0, ha1, ha2, ha3, ha4⟩ := cells_5 (HXA.out _ HBv8.out)
                          obtain ⟨hx0, hx1, hx2, hx3, hx4⟩ := cells_5 HX9.out
                          go_wp2_with (first
                            | (go_at_call 34; with_reducible refine (HKK.out _ HBw8.out).mono ?_; rintro e w9 ⟨rfl, hb9⟩; clear ha0 ha1 ha2 ha3 ha4 hx0 hx1 hx2 hx3 hx4; obtain ⟨ha0, ha1, ha2, ha3, ha4⟩ := cells_5 (HXA.out _ (HBv8.out.trans (hb9.mono HBv8.out.size))); obtain ⟨hx0, hx1, hx2, hx3, hx4⟩ := cells_5 (stay hb9 HX9.out (Array.getElem?_eq_some_iff.1 HX9.out).1); have HB9a := Aside0.mk hb9; clear hb9)
                            | (go_at_call 35; with_reducible refine (HOO.out _ (HBw8.out.trans (HB9a.out.mono HBw8.out.size))).mono ?_; rintro e w10 ⟨rfl, hb10'⟩; have hb10 := HB9a.out.trans (hb10'.mono HB9a.out.size); clear ha0 ha1 ha2 ha3 ha4 hx0 hx1 hx2 hx3 hx4; obtain ⟨ha0, ha1, ha2, ha3, ha4⟩ := cells_5 (HXA.out _ (HBv8.out.trans (hb10.mono HBv8.out.size))); obtain ⟨hx0, hx1, hx2, hx3, hx4⟩ := cells_5 (stay hb10 HX9.out (Array.getElem?_eq_some_iff.1 HX9.out).1); have HB10a := Aside0.mk hb10; clear hb10 hb10')
                            | (go_at_call 36; (first | with_reducible refine (HFT.out _ HB10a.out).mono ?_ | refine (HFT.out _ HB10a.out).mono ?_); rintro e w11 ⟨rfl, hb11'⟩; have hb11 := HB10a.out.trans (hb11'.mono HB10a.out.size); have HB11a := Aside0.mk hb11; clear hb11 hb11'))
                          go_meet
                          exact ⟨congrArg Value.bool (HBAD.out.trans (by simp [hf])).symm, HB11a⟩
                    | false =>
                      by_cases hp : 0 < xp.length
                      · rw [decide_eq_true hp] at HBAD
                        have hpz : (0 : Int) < (xp.length : Int) := by omega
                        obtain ⟨ha0, ha1, ha2, ha3, ha4⟩ := cells_5 (HXA.out _ HBv8.out)
                        obtain ⟨hx0, hx1, hx2, hx3, hx4⟩ := cells_5 HX9.out
                        go_wp2_with (first
                          | (go_at_call 34; with_reducible refine (HKK.out _ HBw8.out).mono ?_; rintro e w9 ⟨rfl, hb9⟩; clear ha0 ha1 ha2 ha3 ha4 hx0 hx1 hx2 hx3 hx4; obtain ⟨ha0, ha1, ha2, ha3, ha4⟩ := cells_5 (HXA.out _ (HBv8.out.trans (hb9.mono HBv8.out.size))); obtain ⟨hx0, hx1, hx2, hx3, hx4⟩ := cells_5 (stay hb9 HX9.out (Array.getElem?_eq_some_iff.1 HX9.out).1); have HB9a := Aside0.mk hb9; clear hb9)
                          | (go_at_call 35; with_reducible refine (HOO.out _ (HBw8.out.trans (HB9a.out.mono HBw8.out.size))).mono ?_; rintro e w10 ⟨rfl, hb10'⟩; have hb10 := HB9a.out.trans (hb10'.mono HB9a.out.size); clear ha0 ha1 ha2 ha3 ha4 hx0 hx1 hx2 hx3 hx4; obtain ⟨ha0, ha1, ha2, ha3, ha4⟩ := cells_5 (HXA.out _ (HBv8.out.trans (hb10.mono HBv8.out.size))); obtain ⟨hx0, hx1, hx2, hx3, hx4⟩ := cells_5 (stay hb10 HX9.out (Array.getElem?_eq_some_iff.1 HX9.out).1); have HB10a := Aside0.mk hb10; clear hb10 hb10'))
                        go_meet
                        exact ⟨congrArg Value.bool (HBAD.out.trans rfl).symm, HB10a⟩
                      · rw [decide_eq_false hp] at HBAD
                        have hpz : ¬ (0 : Int) < (xp.length : Int) := by omega
                        by_cases hf : fitsV xp = 0
                        · rw [hf] at HFT HBAD
                          obtain ⟨ha0, ha1, ha2, ha3, ha4⟩ := cells_5 (HXA.out _ HBv8.out)
                          obtain ⟨hx0, hx1, hx2, hx3, hx4⟩ := cells_5 HX9.out
                          go_wp2_with (first
                            | (go_at_call 34; with_reducible refine (HKK.out _ HBw8.out).mono ?_; rintro e w9 ⟨rfl, hb9⟩; clear ha0 ha1 ha2 ha3 ha4 hx0 hx1 hx2 hx3 hx4; obtain ⟨ha0, ha1, ha2, ha3, ha4⟩ := cells_5 (HXA.out _ (HBv8.out.trans (hb9.mono HBv8.out.size))); obtain ⟨hx0, hx1, hx2, hx3, hx4⟩ := cells_5 (stay hb9 HX9.out (Array.getElem?_eq_some_iff.1 HX9.out).1); have HB9a := Aside0.mk hb9; clear hb9)
                            | (go_at_call 35; with_reducible refine (HOO.out _ (HBw8.out.trans (HB9a.out.mono HBw8.out.size))).mono ?_; rintro e w10 ⟨rfl, hb10'⟩; have hb10 := HB9a.out.trans (hb10'.mono HB9a.out.size); clear ha0 ha1 ha2 ha3 ha4 hx0 hx1 hx2 hx3 hx4; obtain ⟨ha0, ha1, ha2, ha3, ha4⟩ := cells_5 (HXA.out _ (HBv8.out.trans (hb10.mono HBv8.out.size))); obtain ⟨hx0, hx1, hx2, hx3, hx4⟩ := cells_5 (stay hb10 HX9.out (Array.getElem?_eq_some_iff.1 HX9.out).1); have HB10a := Aside0.mk hb10; clear hb10 hb10')
                            | (go_at_call 36; (first | with_reducible refine (HFT.out _ HB10a.out).mono ?_ | refine (HFT.out _ HB10a.out).mono ?_); rintro e w11 ⟨rfl, hb11'⟩; have hb11 := HB10a.out.trans (hb11'.mono HB10a.out.size); have HB11a := Aside0.mk hb11; clear hb11 hb11'))
                          go_meet
                          exact ⟨congrArg Value.bool (HBAD.out.trans (by first | (simp; done) | (simp; omega))).symm, HB11a⟩
                        · obtain ⟨ha0, ha1, ha2, ha3, ha4⟩ := cells_5 (HXA.out _ HBv8.out)
                          obtain ⟨hx0, hx1, hx2, hx3, hx4⟩ := cells_5 HX9.out
                          go_wp2_with (first
                            | (go_at_call 34; with_reducible refine (HKK.out _ HBw8.out).mono ?_; rintro e w9 ⟨rfl, hb9⟩; clear ha0 ha1 ha2 ha3 ha4 hx0 hx1 hx2 hx3 hx4; obtain ⟨ha0, ha1, ha2, ha3, ha4⟩ := cells_5 (HXA.out _ (HBv8.out.trans (hb9.mono HBv8.out.size))); obtain ⟨hx0, hx1, hx2, hx3, hx4⟩ := cells_5 (stay hb9 HX9.out (Array.getElem?_eq_some_iff.1 HX9.out).1); have HB9a := Aside0.mk hb9; clear hb9)
                            | (go_at_call 35; with_reducible refine (HOO.out _ (HBw8.out.trans (HB9a.out.mono HBw8.out.size))).mono ?_; rintro e w10 ⟨rfl, hb10'⟩; have hb10 := HB9a.out.trans (hb10'.mono HB9a.out.size); clear ha0 ha1 ha2 ha3 ha4 hx0 hx1 hx2 hx3 hx4; obtain ⟨ha0, ha1, ha2, ha3, ha4⟩ := cells_5 (HXA.out _ (HBv8.out.trans (hb10.mono HBv8.out.size))); obtain ⟨hx0, hx1, hx2, hx3, hx4⟩ := cells_5 (stay hb10 HX9.out (Array.getElem?_eq_some_iff.1 HX9.out).1); have HB10a := Aside0.mk hb10; clear hb10 hb10')
                            | (go_at_call 36; (first | with_reducible refine (HFT.out _ HB10a.out).mono ?_ | refine (HFT.out _ HB10a.out).mono ?_); rintro e w11 ⟨rfl, hb11'⟩; have hb11 := HB10a.out.trans (hb11'.mono HB10a.out.size); have HB11a := Aside0.mk hb11; clear hb11 hb11'))
                          go_meet
                          exact ⟨congrArg Value.bool (HBAD.out.trans (by simp [hf])).symm, HB11a⟩
                · rw [decide_eq_true hkn, Bool.true_or] at HBAD
                  have hknb : (kn != (kk : Int)) = true := bne_iff_ne.2 hkn
                  obtain ⟨ha0, ha1, ha2, ha3, ha4⟩ := cells_5 (HXA.out _ HBv8.out)
                  obtain ⟨hx0, hx1, hx2, hx3, hx4⟩ := cells_5 HX9.out
                  go_wp2_with (first
                    | (go_at_call 34; with_reducible refine (HKK.out _ HBw8.out).mono ?_; rintro e w9 ⟨rfl, hb9⟩; clear ha0 ha1 ha2 ha3 ha4 hx0 hx1 hx2 hx3 hx4; obtain ⟨ha0, ha1, ha2, ha3, ha4⟩ := cells_5 (HXA.out _ (HBv8.out.trans (hb9.mono HBv8.out.size))); obtain ⟨hx0, hx1, hx2, hx3, hx4⟩ := cells_5 (stay hb9 HX9.out (Array.getElem?_eq_some_iff.1 HX9.out).1); have HB9a := Aside0.mk hb9; clear hb9))
                  go_meet
                  exact ⟨congrArg Value.bool HBAD.out.symm, HB9a⟩
              case rest =>
                obtain ⟨rfl, HBc⟩ := hcut
                clear HKK HOO HFT HBAD
                generalize hbd : openBad os ds kk = bd at *
                cases bd with
                | true =>
                  have HNO := Aside0.mk (HNB.out (Or.inl (by first | rfl | exact hbd)))
                  go_wp2
                  go_ret
                  exact ⟨by rw [HNO.out]; first | done | rfl, HBw8.out.trans (HBc.out.mono HBw8.out.size)⟩
                | false =>
                  have HBD := Aside0.mk hbd
                  clear hbd
                  go_wp2
                  go_loopg [7] xp.length (fun gg s7 wv => ∃ jj : Nat, jj ≤ xp.length ∧ xp.length - jj ≤ gg ∧ s7 = .int .i64 jj ∧ Aside0 (Below w8.heap.size w8 wv) ∧ Aside0 (∀ j, j < jj → hasV hs ⟨ya, yi⟩ (xp[j]!).f0 true = true))
                  case atStart => exact ⟨0, Nat.zero_le _, by omega, rfl, HBc, ⟨fun i h => absurd h (by omega)⟩⟩
                  case round =>
                    clear HBc
                    obtain ⟨jj, hjj, hgj, rfl, HBx, HJ⟩ := hrel
                    have hbx := HBx.out
                    have HBy := Aside0.mk (HBw8.out.trans (hbx.mono HBw8.out.size))
                    obtain ⟨ha0, ha1, ha2, ha3, ha4⟩ := cells_5 (HXA.out _ (HBv8.out.trans (hbx.mono HBv8.out.size)))
                    obtain ⟨hx0, hx1, hx2, hx3, hx4⟩ := cells_5 (stay hbx HX9.out (Array.getElem?_eq_some_iff.1 HX9.out).1)
                    clear ha0 ha2 ha3 ha4 hx2 hx3
                    by_cases hlj : jj < xp.length
                    · have hljz : (jj : Int) < (xp.length : Int) := by omega
                      have hjz : (0 : Int) ≤ (jj : Int) := by omega
                      obtain ⟨pb, po, rfl, hp0, hp1, hp2⟩ := putCells (Kd.C_below HPR8.out hbx) jj hlj
                      have HHA := Aside0.mk (fun (W : World) (h : Below w.heap.size w W) => HHS.out W h xp[jj]!)
                      have HJC : Aside0 (hasV hs ⟨ya, yi⟩ (xp[jj]!).f0 true = hasV hs ⟨ya, yi⟩ (xp[jj]!).f0 true) := ⟨rfl⟩
                      generalize hhv : hasV hs ⟨ya, yi⟩ (xp[jj]!).f0 true = hv at *
                      have HHV := Aside0.mk hhv
                      clear hhv HJC
                      generalize hpk : (xp[jj]!).f0 = pk at *
                      have HPK := Aside0.mk hpk
                      clear hpk hbx hp1 hp2
                      have hS0 : K5 wr wr ⟨w.heap.size, 1, none⟩ ⟨xb, 0, none⟩ ⟨xb, 1, none⟩ ⟨xb, 4, none⟩ ⟨pb, po + jj * 3, none⟩ (.slice A1 hs.length c1) (.int .u64 ya) (.int .u64 yi) (.slice (some ⟨pb, po, none⟩) xp.length pc) (.string pk) := ⟨ha1, hx0, hx1, hx4, hp0, Below.refl _ _⟩
                      unfold K5 at hS0
                      cases hv with
                      | true =>
                        go_wp2
                        go_region_held3 (fun w' => w'.cell? ⟨w.heap.size, 1, none⟩ = some (.slice A1 hs.length c1) ∧ w'.cell? ⟨xb, 0, none⟩ = some (.int .u64 ya) ∧ w'.cell? ⟨xb, 1, none⟩ = some (.int .u64 yi) ∧ w'.cell? ⟨xb, 4, none⟩ = some (.slice (some ⟨pb, po, none⟩) xp.length pc) ∧ w'.cell? ⟨pb, po + jj * 3, none⟩ = some (.string pk) ∧ Below wr.heap.size wr w') (first | exact K5.keep (by assumption) (by assumption) | exact K5.keep (by assumption) ((Below.refl _ _).drew)) ((go_at_call 18; with_reducible refine (HHA.out _ (HBy.out.trans ((by assumption : _ ∧ _ ∧ _ ∧ _ ∧ _ ∧ Below wr.heap.size wr _).2.2.2.2.2.mono HBy.out.size))).mono ?_; rintro e w' ⟨rfl, hb⟩))
                        have hB9 := (K5.keep (K5.keep hS0 ((Below.refl _ _).drew)) hb).2.2.2.2.2
                        have HB9 := Aside0.mk (HBx.out.trans (hB9.mono HBx.out.size))
                        clear hB9 hb hS0 ha1 hx0 hx1 hx4 hp0 HBx HBy
                        go_wp2
                        go_roundg (xp.length - (jj + 1))
                        case measure => omega
                        case rel => exact ⟨jj + 1, by omega, by omega, by go_num, HB9, ⟨fun j hj => by
                          by_cases e : j = jj
                          · rw [e, HPK.out]; exact HHV.out
                          · exact HJ.out j (by omega)⟩⟩
                      | false =>
                        have HNO := Aside0.mk (HNB.out (Or.inr (by rw [HPBD.out]; exact any_no hlj (by rw [HPK.out, HHV.out]; rfl))))
                        go_wp2
                        go_region_held3 (fun w' => w'.cell? ⟨w.heap.size, 1, none⟩ = some (.slice A1 hs.length c1) ∧ w'.cell? ⟨xb, 0, none⟩ = some (.int .u64 ya) ∧ w'.cell? ⟨xb, 1, none⟩ = some (.int .u64 yi) ∧ w'.cell? ⟨xb, 4, none⟩ = some (.slice (some ⟨pb, po, none⟩) xp.length pc) ∧ w'.cell? ⟨pb, po + jj * 3, none⟩ = some (.string pk) ∧ Below wr.heap.size wr w') (first | exact K5.keep (by assumption) (by assumption) | exact K5.keep (by assumption) ((Below.refl _ _).drew)) ((go_at_call 18; with_reducible refine (HHA.out _ (HBy.out.trans ((by assumption : _ ∧ _ ∧ _ ∧ _ ∧ _ ∧ Below wr.heap.size wr _).2.2.2.2.2.mono HBy.out.size))).mono ?_; rintro e w' ⟨rfl, hb⟩))
                        have hB9 := (K5.keep (K5.keep hS0 ((Below.refl _ _).drew)) hb).2.2.2.2.2
                        have HB9 := Aside0.mk (HBx.out.trans (hB9.mono HBx.out.size))
                        clear hB9 hb hS0 ha1 hx0 hx1 hx4 hp0 HBx HBy
                        go_wp2
                        go_ret
                        exact ⟨by rw [HNO.out]; first | done | rfl, HBw8.out.trans (HB9.out.mono HBw8.out.size)⟩
                    · have hljz : ¬ (jj : Int) < (xp.length : Int) := by omega
                      have HPY : Aside0 (putsBad hs os kk = false) := ⟨by rw [HPBD.out]; exact any_all (fun j hj => by rw [HJ.out j (by omega)]; rfl)⟩
                      clear hbx
                      go_wp2
                      go_roundg (os.length - (kk + 1))
                      case measure => omega
                      case rel => exact ⟨kk + 1, by omega, by omega, by go_num, ⟨HBv8.out.trans (HBx.out.mono HBv8.out.size)⟩, ⟨fun i hi => by
                        by_cases e : i = kk
                        · rw [e]; exact ⟨HBD.out, HPY.out⟩
                        · exact HOI.out i (by omega)⟩⟩
            · have hltz : ¬ (kk : Int) < (os.length : Int) := by omega
              have HOA := Aside0.mk (fun (i : Nat) (h : i < os.length) => HOI.out i (by omega))
              clear HOI
              go_wp2
              go_loopg [9] ds.length (fun gg s9 wv => ∃ jj : Nat, jj ≤ ds.length ∧ ds.length - jj ≤ gg ∧ s9 = .int .i64 jj ∧ Aside0 (Below W1.heap.size W1 wv) ∧ Aside0 (∀ i, i < jj → doneBad ds i = false))
              case atStart => exact ⟨0, Nat.zero_le _, by omega, rfl, HBv, ⟨fun i h => absurd h (by omega)⟩⟩
              case round =>
                clear ha0 ha1 ha2 ha3 ha4 HBw HBv
                obtain ⟨jj, hjj, hgj, rfl, HBv, HDI⟩ := hrel
                obtain ⟨ha0, ha1, ha2, ha3, ha4⟩ := cells_5 (HXA.out _ HBv.out)
                have HBw := Aside0.mk (HB0.out.trans (HBv.out.mono HB0.out.size))
                by_cases hlt2 : jj < ds.length
                · have hltz2 : (jj : Int) < (ds.length : Int) := by omega
                  have hjz : (0 : Int) ≤ (jj : Int) := by omega
                  obtain ⟨xb, xo, rfl, hx0, hx1, hx2⟩ := doneRow (Kd.C_below HA3.out HBw.out) jj hlt2
                  have HO := Aside0.mk (fun (W : World) (h : Below w.heap.size w W) => HOV.out W h (ds[jj]!).f0)
                  have HDB : Aside0 (doneBad ds jj = decide (findI (isDoneT (ds[jj]!).f0) ds ≠ (jj : Int))) := ⟨rfl⟩
                  have HNB := Aside0.mk (r13_done (rs := rs) (hs := hs) (os := os) (ds := ds) hlt2)
                  generalize findI (isDoneT (ds[jj]!).f0) ds = ov at *
                  generalize (ds[jj]!).f0 = t at *
                  obtain ⟨ya, yi⟩ := t
                  dsimp only at *
                  have hS0 : B52 wr wr w.heap.size (.slice A0 rs.length c0) (.slice A1 hs.length c1) (.slice A2 os.length c2) (.slice (some ⟨xb, xo, none⟩) ds.length c3) (.int .u64 ver) xb (xo + jj * 3) (.int .u64 ya) (.int .u64 yi) := ⟨ha0, ha1, ha2, ha3, ha4, hx0, hx1, Below.refl _ _⟩
                  unfold B52 at hS0
                  by_cases hov : ov = (jj : Int)
                  · subst hov
                    have HDN : Aside0 (doneBad ds jj = false) := ⟨by rw [HDB.out]; exact decide_eq_false (fun h => h rfl)⟩
                    go_wp2
                    go_region_held3 (fun w' => w'.cell? ⟨w.heap.size, 0, none⟩ = some (.slice A0 rs.length c0) ∧ w'.cell? ⟨w.heap.size, 1, none⟩ = some (.slice A1 hs.length c1) ∧ w'.cell? ⟨w.heap.size, 2, none⟩ = some (.slice A2 os.length c2) ∧ w'.cell? ⟨w.heap.size, 3, none⟩ = some (.slice (some ⟨xb, xo, none⟩) ds.length c3) ∧ w'.cell? ⟨w.heap.size, 4, none⟩ = some (.int .u64 ver) ∧ w'.cell? ⟨xb, xo + jj * 3, none⟩ = some (.int .u64 ya) ∧ w'.cell? ⟨xb, xo + jj * 3 + 1, none⟩ = some (.int .u64 yi) ∧ Below wr.heap.size wr w') (first | exact B52.keep (by assumption) (by assumption) | exact B52.keep (by assumption) ((Below.refl _ _).drew)) ((go_at_call 35; with_reducible refine (HO.out _ (HBw.out.trans ((by assumption : _ ∧ _ ∧ _ ∧ _ ∧ _ ∧ _ ∧ _ ∧ Below wr.heap.size wr _).2.2.2.2.2.2.2.mono HBw.out.size))).mono ?_; rintro e w' ⟨rfl, hb⟩))
                    have hB9 := (B52.keep (B52.keep hS0 ((Below.refl _ _).drew)) hb).2.2.2.2.2.2.2
                    have HB9 := Aside0.mk (HBv.out.trans (hB9.mono HBv.out.size))
                    clear hB9 hb hS0 ha0 ha1 ha2 ha3 ha4 hx0 hx1
                    go_wp2
                    go_roundg (ds.length - (jj + 1))
                    case measure => omega
                    case rel => exact ⟨jj + 1, by omega, by omega, by go_num, HB9, ⟨fun i hi => by
                      by_cases e : i = jj
                      · rw [e]; exact HDN.out
                      · exact HDI.out i (by omega)⟩⟩
                  · have HNO := Aside0.mk (HNB.out (by rw [HDB.out]; exact decide_eq_true hov))
                    have hovb : (ov != (jj : Int)) = true := bne_iff_ne.2 hov
                    go_wp2
                    go_region_held3 (fun w' => w'.cell? ⟨w.heap.size, 0, none⟩ = some (.slice A0 rs.length c0) ∧ w'.cell? ⟨w.heap.size, 1, none⟩ = some (.slice A1 hs.length c1) ∧ w'.cell? ⟨w.heap.size, 2, none⟩ = some (.slice A2 os.length c2) ∧ w'.cell? ⟨w.heap.size, 3, none⟩ = some (.slice (some ⟨xb, xo, none⟩) ds.length c3) ∧ w'.cell? ⟨w.heap.size, 4, none⟩ = some (.int .u64 ver) ∧ w'.cell? ⟨xb, xo + jj * 3, none⟩ = some (.int .u64 ya) ∧ w'.cell? ⟨xb, xo + jj * 3 + 1, none⟩ = some (.int .u64 yi) ∧ Below wr.heap.size wr w') (first | exact B52.keep (by assumption) (by assumption) | exact B52.keep (by assumption) ((Below.refl _ _).drew)) ((go_at_call 35; with_reducible refine (HO.out _ (HBw.out.trans ((by assumption : _ ∧ _ ∧ _ ∧ _ ∧ _ ∧ _ ∧ _ ∧ Below wr.heap.size wr _).2.2.2.2.2.2.2.mono HBw.out.size))).mono ?_; rintro e w' ⟨rfl, hb⟩))
                    have hB9 := (B52.keep (B52.keep hS0 ((Below.refl _ _).drew)) hb).2.2.2.2.2.2.2
                    have HB9 := Aside0.mk (HBv.out.trans (hB9.mono HBv.out.size))
                    clear hB9 hb hS0 ha0 ha1 ha2 ha3 ha4 hx0 hx1
                    go_wp2
                    go_ret
                    exact ⟨by rw [HNO.out]; first | done | rfl, HB0.out.trans (HB9.out.mono HB0.out.size)⟩
                · have hltz2 : ¬ (jj : Int) < (ds.length : Int) := by omega
                  have HDA := Aside0.mk (fun (i : Nat) (h : i < ds.length) => HDI.out i (by omega))
                  clear HDI
                  go_wp2
                  go_loopg [10] hs.length (fun gg s10 wv => ∃ ll : Nat, ll ≤ hs.length ∧ hs.length - ll ≤ gg ∧ s10 = .int .i64 ll ∧ Aside0 (Below W1.heap.size W1 wv) ∧ Aside0 (∀ i, i < ll → holdBad hs os i = false))
                  case atStart => exact ⟨0, Nat.zero_le _, by omega, rfl, HBv, ⟨fun i h => absurd h (by omega)⟩⟩
                  case round =>
                    clear ha0 ha1 ha2 ha3 ha4 HBw HBv
                    obtain ⟨ll, hll, hgl, rfl, HBv, HHI⟩ := hrel
                    obtain ⟨ha0, ha1, ha2, ha3, ha4⟩ := cells_5 (HXA.out _ HBv.out)
                    have HBw := Aside0.mk (HB0.out.trans (HBv.out.mono HB0.out.size))
                    by_cases hlt3 : ll < hs.length
                    · have hltz3 : (ll : Int) < (hs.length : Int) := by omega
                      have hlz : (0 : Int) ≤ (ll : Int) := by omega
                      obtain ⟨xb, xo, rfl, hx0, hx1, hx2, hx3⟩ := holdCells (Kd.C_below HA1.out HBw.out) ll hlt3
                      have HO := Aside0.mk (fun (W : World) (h : Below w.heap.size w W) => HKN.out W h (hs[ll]!).f1)
                      have HHB : Aside0 (holdBad hs os ll = (decide (findI (isOpenT (hs[ll]!).f1) os < 0) || (os[(findI (isOpenT (hs[ll]!).f1) os).toNat]!).f2)) := ⟨rfl⟩
                      have HNB := Aside0.mk (r13_hold (rs := rs) (hs := hs) (os := os) (ds := ds) hlt3)
                      by_cases hk0 : 0 ≤ findI (isOpenT (hs[ll]!).f1) os
                      · obtain ⟨i, hi, hfi⟩ := findI_range0 _ _ hk0
                        clear hk0
                        rw [hfi] at HO HHB
                        obtain ⟨ob, oo, rfl, P, pc, hpc, hpr, ho0, ho1, ho2, ho3, ho4⟩ := openRow (Kd.C_below HA2.out HBw.out) i hi
                        rw [decide_eq_false (show ¬ ((i : Int) < 0) by omega), Bool.false_or, Int.toNat_natCast] at HHB
                        generalize (os[i]!).f2 = xw at *
                        clear hpc hpr ho0 ho1 ho2 ho4 hfi hx0 hx3
                        have hiz : ¬ (i : Int) < 0 := by omega
                        have hiz0 : (0 : Int) ≤ (i : Int) := by omega
                        have hilz : (i : Int) < (os.length : Int) := by omega
                        have hol : os.length ≤ 9223372036854775807 := HA2.out.2.1
                        have hhl : hs.length ≤ 9223372036854775807 := HA1.out.2.1
                        generalize (hs[ll]!).f1 = t at *
                        obtain ⟨ya, yi⟩ := t
                        dsimp only at *
                        have hS0 : K7 wr wr ⟨w.heap.size, 0, none⟩ ⟨w.heap.size, 1, none⟩ ⟨w.heap.size, 2, none⟩ ⟨w.heap.size, 3, none⟩ ⟨w.heap.size, 4, none⟩ ⟨xb, xo + ll * 4 + 1, none⟩ ⟨xb, xo + ll * 4 + 2, none⟩ (.slice A0 rs.length c0) (.slice (some ⟨xb, xo, none⟩) hs.length c1) (.slice (some ⟨ob, oo, none⟩) os.length c2) (.slice A3 ds.length c3) (.int .u64 ver) (.int .u64 ya) (.int .u64 yi) := ⟨ha0, ha1, ha2, ha3, ha4, hx1, hx2, Below.refl _ _⟩
                        unfold K7 at hS0
                        have HO3 := Aside0.mk ho3
                        clear ho3
                        go_wp2
                        go_region_held3 (fun w' => w'.cell? ⟨w.heap.size, 0, none⟩ = some (.slice A0 rs.length c0) ∧ w'.cell? ⟨w.heap.size, 1, none⟩ = some (.slice (some ⟨xb, xo, none⟩) hs.length c1) ∧ w'.cell? ⟨w.heap.size, 2, none⟩ = some (.slice (some ⟨ob, oo, none⟩) os.length c2) ∧ w'.cell? ⟨w.heap.size, 3, none⟩ = some (.slice A3 ds.length c3) ∧ w'.cell? ⟨w.heap.size, 4, none⟩ = some (.int .u64 ver) ∧ w'.cell? ⟨xb, xo + ll * 4 + 1, none⟩ = some (.int .u64 ya) ∧ w'.cell? ⟨xb, xo + ll * 4 + 2, none⟩ = some (.int .u64 yi) ∧ Below wr.heap.size wr w') (first | exact K7.keep (by assumption) (by assumption) | exact K7.keep (by assumption) ((Below.refl _ _).drew)) ((go_at_call 34; with_reducible refine (HO.out _ (HBw.out.trans ((by assumption : _ ∧ _ ∧ _ ∧ _ ∧ _ ∧ _ ∧ _ ∧ Below wr.heap.size wr _).2.2.2.2.2.2.2.mono HBw.out.size))).mono ?_; rintro e w' ⟨rfl, hb⟩))
                        have hK9 := K7.keep (K7.keep hS0 ((Below.refl _ _).drew)) hb
                        have hB9 := hK9.2.2.2.2.2.2.2
                        have ho3 := (hB9.cell (World.block_lt_of_cell? _ _ HO3.out)).trans HO3.out
                        have HB9 := Aside0.mk (HBv.out.trans (hB9.mono HBv.out.size))
                        clear hS0 ha0 ha1 ha2 ha3 ha4 hx1 hx2 hb
                        obtain ⟨ha0, ha1, ha2, ha3, ha4, hx1, hx2, _⟩ := hK9
                        clear hB9 ha0 ha1 ha3 ha4 hx1 hx2
                        cases xw with
                        | false =>
                          have HHN := Aside0.mk HHB.out
                          go_wp2
                          go_roundg (hs.length - (ll + 1))
                          case measure => omega
                          case rel => exact ⟨ll + 1, by omega, by omega, by go_num, HB9, ⟨fun i hi => by
                            by_cases e : i = ll
                            · rw [e]; exact HHN.out
                            · exact HHI.out i (by omega)⟩⟩
                        | true =>
                          have HNO := Aside0.mk (HNB.out HHB.out)
                          go_wp2
                          go_ret
                          exact ⟨by rw [HNO.out]; first | done | rfl, HB0.out.trans (HB9.out.mono HB0.out.size)⟩
                      · have hfi := findI_neg0 _ _ hk0
                        rw [hfi] at HO HHB
                        have HNO := Aside0.mk (HNB.out (by rw [HHB.out]; rfl))
                        clear hk0 hfi hx0 hx3
                        have hhl : hs.length ≤ 9223372036854775807 := HA1.out.2.1
                        generalize (hs[ll]!).f1 = t at *
                        obtain ⟨ya, yi⟩ := t
                        dsimp only at *
                        have hS0 : K7 wr wr ⟨w.heap.size, 0, none⟩ ⟨w.heap.size, 1, none⟩ ⟨w.heap.size, 2, none⟩ ⟨w.heap.size, 3, none⟩ ⟨w.heap.size, 4, none⟩ ⟨xb, xo + ll * 4 + 1, none⟩ ⟨xb, xo + ll * 4 + 2, none⟩ (.slice A0 rs.length c0) (.slice (some ⟨xb, xo, none⟩) hs.length c1) (.slice A2 os.length c2) (.slice A3 ds.length c3) (.int .u64 ver) (.int .u64 ya) (.int .u64 yi) := ⟨ha0, ha1, ha2, ha3, ha4, hx1, hx2, Below.refl _ _⟩
                        unfold K7 at hS0
                        go_wp2
                        go_region_held3 (fun w' => w'.cell? ⟨w.heap.size, 0, none⟩ = some (.slice A0 rs.length c0) ∧ w'.cell? ⟨w.heap.size, 1, none⟩ = some (.slice (some ⟨xb, xo, none⟩) hs.length c1) ∧ w'.cell? ⟨w.heap.size, 2, none⟩ = some (.slice A2 os.length c2) ∧ w'.cell? ⟨w.heap.size, 3, none⟩ = some (.slice A3 ds.length c3) ∧ w'.cell? ⟨w.heap.size, 4, none⟩ = some (.int .u64 ver) ∧ w'.cell? ⟨xb, xo + ll * 4 + 1, none⟩ = some (.int .u64 ya) ∧ w'.cell? ⟨xb, xo + ll * 4 + 2, none⟩ = some (.int .u64 yi) ∧ Below wr.heap.size wr w') (first | exact K7.keep (by assumption) (by assumption) | exact K7.keep (by assumption) ((Below.refl _ _).drew)) ((go_at_call 34; with_reducible refine (HO.out _ (HBw.out.trans ((by assumption : _ ∧ _ ∧ _ ∧ _ ∧ _ ∧ _ ∧ _ ∧ Below wr.heap.size wr _).2.2.2.2.2.2.2.mono HBw.out.size))).mono ?_; rintro e w' ⟨rfl, hb⟩))
                        have hK9 := K7.keep (K7.keep hS0 ((Below.refl _ _).drew)) hb
                        have hB9 := hK9.2.2.2.2.2.2.2
                        have HB9 := Aside0.mk (HBv.out.trans (hB9.mono HBv.out.size))
                        clear hS0 ha0 ha1 ha2 ha3 ha4 hx1 hx2 hb
                        obtain ⟨ha0, ha1, ha2, ha3, ha4, hx1, hx2, _⟩ := hK9
                        clear hB9 ha0 ha1 ha2 ha3 ha4 hx1 hx2
                        go_wp2
                        go_ret
                        exact ⟨by rw [HNO.out]; first | done | rfl, HB0.out.trans (HB9.out.mono HB0.out.size)⟩
                    · have hltz3 : ¬ (ll : Int) < (hs.length : Int) := by omega
                      have HYE := Aside0.mk (r13_yes (hs := hs) (os := os) (ds := ds) HOA.out HDA.out (fun i h => HHI.out i (by omega)))
                      rw [HYE.out] at HV
                      go_wp2
                      go_ret
                      exact ⟨by rw [HV.out]; first | done | rfl, HBw.out⟩
end Go.Proofs.Ytmcgcdpiceikeaa.PAll
end
