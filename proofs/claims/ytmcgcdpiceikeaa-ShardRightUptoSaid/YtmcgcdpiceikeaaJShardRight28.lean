/- Joined texts of the claim ShardRight (part 28): contracts of functions and plain laws. -/
import Derived.Test.YtmcgcdpiceikeaaJShardRight15
import Derived.Test.YtmcgcdpiceikeaaJShardRight17
import Derived.Test.YtmcgcdpiceikeaaJShardRight26
import Derived.Test.YtmcgcdpiceikeaaJShardRight27
import Derived.BigQuiet
import Derived.ChangeAlike
import Derived.Deep.QuietTactic
import Derived.RegionTactic
section
/- rows.Do, as the printed texts call it. -/
namespace Go.Proofs.Ytmcgcdpiceikeaa.PAll
open Go.RowKit Go.Proofs.YtmcgcdpiceikeaaW.PrintWords Go.Proofs.Ytmcgcdpiceikeaa
set_option linter.unusedVariables false
def keyIs (s : ByteArray) (x : S50) : Bool := x.f0.toList == s.toList
def keyOver (s : ByteArray) (x : S50) : Bool := !Op.bytesLess x.f0.toList s.toList && !x.f0.toList == s.toList
/-- One put done. -/
def doV (l : List S50) (p : S54) (ver : Int) : List S50 × Int :=
  if fitsV [p] ≠ 0 then ([], fitsV [p]) else
  if p.f2 then (l.filter (fun x => !keyIs p.f0 x), 0) else
  if 0 ≤ findI (keyIs p.f0) l then (l.set (findI (keyIs p.f0) l).toNat ⟨p.f0, p.f1, ver⟩, 0) else
  if 32 ≤ l.length then ([], 5) else
  (l.take (if findI (keyOver p.f0) l < 0 then l.length else (findI (keyOver p.f0) l).toNat) ++ ⟨p.f0, p.f1, ver⟩ :: l.drop (if findI (keyOver p.f0) l < 0 then l.length else (findI (keyOver p.f0) l).toNat), 0)
def rows_Do.f (l0 : List S50) (a1_0 a1_1 : ByteArray) (a1_2 : Bool) (a2 : Int) : Option (List S50 × Int) := if l0.length < 3518437208880 then some (doV l0 ⟨a1_0, a1_1, a1_2⟩ a2) else none
theorem C_one {α : Type} {d : Kd α} {w : World} {b t : Nat} {x : α} {cs : List Value} (h : w.heap[b]? = some (.cells cs.toArray t (0, 0))) (hl : cs.length = d.sz) (hk : d.K w x cs) : Kd.C d w (some ⟨b, 0, none⟩) 1 [x] := by
  refine ⟨rfl, by omega, fun _ => ⟨_, rfl, fun j p hj => ?_⟩⟩
  have h0 : j = 0 := by have := (List.getElem?_eq_some_iff.1 hj).1; simp at this; omega
  subst h0
  obtain rfl : x = p := by simpa using hj
  exact ⟨cs, hl, hk, fun i u hu => by rw [Nat.zero_mul, Nat.zero_add, Addr.add_lit, Nat.zero_add, cell_row h]; exact hu⟩
theorem fits_one (B : Nat) (p : S54) (e0 : Int) (W : World) (hB : W.heap[B]? = some (.cells #[.string p.f0, .string p.f1, .bool p.f2] 54 (0, 0))) (hf : fitsV [p] = e0) :
    Calls Try.prog 42 #[.slice (some ⟨B, 0, none⟩) 1 1] W fun e w' => e = .returned (.int .i64 e0) ∧ Below W.heap.size W w' :=
  rows_Fits.calls (some ⟨B, 0, none⟩) 1 [p] e0 W (C_one (d := k54) (cs := enc54 p) hB rfl (flat54.kk _ p)) (by simp) (by unfold rows_Fits.f; rw [hf])
set_option maxHeartbeats 1000000 in
set_option maxRecDepth 100000 in
theorem do_bad (v : Value) (p : S54) (ver : Int) (w : World) (e0 : Int) (hf : fitsV [p] = e0) (he : e0 ≠ 0) :
    Calls Try.prog 92 #[v, .agg #[.string p.f0, .string p.f1, .bool p.f2], .int .u64 ver] w fun e w' => e = .returned (.tuple #[.slice none 0 0, .int .i64 e0]) ∧ Below w.heap.size w w' := by
  have HF := Aside0.mk hf
  clear hf
  go_enter Try.func92, Try.ntmps92
  go_wp2_with (go_at_call 42; refine (fits_one _ p e0 _ (by first | exact heap_alloc_new _ _ | (rw [← World.size_alloc]; exact heap_alloc_new _ _)) HF.out).mono ?_; rintro e w1 ⟨rfl, hb1⟩)
  go_ret2
  exact ⟨rfl, (((Below.refl _ w).alloc (Nat.le_refl _) _).alloc (by simp) _).trans (hb1.mono (by simp; omega))⟩
theorem heap_lt {w : World} {i : Nat} {o : Obj} (h : w.heap[i]? = some o) : i < w.heap.size := (Array.getElem?_eq_some_iff.1 h).1
theorem two_allocs (w : World) (o o' : Obj) : ((w.alloc o).alloc o').heap[w.heap.size]? = some o := (Below.heap_alloc _ _ _ (by simp)).trans (heap_alloc_new w o)
def rawKey (s : ByteArray) : List Value → Bool
  | .string x :: _ => x.toList == s.toList
  | _ => false
theorem raw_filter (s : ByteArray) (l : List S50) : (l.map enc50).filter (fun c => !rawKey s c) = (l.filter (fun x => !keyIs s x)).map enc50 := by
  rw [List.filter_map]
  rfl
set_option maxHeartbeats 1000000 in
set_option maxRecDepth 100000 in
theorem do_gone (v : Value) (l0 : List S50) (p : S54) (ver : Int) (w : World) (hv : Sl k50 w v l0) (hl : l0.length < 3518437208880) (hf : fitsV [p] = 0) (hp : p.f2 = true) :
    Calls Try.prog 92 #[v, .agg #[.string p.f0, .string p.f1, .bool p.f2], .int .u64 ver] w fun e w' => ∃ v0_, e = .returned (.tuple #[v0_, .int .i64 0]) ∧ Kd.R k50 50 w' w.heap.size (fun _ => True) v0_ (l0.filter (fun x => !keyIs p.f0 x)) ∧ Below w.heap.size w w' := by
  have HF := Aside0.mk hf
  have HV := Aside0.mk hv
  have HL := Aside0.mk hl
  have HPp := Aside0.mk hp
  clear hf hv hl hp
  go_enter Try.func92, Try.ntmps92
  go_wp2_with (go_at_call 42; refine (fits_one _ p 0 _ (by first | exact heap_alloc_new _ _ | (rw [← World.size_alloc]; exact heap_alloc_new _ _)) HF.out).mono ?_; rintro e w1 ⟨rfl, hb1⟩; have HB1 := Aside0.mk ((((Below.refl _ w).alloc (Nat.le_refl _) _).alloc (by simp) _).trans (hb1.mono (by simp; omega))); have HX1 := Aside0.mk ((hb1.block w.heap.size (by simp; omega)).trans (two_allocs w _ _)); clear hb1)
  go_at_call 91
  refine (CloneRow v (l0.map enc50) _ (flat50.sl (HV.out.below HB1.out)) (by rw [List.length_map]; have := HL.out; omega)).mono ?_
  rintro e w2 ⟨v2, rfl, ho2, hb2⟩
  have HO2 := Aside0.mk ho2
  have HB2 := Aside0.mk (below_then HB1.out hb2 HB1.out.size)
  have hbx2 := (hb2.block w.heap.size (by have := heap_lt HX1.out; omega)).trans HX1.out
  have HX2 := Aside0.mk hbx2
  have hx0 : w2.cell? ⟨w.heap.size, 0, none⟩ = some (.string p.f0) := cell_at hbx2 rfl
  have hx1 : w2.cell? ⟨w.heap.size, 1, none⟩ = some (.string p.f1) := cell_at hbx2 rfl
  have hx2 : w2.cell? ⟨w.heap.size, 2, none⟩ = some (.bool true) := by (rw [← HPp.out]; exact cell_at hbx2 rfl)
  have HB12 := Aside0.mk hb2.size
  have HLT := Aside0.mk (heap_lt HX1.out)
  clear ho2 hb2 hbx2 HX1 HB1
  have HOb := Aside0.mk (HO2.out.base)
  clear HV HF
  go_wp2_with (go_at_call 100; refine (DeleteFuncRow (rawKey p.f0) 101 #[.pointer (some ⟨w.heap.size, 0, none⟩)] (enters_of Try.func101 (by kernel_rfl) rfl) _ (l0.map enc50) w1.heap.size w2 HO2.out HB12.out (fun W c hg hc => by
    obtain ⟨x, _, rfl⟩ := List.mem_map.1 hc
    refine (rowsDo1 w.heap.size p.f0 x W ?_).mono (fun e w' h => h)
    exact cell_at (cs := #[.string p.f0, .string p.f1, .bool p.f2]) ((hg.block w.heap.size (heap_lt HX2.out) (fun e => by have := HOb.out _ e.symm; have := HLT.out; omega)).trans HX2.out) rfl)).mono ?_; rintro e w3 ⟨v3, rfl, ho3, hg3⟩)
  rw [raw_filter] at ho3
  go_ret2
  exact ⟨v3, rfl, flat50.R (ho3.lower (by have := HLT.out; omega)) (fun _ _ => trivial), HB2.out.grown hg3 HB2.out.size (fun q hq => by have := HOb.out q hq; have := HLT.out; omega)⟩
set_option maxHeartbeats 1000000 in
set_option maxRecDepth 100000 in
theorem do_full (v : Value) (l0 : List S50) (p : S54) (ver : Int) (w : World) (hv : Sl k50 w v l0) (hl : l0.length < 3518437208880) (hf : fitsV [p] = 0) (hp : p.f2 = false) (hat : findI (keyIs p.f0) l0 = -1) (hbig : 32 ≤ l0.length) :
    Calls Try.prog 92 #[v, .agg #[.string p.f0, .string p.f1, .bool p.f2], .int .u64 ver] w fun e w' => e = .returned (.tuple #[.slice none 0 0, .int .i64 5]) ∧ Below w.heap.size w w' := by
  have HF := Aside0.mk hf
  have HV := Aside0.mk hv
  have HL := Aside0.mk hl
  have HPp := Aside0.mk hp
  clear hf hv hl hp
  go_enter Try.func92, Try.ntmps92
  go_wp2_with (go_at_call 42; refine (fits_one _ p 0 _ (by first | exact heap_alloc_new _ _ | (rw [← World.size_alloc]; exact heap_alloc_new _ _)) HF.out).mono ?_; rintro e w1 ⟨rfl, hb1⟩; have HB1 := Aside0.mk ((((Below.refl _ w).alloc (Nat.le_refl _) _).alloc (by simp) _).trans (hb1.mono (by simp; omega))); have HX1 := Aside0.mk ((hb1.block w.heap.size (by simp; omega)).trans (two_allocs w _ _)); clear hb1)
  go_at_call 91
  refine (CloneRow v (l0.map enc50) _ (flat50.sl (HV.out.below HB1.out)) (by rw [List.length_map]; have := HL.out; omega)).mono ?_
  rintro e w2 ⟨v2, rfl, ho2, hb2⟩
  have HO2 := Aside0.mk ho2
  have HB2 := Aside0.mk (below_then HB1.out hb2 HB1.out.size)
  have hbx2 := (hb2.block w.heap.size (by have := heap_lt HX1.out; omega)).trans HX1.out
  have HX2 := Aside0.mk hbx2
  have hx0 : w2.cell? ⟨w.heap.size, 0, none⟩ = some (.string p.f0) := cell_at hbx2 rfl
  have hx1 : w2.cell? ⟨w.heap.size, 1, none⟩ = some (.string p.f1) := cell_at hbx2 rfl
  have hx2 : w2.cell? ⟨w.heap.size, 2, none⟩ = some (.bool false) := by (rw [← HPp.out]; exact cell_at hbx2 rfl)
  have HB12 := Aside0.mk hb2.size
  have HLT := Aside0.mk (heap_lt HX1.out)
  clear ho2 hb2 hbx2 HX1 HB1
  have HOb := Aside0.mk (HO2.out.base)
  have HSL := Aside0.mk (flat50.ofsl HO2.out.sl)
  have hxa : (w2.alloc (.cells #[.string p.f0, .string p.f1, .int .u64 ver] 50)).cell? ⟨w.heap.size, 0, none⟩ = some (.string p.f0) := (Below.cell ((Below.refl _ w2).alloc (Nat.le_refl _) _) (heap_lt HX2.out)).trans hx0
  clear HV HF
  have hfi : findI (fun x : S50 => x.f0.toList == p.f0.toList) l0 = -1 := hat
  go_wp2_with fail
  refine (rows_at_sl _ l0 p.f0 _ (HSL.out.below ((Below.refl _ w2).alloc (Nat.le_refl _) _))).mono ?_
  rintro e w3 ⟨rfl, hb3⟩
  rw [hfi]
  have HB3 := Aside0.mk (((HB2.out.alloc HB2.out.size (.cells #[.string p.f0, .string p.f1, .int .u64 ver] 50))).trans (hb3.mono (by have := HB2.out.size; simp; omega)))
  have HO3 := Aside0.mk (HO2.out.below (((Below.refl _ w2).alloc (Nat.le_refl _) (.cells #[.string p.f0, .string p.f1, .int .u64 ver] 50)).trans (hb3.mono (by simp))))
  have HRB := Aside0.mk ((hb3.block w2.heap.size (by simp)).trans (heap_alloc_new w2 (.cells #[.string p.f0, .string p.f1, .int .u64 ver] 50)))
  have HX3 := Aside0.mk (((hb3.block w.heap.size (by simp; have := heap_lt HX2.out; omega)).trans (Below.heap_alloc _ _ _ (heap_lt HX2.out))).trans HX2.out)
  obtain ⟨A, cap, hvv⟩ : ∃ A cap, v2 = .slice A l0.length cap := by
    obtain ⟨A, cap, he, _⟩ := HO3.out.sl
    exact ⟨A, cap, by rw [he, List.length_map]⟩
  subst hvv
  have hbz : ¬ (l0.length : Int) < 32 := by omega
  clear hat hfi
  go_wp2
  go_ret2
  exact ⟨rfl, HB3.out⟩
theorem Own.store3 {e base : Nat} {w : World} {g n cap : Nat} {css : List (List Value)} (h : Own 3 e w base (.slice (some ⟨g, 0, none⟩) n cap) css) (i : Nat) (hi : i < css.length) (a b c : Value) (ha : a.oneCell' = true) (hb : b.oneCell' = true) (hc : c.oneCell' = true) :
    Own 3 e (((w.setCell ⟨g, i * 3, none⟩ a).setCell ⟨g, i * 3 + 1, none⟩ b).setCell ⟨g, i * 3 + 2, none⟩ c) base (.slice (some ⟨g, 0, none⟩) n cap) (css.set i [a, b, c]) ∧ w.grownBy (((w.setCell ⟨g, i * 3, none⟩ a).setCell ⟨g, i * 3 + 1, none⟩ b).setCell ⟨g, i * 3 + 2, none⟩ c) (some g) := by
  obtain ⟨x, y, z, hx⟩ : ∃ x y z, css[i]! = [x, y, z] := by
    have := (h.1 (css[i]!) (by rw [getElem!_pos css i hi]; exact List.getElem_mem hi)).1
    match hm : css[i]!, this with
    | [x, y, z], _ => exact ⟨x, y, z, rfl⟩
  have s0 := h.store i 0 hi (by decide) a ha
  rw [hx, show ([x, y, z] : List Value).set 0 a = [a, y, z] from rfl] at s0
  have i1 : i < (css.set i [a, y, z]).length := by simpa using hi
  have s1 := s0.1.store i 1 i1 (by decide) b hb
  rw [getElem!_pos _ i i1, List.getElem_set_self, List.set_set, show ([a, y, z] : List Value).set 1 b = [a, b, z] from rfl] at s1
  have i2 : i < (css.set i [a, b, z]).length := by simpa using hi
  have s2 := s1.1.store i 2 i2 (by decide) c hc
  rw [getElem!_pos _ i i2, List.getElem_set_self, List.set_set, show ([a, b, z] : List Value).set 2 c = [a, b, c] from rfl] at s2
  exact ⟨s2.1, (s0.2.trans s1.2).trans s2.2⟩
set_option maxHeartbeats 1000000 in
set_option maxRecDepth 100000 in
theorem do_hit (v : Value) (l0 : List S50) (p : S54) (ver : Int) (w : World) (hv : Sl k50 w v l0) (hl : l0.length < 3518437208880) (hf : fitsV [p] = 0) (hp : p.f2 = false) (i : Nat) (hi : i < l0.length) (hat : findI (keyIs p.f0) l0 = i) :
    Calls Try.prog 92 #[v, .agg #[.string p.f0, .string p.f1, .bool p.f2], .int .u64 ver] w fun e w' => ∃ v0_, e = .returned (.tuple #[v0_, .int .i64 0]) ∧ Kd.R k50 50 w' w.heap.size (fun _ => True) v0_ (l0.set i ⟨p.f0, p.f1, ver⟩) ∧ Below w.heap.size w w' := by
  have HF := Aside0.mk hf
  have HV := Aside0.mk hv
  have HL := Aside0.mk hl
  have HPp := Aside0.mk hp
  clear hf hv hl hp
  go_enter Try.func92, Try.ntmps92
  go_wp2_with (go_at_call 42; refine (fits_one _ p 0 _ (by first | exact heap_alloc_new _ _ | (rw [← World.size_alloc]; exact heap_alloc_new _ _)) HF.out).mono ?_; rintro e w1 ⟨rfl, hb1⟩; have HB1 := Aside0.mk ((((Below.refl _ w).alloc (Nat.le_refl _) _).alloc (by simp) _).trans (hb1.mono (by simp; omega))); have HX1 := Aside0.mk ((hb1.block w.heap.size (by simp; omega)).trans (two_allocs w _ _)); clear hb1)
  go_at_call 91
  refine (CloneRow v (l0.map enc50) _ (flat50.sl (HV.out.below HB1.out)) (by rw [List.length_map]; have := HL.out; omega)).mono ?_
  rintro e w2 ⟨v2, rfl, ho2, hb2⟩
  have HO2 := Aside0.mk ho2
  have HB2 := Aside0.mk (below_then HB1.out hb2 HB1.out.size)
  have hbx2 := (hb2.block w.heap.size (by have := heap_lt HX1.out; omega)).trans HX1.out
  have HX2 := Aside0.mk hbx2
  have hx0 : w2.cell? ⟨w.heap.size, 0, none⟩ = some (.string p.f0) := cell_at hbx2 rfl
  have hx1 : w2.cell? ⟨w.heap.size, 1, none⟩ = some (.string p.f1) := cell_at hbx2 rfl
  have hx2 : w2.cell? ⟨w.heap.size, 2, none⟩ = some (.bool false) := by (rw [← HPp.out]; exact cell_at hbx2 rfl)
  have HB12 := Aside0.mk hb2.size
  have HLT := Aside0.mk (heap_lt HX1.out)
  clear ho2 hb2 hbx2 HX1 HB1
  have HOb := Aside0.mk (HO2.out.base)
  have HSL := Aside0.mk (flat50.ofsl HO2.out.sl)
  have hxa : (w2.alloc (.cells #[.string p.f0, .string p.f1, .int .u64 ver] 50)).cell? ⟨w.heap.size, 0, none⟩ = some (.string p.f0) := (Below.cell ((Below.refl _ w2).alloc (Nat.le_refl _) _) (heap_lt HX2.out)).trans hx0
  clear HV HF
  have hfi : findI (fun x : S50 => x.f0.toList == p.f0.toList) l0 = i := hat
  go_wp2_with fail
  refine (rows_at_sl _ l0 p.f0 _ (HSL.out.below ((Below.refl _ w2).alloc (Nat.le_refl _) _))).mono ?_
  rintro e w3 ⟨rfl, hb3⟩
  rw [hfi]
  have HB3 := Aside0.mk (((HB2.out.alloc HB2.out.size (.cells #[.string p.f0, .string p.f1, .int .u64 ver] 50))).trans (hb3.mono (by have := HB2.out.size; simp; omega)))
  have HO3 := Aside0.mk (HO2.out.below (((Below.refl _ w2).alloc (Nat.le_refl _) (.cells #[.string p.f0, .string p.f1, .int .u64 ver] 50)).trans (hb3.mono (by simp))))
  have HRB := Aside0.mk ((hb3.block w2.heap.size (by simp)).trans (heap_alloc_new w2 (.cells #[.string p.f0, .string p.f1, .int .u64 ver] 50)))
  have HX3 := Aside0.mk (((hb3.block w.heap.size (by simp; have := heap_lt HX2.out; omega)).trans (Below.heap_alloc _ _ _ (heap_lt HX2.out))).trans HX2.out)
  obtain ⟨g, cap, hvv⟩ : ∃ g cap, v2 = .slice (some ⟨g, 0, none⟩) l0.length cap := by
    rcases HO3.out.cases with ⟨_, h⟩ | ⟨g, cap, _, h, _⟩
    · simp at h; subst h; simp at hi
    · exact ⟨g, cap, by rw [h, List.length_map]⟩
  subst hvv
  have hil : (i : Int) < (l0.length : Int) := by omega
  have hi' : i < (l0.map enc50).length := by rw [List.length_map]; exact hi
  obtain ⟨hg0, hz0, _⟩ := HO3.out.get i 0 hi' (by decide)
  obtain ⟨hg1, hz1, _⟩ := HO3.out.get i 1 hi' (by decide)
  obtain ⟨hg2, hz2, _⟩ := HO3.out.get i 2 hi' (by decide)
  have hr0 : w3.cell? ⟨w2.heap.size, 0, none⟩ = some (.string p.f0) := cell_at HRB.out rfl
  have hr1 : w3.cell? ⟨w2.heap.size, 1, none⟩ = some (.string p.f1) := cell_at HRB.out rfl
  have hr2 : w3.cell? ⟨w2.heap.size, 2, none⟩ = some (.int .u64 ver) := cell_at HRB.out rfl
  have HST := Aside0.mk (Own.store3 HO3.out i hi' (.string p.f0) (.string p.f1) (.int .u64 ver) rfl rfl rfl)
  simp only [Nat.add_zero] at hg0 hz0
  generalize ((l0.map enc50)[i]!)[0]! = y0 at hg0
  generalize ((l0.map enc50)[i]!)[1]! = y1 at hg1
  generalize ((l0.map enc50)[i]!)[2]! = y2 at hg2
  clear hat hfi
  go_wp2
  go_ret2
  have h := HST.out
  rw [show ([.string p.f0, .string p.f1, .int .u64 ver] : List Value) = enc50 ⟨p.f0, p.f1, ver⟩ from rfl, ← List.map_set] at h
  exact ⟨_, rfl, flat50.R (h.1.lower (by have := HLT.out; omega)) (fun _ _ => trivial), HB3.out.grown h.2 HB3.out.size (fun q hq => by cases hq; have := HOb.out g rfl; have := HLT.out; omega)⟩
set_option maxHeartbeats 1000000 in
set_option maxRecDepth 100000 in
theorem do_ins (v : Value) (l0 : List S50) (p : S54) (ver : Int) (w : World) (hv : Sl k50 w v l0) (hl : l0.length < 3518437208880) (hf : fitsV [p] = 0) (hp : p.f2 = false) (hat : findI (keyIs p.f0) l0 = -1) (hbig : ¬ 32 ≤ l0.length) (j : Nat) (hj : j ≤ l0.length) (jj : Int) (hfj : findI (keyOver p.f0) l0 = jj) (hjj : (jj < 0 ∧ j = l0.length) ∨ (jj = j)) :
    Calls Try.prog 92 #[v, .agg #[.string p.f0, .string p.f1, .bool p.f2], .int .u64 ver] w fun e w' => ∃ v0_, e = .returned (.tuple #[v0_, .int .i64 0]) ∧ Kd.R k50 50 w' w.heap.size (fun _ => True) v0_ (l0.take j ++ ⟨p.f0, p.f1, ver⟩ :: l0.drop j) ∧ Below w.heap.size w w' := by
  have HF := Aside0.mk hf
  have HV := Aside0.mk hv
  have HL := Aside0.mk hl
  have HPp := Aside0.mk hp
  clear hf hv hl hp
  go_enter Try.func92, Try.ntmps92
  go_wp2_with (go_at_call 42; refine (fits_one _ p 0 _ (by first | exact heap_alloc_new _ _ | (rw [← World.size_alloc]; exact heap_alloc_new _ _)) HF.out).mono ?_; rintro e w1 ⟨rfl, hb1⟩; have HB1 := Aside0.mk ((((Below.refl _ w).alloc (Nat.le_refl _) _).alloc (by simp) _).trans (hb1.mono (by simp; omega))); have HX1 := Aside0.mk ((hb1.block w.heap.size (by simp; omega)).trans (two_allocs w _ _)); clear hb1)
  go_at_call 91
  refine (CloneRow v (l0.map enc50) _ (flat50.sl (HV.out.below HB1.out)) (by rw [List.length_map]; have := HL.out; omega)).mono ?_
  rintro e w2 ⟨v2, rfl, ho2, hb2⟩
  have HO2 := Aside0.mk ho2
  have HB2 := Aside0.mk (below_then HB1.out hb2 HB1.out.size)
  have hbx2 := (hb2.block w.heap.size (by have := heap_lt HX1.out; omega)).trans HX1.out
  have HX2 := Aside0.mk hbx2
  have hx0 : w2.cell? ⟨w.heap.size, 0, none⟩ = some (.string p.f0) := cell_at hbx2 rfl
  have hx1 : w2.cell? ⟨w.heap.size, 1, none⟩ = some (.string p.f1) := cell_at hbx2 rfl
  have hx2 : w2.cell? ⟨w.heap.size, 2, none⟩ = some (.bool false) := by (rw [← HPp.out]; exact cell_at hbx2 rfl)
  have HB12 := Aside0.mk hb2.size
  have HLT := Aside0.mk (heap_lt HX1.out)
  clear ho2 hb2 hbx2 HX1 HB1
  have HOb := Aside0.mk (HO2.out.base)
  have HSL := Aside0.mk (flat50.ofsl HO2.out.sl)
  have hxa : (w2.alloc (.cells #[.string p.f0, .string p.f1, .int .u64 ver] 50)).cell? ⟨w.heap.size, 0, none⟩ = some (.string p.f0) := (Below.cell ((Below.refl _ w2).alloc (Nat.le_refl _) _) (heap_lt HX2.out)).trans hx0
  clear HV HF
  have hfi : findI (fun x : S50 => x.f0.toList == p.f0.toList) l0 = -1 := hat
  go_wp2_with fail
  refine (rows_at_sl _ l0 p.f0 _ (HSL.out.below ((Below.refl _ w2).alloc (Nat.le_refl _) _))).mono ?_
  rintro e w3 ⟨rfl, hb3⟩
  rw [hfi]
  have HB3 := Aside0.mk (((HB2.out.alloc HB2.out.size (.cells #[.string p.f0, .string p.f1, .int .u64 ver] 50))).trans (hb3.mono (by have := HB2.out.size; simp; omega)))
  have HO3 := Aside0.mk (HO2.out.below (((Below.refl _ w2).alloc (Nat.le_refl _) (.cells #[.string p.f0, .string p.f1, .int .u64 ver] 50)).trans (hb3.mono (by simp))))
  have HRB := Aside0.mk ((hb3.block w2.heap.size (by simp)).trans (heap_alloc_new w2 (.cells #[.string p.f0, .string p.f1, .int .u64 ver] 50)))
  have HX3 := Aside0.mk (((hb3.block w.heap.size (by simp; have := heap_lt HX2.out; omega)).trans (Below.heap_alloc _ _ _ (heap_lt HX2.out))).trans HX2.out)
  obtain ⟨A, cap, hvv⟩ : ∃ A cap, v2 = .slice A l0.length cap := by
    obtain ⟨A, cap, he, _⟩ := HO3.out.sl
    exact ⟨A, cap, by rw [he, List.length_map]⟩
  subst hvv
  have hbz : (l0.length : Int) < 32 := by omega
  have hc3 : w3.cell? ⟨w.heap.size, 0, none⟩ = some (.string p.f0) := cell_at HX3.out rfl
  have hpred := Aside0.mk (show Pred Try.prog 102 #[.pointer (some ⟨w.heap.size, 0, none⟩)] (fun cs => .agg cs.toArray) k50 w3 l0 (keyOver p.f0) from fun W x cs hb _ hK => by
    obtain rfl := flat50.openK _ _ _ hK
    exact rowsDo2 w.heap.size p.f0 x W ((hb.cell (World.block_lt_of_cell? _ _ hc3)).trans hc3))
  have hsl3 := Aside0.mk (flat50.ofsl HO3.out.sl)
  have HFJ := Aside0.mk hfj
  have HJJ := Aside0.mk hjj
  have HJ := Aside0.mk hj
  clear hat hfi hc3 hfj hjj hj
  go_wp2_with fail
  refine (IndexFuncRow k50 rfl (keyOver p.f0) 102 #[.pointer (some ⟨w.heap.size, 0, none⟩)] (enters_of Try.func102 (by kernel_rfl) rfl) _ l0 w3 hsl3.out hpred.out).mono ?_
  rintro e w4 ⟨rfl, hb4⟩
  rw [HFJ.out]
  have HB4 := Aside0.mk (below_then HB3.out hb4 HB3.out.size)
  have HO4 := Aside0.mk (HO3.out.below hb4)
  have hrb4 := (hb4.block w2.heap.size (heap_lt HRB.out)).trans HRB.out
  have hr0 : w4.cell? ⟨w2.heap.size, 0, none⟩ = some (.string p.f0) := cell_at hrb4 rfl
  have hr1 : w4.cell? ⟨w2.heap.size, 1, none⟩ = some (.string p.f1) := cell_at hrb4 rfl
  have hr2 : w4.cell? ⟨w2.heap.size, 2, none⟩ = some (.int .u64 ver) := cell_at hrb4 rfl
  have HIN : ∀ W : World, W = w4.alloc (.cells #[.string p.f0, .string p.f1, .int .u64 ver] 50) → Calls Try.prog 103 #[.slice A l0.length cap, .int .i64 j, .slice (some ⟨w4.heap.size, 0, none⟩) 1 1] W (InsertPostRow W w1.heap.size (.slice A l0.length cap) ((l0.map enc50).take j ++ enc50 ⟨p.f0, p.f1, ver⟩ :: (l0.map enc50).drop j)) := fun W hW => by
    subst hW
    exact InsertRow _ (l0.map enc50) j (enc50 ⟨p.f0, p.f1, ver⟩) w4.heap.size _ _ (HO4.out.below ((Below.refl _ w4).alloc (Nat.le_refl _) _)) (by have := HB12.out; have := hb3.size; have := hb4.size; simp at *; omega) (by rw [List.length_map]; exact HJ.out) (heap_alloc_new w4 _) (flat50.one _) (fun e => by have := HO4.out.lt _ e; omega) (by rw [List.length_map]; have := HL.out; omega)
  have HINA := Aside0.mk HIN
  clear HIN hrb4 hsl3 hpred hb4 hb3
  have hlen : (l0.length : Int) ≤ 9223372036854775807 := by omega
  rcases HJJ.out with ⟨h1, h2⟩ | h1
  · subst h2
    have h3 : jj < 0 := h1
    go_wp2_with (go_at_call 103; refine (HINA.out _ rfl).mono ?_; rintro e w5 ⟨v5, rfl, ho5, hg5⟩; have HO5 := Aside0.mk ho5; have HG5 := Aside0.mk hg5; clear ho5 hg5)
    go_ret2
    rw [← List.map_take, ← List.map_drop, ← List.map_cons, ← List.map_append] at HO5
    exact ⟨_, rfl, flat50.R (HO5.out.lower (by have := HLT.out; omega)) (fun _ _ => trivial), (HB4.out.alloc HB4.out.size _).grown HG5.out (by have := HB4.out.size; simp; omega) (fun q hq => by have := HOb.out q (by rw [ownBlock_slice] at hq ⊢; exact hq); have := HLT.out; omega)⟩
  · subst h1
    have h3 : ¬ (j : Int) < 0 := by omega
    go_wp2_with (go_at_call 103; refine (HINA.out _ rfl).mono ?_; rintro e w5 ⟨v5, rfl, ho5, hg5⟩; have HO5 := Aside0.mk ho5; have HG5 := Aside0.mk hg5; clear ho5 hg5)
    go_ret2
    rw [← List.map_take, ← List.map_drop, ← List.map_cons, ← List.map_append] at HO5
    exact ⟨_, rfl, flat50.R (HO5.out.lower (by have := HLT.out; omega)) (fun _ _ => trivial), (HB4.out.alloc HB4.out.size _).grown HG5.out (by have := HB4.out.size; simp; omega) (fun q hq => by have := HOb.out q (by rw [ownBlock_slice] at hq ⊢; exact hq); have := HLT.out; omega)⟩
theorem findI_ways {α : Type} (p : α → Bool) (l : List α) : findI p l = -1 ∨ ∃ i : Nat, i < l.length ∧ findI p l = i := by
  unfold findI
  split
  · exact .inr ⟨_, ‹_›, rfl⟩
  · exact .inl rfl
theorem rows_Do.calls (A0 : Option Addr) (c0 : Nat) (l0 : List S50) (a1_0 : ByteArray) (a1_1 : ByteArray) (a1_2 : Bool) (a2 : Int) (r1 : List S50) (r2 : Int) (w : World) (hr0 : Kd.C k50 w A0 l0.length l0) (hc0 : l0.length ≤ c0) (h : rows_Do.f l0 a1_0 a1_1 a1_2 a2 = some (r1, r2)) :
    Calls Try.prog 92 #[.slice A0 l0.length c0, .agg #[.string a1_0, .string a1_1, .bool a1_2], .int .u64 a2] w fun e w' => ∃ v0_ : Value, e = .returned (.tuple #[v0_, .int .i64 r2]) ∧ Kd.R k50 50 w' w.heap.size (fun _ => True) v0_ r1 ∧ Below w.heap.size w w' := by
  unfold rows_Do.f at h
  split at h
  · rename_i hl
    have h := Option.some.inj h
    have hv : Sl k50 w (.slice A0 l0.length c0) l0 := ⟨A0, c0, rfl, hc0, hr0⟩
    unfold doV at h
    split at h
    · rename_i hf
      obtain ⟨rfl, rfl⟩ := Prod.mk.inj h
      exact (do_bad _ ⟨a1_0, a1_1, a1_2⟩ a2 w _ rfl hf).mono fun e w' ⟨he, hb⟩ => ⟨_, he, Kd.R_nil _ _ _ _ _, hb⟩
    · rename_i hf
      have hf : fitsV [⟨a1_0, a1_1, a1_2⟩] = 0 := Decidable.byContradiction hf
      split at h
      · rename_i hp
        obtain ⟨rfl, rfl⟩ := Prod.mk.inj h
        exact do_gone _ l0 ⟨a1_0, a1_1, a1_2⟩ a2 w hv hl hf hp
      · rename_i hp
        have hp : a1_2 = false := by simpa using hp
        rcases findI_ways (keyIs a1_0) l0 with hi | ⟨i, hi, hfi⟩
        · rw [hi, if_neg (by omega)] at h
          split at h
          · rename_i hbig
            obtain ⟨rfl, rfl⟩ := Prod.mk.inj h
            exact (do_full _ l0 ⟨a1_0, a1_1, a1_2⟩ a2 w hv hl hf hp hi hbig).mono fun e w' ⟨he, hb⟩ => ⟨_, he, Kd.R_nil _ _ _ _ _, hb⟩
          · rename_i hbig
            obtain ⟨rfl, rfl⟩ := Prod.mk.inj h
            rcases findI_ways (keyOver a1_0) l0 with hj | ⟨j, hj, hfj⟩
            · rw [hj, if_pos (by omega)]
              exact do_ins _ l0 ⟨a1_0, a1_1, a1_2⟩ a2 w hv hl hf hp hi hbig l0.length (Nat.le_refl _) (-1) hj (.inl ⟨by omega, rfl⟩)
            · rw [hfj, if_neg (by omega), Int.toNat_natCast]
              exact do_ins _ l0 ⟨a1_0, a1_1, a1_2⟩ a2 w hv hl hf hp hi hbig j (by omega) j hfj (.inr rfl)
        · rw [hfi, if_pos (by omega), Int.toNat_natCast] at h
          obtain ⟨rfl, rfl⟩ := Prod.mk.inj h
          exact do_hit _ l0 ⟨a1_0, a1_1, a1_2⟩ a2 w hv hl hf hp i hi hfi
  · cases h
end Go.Proofs.Ytmcgcdpiceikeaa.PAll
end
section
/- ferruleref11.Fits, as the printed texts call it. -/
namespace Go.Proofs.Ytmcgcdpiceikeaa.PAll
open Go.RowKit Go.Proofs.YtmcgcdpiceikeaaW.PrintWords Go.Proofs.Ytmcgcdpiceikeaa
set_option linter.unusedVariables false
def ferruleref11_Fits.f (l0 : List S54) : Option Int := some (fitsV l0)
theorem size_pos (s : ByteArray) : ((0 : Int) < s.size) = (¬ s.toList = []) := propext (by
  have : s.toList.length = s.size := by rw [ByteArray.toList_eq, Array.length_toList]; rfl
  constructor
  · intro h e; rw [e] at this; simp at this; omega
  · intro h
    cases hl : s.toList with
    | nil => exact absurd hl h
    | cons a r => rw [hl] at this; simp at this; omega)
theorem bad_iff (x : S54) : badPut x = true ↔ ((x.f0.size : Int) < 1 ∨ (16 : Int) < x.f0.size ∨ (32 : Int) < x.f1.size ∨ (x.f2 = true ∧ (0 : Int) < x.f1.size)) := by
  have e32 : ((32 : Int) < (x.f1.size : Int)) = (32 < x.f1.size) := propext (by omega)
  have e16 : ((16 : Int) < (x.f0.size : Int)) = (16 < x.f0.size) := propext (by omega)
  have e1 : ((x.f0.size : Int) < 1) = (¬ 1 ≤ x.f0.size) := propext (by omega)
  unfold badPut
  rw [e32, e16, e1, size_pos]
  by_cases h1 : 1 ≤ x.f0.size <;> by_cases h2 : x.f0.size ≤ 16 <;> simp [h1, h2] <;> omega
/-- The first j puts have no such key. -/
theorem hasKey_take (l : List S54) (s : ByteArray) (k : Nat) (hk : k < l.length) : hasKey (l.take (k + 1)) s = (hasKey (l.take k) s || (l[k]!).f0.toList == s.toList) := by
  rw [List.take_succ_eq_append_getElem hk]
  unfold hasKey
  rw [List.any_append, getElem!_pos l k hk]
  simp
theorem hasKey_mono (l : List S54) (s : ByteArray) (k j : Nat) (hkj : k ≤ j) (h : hasKey (l.take k) s = true) : hasKey (l.take j) s = true := by
  unfold hasKey at h ⊢
  rw [List.any_eq_true] at h ⊢
  obtain ⟨x, hx, h⟩ := h
  have : l.take k = (l.take j).take k := by rw [List.take_take, Nat.min_eq_left hkj]
  rw [this] at hx
  exact ⟨x, List.mem_of_mem_take hx, h⟩
set_option maxRecDepth 100000 in
set_option maxHeartbeats 4000000 in
theorem ferruleref11_Fits.calls (A0 : Option Addr) (c0 : Nat) (l0 : List S54) (r : Int) (w : World) (hr0 : Kd.C k54 w A0 l0.length l0) (hc0 : l0.length ≤ c0) (h : ferruleref11_Fits.f l0 = some r) :
    Calls Try.prog 36 #[.slice A0 l0.length c0] w fun e w' => e = .returned (.int .i64 r) ∧ Below w.heap.size w w' := by
  obtain rfl := Option.some.inj h
  have HR := Aside0.mk hr0
  clear h hr0
  by_cases hbig : 8 < l0.length
  · have hv : fitsV l0 = 4 := by unfold fitsV; rw [if_pos hbig]
    rw [hv]
    have hbigz : (8 : Int) < (l0.length : Int) := by omega
    go_enter Try.func36, Try.ntmps36
    go_wp2
    go_ret
    exact ⟨rfl, Below.refl _ _⟩
  · have hv : fitsV l0 = fitsGo (l0.drop 0) (l0.take 0) := by unfold fitsV; rw [if_neg hbig, List.drop_zero, List.take_zero]
    rw [hv]
    have hbigz : ¬ (8 : Int) < (l0.length : Int) := by omega
    generalize hr : fitsGo (l0.drop 0) (l0.take 0) = r
    go_enter Try.func36, Try.ntmps36
    go_wp2
    go_loopw [3] (fun i wr => ∃ j : Nat, j ≤ l0.length ∧ i = .int .i64 j ∧ Aside0 (fitsGo (l0.drop j) (l0.take j) = r) ∧ Aside0 (Below w.heap.size w wr)) (fun i _ => l0.length - (intOf i).toNat)
    case atStart => exact ⟨0, Nat.zero_le _, rfl, ⟨hr⟩, ⟨Below.refl _ _⟩⟩
    case round =>
      obtain ⟨j, hj, rfl, HF, HB⟩ := hrel
      obtain ⟨wo, hwo⟩ : ∃ wo, wo = wr := ⟨wr, rfl⟩
      subst hwo
      by_cases hlt : j < l0.length
      · have hltz : (j : Int) < (l0.length : Int) := by omega
        obtain ⟨b, o, rfl, hrow⟩ := C_row HR.out (by decide) (by omega)
        have hkey : ∀ k, k < l0.length → ∀ W, Below w.heap.size w W → W.cell? ⟨b, o + k * 3, none⟩ = some (.string (l0[k]!).f0) ∧ W.cell? ⟨b, o + k * 3 + 1, none⟩ = some (.string (l0[k]!).f1) ∧ W.cell? ⟨b, o + k * 3 + 2, none⟩ = some (.bool (l0[k]!).f2) := fun k hk W hW => by
          obtain ⟨cs, hcs, hK, hrg⟩ := hrow k hk
          obtain rfl := flat54.openK _ _ _ hK
          have h0 : w.cell? ⟨b, o + k * 3, none⟩ = some (.string (l0[k]!).f0) := hrg 0 _ rfl
          have hbl := World.block_lt_of_cell? w _ h0
          exact ⟨(hW.cell (p := ⟨b, o + k * 3, none⟩) hbl).trans h0, (hW.cell (p := ⟨b, o + k * 3 + 1, none⟩) hbl).trans (hrg 1 _ rfl), (hW.cell (p := ⟨b, o + k * 3 + 2, none⟩) hbl).trans (hrg 2 _ rfl)⟩
        obtain ⟨hc0_, hc1_, hc2_⟩ := hkey j hlt wo HB.out
        have HKEY := Aside0.mk hkey
        have HS := Aside0.mk (fitsGo_step l0 j hlt)
        clear hrow hkey
        generalize hxx : l0[j]! = x at *
        have HBAD := Aside0.mk (bad_iff x)
        have HX := Aside0.mk ((MapKept.heap_alloc wo (.cells #[.string x.f0, .string x.f1, .bool x.f2] 54)).1)
        go_wp2
        all_goals first
          | (have hb : badPut x = true := HBAD.out.2 (by first | (exact .inl (by omega)) | (exact .inr (.inl (by omega))) | (exact .inr (.inr (.inl (by omega)))) | (exact .inr (.inr (.inr ⟨by assumption, by omega⟩))))
             have e : r = 1 := by rw [← HF.out, HS.out, hb]; rfl
             subst e
             go_ret
             exact ⟨rfl, HB.out.alloc HB.out.size _⟩)
          | (have hnb : Aside0 (badPut x = false) := ⟨by
               rw [Bool.eq_false_iff]
               intro hb
               rcases HBAD.out.1 hb with h | h | h | ⟨h1, h2⟩
               · omega
               · omega
               · omega
               · first | omega | exact absurd h1 (by assumption)⟩
             clear HX
             go_loopw [5] (fun kv wr2 => ∃ k : Nat, k ≤ j ∧ kv = .int .i64 k ∧ Aside0 (hasKey (l0.take k) x.f0 = false) ∧ Aside0 (Below w.heap.size w wr2) ∧ wo.heap.size < wr2.heap.size ∧ Aside0 (∃ g, wr2.heap[wo.heap.size]? = some (.cells #[.string x.f0, .string x.f1, g] 54))) (fun kv _ => j - (intOf kv).toNat)
             case atStart => exact ⟨0, Nat.zero_le _, rfl, ⟨by simp [hasKey]⟩, ⟨HB.out.alloc HB.out.size _⟩, by simp, ⟨_, (MapKept.heap_alloc wo _).1⟩⟩
             case round =>
               obtain ⟨k, hk, rfl, HH, HB2, hs2, HG⟩ := hrel
               by_cases hkl : k < j
               · have hklz : (k : Int) < (j : Int) := by omega
                 obtain ⟨g, hg⟩ := HG.out
                 have hx0 : wr.cell? ⟨wo.heap.size, 0, none⟩ = some (.string x.f0) := cell_at hg rfl
                 obtain ⟨hk0, _, _⟩ := HKEY.out k (by omega) wr HB2.out
                 have HT := Aside0.mk (hasKey_take l0 x.f0 k (by omega))
                 generalize (l0[k]!).f0 = y at *
                 clear hg
                 go_wp2
                 go_region
                 all_goals go_wp2
                 all_goals first
                   | (have hy : (y.toList == x.f0.toList) = true := by assumption
                      have h1 : hasKey (l0.take j) x.f0 = true := hasKey_mono _ _ (k + 1) j (by omega) (by rw [HT.out, hy, Bool.or_true])
                      have e : r = 1 := by rw [← HF.out, HS.out, h1, Bool.or_true]; rfl
                      subst e
                      go_ret
                      exact ⟨rfl, HB2.out.drew⟩)
                   | (have hy : (y.toList == x.f0.toList) = false := by assumption
                      exact ⟨⟨k + 1, by omega, by simp, ⟨by rw [HT.out, HH.out, hy]; rfl⟩, ⟨HB2.out.drew⟩, by simpa using hs2, ⟨HG.out⟩⟩, by simp [intOf]; omega⟩)
               · obtain rfl : k = j := by omega
                 go_wp2
                 go_roundw
                 case rel => exact ⟨k + 1, by omega, by simp, ⟨by rw [← HF.out, HS.out, hnb.out, HH.out]; rfl⟩, ⟨HB2.out⟩⟩
                 case measure => simp [intOf]; omega)
      · obtain rfl : j = l0.length := by omega
        go_wp2
        go_ret
        have hf := HF.out
        rw [List.drop_length] at hf
        have h0 : (0 : Int) = r := hf
        subst h0
        exact ⟨rfl, HB.out⟩
end Go.Proofs.Ytmcgcdpiceikeaa.PAll
end
