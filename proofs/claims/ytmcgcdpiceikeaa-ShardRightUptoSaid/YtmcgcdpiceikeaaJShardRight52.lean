/- Joined texts of the claim ShardRight (part 52): contracts of functions and plain laws. -/
import Derived.BigRegion
import Derived.Outline
import Derived.Test.YtmcgcdpiceikeaaJShardRight51
import Derived.BigQuiet
import Derived.Deep.CutRange
import Derived.Deep.DeepCutAuto
import Derived.Deep.QuietTactic
import Derived.Deep.RegionHeld3
import Derived.Deep.RegionWith
import Derived.Test.YtmcgcdpiceikeaaJShardRight3
section
/- The document's example of chapter 13 holds, whenever it is asked: by its own four paths. -/
namespace Go.Proofs.Ytmcgcdpiceikeaa.PAll
open Go.RowKit Go.Proofs.YtmcgcdpiceikeaaW.PrintWords Go.Proofs.YtmcgcdpiceikeaaW.PrintMore Go.Proofs.Ytmcgcdpiceikeaa
set_option linter.unusedVariables false
theorem C_put1x {W : World} {b t : Nat} {p : S54} (h : W.heap[b]? = some (.cells (enc54 p).toArray t (0, 0))) : Kd.C k54 W (some ⟨b, 0, none⟩) 1 [p] := by
  refine ⟨rfl, by decide, fun _ => ⟨_, rfl, fun j q hj => ⟨enc54 q, rfl, flat54.kk _ _, fun i u hu => ?_⟩⟩⟩
  have hj1 : j < 1 := (List.getElem?_eq_some_iff.1 hj).1
  obtain rfl : j = 0 := by omega
  obtain rfl : p = q := by simpa using hj
  rw [Addr.add_lit, cell_row h, Nat.zero_mul, Nat.zero_add, Nat.zero_add]
  exact hu
set_option maxHeartbeats 4000000 in
set_option maxRecDepth 100000 in
theorem shown13x (w : World) : Calls Try.prog 10 #[] w fun e w' => e = .returned (.bool true) ∧ Below w.heap.size w w' := by
  have HT0 := Aside0.mk (stayA (heap_alloc_new w (.cells #[.int .u64 1, .int .u64 0] 30)) (.cells #[.string ⟨#[97]⟩, .string ⟨#[49]⟩, .bool false] 54))
  have hp0 := heap_alloc_new (w.alloc (.cells #[.int .u64 1, .int .u64 0] 30)) (.cells #[.string ⟨#[97]⟩, .string ⟨#[49]⟩, .bool false] 54)
  rw [World.size_alloc] at hp0
  have HP0 := Aside0.mk hp0
  have HB0 := Aside0.mk (((Below.refl w.heap.size w).alloc (Nat.le_refl _) (.cells #[.int .u64 1, .int .u64 0] 30)).alloc (by simp) (.cells #[.string ⟨#[97]⟩, .string ⟨#[49]⟩, .bool false] 54))
  have HS0 : Aside0 (w.heap.size + 1 + 1 ≤ ((w.alloc (.cells #[.int .u64 1, .int .u64 0] 30)).alloc (.cells #[.string ⟨#[97]⟩, .string ⟨#[49]⟩, .bool false] 54)).heap.size) := ⟨by simp⟩
  clear hp0
  go_enter Try.func10, Try.ntmps10
  go_upto_region 3 with (fail)
  generalize (w.alloc (.cells #[.int .u64 1, .int .u64 0] 30)).alloc (.cells #[.string ⟨#[97]⟩, .string ⟨#[49]⟩, .bool false] 54) = W0 at *
  have ht0 := cell_row (cs := [.int .u64 1, .int .u64 0]) HT0.out 0
  have ht1 := cell_row (cs := [.int .u64 1, .int .u64 0]) HT0.out 1
  go_upto_region 4 with (go_at_call 11; refine (dox1 W0).mono ?_; intro e w3 hp; obtain ⟨E0, n0, d0, E1, n1, d1, E2, n2, d2, E3, n3, d3, rfl, hv3, hb3⟩ := doOut (r := ex1) hp; clear hp ht0 ht1; have HV3 := Aside0.mk hv3; have HBB3 := Aside0.mk hb3; clear hv3 hb3)
  have XS4 := Aside0.mk ((ShdAt.made HV3.out).below ((Below.refl _ _).alloc (Nat.le_refl _) (.cells #[.int .i64 ex1.2.err, .string ex1.2.val, .int .u64 ex1.2.ver, .bool ex1.2.found, .bool ex1.2.commit] 38)))
  have ha4 := heap_alloc_new (w3.alloc (.cells #[.slice E0 n0 d0, .slice E1 n1 d1, .slice E2 n2 d2, .slice E3 n3 d3, .int .u64 ex1.1.ver] 28)) (.cells #[.int .i64 ex1.2.err, .string ex1.2.val, .int .u64 ex1.2.ver, .bool ex1.2.found, .bool ex1.2.commit] 38)
  rw [World.size_alloc] at ha4
  have HA4 := Aside0.mk ha4
  have HT4 := Aside0.mk (stayA (stayA (stay HBB3.out HT0.out (by have := HS0.out; omega)) (.cells #[.slice E0 n0 d0, .slice E1 n1 d1, .slice E2 n2 d2, .slice E3 n3 d3, .int .u64 ex1.1.ver] 28)) (.cells #[.int .i64 ex1.2.err, .string ex1.2.val, .int .u64 ex1.2.ver, .bool ex1.2.found, .bool ex1.2.commit] 38))
  have HP4 := Aside0.mk (stayA (stayA (stay HBB3.out HP0.out (by have := HS0.out; omega)) (.cells #[.slice E0 n0 d0, .slice E1 n1 d1, .slice E2 n2 d2, .slice E3 n3 d3, .int .u64 ex1.1.ver] 28)) (.cells #[.int .i64 ex1.2.err, .string ex1.2.val, .int .u64 ex1.2.ver, .bool ex1.2.found, .bool ex1.2.commit] 38))
  have HB3 := Aside0.mk (HB0.out.trans (HBB3.out.mono HB0.out.size))
  have HB4 := Aside0.mk ((HB3.out.alloc HB3.out.size (.cells #[.slice E0 n0 d0, .slice E1 n1 d1, .slice E2 n2 d2, .slice E3 n3 d3, .int .u64 ex1.1.ver] 28)).alloc (by rw [World.size_alloc]; have := HB3.out.size; omega) (.cells #[.int .i64 ex1.2.err, .string ex1.2.val, .int .u64 ex1.2.ver, .bool ex1.2.found, .bool ex1.2.commit] 38))
  have HQ4 : Aside0 (w3.heap.size + 1 + 1 ≤ ((w3.alloc (.cells #[.slice E0 n0 d0, .slice E1 n1 d1, .slice E2 n2 d2, .slice E3 n3 d3, .int .u64 ex1.1.ver] 28)).alloc (.cells #[.int .i64 ex1.2.err, .string ex1.2.val, .int .u64 ex1.2.ver, .bool ex1.2.found, .bool ex1.2.commit] 38)).heap.size) := ⟨by simp⟩
  have HQ4B : Aside0 (w.heap.size + 1 + 1 ≤ w3.heap.size) := ⟨Nat.le_trans HS0.out HBB3.out.size⟩
  have hq : w.heap.size + 1 + 1 ≤ w3.heap.size := Nat.le_trans HS0.out HBB3.out.size
  clear ha4 HV3 HBB3 HB3
  change Code.wp _ _ _ _ ((w3.alloc (.cells #[.slice E0 n0 d0, .slice E1 n1 d1, .slice E2 n2 d2, .slice E3 n3 d3, .int .u64 ex1.1.ver] 28)).alloc (.cells #[.int .i64 ex1.2.err, .string ex1.2.val, .int .u64 ex1.2.ver, .bool ex1.2.found, .bool ex1.2.commit] 38))
  generalize (w3.alloc (.cells #[.slice E0 n0 d0, .slice E1 n1 d1, .slice E2 n2 d2, .slice E3 n3 d3, .int .u64 ex1.1.ver] 28)).alloc (.cells #[.int .i64 ex1.2.err, .string ex1.2.val, .int .u64 ex1.2.ver, .bool ex1.2.found, .bool ex1.2.commit] 38) = W4 at *
  generalize w3.heap.size = q at *
  obtain ⟨A0, m0, c0, A1, m1, c1, A2, m2, c2, A3, m3, c3, hX, hDO⟩ := dox2_at XS4.out
  have HX4 := Aside0.mk hX
  have HDO := Aside0.mk hDO
  obtain ⟨hs0, hs1, hs2, hs3, hs4⟩ := cells_5 hX
  have ht0 := cell_row (cs := [.int .u64 1, .int .u64 0]) HT4.out 0
  have ht1 := cell_row (cs := [.int .u64 1, .int .u64 0]) HT4.out 1
  clear hX hDO
  go_upto_region 5 with (go_at_call 11; refine (HDO.out (some ⟨w.heap.size + 1, 0, none⟩) W4 (C_put1x (p := ⟨⟨#[97]⟩, ⟨#[49]⟩, false⟩) HP4.out) (Below.refl _ _)).mono ?_; intro e w5 hp; obtain ⟨E0'', n0'', d0'', E1'', n1'', d1'', E2'', n2'', d2'', E3'', n3'', d3'', rfl, hv5, hb5⟩ := doOut (r := ex2) hp; clear hp ht0 ht1 hs0 hs1 hs2 hs3 hs4; have HV5 := Aside0.mk hv5; have XB5 := Aside0.mk (stay hb5 HX4.out (by have := HQ4.out; omega)); obtain ⟨hz0, hz1, hz2, hz3, hz4⟩ := cells_5 XB5.out; obtain ⟨hy0, hy1, hy2, hy3, hy4⟩ := froz_5 XB5.out; have hq5 : q < w5.heap.size := (by have := HQ4.out; have := hb5.size; omega); have HBB5 := Aside0.mk hb5; clear hv5 hb5)
  have XS6 := Aside0.mk ((ShdAt.put XB5.out HV5.out).below ((Below.refl _ _).alloc (Nat.le_refl _) (.cells #[.int .i64 ex2.2.err, .string ex2.2.val, .int .u64 ex2.2.ver, .bool ex2.2.found, .bool ex2.2.commit] 38)))
  have hpz : (put5 w5 q (.slice E0'' n0'' d0'') (.slice E1'' n1'' d1'') (.slice E2'' n2'' d2'') (.slice E3'' n3'' d3'') (.int .u64 ex2.1.ver)).heap.size = w5.heap.size := by simp [put5, World.setCell]
  have HT6 := Aside0.mk (stayA (put5_other (b := w.heap.size) (g := q) (by have := HQ4B.out; omega) (stay HBB5.out HT4.out (by have := HQ4.out; have := HQ4B.out; omega)) (.slice E0'' n0'' d0'') (.slice E1'' n1'' d1'') (.slice E2'' n2'' d2'') (.slice E3'' n3'' d3'') (.int .u64 ex2.1.ver)) (.cells #[.int .i64 ex2.2.err, .string ex2.2.val, .int .u64 ex2.2.ver, .bool ex2.2.found, .bool ex2.2.commit] 38))
  have HA6 := Aside0.mk (stayA (put5_other (b := q + 1) (g := q) (by have := HQ4B.out; omega) (stay HBB5.out HA4.out (by have := HQ4.out; have := HQ4B.out; omega)) (.slice E0'' n0'' d0'') (.slice E1'' n1'' d1'') (.slice E2'' n2'' d2'') (.slice E3'' n3'' d3'') (.int .u64 ex2.1.ver)) (.cells #[.int .i64 ex2.2.err, .string ex2.2.val, .int .u64 ex2.2.ver, .bool ex2.2.found, .bool ex2.2.commit] 38))
  have ha6 := heap_alloc_new (put5 w5 q (.slice E0'' n0'' d0'') (.slice E1'' n1'' d1'') (.slice E2'' n2'' d2'') (.slice E3'' n3'' d3'') (.int .u64 ex2.1.ver)) (.cells #[.int .i64 ex2.2.err, .string ex2.2.val, .int .u64 ex2.2.ver, .bool ex2.2.found, .bool ex2.2.commit] 38)
  rw [hpz] at ha6
  have HAB6 := Aside0.mk ha6
  have HB6 : Aside0 (Below w.heap.size w ((put5 w5 q (.slice E0'' n0'' d0'') (.slice E1'' n1'' d1'') (.slice E2'' n2'' d2'') (.slice E3'' n3'' d3'') (.int .u64 ex2.1.ver)).alloc (.cells #[.int .i64 ex2.2.err, .string ex2.2.val, .int .u64 ex2.2.ver, .bool ex2.2.found, .bool ex2.2.commit] 38))) := ⟨(put5_below (HB4.out.trans (HBB5.out.mono HB4.out.size)) (by omega) _ _ _ _ _).alloc (by rw [hpz]; have := HB4.out.size; have := HBB5.out.size; omega) _⟩
  have HQ6 : Aside0 (q + 1 + 1 ≤ ((put5 w5 q (.slice E0'' n0'' d0'') (.slice E1'' n1'' d1'') (.slice E2'' n2'' d2'') (.slice E3'' n3'' d3'') (.int .u64 ex2.1.ver)).alloc (.cells #[.int .i64 ex2.2.err, .string ex2.2.val, .int .u64 ex2.2.ver, .bool ex2.2.found, .bool ex2.2.commit] 38)).heap.size ∧ w5.heap.size < ((put5 w5 q (.slice E0'' n0'' d0'') (.slice E1'' n1'' d1'') (.slice E2'' n2'' d2'') (.slice E3'' n3'' d3'') (.int .u64 ex2.1.ver)).alloc (.cells #[.int .i64 ex2.2.err, .string ex2.2.val, .int .u64 ex2.2.ver, .bool ex2.2.found, .bool ex2.2.commit] 38)).heap.size) := ⟨by rw [World.size_alloc, hpz]; have := HQ4.out; have := HBB5.out.size; omega⟩
  have hb5q : q + 1 + 1 ≤ w5.heap.size := by have := HQ4.out; have := HBB5.out.size; omega
  clear ha6 hpz HV5 HBB5 hz0 hz1 hz2 hz3 hz4 hy0 hy1 hy2 hy3 hy4 hq5
  change Code.wp _ _ _ _ ((put5 w5 q (.slice E0'' n0'' d0'') (.slice E1'' n1'' d1'') (.slice E2'' n2'' d2'') (.slice E3'' n3'' d3'') (.int .u64 ex2.1.ver)).alloc (.cells #[.int .i64 ex2.2.err, .string ex2.2.val, .int .u64 ex2.2.ver, .bool ex2.2.found, .bool ex2.2.commit] 38))
  generalize (put5 w5 q (.slice E0'' n0'' d0'') (.slice E1'' n1'' d1'') (.slice E2'' n2'' d2'') (.slice E3'' n3'' d3'') (.int .u64 ex2.1.ver)).alloc (.cells #[.int .i64 ex2.2.err, .string ex2.2.val, .int .u64 ex2.2.ver, .bool ex2.2.found, .bool ex2.2.commit] 38) = W6 at *
  generalize w5.heap.size = b2 at *
  obtain ⟨A0, m0, c0, A1, m1, c1, A2, m2, c2, A3, m3, c3, hX, hDO⟩ := dox3_at XS6.out
  have HX6 := Aside0.mk hX
  have HDO := Aside0.mk hDO
  obtain ⟨hs0, hs1, hs2, hs3, hs4⟩ := cells_5 hX
  have ht0 := cell_row (cs := [.int .u64 1, .int .u64 0]) HT6.out 0
  have ht1 := cell_row (cs := [.int .u64 1, .int .u64 0]) HT6.out 1
  clear hX hDO
  go_upto_region 6 with (go_at_call 11; refine (HDO.out W6 (Below.refl _ _)).mono ?_; intro e w7 hp; obtain ⟨E0''', n0''', d0''', E1''', n1''', d1''', E2''', n2''', d2''', E3''', n3''', d3''', rfl, hv7, hb7⟩ := doOut (r := ex3) hp; clear hp ht0 ht1 hs0 hs1 hs2 hs3 hs4; have HV7 := Aside0.mk hv7; have XB7 := Aside0.mk (stay hb7 HX6.out (by have := HQ6.out; omega)); obtain ⟨hz0, hz1, hz2, hz3, hz4⟩ := cells_5 XB7.out; obtain ⟨hy0, hy1, hy2, hy3, hy4⟩ := froz_5 XB7.out; have hq7 : q < w7.heap.size := (by have := HQ6.out; have := hb7.size; omega); have HBB7 := Aside0.mk hb7; clear hv7 hb7)
  have XS8 := Aside0.mk ((ShdAt.put XB7.out HV7.out).below ((Below.refl _ _).alloc (Nat.le_refl _) (.cells #[.int .i64 ex3.2.err, .string ex3.2.val, .int .u64 ex3.2.ver, .bool ex3.2.found, .bool ex3.2.commit] 38)))
  have hpz : (put5 w7 q (.slice E0''' n0''' d0''') (.slice E1''' n1''' d1''') (.slice E2''' n2''' d2''') (.slice E3''' n3''' d3''') (.int .u64 ex3.1.ver)).heap.size = w7.heap.size := by simp [put5, World.setCell]
  have HT8 := Aside0.mk (stayA (put5_other (b := w.heap.size) (g := q) (by have := HQ4B.out; omega) (stay HBB7.out HT6.out (by have := HQ6.out; have := HQ4B.out; omega)) (.slice E0''' n0''' d0''') (.slice E1''' n1''' d1''') (.slice E2''' n2''' d2''') (.slice E3''' n3''' d3''') (.int .u64 ex3.1.ver)) (.cells #[.int .i64 ex3.2.err, .string ex3.2.val, .int .u64 ex3.2.ver, .bool ex3.2.found, .bool ex3.2.commit] 38))
  have HA8 := Aside0.mk (stayA (put5_other (b := q + 1) (g := q) (by have := HQ4B.out; omega) (stay HBB7.out HA6.out (by have := HQ6.out; have := HQ4B.out; omega)) (.slice E0''' n0''' d0''') (.slice E1''' n1''' d1''') (.slice E2''' n2''' d2''') (.slice E3''' n3''' d3''') (.int .u64 ex3.1.ver)) (.cells #[.int .i64 ex3.2.err, .string ex3.2.val, .int .u64 ex3.2.ver, .bool ex3.2.found, .bool ex3.2.commit] 38))
  have HAB8 := Aside0.mk (stayA (put5_other (b := b2) (g := q) (by have := HQ4B.out; omega) (stay HBB7.out HAB6.out (by have := HQ6.out; have := HQ4B.out; omega)) (.slice E0''' n0''' d0''') (.slice E1''' n1''' d1''') (.slice E2''' n2''' d2''') (.slice E3''' n3''' d3''') (.int .u64 ex3.1.ver)) (.cells #[.int .i64 ex3.2.err, .string ex3.2.val, .int .u64 ex3.2.ver, .bool ex3.2.found, .bool ex3.2.commit] 38))
  have ha8 := heap_alloc_new (put5 w7 q (.slice E0''' n0''' d0''') (.slice E1''' n1''' d1''') (.slice E2''' n2''' d2''') (.slice E3''' n3''' d3''') (.int .u64 ex3.1.ver)) (.cells #[.int .i64 ex3.2.err, .string ex3.2.val, .int .u64 ex3.2.ver, .bool ex3.2.found, .bool ex3.2.commit] 38)
  rw [hpz] at ha8
  have HAC8 := Aside0.mk ha8
  have HB8 : Aside0 (Below w.heap.size w ((put5 w7 q (.slice E0''' n0''' d0''') (.slice E1''' n1''' d1''') (.slice E2''' n2''' d2''') (.slice E3''' n3''' d3''') (.int .u64 ex3.1.ver)).alloc (.cells #[.int .i64 ex3.2.err, .string ex3.2.val, .int .u64 ex3.2.ver, .bool ex3.2.found, .bool ex3.2.commit] 38))) := ⟨(put5_below (HB6.out.trans (HBB7.out.mono HB6.out.size)) (by omega) _ _ _ _ _).alloc (by rw [hpz]; have := HB6.out.size; have := HBB7.out.size; omega) _⟩
  have HQ8 : Aside0 (q + 1 + 1 ≤ ((put5 w7 q (.slice E0''' n0''' d0''') (.slice E1''' n1''' d1''') (.slice E2''' n2''' d2''') (.slice E3''' n3''' d3''') (.int .u64 ex3.1.ver)).alloc (.cells #[.int .i64 ex3.2.err, .string ex3.2.val, .int .u64 ex3.2.ver, .bool ex3.2.found, .bool ex3.2.commit] 38)).heap.size ∧ w7.heap.size < ((put5 w7 q (.slice E0''' n0''' d0''') (.slice E1''' n1''' d1''') (.slice E2''' n2''' d2''') (.slice E3''' n3''' d3''') (.int .u64 ex3.1.ver)).alloc (.cells #[.int .i64 ex3.2.err, .string ex3.2.val, .int .u64 ex3.2.ver, .bool ex3.2.found, .bool ex3.2.commit] 38)).heap.size) := ⟨by rw [World.size_alloc, hpz]; have := HQ6.out; have := HBB7.out.size; omega⟩
  have hb7q : q + 1 + 1 ≤ w7.heap.size := by have := HQ6.out; have := HBB7.out.size; omega
  have hbb : b2 < w7.heap.size := by have := HQ6.out; have := HBB7.out.size; omega
  clear ha8 hpz HV7 HBB7 hz0 hz1 hz2 hz3 hz4 hy0 hy1 hy2 hy3 hy4 hq7
  change Code.wp _ _ _ _ ((put5 w7 q (.slice E0''' n0''' d0''') (.slice E1''' n1''' d1''') (.slice E2''' n2''' d2''') (.slice E3''' n3''' d3''') (.int .u64 ex3.1.ver)).alloc (.cells #[.int .i64 ex3.2.err, .string ex3.2.val, .int .u64 ex3.2.ver, .bool ex3.2.found, .bool ex3.2.commit] 38))
  generalize (put5 w7 q (.slice E0''' n0''' d0''') (.slice E1''' n1''' d1''') (.slice E2''' n2''' d2''') (.slice E3''' n3''' d3''') (.int .u64 ex3.1.ver)).alloc (.cells #[.int .i64 ex3.2.err, .string ex3.2.val, .int .u64 ex3.2.ver, .bool ex3.2.found, .bool ex3.2.commit] 38) = W8 at *
  generalize w7.heap.size = b3 at *
  obtain ⟨A0, m0, c0, A1, m1, c1, A2, m2, c2, A3, m3, c3, hX, hDO⟩ := dox4_at XS8.out
  have HX8 := Aside0.mk hX
  have HDO := Aside0.mk hDO
  obtain ⟨hs0, hs1, hs2, hs3, hs4⟩ := cells_5 hX
  have ht0 := cell_row (cs := [.int .u64 1, .int .u64 0]) HT8.out 0
  have ht1 := cell_row (cs := [.int .u64 1, .int .u64 0]) HT8.out 1
  clear hX hDO
  go_upto_region 7 with (go_at_call 11; refine (HDO.out W8 (Below.refl _ _)).mono ?_; intro e w9 hp; obtain ⟨E0'''', n0'''', d0'''', E1'''', n1'''', d1'''', E2'''', n2'''', d2'''', E3'''', n3'''', d3'''', rfl, hv9, hb9⟩ := doOut (r := ex4) hp; clear hp ht0 ht1 hs0 hs1 hs2 hs3 hs4; have HV9 := Aside0.mk hv9; have HBB9 := Aside0.mk hb9; clear hv9 hb9)
  have XS10 := Aside0.mk (((XS8.out.below HBB9.out).below ((Below.refl _ _).alloc (Nat.le_refl _) (.cells #[.slice E0'''' n0'''' d0'''', .slice E1'''' n1'''' d1'''', .slice E2'''' n2'''' d2'''', .slice E3'''' n3'''' d3'''', .int .u64 ex4.1.ver] 28))).below ((Below.refl _ _).alloc (Nat.le_refl _) (.cells #[.int .i64 ex4.2.err, .string ex4.2.val, .int .u64 ex4.2.ver, .bool ex4.2.found, .bool ex4.2.commit] 38)))
  have hA := stayA (stayA (stay HBB9.out HA8.out (by have := HQ8.out; omega)) (.cells #[.slice E0'''' n0'''' d0'''', .slice E1'''' n1'''' d1'''', .slice E2'''' n2'''' d2'''', .slice E3'''' n3'''' d3'''', .int .u64 ex4.1.ver] 28)) (.cells #[.int .i64 ex4.2.err, .string ex4.2.val, .int .u64 ex4.2.ver, .bool ex4.2.found, .bool ex4.2.commit] 38)
  have hAB := stayA (stayA (stay HBB9.out HAB8.out (by have := HQ8.out; omega)) (.cells #[.slice E0'''' n0'''' d0'''', .slice E1'''' n1'''' d1'''', .slice E2'''' n2'''' d2'''', .slice E3'''' n3'''' d3'''', .int .u64 ex4.1.ver] 28)) (.cells #[.int .i64 ex4.2.err, .string ex4.2.val, .int .u64 ex4.2.ver, .bool ex4.2.found, .bool ex4.2.commit] 38)
  have hAC := stayA (stayA (stay HBB9.out HAC8.out (by have := HQ8.out; omega)) (.cells #[.slice E0'''' n0'''' d0'''', .slice E1'''' n1'''' d1'''', .slice E2'''' n2'''' d2'''', .slice E3'''' n3'''' d3'''', .int .u64 ex4.1.ver] 28)) (.cells #[.int .i64 ex4.2.err, .string ex4.2.val, .int .u64 ex4.2.ver, .bool ex4.2.found, .bool ex4.2.commit] 38)
  have hAD := heap_alloc_new (w9.alloc (.cells #[.slice E0'''' n0'''' d0'''', .slice E1'''' n1'''' d1'''', .slice E2'''' n2'''' d2'''', .slice E3'''' n3'''' d3'''', .int .u64 ex4.1.ver] 28)) (.cells #[.int .i64 ex4.2.err, .string ex4.2.val, .int .u64 ex4.2.ver, .bool ex4.2.found, .bool ex4.2.commit] 38)
  rw [World.size_alloc] at hAD
  have HB9 := HB8.out.trans (HBB9.out.mono HB8.out.size)
  have HB10 := Aside0.mk ((HB9.alloc HB9.size (.cells #[.slice E0'''' n0'''' d0'''', .slice E1'''' n1'''' d1'''', .slice E2'''' n2'''' d2'''', .slice E3'''' n3'''' d3'''', .int .u64 ex4.1.ver] 28)).alloc (by rw [World.size_alloc]; have := HB9.size; omega) (.cells #[.int .i64 ex4.2.err, .string ex4.2.val, .int .u64 ex4.2.ver, .bool ex4.2.found, .bool ex4.2.commit] 38))
  clear HB9
  change Code.wp _ _ _ _ ((w9.alloc (.cells #[.slice E0'''' n0'''' d0'''', .slice E1'''' n1'''' d1'''', .slice E2'''' n2'''' d2'''', .slice E3'''' n3'''' d3'''', .int .u64 ex4.1.ver] 28)).alloc (.cells #[.int .i64 ex4.2.err, .string ex4.2.val, .int .u64 ex4.2.ver, .bool ex4.2.found, .bool ex4.2.commit] 38))
  generalize (w9.alloc (.cells #[.slice E0'''' n0'''' d0'''', .slice E1'''' n1'''' d1'''', .slice E2'''' n2'''' d2'''', .slice E3'''' n3'''' d3'''', .int .u64 ex4.1.ver] 28)).alloc (.cells #[.int .i64 ex4.2.err, .string ex4.2.val, .int .u64 ex4.2.ver, .bool ex4.2.found, .bool ex4.2.commit] 38) = W10 at *
  rw [ex1_val] at hA
  rw [ex2_val] at hAB
  rw [ex3_val] at hAC XS10
  rw [ex4_val] at hAD
  clear XS8 HA8 HAB8 HAC8 HBB9 HV9 HDO HX8 HT8
  obtain ⟨R0, r0, R1, r1, R2, r2, R3, r3, hS, ⟨hrow, _⟩, _⟩ := XS10.out
  obtain ⟨rb, ro, rfl, _, hr1, _⟩ := rowRow (l := [⟨⟨#[97]⟩, ⟨#[49]⟩, 1⟩]) hrow 0 (by decide)
  have hr1' : W10.cell? ⟨rb, ro + 1, none⟩ = some (.string ⟨#[49]⟩) := by simpa using hr1
  obtain ⟨ha0, ha1, ha2, ha3, ha4⟩ := cells_5 hA
  obtain ⟨hb0, hb1, hb2, hb3, hb4⟩ := cells_5 hAB
  obtain ⟨hc0, hc1, hc2, hc3, hc4⟩ := cells_5 hAC
  obtain ⟨hd0, hd1, hd2, hd3, hd4⟩ := cells_5 hAD
  obtain ⟨hs0, hs1, hs2, hs3, hs4⟩ := cells_5 hS
  clear XS10 hA hAB hAC hAD hS hrow hr1
  dsimp only [List.length_cons, List.length_nil] at hs0
  go_wp2
  go_ret
  exact ⟨rfl, HB10.out⟩
end Go.Proofs.Ytmcgcdpiceikeaa.PAll
end
section
/- The law ShardRight, walked. -/
namespace Go.Proofs.Ytmcgcdpiceikeaa.PAll
open Go.RowKit Go.Proofs.YtmcgcdpiceikeaaW.PrintWords Go.Proofs.YtmcgcdpiceikeaaW.PrintLast Go.Proofs.Ytmcgcdpiceikeaa
set_option linter.unusedVariables false
set_option linter.unusedSimpArgs false
set_option maxHeartbeats 4000000 in
set_option maxRecDepth 100000 in
theorem ShardRight_walk {w : World} (cs0 : Array Value) (x0 : S28) (hx0 : k28.K w x0 cs0.toList) (hs0 : ok28 x0) (hu0 : bulk28 x0 ≤ 1048576) (cs1 : Array Value) (x1 : S28) (hx1 : k28.K w x1 cs1.toList) (hs1 : ok28 x1) (hu1 : bulk28 x1 ≤ 1048576) :
    Calls Try.prog 9 #[.agg cs0, .agg cs1] w fun e w' => e = .returned (.bool true) ∧ Below w.heap.size w w' := by
  have HSM := Aside0.mk (shdSm hs0 hu0)
  obtain ⟨A0, c0, A1, c1, A2, c2, A3, c3, rfl, hRp⟩ := shdArg hx0
  obtain ⟨B0, d0, B1, d1, B2, d2, B3, d3, rfl, hRq⟩ := shdArg hx1
  have HRP := Aside0.mk hRp
  have HRQ := Aside0.mk hRq
  clear hRp hRq hx0 hx1 hs0 hs1 hu0 hu1
  have hx := stayA (heap_alloc_new w (.cells #[.slice A0 x0.f0.length c0, .slice A1 x0.f1.length c1, .slice A2 x0.f2.length c2, .slice A3 x0.f3.length c3, .int .u64 x0.f4] 28)) (.cells #[.slice B0 x1.f0.length d0, .slice B1 x1.f1.length d1, .slice B2 x1.f2.length d2, .slice B3 x1.f3.length d3, .int .u64 x1.f4] 28)
  have hy := heap_alloc_new (w.alloc (.cells #[.slice A0 x0.f0.length c0, .slice A1 x0.f1.length c1, .slice A2 x0.f2.length c2, .slice A3 x0.f3.length c3, .int .u64 x0.f4] 28)) (.cells #[.slice B0 x1.f0.length d0, .slice B1 x1.f1.length d1, .slice B2 x1.f2.length d2, .slice B3 x1.f3.length d3, .int .u64 x1.f4] 28)
  rw [World.size_alloc] at hy
  have HB0 := Aside0.mk (((Below.refl w.heap.size w).alloc (Nat.le_refl _) (.cells #[.slice A0 x0.f0.length c0, .slice A1 x0.f1.length c1, .slice A2 x0.f2.length c2, .slice A3 x0.f3.length c3, .int .u64 x0.f4] 28)).alloc (by simp) (.cells #[.slice B0 x1.f0.length d0, .slice B1 x1.f1.length d1, .slice B2 x1.f2.length d2, .slice B3 x1.f3.length d3, .int .u64 x1.f4] 28))
  go_enter Try.func9, Try.ntmps9
  have HX := Aside0.mk hx
  have HY := Aside0.mk hy
  clear hx hy
  go_upto_region 1 with (fail)
  change Code.wp _ _ _ _ ((w.alloc (.cells #[.slice A0 x0.f0.length c0, .slice A1 x0.f1.length c1, .slice A2 x0.f2.length c2, .slice A3 x0.f3.length c3, .int .u64 x0.f4] 28)).alloc (.cells #[.slice B0 x1.f0.length d0, .slice B1 x1.f1.length d1, .slice B2 x1.f2.length d2, .slice B3 x1.f3.length d3, .int .u64 x1.f4] 28))
  generalize (w.alloc (.cells #[.slice A0 x0.f0.length c0, .slice A1 x0.f1.length c1, .slice A2 x0.f2.length c2, .slice A3 x0.f3.length c3, .int .u64 x0.f4] 28)).alloc (.cells #[.slice B0 x1.f0.length d0, .slice B1 x1.f1.length d1, .slice B2 x1.f2.length d2, .slice B3 x1.f3.length d3, .int .u64 x1.f4] 28) = w1 at *
  go_upto_region 2 with (go_at_call 10; refine (shown13x _).mono ?_; rintro e wB ⟨rfl, hb2⟩; have HB2a := Aside0.mk hb2; clear hb2)
  have HX2 := Aside0.mk (stay HB2a.out HX.out (Array.getElem?_eq_some_iff.1 HX.out).1)
  have HY2 := Aside0.mk (stay HB2a.out HY.out (Array.getElem?_eq_some_iff.1 HY.out).1)
  have HB2 := Aside0.mk (HB0.out.trans (HB2a.out.mono HB0.out.size))
  clear HX HY HB0 HB2a
  refine wp_region_noPanic ?_
  refine wp_region_last_drew (ds := []) (S := (fun wz => Below wB.heap.size wB wz)) (by kernel_rfl) ((Below.refl _ _).drew) (fun hHeld => ?_)
  refine wpAnyLast_take (i := 0) (oi := _) (v := .bool true) rfl (by kernel_rfl) (by kernel_rfl) (by kernel_rfl) (by kernel_rfl) (by kernel_rfl) (fun _ _ _ h => h) (Or.inl ⟨by kernel_rfl, ?_⟩) (by assumption) ?_
  · intro wz hSw; (try dsimp only at hSw); go_simp
  try simp only [Act.put, List.setIfInBounds_toArray, List.set_cons_zero, List.set_cons_succ, List.getElem_toArray, List.getElem_cons_succ, List.getElem_cons_zero]
  refine wpAnyLast_take (i := 1) (oi := _) (v := .bool true) rfl (by kernel_rfl) (by kernel_rfl) (by kernel_rfl) (by kernel_rfl) (by kernel_rfl) (fun _ _ _ h => h) (Or.inl ⟨by kernel_rfl, ?_⟩) (by assumption) ?_
  · intro wz hSw; (try dsimp only at hSw); go_simp
  try simp only [Act.put, List.setIfInBounds_toArray, List.set_cons_zero, List.set_cons_succ, List.getElem_toArray, List.getElem_cons_succ, List.getElem_cons_zero]
  refine wpAnyLast_take (i := 2) (oi := _) (v := .agg #[.slice A0 x0.f0.length c0, .slice A1 x0.f1.length c1, .slice A2 x0.f2.length c2, .slice A3 x0.f3.length c3, .int .u64 x0.f4]) rfl (by kernel_rfl) (by kernel_rfl) (by kernel_rfl) (by kernel_rfl) (by kernel_rfl) (fun _ _ _ h => h) (Or.inl ⟨by kernel_rfl, ?_⟩) (by assumption) ?_
  · intro wz hSw; (try dsimp only at hSw); obtain ⟨hd0, hd1, hd2, hd3, hd4⟩ := cells_5 (stay hSw HX2.out (Array.getElem?_eq_some_iff.1 HX2.out).1); go_simp
  try simp only [Act.put, List.setIfInBounds_toArray, List.set_cons_zero, List.set_cons_succ, List.getElem_toArray, List.getElem_cons_succ, List.getElem_cons_zero]
  refine wpAnyLast_take (i := 4) (oi := _) (v := .agg #[.slice A0 x0.f0.length c0, .slice A1 x0.f1.length c1, .slice A2 x0.f2.length c2, .slice A3 x0.f3.length c3, .int .u64 x0.f4]) rfl (by kernel_rfl) (by kernel_rfl) (by kernel_rfl) (by kernel_rfl) (by kernel_rfl) (fun _ _ _ h => h) (Or.inl ⟨by kernel_rfl, ?_⟩) (by assumption) ?_
  · intro wz hSw; (try dsimp only at hSw); obtain ⟨hd0, hd1, hd2, hd3, hd4⟩ := cells_5 (stay hSw HX2.out (Array.getElem?_eq_some_iff.1 HX2.out).1); go_simp
  try simp only [Act.put, List.setIfInBounds_toArray, List.set_cons_zero, List.set_cons_succ, List.getElem_toArray, List.getElem_cons_succ, List.getElem_cons_zero]
  refine wpAnyLast_ready (rs := [3]) (by kernel_rfl) (by simp) ?_
  refine AllReadyL.cons (o := _) rfl (by decide) (fun K hK => ?_) AllReadyL.nil
  go_simp; go_at_call 19; refine (codeRight (HRP.out.below (HB2.out.trans (((Below.refl wB.heap.size wB).drew).mono HB2.out.size))) HSM.out).mono ?_; rintro e w4 ⟨rfl, hb4⟩; go_simp
  have HB4 := Aside0.mk ((((Below.refl wB.heap.size wB).drew)).trans (hb4.mono (((Below.refl wB.heap.size wB).drew)).size) : Below wB.heap.size wB w4)
  clear hb4
  refine hK.out _ _ HB4.out (fun hHeld4 => ?_)
  clear hK K
  try simp only [Act.put, List.setIfInBounds_toArray, List.set_cons_zero, List.set_cons_succ, List.getElem_toArray, List.getElem_cons_succ, List.getElem_cons_zero]
  refine wpAnyLast_ready (rs := [5]) (by kernel_rfl) (by simp) ?_
  refine AllReadyL.cons (o := _) rfl (by decide) (fun K hK => ?_) AllReadyL.nil
  go_simp; go_at_call 14; refine (docRight (HRP.out.below (HB2.out.trans (HB4.out.mono HB2.out.size))) HSM.out).mono ?_; rintro e w5 ⟨rfl, hb5⟩; go_simp
  have HB5 := Aside0.mk ((HB4.out).trans (hb5.mono (HB4.out).size) : Below wB.heap.size wB w5)
  clear hb5
  refine hK.out _ _ HB5.out (fun hHeld5 => ?_)
  clear hK K
  try simp only [Act.put, List.setIfInBounds_toArray, List.set_cons_zero, List.set_cons_succ, List.getElem_toArray, List.getElem_cons_succ, List.getElem_cons_zero]
  refine wpAnyLast_take (i := 6) (oi := _) (v := .bool true) rfl (by kernel_rfl) (by kernel_rfl) (by kernel_rfl) (by kernel_rfl) (by kernel_rfl) (fun _ _ _ h => h) (Or.inl ⟨by kernel_rfl, ?_⟩) (by assumption) ?_
  · intro wz hSw; (try dsimp only at hSw); go_simp
  try simp only [Act.put, List.setIfInBounds_toArray, List.set_cons_zero, List.set_cons_succ, List.getElem_toArray, List.getElem_cons_succ, List.getElem_cons_zero]
  refine wpAnyLast_take (i := 7) (oi := _) (v := .bool true) rfl (by kernel_rfl) (by kernel_rfl) (by kernel_rfl) (by kernel_rfl) (by kernel_rfl) (fun _ _ _ h => h) (Or.inl ⟨by kernel_rfl, ?_⟩) (by assumption) ?_
  · intro wz hSw; (try dsimp only at hSw); go_simp
  try simp only [Act.put, List.setIfInBounds_toArray, List.set_cons_zero, List.set_cons_succ, List.getElem_toArray, List.getElem_cons_succ, List.getElem_cons_zero]
  refine wpAnyLast_take (i := 8) (oi := _) (v := .bool true) rfl (by kernel_rfl) (by kernel_rfl) (by kernel_rfl) (by kernel_rfl) (by kernel_rfl) (fun _ _ _ h => h) (Or.inl ⟨by kernel_rfl, ?_⟩) (by assumption) ?_
  · intro wz hSw; (try dsimp only at hSw); go_simp
  try simp only [Act.put, List.setIfInBounds_toArray, List.set_cons_zero, List.set_cons_succ, List.getElem_toArray, List.getElem_cons_succ, List.getElem_cons_zero]
  refine wpAnyLast_take (i := 9) (oi := _) (v := .agg #[.slice A0 x0.f0.length c0, .slice A1 x0.f1.length c1, .slice A2 x0.f2.length c2, .slice A3 x0.f3.length c3, .int .u64 x0.f4]) rfl (by kernel_rfl) (by kernel_rfl) (by kernel_rfl) (by kernel_rfl) (by kernel_rfl) (fun _ _ _ h => h) (Or.inl ⟨by kernel_rfl, ?_⟩) (by assumption) ?_
  · intro wz hSw; (try dsimp only at hSw); obtain ⟨hd0, hd1, hd2, hd3, hd4⟩ := cells_5 (stay hSw HX2.out (Array.getElem?_eq_some_iff.1 HX2.out).1); go_simp
  try simp only [Act.put, List.setIfInBounds_toArray, List.set_cons_zero, List.set_cons_succ, List.getElem_toArray, List.getElem_cons_succ, List.getElem_cons_zero]
  refine wpAnyLast_take (i := 10) (oi := _) (v := .agg #[.slice B0 x1.f0.length d0, .slice B1 x1.f1.length d1, .slice B2 x1.f2.length d2, .slice B3 x1.f3.length d3, .int .u64 x1.f4]) rfl (by kernel_rfl) (by kernel_rfl) (by kernel_rfl) (by kernel_rfl) (by kernel_rfl) (fun _ _ _ h => h) (Or.inl ⟨by kernel_rfl, ?_⟩) (by assumption) ?_
  · intro wz hSw; (try dsimp only at hSw); obtain ⟨hd0, hd1, hd2, hd3, hd4⟩ := cells_5 (stay hSw HY2.out (Array.getElem?_eq_some_iff.1 HY2.out).1); go_simp
  try simp only [Act.put, List.setIfInBounds_toArray, List.set_cons_zero, List.set_cons_succ, List.getElem_toArray, List.getElem_cons_succ, List.getElem_cons_zero]
  refine wpAnyLast_take (i := 12) (oi := _) (v := .agg #[.slice A0 x0.f0.length c0, .slice A1 x0.f1.length c1, .slice A2 x0.f2.length c2, .slice A3 x0.f3.length c3, .int .u64 x0.f4]) rfl (by kernel_rfl) (by kernel_rfl) (by kernel_rfl) (by kernel_rfl) (by kernel_rfl) (fun _ _ _ h => h) (Or.inl ⟨by kernel_rfl, ?_⟩) (by assumption) ?_
  · intro wz hSw; (try dsimp only at hSw); obtain ⟨hd0, hd1, hd2, hd3, hd4⟩ := cells_5 (stay hSw HX2.out (Array.getElem?_eq_some_iff.1 HX2.out).1); go_simp
  try simp only [Act.put, List.setIfInBounds_toArray, List.set_cons_zero, List.set_cons_succ, List.getElem_toArray, List.getElem_cons_succ, List.getElem_cons_zero]
  refine wpAnyLast_take (i := 13) (oi := _) (v := .agg #[.slice B0 x1.f0.length d0, .slice B1 x1.f1.length d1, .slice B2 x1.f2.length d2, .slice B3 x1.f3.length d3, .int .u64 x1.f4]) rfl (by kernel_rfl) (by kernel_rfl) (by kernel_rfl) (by kernel_rfl) (by kernel_rfl) (fun _ _ _ h => h) (Or.inl ⟨by kernel_rfl, ?_⟩) (by assumption) ?_
  · intro wz hSw; (try dsimp only at hSw); obtain ⟨hd0, hd1, hd2, hd3, hd4⟩ := cells_5 (stay hSw HY2.out (Array.getElem?_eq_some_iff.1 HY2.out).1); go_simp
  try simp only [Act.put, List.setIfInBounds_toArray, List.set_cons_zero, List.set_cons_succ, List.getElem_toArray, List.getElem_cons_succ, List.getElem_cons_zero]
  refine wpAnyLast_ready (rs := [11]) (by kernel_rfl) (by simp) ?_
  refine AllReadyL.cons (o := _) rfl (by decide) (fun K hK => ?_) AllReadyL.nil
  go_simp; go_at_call 20; refine (codeSame (HRP.out.below (HB2.out.trans (HB5.out.mono HB2.out.size))) HSM.out (HRQ.out.below (HB2.out.trans (HB5.out.mono HB2.out.size)))).mono ?_; rintro e w6 ⟨rfl, hb6⟩; go_simp
  have HB6 := Aside0.mk ((HB5.out).trans (hb6.mono (HB5.out).size) : Below wB.heap.size wB w6)
  clear hb6
  refine hK.out _ _ HB6.out (fun hHeld6 => ?_)
  clear hK K
  try simp only [Act.put, List.setIfInBounds_toArray, List.set_cons_zero, List.set_cons_succ, List.getElem_toArray, List.getElem_cons_succ, List.getElem_cons_zero]
  refine wpAnyLast_ready (rs := [14]) (by kernel_rfl) (by simp) ?_
  refine AllReadyL.cons (o := _) rfl (by decide) (fun K hK => ?_) AllReadyL.nil
  go_simp; go_at_call 13; refine (docSame (HRP.out.below (HB2.out.trans (HB6.out.mono HB2.out.size))) HSM.out (HRQ.out.below (HB2.out.trans (HB6.out.mono HB2.out.size)))).mono ?_; rintro e w7 ⟨rfl, hb7⟩; go_simp
  have HB7 := Aside0.mk ((HB6.out).trans (hb7.mono (HB6.out).size) : Below wB.heap.size wB w7)
  clear hb7
  refine hK.out _ _ HB7.out (fun hHeld7 => ?_)
  clear hK K
  try simp only [Act.put, List.setIfInBounds_toArray, List.set_cons_zero, List.set_cons_succ, List.getElem_toArray, List.getElem_cons_succ, List.getElem_cons_zero]
  refine wpAnyLast_take (i := 15) (oi := _) (v := .bool true) rfl (by kernel_rfl) (by kernel_rfl) (by kernel_rfl) (by kernel_rfl) (by kernel_rfl) (fun _ _ _ h => h) (Or.inl ⟨by kernel_rfl, ?_⟩) (by assumption) ?_
  · intro wz hSw; (try dsimp only at hSw); go_simp
  try simp only [Act.put, List.setIfInBounds_toArray, List.set_cons_zero, List.set_cons_succ, List.getElem_toArray, List.getElem_cons_succ, List.getElem_cons_zero]
  refine wpAnyLast_take (i := 16) (oi := _) (v := .bool true) rfl (by kernel_rfl) (by kernel_rfl) (by kernel_rfl) (by kernel_rfl) (by kernel_rfl) (fun _ _ _ h => h) (Or.inl ⟨by kernel_rfl, ?_⟩) (by assumption) ?_
  · intro wz hSw; (try dsimp only at hSw); go_simp
  try simp only [Act.put, List.setIfInBounds_toArray, List.set_cons_zero, List.set_cons_succ, List.getElem_toArray, List.getElem_cons_succ, List.getElem_cons_zero]
  refine wpAnyLast_take (i := 17) (oi := _) (v := .bool true) rfl (by kernel_rfl) (by kernel_rfl) (by kernel_rfl) (by kernel_rfl) (by kernel_rfl) (fun _ _ _ h => h) (Or.inl ⟨by kernel_rfl, ?_⟩) (by assumption) ?_
  · intro wz hSw; (try dsimp only at hSw); go_simp
  try simp only [Act.put, List.setIfInBounds_toArray, List.set_cons_zero, List.set_cons_succ, List.getElem_toArray, List.getElem_cons_succ, List.getElem_cons_zero]
  refine wpAnyLast_done (by kernel_rfl) ?_ _
  refine NoPanic.normal ?_
  go_wp2
  go_ret
  exact ⟨rfl, HB2.out.trans (HB7.out.mono HB2.out.size)⟩
end Go.Proofs.Ytmcgcdpiceikeaa.PAll
end
