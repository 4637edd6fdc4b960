/- Joined texts of the claim RowsKeeps (part 32): contracts of functions and plain laws. -/
import Derived.BigQuiet
import Derived.ChangeAlike
import Derived.Deep.QuietTactic
import Derived.Laws.Slices
import Derived.Lib.ConvBytes
import Derived.RegionTactic
import Derived.Test.YthfkbfahpgdnfaaJRowsKeeps29
import Derived.Test.YthfkbfahpgdnfaaJRowsKeeps30
import Derived.Test.YthfkbfahpgdnfaaJRowsKeeps31
section
/- pack.Num, as the printed texts call it. -/
namespace Go.Proofs.Ythfkbfahpgdnfaa.PAll
open Go.RowKit Go.Proofs.YthfkbfahpgdnfaaW.PrintWords Go.Proofs.Ythfkbfahpgdnfaa
set_option linter.unusedVariables false
set_option maxHeartbeats 2000000 in
set_option maxRecDepth 100000 in
theorem tz (n : Int) (r : Int) (h : (n = 1 ∧ r = 0) ∨ (n = 2 ∧ r = 1) ∨ (n = 4 ∧ r = 2) ∨ (n = 8 ∧ r = 3)) (w : World) : Calls Try.prog 80 #[.int .u8 n] w fun e w' => e = .returned (.int .i64 r) ∧ w' = w := by
  rcases h with ⟨rfl, rfl⟩ | ⟨rfl, rfl⟩ | ⟨rfl, rfl⟩ | ⟨rfl, rfl⟩
  all_goals
    go_enter Try.func80, Try.ntmps80
    go_wp2
    go_ret
    exact ⟨by kernel_rfl, rfl⟩
theorem two_allocs' (w : World) (o o' : Obj) : ((w.alloc o).alloc o').heap[w.heap.size]? = some o := (Below.heap_alloc _ _ _ (by simp)).trans (heap_alloc_new w o)
set_option maxHeartbeats 8000000 in
set_option maxRecDepth 100000 in
theorem num1 (v : Int) (w : World) (hv0 : 0 ≤ v) (hv1 : v < 64) (hs : pack_Size.f v = some 1) :
    Calls Try.prog 64 #[.int .u64 v] w fun e w' => e = .returned (.tuple #[.string (strOfNums [bits .or .u8 v 0]), .int .i64 0]) ∧ Below w.heap.size w w' := by
  have hinfo : (Try.prog.info? 5).map (fun i => (i.zero, i.size, i.bytes)) = some (some (.int .u8 0), 1, 1) := by kernel_rfl
  have hmk : ∀ W : World, (Instr.makeSlice 99 (.int .i64 1) (.int .i64 1)).run Try.prog W = .ok (.slice (some ⟨W.heap.size, 0, none⟩) 1 1) (W.alloc (.cells #[.int .u8 0] 5)) := fun W => by
    have := print_make 99 5 .u8 1 Try.underlying99 hinfo (by decide) 1 (by decide) W
    rw [show madeCells #[Value.int .u8 0] 1 = #[Value.int .u8 0] by kernel_rfl] at this
    exact this
  clear hinfo
  go_enter Try.func64, Try.ntmps64
  go_wp2_with (go_at_call 79; refine (pack_Size.calls v 1 _ hs).mono ?_; rintro e w1 ⟨rfl, hb1⟩)
  refine wp_loop_rounds 2 ?_
  rw [rounds_succ]
  go_wp2
  rw [rounds_succ]
  go_wp2
  go_region_with (go_at_call 80; refine (tz 1 0 (by simp) _).mono ?_; rintro e w2 ⟨rfl, rfl⟩)
  all_goals go_wp2_with ((with_reducible refine gate_builtin (b := .copy) (xs := #[.tmp 38, .tmp 40]) rfl ?_); refine wpList_copy_str _ rfl _ _ rfl rfl w1.heap.size (w1.heap.size + 1) 1 122 [bits .or .u8 v 0] [0, 0, 0, 0, 0, 0, 0] rfl rfl rfl (by decide) (two_allocs' w1 _ _) (by have := heap_alloc_new (w1.alloc (.cells ((List.map (Value.int .u8) [bits .or .u8 v 0, 0, 0, 0, 0, 0, 0, 0]).toArray) 122)) (.cells #[.int .u8 0] 5); rw [World.size_alloc] at this; exact this) ?_; intro W2 hcv hg2)
  all_goals
    go_ret2
    exact ⟨rfl, (hb1.trans ((((Below.refl _ w1).alloc (Nat.le_refl _) _).alloc (by simp) _).drew.mono hb1.size)).grown hg2 (by have := hb1.size; simp; omega) (fun q hq => by cases hq; have := hb1.size; omega)⟩
set_option maxHeartbeats 8000000 in
set_option maxRecDepth 100000 in
theorem num2 (v : Int) (w : World) (hv0 : 64 ≤ v) (hv1 : v < 16384) (hs : pack_Size.f v = some 2) :
    Calls Try.prog 64 #[.int .u64 v] w fun e w' => e = .returned (.tuple #[.string (strOfNums [bits .or .u8 (v / 256) 64, v % 256]), .int .i64 0]) ∧ Below w.heap.size w w' := by
  have hinfo : (Try.prog.info? 5).map (fun i => (i.zero, i.size, i.bytes)) = some (some (.int .u8 0), 1, 1) := by kernel_rfl
  have hmk : ∀ W : World, (Instr.makeSlice 99 (.int .i64 2) (.int .i64 2)).run Try.prog W = .ok (.slice (some ⟨W.heap.size, 0, none⟩) 2 2) (W.alloc (.cells #[.int .u8 0, .int .u8 0] 5)) := fun W => by
    have := print_make 99 5 .u8 1 Try.underlying99 hinfo (by decide) 2 (by decide) W
    rw [show madeCells #[Value.int .u8 0] 2 = #[Value.int .u8 0, Value.int .u8 0] by kernel_rfl] at this
    exact this
  clear hinfo
  go_enter Try.func64, Try.ntmps64
  go_wp2_with (go_at_call 79; refine (pack_Size.calls v 2 _ hs).mono ?_; rintro e w1 ⟨rfl, hb1⟩)
  refine wp_loop_rounds 3 ?_
  rw [rounds_succ]
  go_wp2
  rw [rounds_succ]
  go_wp2
  rw [rounds_succ]
  go_wp2
  go_region_with (go_at_call 80; refine (tz 2 1 (by simp) _).mono ?_; rintro e w2 ⟨rfl, rfl⟩)
  all_goals go_wp2_with ((with_reducible refine gate_builtin (b := .copy) (xs := #[.tmp 38, .tmp 40]) rfl ?_); refine wpList_copy_str _ rfl _ _ rfl rfl w1.heap.size (w1.heap.size + 1) 2 122 [bits .or .u8 (v / 256) 64, v % 256] [0, 0, 0, 0, 0, 0] rfl rfl rfl (by decide) (two_allocs' w1 _ _) (by have := heap_alloc_new (w1.alloc (.cells ((List.map (Value.int .u8) [bits .or .u8 (v / 256) 64, v % 256, 0, 0, 0, 0, 0, 0]).toArray) 122)) (.cells #[.int .u8 0, .int .u8 0] 5); rw [World.size_alloc] at this; exact this) ?_; intro W2 hcv hg2)
  all_goals
    go_ret2
    exact ⟨rfl, (hb1.trans ((((Below.refl _ w1).alloc (Nat.le_refl _) _).alloc (by simp) _).drew.mono hb1.size)).grown hg2 (by have := hb1.size; simp; omega) (fun q hq => by cases hq; have := hb1.size; omega)⟩
set_option maxHeartbeats 8000000 in
set_option maxRecDepth 100000 in
theorem num4 (v : Int) (w : World) (hv0 : 16384 ≤ v) (hv1 : v < 1073741824) (hs : pack_Size.f v = some 4) :
    Calls Try.prog 64 #[.int .u64 v] w fun e w' => e = .returned (.tuple #[.string (strOfNums [bits .or .u8 (v / 16777216) 128, v / 65536 % 256, v / 256 % 256, v % 256]), .int .i64 0]) ∧ Below w.heap.size w w' := by
  have hinfo : (Try.prog.info? 5).map (fun i => (i.zero, i.size, i.bytes)) = some (some (.int .u8 0), 1, 1) := by kernel_rfl
  have hmk : ∀ W : World, (Instr.makeSlice 99 (.int .i64 4) (.int .i64 4)).run Try.prog W = .ok (.slice (some ⟨W.heap.size, 0, none⟩) 4 4) (W.alloc (.cells #[.int .u8 0, .int .u8 0, .int .u8 0, .int .u8 0] 5)) := fun W => by
    have := print_make 99 5 .u8 1 Try.underlying99 hinfo (by decide) 4 (by decide) W
    rw [show madeCells #[Value.int .u8 0] 4 = #[Value.int .u8 0, Value.int .u8 0, Value.int .u8 0, Value.int .u8 0] by kernel_rfl] at this
    exact this
  clear hinfo
  go_enter Try.func64, Try.ntmps64
  go_wp2_with (go_at_call 79; refine (pack_Size.calls v 4 _ hs).mono ?_; rintro e w1 ⟨rfl, hb1⟩)
  refine wp_loop_rounds 5 ?_
  rw [rounds_succ]
  go_wp2
  rw [rounds_succ]
  go_wp2
  rw [rounds_succ]
  go_wp2
  rw [rounds_succ]
  go_wp2
  rw [rounds_succ]
  go_wp2
  go_region_with (go_at_call 80; refine (tz 4 2 (by simp) _).mono ?_; rintro e w2 ⟨rfl, rfl⟩)
  all_goals go_wp2_with ((with_reducible refine gate_builtin (b := .copy) (xs := #[.tmp 38, .tmp 40]) rfl ?_); refine wpList_copy_str _ rfl _ _ rfl rfl w1.heap.size (w1.heap.size + 1) 4 122 [bits .or .u8 (v / 16777216) 128, v / 65536 % 256, v / 256 % 256, v % 256] [0, 0, 0, 0] rfl rfl rfl (by decide) (two_allocs' w1 _ _) (by have := heap_alloc_new (w1.alloc (.cells ((List.map (Value.int .u8) [bits .or .u8 (v / 16777216) 128, v / 65536 % 256, v / 256 % 256, v % 256, 0, 0, 0, 0]).toArray) 122)) (.cells #[.int .u8 0, .int .u8 0, .int .u8 0, .int .u8 0] 5); rw [World.size_alloc] at this; exact this) ?_; intro W2 hcv hg2)
  all_goals
    go_ret2
    exact ⟨rfl, (hb1.trans ((((Below.refl _ w1).alloc (Nat.le_refl _) _).alloc (by simp) _).drew.mono hb1.size)).grown hg2 (by have := hb1.size; simp; omega) (fun q hq => by cases hq; have := hb1.size; omega)⟩
set_option maxHeartbeats 8000000 in
set_option maxRecDepth 100000 in
theorem num8 (v : Int) (w : World) (hv0 : 1073741824 ≤ v) (hv1 : v < 4611686018427387904) (hs : pack_Size.f v = some 8) :
    Calls Try.prog 64 #[.int .u64 v] w fun e w' => e = .returned (.tuple #[.string (strOfNums [bits .or .u8 (v / 72057594037927936) 192, v / 281474976710656 % 256, v / 1099511627776 % 256, v / 4294967296 % 256, v / 16777216 % 256, v / 65536 % 256, v / 256 % 256, v % 256]), .int .i64 0]) ∧ Below w.heap.size w w' := by
  have hinfo : (Try.prog.info? 5).map (fun i => (i.zero, i.size, i.bytes)) = some (some (.int .u8 0), 1, 1) := by kernel_rfl
  have hmk : ∀ W : World, (Instr.makeSlice 99 (.int .i64 8) (.int .i64 8)).run Try.prog W = .ok (.slice (some ⟨W.heap.size, 0, none⟩) 8 8) (W.alloc (.cells #[.int .u8 0, .int .u8 0, .int .u8 0, .int .u8 0, .int .u8 0, .int .u8 0, .int .u8 0, .int .u8 0] 5)) := fun W => by
    have := print_make 99 5 .u8 1 Try.underlying99 hinfo (by decide) 8 (by decide) W
    rw [show madeCells #[Value.int .u8 0] 8 = #[Value.int .u8 0, Value.int .u8 0, Value.int .u8 0, Value.int .u8 0, Value.int .u8 0, Value.int .u8 0, Value.int .u8 0, Value.int .u8 0] by kernel_rfl] at this
    exact this
  clear hinfo
  go_enter Try.func64, Try.ntmps64
  go_wp2_with (go_at_call 79; refine (pack_Size.calls v 8 _ hs).mono ?_; rintro e w1 ⟨rfl, hb1⟩)
  refine wp_loop_rounds 9 ?_
  rw [rounds_succ]
  go_wp2
  rw [rounds_succ]
  go_wp2
  rw [rounds_succ]
  go_wp2
  rw [rounds_succ]
  go_wp2
  rw [rounds_succ]
  go_wp2
  rw [rounds_succ]
  go_wp2
  rw [rounds_succ]
  go_wp2
  rw [rounds_succ]
  go_wp2
  rw [rounds_succ]
  go_wp2
  go_region_with (go_at_call 80; refine (tz 8 3 (by simp) _).mono ?_; rintro e w2 ⟨rfl, rfl⟩)
  all_goals go_wp2_with ((with_reducible refine gate_builtin (b := .copy) (xs := #[.tmp 38, .tmp 40]) rfl ?_); refine wpList_copy_str _ rfl _ _ rfl rfl w1.heap.size (w1.heap.size + 1) 8 122 [bits .or .u8 (v / 72057594037927936) 192, v / 281474976710656 % 256, v / 1099511627776 % 256, v / 4294967296 % 256, v / 16777216 % 256, v / 65536 % 256, v / 256 % 256, v % 256] [] rfl rfl rfl (by decide) (two_allocs' w1 _ _) (by have := heap_alloc_new (w1.alloc (.cells ((List.map (Value.int .u8) [bits .or .u8 (v / 72057594037927936) 192, v / 281474976710656 % 256, v / 1099511627776 % 256, v / 4294967296 % 256, v / 16777216 % 256, v / 65536 % 256, v / 256 % 256, v % 256]).toArray) 122)) (.cells #[.int .u8 0, .int .u8 0, .int .u8 0, .int .u8 0, .int .u8 0, .int .u8 0, .int .u8 0, .int .u8 0] 5); rw [World.size_alloc] at this; exact this) ?_; intro W2 hcv hg2)
  all_goals
    go_ret2
    exact ⟨rfl, (hb1.trans ((((Below.refl _ w1).alloc (Nat.le_refl _) _).alloc (by simp) _).drew.mono hb1.size)).grown hg2 (by have := hb1.size; simp; omega) (fun q hq => by cases hq; have := hb1.size; omega)⟩
/-- A number's bytes, and whether it has any. -/
def numV (v : Int) : ByteArray × Int :=
  if v < 64 then (strOfNums [bits .or .u8 v 0], 0) else
  if v < 16384 then (strOfNums [bits .or .u8 (v / 256) 64, v % 256], 0) else
  if v < 1073741824 then (strOfNums [bits .or .u8 (v / 16777216) 128, v / 65536 % 256, v / 256 % 256, v % 256], 0) else
  if v < 4611686018427387904 then (strOfNums [bits .or .u8 (v / 72057594037927936) 192, v / 281474976710656 % 256, v / 1099511627776 % 256, v / 4294967296 % 256, v / 16777216 % 256, v / 65536 % 256, v / 256 % 256, v % 256], 0) else
  (⟨#[]⟩, 4)
end Go.Proofs.Ythfkbfahpgdnfaa.PAll
end
