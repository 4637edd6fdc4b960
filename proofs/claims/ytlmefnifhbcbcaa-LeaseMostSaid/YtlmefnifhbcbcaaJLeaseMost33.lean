/- Joined texts of the claim LeaseMost (part 33): contracts of functions and plain laws. -/
import Derived.Ground.SlsfProg
import Derived.Shelf.SlGeneric
import Derived.Shelf.SlSortCmp.NoneTotal
import Derived.Test.YtlmefnifhbcbcaaProg
section
/- slices.SortFunc at slices.SortFunc[[]uint64,uint64]: the library's contract, laid in plain words. -/
namespace Go.Proofs.Ytlmefnifhbcbcaa
open Go.Shelf
def sortL_ren : Go.Shelf.Ren := ⟨fun | 6 => 59 | 15 => 81 | 14 => 80 | 28 => 104 | 29 => 95 | 20 => 96 | 21 => 97 | 22 => 98 | 23 => 99 | 24 => 100 | 25 => 101 | 26 => 102 | 27 => 103 | 46 => 110 | 47 => 111 | 48 => 112 | 49 => 113 | 50 => 114 | 57 => 125 | n => n, fun | 22 => 26 | 24 => 22 | 25 => 93 | 3 => 3 | 39 => 110 | 0 => 0 | 53 => 143 | 55 => 22 | 4 => 4 | 46 => 136 | 45 => 135 | 50 => 140 | 5 => 5 | 9 => 9 | 66 => 148 | 70 => 152 | 76 => 161 | 77 => 162 | n => n, fun | n => n⟩
theorem sortL : Go.Proofs.SlLaysF.n6 Try.prog sortL_ren := {
  mixed := by kernel_rfl
  f6 := ⟨Try.f59.name, by decide, Try.func59.trans (congrArg some (by kernel_rfl))⟩
  f14 := ⟨Try.f80.name, by decide, Try.func80.trans (congrArg some (by kernel_rfl))⟩
  f15 := Try.func81.trans (congrArg some (by kernel_rfl))
  f20 := ⟨Try.f96.name, by decide, Try.func96.trans (congrArg some (by kernel_rfl))⟩
  f21 := ⟨Try.f97.name, by decide, Try.func97.trans (congrArg some (by kernel_rfl))⟩
  f22 := ⟨Try.f98.name, by decide, Try.func98.trans (congrArg some (by kernel_rfl))⟩
  f23 := ⟨Try.f99.name, by decide, Try.func99.trans (congrArg some (by kernel_rfl))⟩
  f24 := ⟨Try.f100.name, by decide, Try.func100.trans (congrArg some (by kernel_rfl))⟩
  f25 := ⟨Try.f101.name, by decide, Try.func101.trans (congrArg some (by kernel_rfl))⟩
  f26 := ⟨Try.f102.name, by decide, Try.func102.trans (congrArg some (by kernel_rfl))⟩
  f27 := ⟨Try.f103.name, by decide, Try.func103.trans (congrArg some (by kernel_rfl))⟩
  f28 := Try.func104.trans (congrArg some (by kernel_rfl))
  f29 := Try.func95.trans (congrArg some (by kernel_rfl))
  f46 := ⟨Try.f110.name, by decide, Try.func110.trans (congrArg some (by kernel_rfl))⟩
  f47 := Try.func111.trans (congrArg some (by kernel_rfl))
  f48 := Try.func112.trans (congrArg some (by kernel_rfl))
  f49 := ⟨Try.f113.name, by decide, Try.func113.trans (congrArg some (by kernel_rfl))⟩
  f50 := ⟨Try.f114.name, by decide, Try.func114.trans (congrArg some (by kernel_rfl))⟩
  f57 := ⟨Try.f125.name, by decide, Try.func125.trans (congrArg some (by kernel_rfl))⟩
  t0 := Try.underlying0
  a0 := Try.isAgg0
  z0 := Try.sizeOf0
  v0 := Try.zeroValue0
  t3 := Try.underlying3
  a3 := Try.isAgg3
  z3 := Try.sizeOf3
  v3 := Try.zeroValue3
  t4 := Try.underlying4
  a4 := Try.isAgg4
  z4 := Try.sizeOf4
  v4 := Try.zeroValue4
  t5 := Try.underlying5
  a5 := Try.isAgg5
  z5 := Try.sizeOf5
  v5 := Try.zeroValue5
  t9 := Try.underlying9
  a9 := Try.isAgg9
  z9 := Try.sizeOf9
  v9 := Try.zeroValue9
  t22 := Try.underlying26
  a22 := Try.isAgg26
  z22 := Try.sizeOf26
  v22 := Try.zeroValue26
  a24 := Try.isAgg22
  z24 := Try.sizeOf22
  t25 := Try.underlying93
  a25 := Try.isAgg93
  z25 := Try.sizeOf93
  v25 := Try.zeroValue93
  t39 := Try.underlying110
  a39 := Try.isAgg110
  z39 := Try.sizeOf110
  v39 := Try.zeroValue110
  t45 := Try.underlying135
  a45 := Try.isAgg135
  z45 := Try.sizeOf135
  v45 := Try.zeroValue135
  t46 := Try.underlying136
  a46 := Try.isAgg136
  z46 := Try.sizeOf136
  v46 := Try.zeroValue136
  t50 := Try.underlying140
  a50 := Try.isAgg140
  z50 := Try.sizeOf140
  v50 := Try.zeroValue140
  t53 := Try.underlying143
  a53 := Try.isAgg143
  z53 := Try.sizeOf143
  v53 := Try.zeroValue143
  t55 := Try.underlying22
  a55 := Try.isAgg22
  z55 := Try.sizeOf22
  v55 := Try.zeroValue22
  t66 := Try.underlying148
  a66 := Try.isAgg148
  z66 := Try.sizeOf148
  v66 := Try.zeroValue148
  t70 := Try.underlying152
  a70 := Try.isAgg152
  z70 := Try.sizeOf152
  v70 := Try.zeroValue152
  t76 := Try.underlying161
  a76 := Try.isAgg161
  z76 := Try.sizeOf161
  v76 := Try.zeroValue161
  t77 := Try.underlying162
  a77 := Try.isAgg162
  z77 := Try.sizeOf162
  v77 := Try.zeroValue162 }
open Go.RowKit Go.Lib Go.Sort in
/-- slices.SortFunc at elements of one cell. -/
theorem sort_func {α : Type} [Inhabited α] (enc : α → Value) (h1 : OneCell enc) (cf : α → α → Int) (hO : SWO (ltOf cf)) (g : Nat) (cb : Array Value) (blk off cap : Nat) (d : Array α) (w : World)
    (eg : ∀ args w, (callFunc g args).run Try.prog w = .ok (.enter g args) w) (hcmp : CmpLays1 Try.prog g cb enc cf blk off d.size w) (hH : Holds enc w blk off d) (hblk : blk < w.heap.size) (hsz : d.size < 4611686018427387904) :
    Calls Try.prog 59 #[.slice (some ⟨blk, off, none⟩) d.size cap, .func (.func g) #[] cb] w fun e w' =>
      e = .returned (.tuple #[]) ∧ ∃ d' n os, PermIn 0 d.size d d' ∧ SortedIn (ltOf cf) 0 d.size d' ∧ w' = sortWorld enc w blk off n d' os := Any.slices_SortFunc sortL enc h1 cf hO g cb blk off cap d w eg hcmp hH hblk hsz
open Go.RowKit Go.Lib Go.Sort in
/-- .. of no element. -/
theorem sort_none (s : Option Addr) (cap g : Nat) (cb : Array Value) (w : World) : Calls Try.prog 59 #[.slice s 0 cap, .func (.func g) #[] cb] w fun e w' => e = .returned (.tuple #[]) ∧ w' = w := AnyF.slices_SortFunc_none (P := Try.prog) (ρ := sortL_ren) { sortL with } s cap (.func (.func g) #[] cb) w
end Go.Proofs.Ytlmefnifhbcbcaa
end
