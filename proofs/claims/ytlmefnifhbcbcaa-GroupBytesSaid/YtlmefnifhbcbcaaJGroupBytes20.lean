/- Joined texts of the claim GroupBytes (part 20): contracts of functions and plain laws. -/
import Derived.Ground.SlsfProg
import Derived.Shelf.SlGeneric
import Derived.Shelf.SlSortCmp.NoneTotal
import Derived.Test.YtlmefnifhbcbcaaProg
import Derived.Maps.Keyed
import Derived.Maps.OwnSet
import Derived.Maps.Views
import Derived.Test.YtlmefnifhbcbcaaJGroupBytes1
import Derived.Test.YtlmefnifhbcbcaaJGroupBytes13
import Derived.LoopTactic
import Derived.Outline
import Derived.Test.YtlmefnifhbcbcaaJGroupBytes17
section
/- slices.SortFunc at slices.SortFunc[[]uint64,uint64]: the library's contract, laid in plain words. -/
namespace Go.Proofs.Ytlmefnifhbcbcaa
open Go.Shelf
def sortL_ren : Go.Shelf.Ren := ⟨fun | 6 => 59 | 15 => 81 | 14 => 80 | 28 => 104 | 29 => 95 | 20 => 96 | 21 => 97 | 22 => 98 | 23 => 99 | 24 => 100 | 25 => 101 | 26 => 102 | 27 => 103 | 46 => 110 | 47 => 111 | 48 => 112 | 49 => 113 | 50 => 114 | 57 => 125 | n => n, fun | 22 => 26 | 24 => 22 | 25 => 93 | 3 => 3 | 39 => 110 | 0 => 0 | 53 => 143 | 55 => 22 | 4 => 4 | 46 => 136 | 45 => 135 | 50 => 140 | 5 => 5 | 9 => 9 | 66 => 148 | 70 => 152 | 76 => 161 | 77 => 162 | n => n, fun | n => n⟩
theorem sortL : Go.Proofs.SlLaysF.n6 Try.prog sortL_ren := {
  mixed := by kernel_rfl
  f6 := ⟨Try.f59.name, by decide, Try.func59.trans (congrArg some (by kernel_rfl))⟩
  f14 := ⟨Try.f80.name, by decide, Try.func80.trans (congrArg some (by kernel_rfl))⟩
  f15 := Try.func81.trans (congrArg some (by kernel_rfl))
  f20 := ⟨Try.f96.name, by decide, Try.func96.trans (congrArg some (by kernel_rfl))⟩
  f21 := ⟨Try.f97.name, by decide, Try.func97.trans (congrArg some (by kernel_rfl))⟩
  f22 := ⟨Try.f98.name, by decide, Try.func98.trans (congrArg some (by kernel_rfl))⟩
  f23 := ⟨Try.f99.name, by decide, Try.func99.trans (congrArg some (by kernel_rfl))⟩
  f24 := ⟨Try.f100.name, by decide, Try.func100.trans (congrArg some (by kernel_rfl))⟩
  f25 := ⟨Try.f101.name, by decide, Try.func101.trans (congrArg some (by kernel_rfl))⟩
  f26 := ⟨Try.f102.name, by decide, Try.func102.trans (congrArg some (by kernel_rfl))⟩
  f27 := ⟨Try.f103.name, by decide, Try.func103.trans (congrArg some (by kernel_rfl))⟩
  f28 := Try.func104.trans (congrArg some (by kernel_rfl))
  f29 := Try.func95.trans (congrArg some (by kernel_rfl))
  f46 := ⟨Try.f110.name, by decide, Try.func110.trans (congrArg some (by kernel_rfl))⟩
  f47 := Try.func111.trans (congrArg some (by kernel_rfl))
  f48 := Try.func112.trans (congrArg some (by kernel_rfl))
  f49 := ⟨Try.f113.name, by decide, Try.func113.trans (congrArg some (by kernel_rfl))⟩
  f50 := ⟨Try.f114.name, by decide, Try.func114.trans (congrArg some (by kernel_rfl))⟩
  f57 := ⟨Try.f125.name, by decide, Try.func125.trans (congrArg some (by kernel_rfl))⟩
  t0 := Try.underlying0
  a0 := Try.isAgg0
  z0 := Try.sizeOf0
  v0 := Try.zeroValue0
  t3 := Try.underlying3
  a3 := Try.isAgg3
  z3 := Try.sizeOf3
  v3 := Try.zeroValue3
  t4 := Try.underlying4
  a4 := Try.isAgg4
  z4 := Try.sizeOf4
  v4 := Try.zeroValue4
  t5 := Try.underlying5
  a5 := Try.isAgg5
  z5 := Try.sizeOf5
  v5 := Try.zeroValue5
  t9 := Try.underlying9
  a9 := Try.isAgg9
  z9 := Try.sizeOf9
  v9 := Try.zeroValue9
  t22 := Try.underlying26
  a22 := Try.isAgg26
  z22 := Try.sizeOf26
  v22 := Try.zeroValue26
  a24 := Try.isAgg22
  z24 := Try.sizeOf22
  t25 := Try.underlying93
  a25 := Try.isAgg93
  z25 := Try.sizeOf93
  v25 := Try.zeroValue93
  t39 := Try.underlying110
  a39 := Try.isAgg110
  z39 := Try.sizeOf110
  v39 := Try.zeroValue110
  t45 := Try.underlying135
  a45 := Try.isAgg135
  z45 := Try.sizeOf135
  v45 := Try.zeroValue135
  t46 := Try.underlying136
  a46 := Try.isAgg136
  z46 := Try.sizeOf136
  v46 := Try.zeroValue136
  t50 := Try.underlying140
  a50 := Try.isAgg140
  z50 := Try.sizeOf140
  v50 := Try.zeroValue140
  t53 := Try.underlying143
  a53 := Try.isAgg143
  z53 := Try.sizeOf143
  v53 := Try.zeroValue143
  t55 := Try.underlying22
  a55 := Try.isAgg22
  z55 := Try.sizeOf22
  v55 := Try.zeroValue22
  t66 := Try.underlying148
  a66 := Try.isAgg148
  z66 := Try.sizeOf148
  v66 := Try.zeroValue148
  t70 := Try.underlying152
  a70 := Try.isAgg152
  z70 := Try.sizeOf152
  v70 := Try.zeroValue152
  t76 := Try.underlying161
  a76 := Try.isAgg161
  z76 := Try.sizeOf161
  v76 := Try.zeroValue161
  t77 := Try.underlying162
  a77 := Try.isAgg162
  z77 := Try.sizeOf162
  v77 := Try.zeroValue162 }
open Go.RowKit Go.Lib Go.Sort in
/-- slices.SortFunc at elements of one cell. -/
theorem sort_func {α : Type} [Inhabited α] (enc : α → Value) (h1 : OneCell enc) (cf : α → α → Int) (hO : SWO (ltOf cf)) (g : Nat) (cb : Array Value) (blk off cap : Nat) (d : Array α) (w : World)
    (eg : ∀ args w, (callFunc g args).run Try.prog w = .ok (.enter g args) w) (hcmp : CmpLays1 Try.prog g cb enc cf blk off d.size w) (hH : Holds enc w blk off d) (hblk : blk < w.heap.size) (hsz : d.size < 4611686018427387904) :
    Calls Try.prog 59 #[.slice (some ⟨blk, off, none⟩) d.size cap, .func (.func g) #[] cb] w fun e w' =>
      e = .returned (.tuple #[]) ∧ ∃ d' n os, PermIn 0 d.size d d' ∧ SortedIn (ltOf cf) 0 d.size d' ∧ w' = sortWorld enc w blk off n d' os := Any.slices_SortFunc sortL enc h1 cf hO g cb blk off cap d w eg hcmp hH hblk hsz
open Go.RowKit Go.Lib Go.Sort in
/-- .. of no element. -/
theorem sort_none (s : Option Addr) (cap g : Nat) (cb : Array Value) (w : World) : Calls Try.prog 59 #[.slice s 0 cap, .func (.func g) #[] cb] w fun e w' => e = .returned (.tuple #[]) ∧ w' = w := AnyF.slices_SortFunc_none (P := Try.prog) (ρ := sortL_ren) { sortL with } s cap (.func (.func g) #[] cb) w
end Go.Proofs.Ytlmefnifhbcbcaa
end
section
/- A map of bools that the call has made: what it says of a key. -/
namespace Go.Proofs.Ytlmefnifhbcbcaa
open Go.RowKit Go.WideMaps Go.Maps Go.Proofs.YtlmefnifhbcbcaaW.PrintWords
set_option linter.unusedVariables false
/-- Block b is a map of at most n entries that says S of the keys; no entry is false. -/
def BoolMap {κ : Type} (kl : κ → Lit) (kt : TypeId) (w : World) (b n : Nat) (S : κ → Bool) : Prop :=
  ∃ D : DataW Nat, w.ownsMap Try.prog kt (plainElem Try.prog 4) b n D ∧ ∀ x, D.atKey (kl x) (.lit (.bool false)) = .lit (.bool (S x))
section
variable {κ : Type} {kl : κ → Lit} {kt : TypeId} {w : World} {b n : Nat} {S : κ → Bool}
theorem BoolMap.lt (h : BoolMap kl kt w b n S) : b < w.heap.size := by
  obtain ⟨D, h1, _⟩ := h
  exact h1.lt
theorem BoolMap.below {q : Nat} {w' : World} (h : BoolMap kl kt w b n S) (hb : Below q w w') (hlt : b < q) : BoolMap kl kt w' b n S := by
  obtain ⟨D, ⟨es, clock, h1, h2⟩, h3⟩ := h
  exact ⟨D, ⟨es, clock, (hb.block b hlt).trans h1, h2⟩, h3⟩
theorem BoolMap.kept {w' : World} (h : BoolMap kl kt w b n S) (hb : Below w.heap.size w w') : BoolMap kl kt w' b n S := h.below hb h.lt
theorem BoolMap.grown {w' : World} {row : Option Nat} (h : BoolMap kl kt w b n S) (hb : w.grownBy w' row) (hne : some b ≠ row) : BoolMap kl kt w' b n S := by
  have hlt := h.lt
  obtain ⟨D, ⟨es, clock, h1, h2⟩, h3⟩ := h
  exact ⟨D, ⟨es, clock, (hb.block b hlt hne).trans h1, h2⟩, h3⟩
end
section
variable {κ : Type} [DecidableEq κ] {kl : κ → Lit} {kt : TypeId} {b n : Nat} {S : κ → Bool}
end
end Go.Proofs.Ytlmefnifhbcbcaa
end
section
-- Printed by this session's pr.sh (the kit's print.py, several laws in one namespace). Not trusted: Lean checks it.
namespace Go.Proofs.Ytlmefnifhbcbcaa.PAll
open Go.RowKit Go.Proofs.YtlmefnifhbcbcaaW.PrintWords Go.Proofs.YtlmefnifhbcbcaaW.PrintLast Go.Proofs.YtlmefnifhbcbcaaW.PrintMore
set_option linter.unusedVariables false
set_option linter.unusedSimpArgs false

/-! ### group_Need: function 39 -/
def group_Need.f (l0_0 : List Int) (l0_1 : List Int) : Option (Int) := some (wrap64 ((wrap64 ((l0_0.length : Int) / 2)) + 1))
set_option maxHeartbeats 8000000 in
set_option maxRecDepth 100000 in
theorem group_Need.calls (A0_0 : Option Addr) (c0_0 : Nat) (l0_0 : List Int) (A0_1 : Option Addr) (c0_1 : Nat) (l0_1 : List Int) (r : Int) (w : World) (hr0_0 : Kd.C (Kd.int .u64) w A0_0 l0_0.length l0_0) (hc0_0 : l0_0.length ≤ c0_0) (hr0_1 : Kd.C (Kd.int .u64) w A0_1 l0_1.length l0_1) (hc0_1 : l0_1.length ≤ c0_1) (h : group_Need.f l0_0 l0_1 = some r) :
    Calls Try.prog 39 #[.agg #[.slice A0_0 l0_0.length c0_0, .slice A0_1 l0_1.length c0_1]] w fun e w' => e = .returned (.int .i64 r) ∧ Below w.heap.size w w' := by
  have hu28 := Try.underlying28
  have HR0_0 := Aside0.mk hr0_0
  have HC0_0 := Aside0.mk hc0_0
  clear hr0_0 hc0_0
  have HR0_1 := Aside0.mk hr0_1
  have HC0_1 := Aside0.mk hc0_1
  clear hr0_1 hc0_1
  have HB := Aside0.mk (Below.refl w.heap.size w)
  have H : (some (wrap64 ((wrap64 ((l0_0.length : Int) / 2)) + 1))) = some r := h
  clear h
  obtain rfl := Option.some.inj H
  go_enter Try.func39, Try.ntmps39
  go_wp2_with (first | ((with_reducible refine gate_dst (N := 1) rfl ?_); refine box_event ?hg (N := 1) ?hd (cs := #[.slice A0_0 l0_0.length c0_0, .slice A0_1 l0_1.length c0_1]) (t := 28) ?hr ?_; (case hd => rfl); (case hg => rfl); (case hr => first | (go_simp; done) | (go_simp; rfl)); intro gb104 hg w2 hbox hb; have n0_ := Aside0.mk (below_step (by repeat (first | (with_reducible first | exact HB.out | apply below_alloc | apply pw_below_drewN | apply below_drew1) | exact HB.out)) hb); have n1_ := Aside0.mk (hbox); have n2_ := Aside0.mk ((by rw [hg]; exact (below_size (by repeat (first | (with_reducible first | exact HB.out | apply below_alloc | apply pw_below_drewN | apply below_drew1) | exact HB.out))) : w.heap.size ≤ gb104)); have n3_ := Aside0.mk ((by rw [hg]; exact (below_size (by repeat (first | (with_reducible first | exact HB.out | apply below_alloc | apply pw_below_drewN | apply below_drew1) | exact HB.out))) : w.heap.size ≤ gb104)); clear HB; have HB := n0_; have BK104 := n1_; have GW104 := n2_; have GE104 := n3_; clear n0_ n1_ n2_ n3_; clear hb hbox hg; have hcz3_0 : w2.cell? ⟨gb104, 0, none⟩ = some (.slice A0_0 l0_0.length c0_0) := (blk_cell BK104.out 0).trans rfl; have hcz3_1 : w2.cell? ⟨gb104, 1, none⟩ = some (.slice A0_1 l0_1.length c0_1) := (blk_cell BK104.out 1).trans rfl; have hfz3_0 := blk_frozen BK104.out 0; have hfz3_1 := blk_frozen BK104.out 1))
  go_ret
  exact ⟨by first | rfl | (simp [errW_none, errW_some] <;> rfl) | (simp [*, errW_none, errW_some] <;> rfl), by repeat (first | (with_reducible first | exact HB.out | apply below_alloc | apply pw_below_drewN | apply below_drew1 | refine below_set ?_ GE104.out) | exact HB.out)⟩

end Go.Proofs.Ytlmefnifhbcbcaa.PAll
end
section
/- Groups: Most, as the printed texts call it. -/
namespace Go.Proofs.Ytlmefnifhbcbcaa.PAll
open Go.RowKit Go.WideMaps Go.Maps Go.Proofs.YtlmefnifhbcbcaaW.PrintWords Go.Proofs.YtlmefnifhbcbcaaW.PrintMore Go.Proofs.Ytlmefnifhbcbcaa
set_option linter.unusedVariables false
theorem cell_ofI {w : World} {A : Option Addr} {l : List Int} (h : Kd.C (Kd.int .u64) w A l.length l) (j : Nat) (hj : j < l.length) : ∃ b o, A = some ⟨b, o, none⟩ ∧ w.cell? ⟨b, o + j, none⟩ = some (.int .u64 l[j]!) := by
  obtain ⟨b, o, rfl, hrow⟩ := C_row h (by decide) (by omega)
  obtain ⟨cs, hcs, hK, hrg⟩ := hrow j hj
  obtain rfl : cs = [.int .u64 l[j]!] := hK
  refine ⟨b, o, rfl, ?_⟩
  have := hrg 0 _ rfl
  rwa [show (Kd.int .u64).sz = 1 from rfl, Nat.mul_one, Nat.add_zero] at this
theorem need_val (l m : List Int) (h : l.length ≤ 4611686018427387904) : group_Need.f l m = some ((l.length : Int) / 2 + 1) := by
  unfold group_Need.f
  congr 1
  unfold wrap64
  omega
end Go.Proofs.Ytlmefnifhbcbcaa.PAll
end
