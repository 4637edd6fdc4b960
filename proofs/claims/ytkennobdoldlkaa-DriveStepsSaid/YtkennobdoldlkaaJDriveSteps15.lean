/- Joined texts of the claim DriveSteps (part 15): contracts of functions and plain laws. -/
import Derived.ArgAppend
import Derived.Below
import Derived.BigQuiet
import Derived.Deep.AppendLies
import Derived.Deep.CutBlock
import Derived.Deep.DeepCutAuto
import Derived.Deep.Draws
import Derived.Deep.LoopGhost
import Derived.Deep.OwnRows
import Derived.Deep.QuietTactic
import Derived.Deep.RegionHeld3
import Derived.KernelRfl
import Derived.Laws.BitsLemmas
import Derived.Laws.BytesArg
import Derived.Laws.IdiomCopy
import Derived.Laws.MakeOwn
import Derived.Laws.OwnMore
import Derived.Laws.Rows
import Derived.Laws.Slices
import Derived.Lib.AppendStr
import Derived.Lib.ConvBytes
import Derived.Maps.AppendAt
import Derived.OrdersHeld
import Derived.OwnWalk
import Derived.RowKit
import Derived.RowKit3
import Derived.Tactics
import Derived.Test.YtkennobdoldlkaaJDriveSteps0
import Derived.Test.YtkennobdoldlkaaJDriveSteps10
import Derived.Test.YtkennobdoldlkaaJDriveSteps11
import Derived.Test.YtkennobdoldlkaaJDriveSteps12
import Derived.Test.YtkennobdoldlkaaJDriveSteps13
import Derived.Test.YtkennobdoldlkaaJDriveSteps14
import Derived.Test.YtkennobdoldlkaaJDriveSteps3
import Derived.Test.YtkennobdoldlkaaJDriveSteps4
import Derived.Test.YtkennobdoldlkaaJDriveSteps5
import Derived.Test.YtkennobdoldlkaaJDriveSteps6
import Derived.Test.YtkennobdoldlkaaJDriveSteps7
import Derived.Test.YtkennobdoldlkaaJDriveSteps8
import Derived.Test.YtkennobdoldlkaaJDriveSteps9
import Derived.Test.YtkennobdoldlkaaProg
import Derived.WalkKit
import Derived.WideLaws
import Derived.Test.YtkennobdoldlkaaJDriveSteps2
set_option linter.unusedVariables false
set_option linter.unusedSimpArgs false
section
namespace Go.Proofs.Ytkennobdoldlkaa.PAll
open Go.RowKit Go.Proofs.YtkennobdoldlkaaW.PrintWords Go.Proofs.YtkennobdoldlkaaW.PrintLast Go.Proofs.YtkennobdoldlkaaW.PrintMore
attribute [local go_sem] qz51 qz52 max_two min_two qz45 qz46 qz53 qz54
def errW : Option Int → Value
  | none => .nilIface
  | some c => .iface 0 (.int .i64 c)
theorem qz21 : errW none = .nilIface := rfl
theorem qz22 (c : Int) : errW (some c) = .iface 0 (.int .i64 c) := rfl
theorem info22 : (Try.prog.info? 22).map (fun i => (i.zero, i.size, i.bytes)) = some (some (.int .u64 0), 1, 8) := by kernel_rfl
theorem info74 : (Try.prog.info? 74).map (fun i => (i.zero, i.size, i.bytes)) = some (some (.agg #[(.string ⟨#[]⟩), (.string ⟨#[]⟩), (.bool false)]), 3, 40) := by kernel_rfl
structure S24 where
  f0 : Int
  f1 : Int
def z24 : S24 := ⟨(0 : Int), (0 : Int)⟩
def k24 : Kd S24 := Kd.iso (Kd.pair (Kd.int .u64) (Kd.int .u64)) (fun x : S24 => (x.f0, x.f1))
theorem k24_open {w : World} {x : S24} {cs : List Value} (h : k24.K w x cs) : cs = [.int .u64 x.f0, .int .u64 x.f1] := by
  obtain ⟨_, _, rfl, rfl, rfl⟩ := h
  exact rfl
structure S53 where
  f0 : Int
  f1 : ByteArray
  f2 : ByteArray
  f3 : Bool
  f4 : Bool
def z53 : S53 := ⟨(0 : Int), (⟨#[]⟩ : ByteArray), (⟨#[]⟩ : ByteArray), false, false⟩
def k53 : Kd S53 := Kd.iso (Kd.pair (Kd.int .u64) (Kd.pair Kd.string (Kd.pair Kd.string (Kd.pair Kd.bool Kd.bool)))) (fun x : S53 => (x.f0, x.f1, x.f2, x.f3, x.f4))
theorem k53_open {w : World} {x : S53} {cs : List Value} (h : k53.K w x cs) : cs = [.int .u64 x.f0, .string x.f1, .string x.f2, .bool x.f3, .bool x.f4] := by
  obtain ⟨_, _, rfl, rfl, ⟨_, _, rfl, rfl, ⟨_, _, rfl, rfl, ⟨_, _, rfl, rfl, rfl⟩⟩⟩⟩ := h
  exact rfl
theorem k53_openM {w : World} {base : Nat} {ok : Nat → Prop} {x : S53} {cs : List Value} (h : k53.M w base ok x cs) : cs = [.int .u64 x.f0, .string x.f1, .string x.f2, .bool x.f3, .bool x.f4] := by
  obtain ⟨_, _, rfl, rfl, ⟨_, _, rfl, rfl, ⟨_, _, rfl, rfl, ⟨_, _, rfl, rfl, rfl⟩⟩⟩⟩ := h
  exact rfl
theorem k53_mk (w : World) (x : S53)  : k53.K w x [.int .u64 x.f0, .string x.f1, .string x.f2, .bool x.f3, .bool x.f4] := ⟨[.int .u64 x.f0], [.string x.f1, .string x.f2, .bool x.f3, .bool x.f4], rfl, rfl, ⟨[.string x.f1], [.string x.f2, .bool x.f3, .bool x.f4], rfl, rfl, ⟨[.string x.f2], [.bool x.f3, .bool x.f4], rfl, rfl, ⟨[.bool x.f3], [.bool x.f4], rfl, rfl, rfl⟩⟩⟩⟩
theorem k53_mkM (w : World) (base : Nat) (ok : Nat → Prop) (x : S53)  : k53.M w base ok x [.int .u64 x.f0, .string x.f1, .string x.f2, .bool x.f3, .bool x.f4] := ⟨[.int .u64 x.f0], [.string x.f1, .string x.f2, .bool x.f3, .bool x.f4], rfl, rfl, ⟨[.string x.f1], [.string x.f2, .bool x.f3, .bool x.f4], rfl, rfl, ⟨[.string x.f2], [.bool x.f3, .bool x.f4], rfl, rfl, ⟨[.bool x.f3], [.bool x.f4], rfl, rfl, rfl⟩⟩⟩⟩
def qz7 (xs : List S53) (i : Int) : S53 := xs.getD i.toNat z53
theorem at_T53 {w : World} {A : Option Addr} {n : Nat} {xs : List S53} (h : Kd.C k53 w A n xs) (i : Int) (h0 : 0 ≤ i) (h1 : i < n) : ∃ ad , A = some ad ∧ w.cell? (ad.add (i.toNat * 5)) = some (.int .u64 (qz7 xs i).f0) ∧ w.cell? ⟨(ad.add (i.toNat * 5)).block, (ad.add (i.toNat * 5)).off + 1, none⟩ = some (.string (qz7 xs i).f1) ∧ w.cell? ⟨(ad.add (i.toNat * 5)).block, (ad.add (i.toNat * 5)).off + 2, none⟩ = some (.string (qz7 xs i).f2) ∧ w.cell? ⟨(ad.add (i.toNat * 5)).block, (ad.add (i.toNat * 5)).off + 3, none⟩ = some (.bool (qz7 xs i).f3) ∧ w.cell? ⟨(ad.add (i.toNat * 5)).block, (ad.add (i.toNat * 5)).off + 4, none⟩ = some (.bool (qz7 xs i).f4) := by
  obtain ⟨ad, c, e, _, hK, hc0⟩ := Kd.C_get h z53 i h0 h1
  have hc : ∀ j u, c[j]? = some u → w.cell? (ad.add (i.toNat * 5 + j)) = some u := hc0
  obtain rfl := k53_open hK
  exact ⟨ad, e, hc 0 _ rfl, by rw [← add_field _ _ 1 (by omega)]; exact hc 1 _ rfl, by rw [← add_field _ _ 2 (by omega)]; exact hc 2 _ rfl, by rw [← add_field _ _ 3 (by omega)]; exact hc 3 _ rfl, by rw [← add_field _ _ 4 (by omega)]; exact hc 4 _ rfl⟩
structure S27 where
  f0 : S24
  f1 : (List S53)
def k27 : Kd S27 := Kd.iso (Kd.pair k24 (Kd.slice 53 k53)) (fun x : S27 => (x.f0, x.f1))
theorem k27_open {w : World} {x : S27} {cs : List Value} (h : k27.K w x cs) : ∃ A2 c2, cs = [.int .u64 x.f0.f0, .int .u64 x.f0.f1, .slice A2 x.f1.length c2] ∧ x.f1.length ≤ c2 ∧ k53.C w A2 x.f1.length x.f1 := by
  obtain ⟨_, _, rfl, s0, ⟨A2, c2, rfl, l2, g2⟩⟩ := h
  obtain rfl := k24_open s0
  exact ⟨A2, c2, rfl, l2, g2⟩
structure S74 where
  f0 : ByteArray
  f1 : ByteArray
  f2 : Bool
def z74 : S74 := ⟨(⟨#[]⟩ : ByteArray), (⟨#[]⟩ : ByteArray), false⟩
def k74 : Kd S74 := Kd.iso (Kd.pair Kd.string (Kd.pair Kd.string Kd.bool)) (fun x : S74 => (x.f0, x.f1, x.f2))
theorem k74_open {w : World} {x : S74} {cs : List Value} (h : k74.K w x cs) : cs = [.string x.f0, .string x.f1, .bool x.f2] := by
  obtain ⟨_, _, rfl, rfl, ⟨_, _, rfl, rfl, rfl⟩⟩ := h
  exact rfl
theorem k74_openM {w : World} {base : Nat} {ok : Nat → Prop} {x : S74} {cs : List Value} (h : k74.M w base ok x cs) : cs = [.string x.f0, .string x.f1, .bool x.f2] := by
  obtain ⟨_, _, rfl, rfl, ⟨_, _, rfl, rfl, rfl⟩⟩ := h
  exact rfl
theorem k74_mk (w : World) (x : S74)  : k74.K w x [.string x.f0, .string x.f1, .bool x.f2] := ⟨[.string x.f0], [.string x.f1, .bool x.f2], rfl, rfl, ⟨[.string x.f1], [.bool x.f2], rfl, rfl, rfl⟩⟩
theorem k74_mkM (w : World) (base : Nat) (ok : Nat → Prop) (x : S74)  : k74.M w base ok x [.string x.f0, .string x.f1, .bool x.f2] := ⟨[.string x.f0], [.string x.f1, .bool x.f2], rfl, rfl, ⟨[.string x.f1], [.bool x.f2], rfl, rfl, rfl⟩⟩
def qz18 (xs : List S74) (i : Int) : S74 := xs.getD i.toNat z74
theorem at_T74 {w : World} {A : Option Addr} {n : Nat} {xs : List S74} (h : Kd.C k74 w A n xs) (i : Int) (h0 : 0 ≤ i) (h1 : i < n) : ∃ ad , A = some ad ∧ w.cell? (ad.add (i.toNat * 3)) = some (.string (qz18 xs i).f0) ∧ w.cell? ⟨(ad.add (i.toNat * 3)).block, (ad.add (i.toNat * 3)).off + 1, none⟩ = some (.string (qz18 xs i).f1) ∧ w.cell? ⟨(ad.add (i.toNat * 3)).block, (ad.add (i.toNat * 3)).off + 2, none⟩ = some (.bool (qz18 xs i).f2) := by
  obtain ⟨ad, c, e, _, hK, hc0⟩ := Kd.C_get h z74 i h0 h1
  have hc : ∀ j u, c[j]? = some u → w.cell? (ad.add (i.toNat * 3 + j)) = some u := hc0
  obtain rfl := k74_open hK
  exact ⟨ad, e, hc 0 _ rfl, by rw [← add_field _ _ 1 (by omega)]; exact hc 1 _ rfl, by rw [← add_field _ _ 2 (by omega)]; exact hc 2 _ rfl⟩
structure S51 where
  f0 : Int
  f1 : ByteArray
  f2 : ByteArray
  f3 : Int
  f4 : Bool
def z51 : S51 := ⟨(0 : Int), (⟨#[]⟩ : ByteArray), (⟨#[]⟩ : ByteArray), (0 : Int), false⟩
def k51 : Kd S51 := Kd.iso (Kd.pair (Kd.int .u64) (Kd.pair Kd.string (Kd.pair Kd.string (Kd.pair (Kd.int .u64) Kd.bool)))) (fun x : S51 => (x.f0, x.f1, x.f2, x.f3, x.f4))
theorem k51_open {w : World} {x : S51} {cs : List Value} (h : k51.K w x cs) : cs = [.int .u64 x.f0, .string x.f1, .string x.f2, .int .u64 x.f3, .bool x.f4] := by
  obtain ⟨_, _, rfl, rfl, ⟨_, _, rfl, rfl, ⟨_, _, rfl, rfl, ⟨_, _, rfl, rfl, rfl⟩⟩⟩⟩ := h
  exact rfl
theorem k51_openM {w : World} {base : Nat} {ok : Nat → Prop} {x : S51} {cs : List Value} (h : k51.M w base ok x cs) : cs = [.int .u64 x.f0, .string x.f1, .string x.f2, .int .u64 x.f3, .bool x.f4] := by
  obtain ⟨_, _, rfl, rfl, ⟨_, _, rfl, rfl, ⟨_, _, rfl, rfl, ⟨_, _, rfl, rfl, rfl⟩⟩⟩⟩ := h
  exact rfl
theorem k51_mk (w : World) (x : S51)  : k51.K w x [.int .u64 x.f0, .string x.f1, .string x.f2, .int .u64 x.f3, .bool x.f4] := ⟨[.int .u64 x.f0], [.string x.f1, .string x.f2, .int .u64 x.f3, .bool x.f4], rfl, rfl, ⟨[.string x.f1], [.string x.f2, .int .u64 x.f3, .bool x.f4], rfl, rfl, ⟨[.string x.f2], [.int .u64 x.f3, .bool x.f4], rfl, rfl, ⟨[.int .u64 x.f3], [.bool x.f4], rfl, rfl, rfl⟩⟩⟩⟩
theorem k51_mkM (w : World) (base : Nat) (ok : Nat → Prop) (x : S51)  : k51.M w base ok x [.int .u64 x.f0, .string x.f1, .string x.f2, .int .u64 x.f3, .bool x.f4] := ⟨[.int .u64 x.f0], [.string x.f1, .string x.f2, .int .u64 x.f3, .bool x.f4], rfl, rfl, ⟨[.string x.f1], [.string x.f2, .int .u64 x.f3, .bool x.f4], rfl, rfl, ⟨[.string x.f2], [.int .u64 x.f3, .bool x.f4], rfl, rfl, ⟨[.int .u64 x.f3], [.bool x.f4], rfl, rfl, rfl⟩⟩⟩⟩
def qz33 (xs : List S51) (i : Int) : S51 := xs.getD i.toNat z51
theorem at_T51 {w : World} {A : Option Addr} {n : Nat} {xs : List S51} (h : Kd.C k51 w A n xs) (i : Int) (h0 : 0 ≤ i) (h1 : i < n) : ∃ ad , A = some ad ∧ w.cell? (ad.add (i.toNat * 5)) = some (.int .u64 (qz33 xs i).f0) ∧ w.cell? ⟨(ad.add (i.toNat * 5)).block, (ad.add (i.toNat * 5)).off + 1, none⟩ = some (.string (qz33 xs i).f1) ∧ w.cell? ⟨(ad.add (i.toNat * 5)).block, (ad.add (i.toNat * 5)).off + 2, none⟩ = some (.string (qz33 xs i).f2) ∧ w.cell? ⟨(ad.add (i.toNat * 5)).block, (ad.add (i.toNat * 5)).off + 3, none⟩ = some (.int .u64 (qz33 xs i).f3) ∧ w.cell? ⟨(ad.add (i.toNat * 5)).block, (ad.add (i.toNat * 5)).off + 4, none⟩ = some (.bool (qz33 xs i).f4) := by
  obtain ⟨ad, c, e, _, hK, hc0⟩ := Kd.C_get h z51 i h0 h1
  have hc : ∀ j u, c[j]? = some u → w.cell? (ad.add (i.toNat * 5 + j)) = some u := hc0
  obtain rfl := k51_open hK
  exact ⟨ad, e, hc 0 _ rfl, by rw [← add_field _ _ 1 (by omega)]; exact hc 1 _ rfl, by rw [← add_field _ _ 2 (by omega)]; exact hc 2 _ rfl, by rw [← add_field _ _ 3 (by omega)]; exact hc 3 _ rfl, by rw [← add_field _ _ 4 (by omega)]; exact hc 4 _ rfl⟩
end Go.Proofs.Ytkennobdoldlkaa.PAll
end
section
namespace Go.Proofs.Ytkennobdoldlkaa.PAll
open Go.RowKit Go.Proofs.YtkennobdoldlkaaW.PrintWords Go.Proofs.Ytkennobdoldlkaa
def enc74 (x : S74) : List Value := [.string x.f0, .string x.f1, .bool x.f2]
theorem flat74 : Flat k74 3 enc74 := ⟨rfl, fun w base ok x => k74_mkM w base ok x, fun w x => k74_mk w x, fun _ _ _ _ _ h => k74_openM h, fun _ _ _ h => k74_open h⟩
instance : Inhabited S74 := ⟨z74⟩
instance : Inhabited S24 := ⟨z24⟩
def enc53 (x : S53) : List Value := [.int .u64 x.f0, .string x.f1, .string x.f2, .bool x.f3, .bool x.f4]
theorem flat53 : Flat k53 5 enc53 := ⟨rfl, fun w base ok x => k53_mkM w base ok x, fun w x => k53_mk w x, fun _ _ _ _ _ h => k53_openM h, fun _ _ _ h => k53_open h⟩
instance : Inhabited S53 := ⟨z53⟩
def enc51 (x : S51) : List Value := [.int .u64 x.f0, .string x.f1, .string x.f2, .int .u64 x.f3, .bool x.f4]
theorem flat51 : Flat k51 5 enc51 := ⟨rfl, fun w base ok x => k51_mkM w base ok x, fun w x => k51_mk w x, fun _ _ _ _ _ h => k51_openM h, fun _ _ _ h => k51_open h⟩
instance : Inhabited S51 := ⟨z51⟩
def encu64 (x : Int) : List Value := [Value.int .u64 x]
theorem flatu64 : Flat (Kd.int .u64) 1 encu64 := ⟨rfl, fun _ _ _ _ => rfl, fun _ _ => rfl, fun _ _ _ _ _ h => h, fun _ _ _ h => h⟩
end Go.Proofs.Ytkennobdoldlkaa.PAll
end
