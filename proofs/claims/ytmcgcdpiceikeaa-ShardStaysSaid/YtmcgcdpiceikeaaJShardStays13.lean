/- Joined texts of the claim ShardStays (part 13): contracts of functions and plain laws. -/
import Derived.ArgAppend
import Derived.Below
import Derived.BigQuiet
import Derived.Deep.AppendLies
import Derived.Deep.CutBlock
import Derived.Deep.DeepCutAuto
import Derived.Deep.Draws
import Derived.Deep.LoopGhost
import Derived.Deep.OwnRows
import Derived.Deep.QuietTactic
import Derived.Deep.RegionHeld3
import Derived.KernelRfl
import Derived.Laws.BitsLemmas
import Derived.Laws.BytesArg
import Derived.Laws.IdiomCopy
import Derived.Laws.MakeOwn
import Derived.Laws.OwnMore
import Derived.Laws.Rows
import Derived.Laws.Slices
import Derived.Lib.AppendStr
import Derived.Lib.ConvBytes
import Derived.Maps.AppendAt
import Derived.OrdersHeld
import Derived.OwnWalk
import Derived.RowKit
import Derived.RowKit3
import Derived.Tactics
import Derived.Test.YtmcgcdpiceikeaaJShardStays0
import Derived.Test.YtmcgcdpiceikeaaJShardStays10
import Derived.Test.YtmcgcdpiceikeaaJShardStays11
import Derived.Test.YtmcgcdpiceikeaaJShardStays12
import Derived.Test.YtmcgcdpiceikeaaJShardStays2
import Derived.Test.YtmcgcdpiceikeaaJShardStays3
import Derived.Test.YtmcgcdpiceikeaaJShardStays4
import Derived.Test.YtmcgcdpiceikeaaJShardStays5
import Derived.Test.YtmcgcdpiceikeaaJShardStays6
import Derived.Test.YtmcgcdpiceikeaaJShardStays7
import Derived.Test.YtmcgcdpiceikeaaJShardStays8
import Derived.Test.YtmcgcdpiceikeaaJShardStays9
import Derived.Test.YtmcgcdpiceikeaaProg
import Derived.WalkKit
import Derived.WideLaws
import Derived.Test.YtmcgcdpiceikeaaJShardStays1
import Derived.LoopTactic
import Derived.Maps.OwnSet
import Derived.Maps.Views
import Derived.StringKeys
import Derived.Maps.Keyed
set_option linter.unusedVariables false
set_option linter.unusedSimpArgs false
section
namespace Go.Proofs.Ytmcgcdpiceikeaa.PAll
open Go.RowKit Go.Proofs.YtmcgcdpiceikeaaW.PrintWords Go.Proofs.YtmcgcdpiceikeaaW.PrintLast Go.Proofs.YtmcgcdpiceikeaaW.PrintMore
attribute [local go_sem] qz60 qz61 max_two min_two qz49 qz50 qz62 qz63
def errW : Option Int → Value
  | none => .nilIface
  | some c => .iface 0 (.int .i64 c)
theorem qz19 : errW none = .nilIface := rfl
theorem qz20 (c : Int) : errW (some c) = .iface 0 (.int .i64 c) := rfl
theorem info9 : (Try.prog.info? 9).map (fun i => (i.zero, i.size, i.bytes)) = some (some (.string ⟨#[]⟩), 1, 16) := by kernel_rfl
theorem info30 : (Try.prog.info? 30).map (fun i => (i.zero, i.size, i.bytes)) = some (some (.agg #[(.int .u64 0), (.int .u64 0)]), 2, 16) := by kernel_rfl
structure S50 where
  f0 : ByteArray
  f1 : ByteArray
  f2 : Int
def z50 : S50 := ⟨(⟨#[]⟩ : ByteArray), (⟨#[]⟩ : ByteArray), (0 : Int)⟩
def k50 : Kd S50 := Kd.iso (Kd.pair Kd.string (Kd.pair Kd.string (Kd.int .u64))) (fun x : S50 => (x.f0, x.f1, x.f2))
theorem k50_open {w : World} {x : S50} {cs : List Value} (h : k50.K w x cs) : cs = [.string x.f0, .string x.f1, .int .u64 x.f2] := by
  obtain ⟨_, _, rfl, rfl, ⟨_, _, rfl, rfl, rfl⟩⟩ := h
  exact rfl
theorem k50_openM {w : World} {base : Nat} {ok : Nat → Prop} {x : S50} {cs : List Value} (h : k50.M w base ok x cs) : cs = [.string x.f0, .string x.f1, .int .u64 x.f2] := by
  obtain ⟨_, _, rfl, rfl, ⟨_, _, rfl, rfl, rfl⟩⟩ := h
  exact rfl
theorem k50_mk (w : World) (x : S50)  : k50.K w x [.string x.f0, .string x.f1, .int .u64 x.f2] := ⟨[.string x.f0], [.string x.f1, .int .u64 x.f2], rfl, rfl, ⟨[.string x.f1], [.int .u64 x.f2], rfl, rfl, rfl⟩⟩
theorem k50_mkM (w : World) (base : Nat) (ok : Nat → Prop) (x : S50)  : k50.M w base ok x [.string x.f0, .string x.f1, .int .u64 x.f2] := ⟨[.string x.f0], [.string x.f1, .int .u64 x.f2], rfl, rfl, ⟨[.string x.f1], [.int .u64 x.f2], rfl, rfl, rfl⟩⟩
def qz18 (xs : List S50) (i : Int) : S50 := xs.getD i.toNat z50
theorem at_T50 {w : World} {A : Option Addr} {n : Nat} {xs : List S50} (h : Kd.C k50 w A n xs) (i : Int) (h0 : 0 ≤ i) (h1 : i < n) : ∃ ad , A = some ad ∧ w.cell? (ad.add (i.toNat * 3)) = some (.string (qz18 xs i).f0) ∧ w.cell? ⟨(ad.add (i.toNat * 3)).block, (ad.add (i.toNat * 3)).off + 1, none⟩ = some (.string (qz18 xs i).f1) ∧ w.cell? ⟨(ad.add (i.toNat * 3)).block, (ad.add (i.toNat * 3)).off + 2, none⟩ = some (.int .u64 (qz18 xs i).f2) := by
  obtain ⟨ad, c, e, _, hK, hc0⟩ := Kd.C_get h z50 i h0 h1
  have hc : ∀ j u, c[j]? = some u → w.cell? (ad.add (i.toNat * 3 + j)) = some u := hc0
  obtain rfl := k50_open hK
  exact ⟨ad, e, hc 0 _ rfl, by rw [← qz71 _ _ 1 (by omega)]; exact hc 1 _ rfl, by rw [← qz71 _ _ 2 (by omega)]; exact hc 2 _ rfl⟩
structure S30 where
  f0 : Int
  f1 : Int
def z30 : S30 := ⟨(0 : Int), (0 : Int)⟩
def k30 : Kd S30 := Kd.iso (Kd.pair (Kd.int .u64) (Kd.int .u64)) (fun x : S30 => (x.f0, x.f1))
theorem k30_open {w : World} {x : S30} {cs : List Value} (h : k30.K w x cs) : cs = [.int .u64 x.f0, .int .u64 x.f1] := by
  obtain ⟨_, _, rfl, rfl, rfl⟩ := h
  exact rfl
theorem k30_openM {w : World} {base : Nat} {ok : Nat → Prop} {x : S30} {cs : List Value} (h : k30.M w base ok x cs) : cs = [.int .u64 x.f0, .int .u64 x.f1] := by
  obtain ⟨_, _, rfl, rfl, rfl⟩ := h
  exact rfl
theorem k30_mk (w : World) (x : S30)  : k30.K w x [.int .u64 x.f0, .int .u64 x.f1] := ⟨[.int .u64 x.f0], [.int .u64 x.f1], rfl, rfl, rfl⟩
theorem k30_mkM (w : World) (base : Nat) (ok : Nat → Prop) (x : S30)  : k30.M w base ok x [.int .u64 x.f0, .int .u64 x.f1] := ⟨[.int .u64 x.f0], [.int .u64 x.f1], rfl, rfl, rfl⟩
def rd_T30 (xs : List S30) (i : Int) : S30 := xs.getD i.toNat z30
theorem at_T30 {w : World} {A : Option Addr} {n : Nat} {xs : List S30} (h : Kd.C k30 w A n xs) (i : Int) (h0 : 0 ≤ i) (h1 : i < n) : ∃ ad , A = some ad ∧ w.cell? (ad.add (i.toNat * 2)) = some (.int .u64 (rd_T30 xs i).f0) ∧ w.cell? ⟨(ad.add (i.toNat * 2)).block, (ad.add (i.toNat * 2)).off + 1, none⟩ = some (.int .u64 (rd_T30 xs i).f1) := by
  obtain ⟨ad, c, e, _, hK, hc0⟩ := Kd.C_get h z30 i h0 h1
  have hc : ∀ j u, c[j]? = some u → w.cell? (ad.add (i.toNat * 2 + j)) = some u := hc0
  obtain rfl := k30_open hK
  exact ⟨ad, e, hc 0 _ rfl, by rw [← qz71 _ _ 1 (by omega)]; exact hc 1 _ rfl⟩
structure S75 where
  f0 : ByteArray
  f1 : S30
  f2 : Bool
def z75 : S75 := ⟨(⟨#[]⟩ : ByteArray), z30, false⟩
def k75 : Kd S75 := Kd.iso (Kd.pair Kd.string (Kd.pair k30 Kd.bool)) (fun x : S75 => (x.f0, x.f1, x.f2))
theorem k75_open {w : World} {x : S75} {cs : List Value} (h : k75.K w x cs) : cs = [.string x.f0, .int .u64 x.f1.f0, .int .u64 x.f1.f1, .bool x.f2] := by
  obtain ⟨_, _, rfl, rfl, ⟨_, _, rfl, s1, rfl⟩⟩ := h
  obtain rfl := k30_open s1
  exact rfl
theorem k75_openM {w : World} {base : Nat} {ok : Nat → Prop} {x : S75} {cs : List Value} (h : k75.M w base ok x cs) : cs = [.string x.f0, .int .u64 x.f1.f0, .int .u64 x.f1.f1, .bool x.f2] := by
  obtain ⟨_, _, rfl, rfl, ⟨_, _, rfl, s1, rfl⟩⟩ := h
  obtain rfl := k30_openM s1
  exact rfl
theorem k75_mk (w : World) (x : S75)  : k75.K w x [.string x.f0, .int .u64 x.f1.f0, .int .u64 x.f1.f1, .bool x.f2] := ⟨[.string x.f0], [.int .u64 x.f1.f0, .int .u64 x.f1.f1, .bool x.f2], rfl, rfl, ⟨[.int .u64 x.f1.f0, .int .u64 x.f1.f1], [.bool x.f2], rfl, (k30_mk w x.f1 ), rfl⟩⟩
theorem k75_mkM (w : World) (base : Nat) (ok : Nat → Prop) (x : S75)  : k75.M w base ok x [.string x.f0, .int .u64 x.f1.f0, .int .u64 x.f1.f1, .bool x.f2] := ⟨[.string x.f0], [.int .u64 x.f1.f0, .int .u64 x.f1.f1, .bool x.f2], rfl, rfl, ⟨[.int .u64 x.f1.f0, .int .u64 x.f1.f1], [.bool x.f2], rfl, (k30_mkM w base ok x.f1 ), rfl⟩⟩
def qz41 (xs : List S75) (i : Int) : S75 := xs.getD i.toNat z75
theorem at_T75 {w : World} {A : Option Addr} {n : Nat} {xs : List S75} (h : Kd.C k75 w A n xs) (i : Int) (h0 : 0 ≤ i) (h1 : i < n) : ∃ ad , A = some ad ∧ w.cell? (ad.add (i.toNat * 4)) = some (.string (qz41 xs i).f0) ∧ w.cell? ⟨(ad.add (i.toNat * 4)).block, (ad.add (i.toNat * 4)).off + 1, none⟩ = some (.int .u64 (qz41 xs i).f1.f0) ∧ w.cell? ⟨(ad.add (i.toNat * 4)).block, (ad.add (i.toNat * 4)).off + 2, none⟩ = some (.int .u64 (qz41 xs i).f1.f1) ∧ w.cell? ⟨(ad.add (i.toNat * 4)).block, (ad.add (i.toNat * 4)).off + 3, none⟩ = some (.bool (qz41 xs i).f2) := by
  obtain ⟨ad, c, e, _, hK, hc0⟩ := Kd.C_get h z75 i h0 h1
  have hc : ∀ j u, c[j]? = some u → w.cell? (ad.add (i.toNat * 4 + j)) = some u := hc0
  obtain rfl := k75_open hK
  exact ⟨ad, e, hc 0 _ rfl, by rw [← qz71 _ _ 1 (by omega)]; exact hc 1 _ rfl, by rw [← qz71 _ _ 2 (by omega)]; exact hc 2 _ rfl, by rw [← qz71 _ _ 3 (by omega)]; exact hc 3 _ rfl⟩
structure S54 where
  f0 : ByteArray
  f1 : ByteArray
  f2 : Bool
def z54 : S54 := ⟨(⟨#[]⟩ : ByteArray), (⟨#[]⟩ : ByteArray), false⟩
def k54 : Kd S54 := Kd.iso (Kd.pair Kd.string (Kd.pair Kd.string Kd.bool)) (fun x : S54 => (x.f0, x.f1, x.f2))
theorem k54_open {w : World} {x : S54} {cs : List Value} (h : k54.K w x cs) : cs = [.string x.f0, .string x.f1, .bool x.f2] := by
  obtain ⟨_, _, rfl, rfl, ⟨_, _, rfl, rfl, rfl⟩⟩ := h
  exact rfl
theorem k54_openM {w : World} {base : Nat} {ok : Nat → Prop} {x : S54} {cs : List Value} (h : k54.M w base ok x cs) : cs = [.string x.f0, .string x.f1, .bool x.f2] := by
  obtain ⟨_, _, rfl, rfl, ⟨_, _, rfl, rfl, rfl⟩⟩ := h
  exact rfl
theorem k54_mk (w : World) (x : S54)  : k54.K w x [.string x.f0, .string x.f1, .bool x.f2] := ⟨[.string x.f0], [.string x.f1, .bool x.f2], rfl, rfl, ⟨[.string x.f1], [.bool x.f2], rfl, rfl, rfl⟩⟩
theorem k54_mkM (w : World) (base : Nat) (ok : Nat → Prop) (x : S54)  : k54.M w base ok x [.string x.f0, .string x.f1, .bool x.f2] := ⟨[.string x.f0], [.string x.f1, .bool x.f2], rfl, rfl, ⟨[.string x.f1], [.bool x.f2], rfl, rfl, rfl⟩⟩
def qz17 (xs : List S54) (i : Int) : S54 := xs.getD i.toNat z54
theorem at_T54 {w : World} {A : Option Addr} {n : Nat} {xs : List S54} (h : Kd.C k54 w A n xs) (i : Int) (h0 : 0 ≤ i) (h1 : i < n) : ∃ ad , A = some ad ∧ w.cell? (ad.add (i.toNat * 3)) = some (.string (qz17 xs i).f0) ∧ w.cell? ⟨(ad.add (i.toNat * 3)).block, (ad.add (i.toNat * 3)).off + 1, none⟩ = some (.string (qz17 xs i).f1) ∧ w.cell? ⟨(ad.add (i.toNat * 3)).block, (ad.add (i.toNat * 3)).off + 2, none⟩ = some (.bool (qz17 xs i).f2) := by
  obtain ⟨ad, c, e, _, hK, hc0⟩ := Kd.C_get h z54 i h0 h1
  have hc : ∀ j u, c[j]? = some u → w.cell? (ad.add (i.toNat * 3 + j)) = some u := hc0
  obtain rfl := k54_open hK
  exact ⟨ad, e, hc 0 _ rfl, by rw [← qz71 _ _ 1 (by omega)]; exact hc 1 _ rfl, by rw [← qz71 _ _ 2 (by omega)]; exact hc 2 _ rfl⟩
structure S48 where
  f0 : S30
  f1 : Bool
  f2 : Bool
  f3 : (List S54)
def z48 : S48 := ⟨z30, false, false, ([] : List S54)⟩
def k48 : Kd S48 := Kd.iso (Kd.pair k30 (Kd.pair Kd.bool (Kd.pair Kd.bool (Kd.slice 54 k54)))) (fun x : S48 => (x.f0, x.f1, x.f2, x.f3))
theorem k48_open {w : World} {x : S48} {cs : List Value} (h : k48.K w x cs) : ∃ A4 c4, cs = [.int .u64 x.f0.f0, .int .u64 x.f0.f1, .bool x.f1, .bool x.f2, .slice A4 x.f3.length c4] ∧ x.f3.length ≤ c4 ∧ k54.C w A4 x.f3.length x.f3 := by
  obtain ⟨_, _, rfl, s0, ⟨_, _, rfl, rfl, ⟨_, _, rfl, rfl, ⟨A4, c4, rfl, l4, g4⟩⟩⟩⟩ := h
  obtain rfl := k30_open s0
  exact ⟨A4, c4, rfl, l4, g4⟩
def qz31 (xs : List S48) (i : Int) : S48 := xs.getD i.toNat z48
theorem at_T48 {w : World} {A : Option Addr} {n : Nat} {xs : List S48} (h : Kd.C k48 w A n xs) (i : Int) (h0 : 0 ≤ i) (h1 : i < n) : ∃ ad A4 c4, A = some ad ∧ w.cell? (ad.add (i.toNat * 5)) = some (.int .u64 (qz31 xs i).f0.f0) ∧ w.cell? ⟨(ad.add (i.toNat * 5)).block, (ad.add (i.toNat * 5)).off + 1, none⟩ = some (.int .u64 (qz31 xs i).f0.f1) ∧ w.cell? ⟨(ad.add (i.toNat * 5)).block, (ad.add (i.toNat * 5)).off + 2, none⟩ = some (.bool (qz31 xs i).f1) ∧ w.cell? ⟨(ad.add (i.toNat * 5)).block, (ad.add (i.toNat * 5)).off + 3, none⟩ = some (.bool (qz31 xs i).f2) ∧ w.cell? ⟨(ad.add (i.toNat * 5)).block, (ad.add (i.toNat * 5)).off + 4, none⟩ = some (.slice A4 (qz31 xs i).f3.length c4) ∧ (qz31 xs i).f3.length ≤ c4 ∧ k54.C w A4 (qz31 xs i).f3.length (qz31 xs i).f3 := by
  obtain ⟨ad, c, e, _, hK, hc0⟩ := Kd.C_get h z48 i h0 h1
  have hc : ∀ j u, c[j]? = some u → w.cell? (ad.add (i.toNat * 5 + j)) = some u := hc0
  obtain ⟨A4, c4, rfl, l4, g4⟩ := k48_open hK
  exact ⟨ad, A4, c4, e, hc 0 _ rfl, by rw [← qz71 _ _ 1 (by omega)]; exact hc 1 _ rfl, by rw [← qz71 _ _ 2 (by omega)]; exact hc 2 _ rfl, by rw [← qz71 _ _ 3 (by omega)]; exact hc 3 _ rfl, by rw [← qz71 _ _ 4 (by omega)]; exact hc 4 _ rfl, l4, g4⟩
structure S68 where
  f0 : S30
  f1 : Bool
def z68 : S68 := ⟨z30, false⟩
def k68 : Kd S68 := Kd.iso (Kd.pair k30 Kd.bool) (fun x : S68 => (x.f0, x.f1))
theorem k68_open {w : World} {x : S68} {cs : List Value} (h : k68.K w x cs) : cs = [.int .u64 x.f0.f0, .int .u64 x.f0.f1, .bool x.f1] := by
  obtain ⟨_, _, rfl, s0, rfl⟩ := h
  obtain rfl := k30_open s0
  exact rfl
theorem k68_openM {w : World} {base : Nat} {ok : Nat → Prop} {x : S68} {cs : List Value} (h : k68.M w base ok x cs) : cs = [.int .u64 x.f0.f0, .int .u64 x.f0.f1, .bool x.f1] := by
  obtain ⟨_, _, rfl, s0, rfl⟩ := h
  obtain rfl := k30_openM s0
  exact rfl
theorem k68_mk (w : World) (x : S68)  : k68.K w x [.int .u64 x.f0.f0, .int .u64 x.f0.f1, .bool x.f1] := ⟨[.int .u64 x.f0.f0, .int .u64 x.f0.f1], [.bool x.f1], rfl, (k30_mk w x.f0 ), rfl⟩
theorem k68_mkM (w : World) (base : Nat) (ok : Nat → Prop) (x : S68)  : k68.M w base ok x [.int .u64 x.f0.f0, .int .u64 x.f0.f1, .bool x.f1] := ⟨[.int .u64 x.f0.f0, .int .u64 x.f0.f1], [.bool x.f1], rfl, (k30_mkM w base ok x.f0 ), rfl⟩
end Go.Proofs.Ytmcgcdpiceikeaa.PAll
end
section
namespace Go.Proofs.Ytmcgcdpiceikeaa.PAll
open Go.RowKit Go.Proofs.YtmcgcdpiceikeaaW.PrintWords Go.Proofs.Ytmcgcdpiceikeaa
def enc50 (x : S50) : List Value := [.string x.f0, .string x.f1, .int .u64 x.f2]
theorem flat50 : Flat k50 3 enc50 := ⟨rfl, fun w base ok x => k50_mkM w base ok x, fun w x => k50_mk w x, fun _ _ _ _ _ h => k50_openM h, fun _ _ _ h => k50_open h⟩
instance : Inhabited S50 := ⟨z50⟩
def enc54 (x : S54) : List Value := [.string x.f0, .string x.f1, .bool x.f2]
theorem flat54 : Flat k54 3 enc54 := ⟨rfl, fun w base ok x => k54_mkM w base ok x, fun w x => k54_mk w x, fun _ _ _ _ _ h => k54_openM h, fun _ _ _ h => k54_open h⟩
instance : Inhabited S54 := ⟨z54⟩
def enc30 (x : S30) : List Value := [.int .u64 x.f0, .int .u64 x.f1]
theorem flat30 : Flat k30 2 enc30 := ⟨rfl, fun w base ok x => k30_mkM w base ok x, fun w x => k30_mk w x, fun _ _ _ _ _ h => k30_openM h, fun _ _ _ h => k30_open h⟩
instance : Inhabited S30 := ⟨z30⟩
def enc75 (x : S75) : List Value := [.string x.f0, .int .u64 x.f1.f0, .int .u64 x.f1.f1, .bool x.f2]
theorem flat75 : Flat k75 4 enc75 := ⟨rfl, fun w base ok x => k75_mkM w base ok x, fun w x => k75_mk w x, fun _ _ _ _ _ h => k75_openM h, fun _ _ _ h => k75_open h⟩
instance : Inhabited S75 := ⟨z75⟩
def enc68 (x : S68) : List Value := [.int .u64 x.f0.f0, .int .u64 x.f0.f1, .bool x.f1]
theorem flat68 : Flat k68 3 enc68 := ⟨rfl, fun w base ok x => k68_mkM w base ok x, fun w x => k68_mk w x, fun _ _ _ _ _ h => k68_openM h, fun _ _ _ h => k68_open h⟩
instance : Inhabited S68 := ⟨z68⟩
end Go.Proofs.Ytmcgcdpiceikeaa.PAll
end
section
namespace Go.Proofs.Ytmcgcdpiceikeaa.PAll
open Go.RowKit Go.Proofs.YtmcgcdpiceikeaaW.PrintWords Go.Proofs.YtmcgcdpiceikeaaW.PrintLast Go.Proofs.YtmcgcdpiceikeaaW.PrintMore
attribute [local go_sem] qz60 qz61 max_two min_two qz49 qz50 qz62 qz63
def rows_named.f (a0 : ByteArray) : Option (Bool) := if (a0.size : Int) ≥ 1 then (some (decide ((a0.size : Int) ≤ 16))) else (some false)
set_option maxHeartbeats 8000000 in
set_option maxRecDepth 100000 in
theorem rows_named.calls (a0 : ByteArray) (r : Bool) (w : World) (h : rows_named.f a0 = some r) :
    Calls Try.prog 73 #[.string a0] w fun e w' => e = .returned (.bool r) ∧ Drawn0 w w' := by
  have H : (if (a0.size : Int) ≥ 1 then (some (decide ((a0.size : Int) ≤ 16))) else (some false)) = some r := h
  clear h
  by_cases c2 : (a0.size : Int) ≥ 1
  · rw [if_pos c2] at H
    have c2b0 : decide (1 ≤ (a0.size : Int)) = true := decide_eq_true c2
    have c2b1 : decide (1 ≤ a0.size) = true := decide_eq_true (by omega)
    clear c2
    obtain rfl := Option.some.inj H
    go_enter Try.func73, Try.ntmps73
    go_wp2
    go_ret
    exact ⟨by first | rfl | (simp; done) | (simp [*]; done), by repeat (first | exact Drawn0.refl _ | apply Drawn0.step)⟩
  · rw [if_neg c2] at H
    have c2b0 : decide (1 ≤ (a0.size : Int)) = false := decide_eq_false c2
    have c2b1 : decide (1 ≤ a0.size) = false := decide_eq_false (by omega)
    clear c2
    obtain rfl := Option.some.inj H
    go_enter Try.func73, Try.ntmps73
    go_wp2
    go_ret
    exact ⟨by first | rfl | (simp; done) | (simp [*]; done), by repeat (first | exact Drawn0.refl _ | apply Drawn0.step)⟩
end Go.Proofs.Ytmcgcdpiceikeaa.PAll
end
section
namespace Go.Proofs.Ytmcgcdpiceikeaa.PAll
open Go.RowKit Go.WideMaps Go.Maps Go.Proofs.YtmcgcdpiceikeaaW.PrintWords Go.Proofs.Ytmcgcdpiceikeaa
def badPut (x : S54) : Bool := !(decide (1 ≤ x.f0.size) && decide (x.f0.size ≤ 16)) || decide (32 < x.f1.size) || (x.f2 && !(x.f1.toList == []))
def hasKey (p : List S54) (s : ByteArray) : Bool := p.any (fun y => y.f0.toList == s.toList)
def fitsGo : List S54 → List S54 → Int
  | [], _ => 0
  | x :: r, done => if badPut x || hasKey done x.f0 then 1 else fitsGo r (done ++ [x])
def fitsV (p : List S54) : Int := if 8 < p.length then 4 else fitsGo p []
def rows_Fits.f (l0 : List S54) : Option Int := some (fitsV l0)
def qz46 (s : ByteArray) : Lit := .string s.toList
def hadD (p : List S54) : DataW Nat := p.foldl (fun D x => D.put (qz46 x.f0) (.lit (.bool true))) (.map [])
theorem hadD_snoc (p : List S54) (x : S54) : hadD (p ++ [x]) = (hadD p).put (qz46 x.f0) (.lit (.bool true)) := by simp [hadD]
theorem hadD_at (s : ByteArray) : ∀ (p : List S54) (D : DataW Nat), IsMap D → (p.foldl (fun D x => D.put (qz46 x.f0) (.lit (.bool true))) D).atKey (qz46 s) (.lit (.bool false)) = if hasKey p s then .lit (.bool true) else D.atKey (qz46 s) (.lit (.bool false))
  | [], D, h => by simp [hasKey]
  | x :: r, D, h => by
    rw [List.foldl_cons, hadD_at s r _ (by obtain ⟨es, rfl⟩ := h; exact ⟨_, rfl⟩)]
    by_cases hr : hasKey r s = true
    · rw [if_pos hr, if_pos (by unfold hasKey at hr ⊢; rw [List.any_cons, hr, Bool.or_true])]
    · rw [if_neg hr]
      by_cases hx : x.f0.toList = s.toList
      · rw [if_pos (by unfold hasKey; rw [List.any_cons, beq_iff_eq.2 hx, Bool.true_or]), show qz46 s = qz46 x.f0 by unfold qz46; rw [hx], atKey_put_same h (show WideAt.IsKeyLit (qz46 x.f0) from trivial)]
      · rw [if_neg (by unfold hasKey at hr ⊢; rw [List.any_cons, beq_eq_false_iff_ne.2 hx, Bool.false_or]; exact hr), atKey_put_other (by unfold qz46; intro e; exact hx (Lit.string.inj e).symm)]
theorem zeroB (w : World) : (zeroValue 4).run Try.prog w = .ok (.bool false) w := by kernel_rfl
theorem ownsMap_below {H : Type} {P : Program} {k : TypeId} {R : Value → Option (DataW H × List MemPlace)} {w w' : World} {b n q : Nat} {D : DataW H} (h : w.ownsMap P k R b n D) (hb : Below q w w') (hlt : b < q) : w'.ownsMap P k R b n D := by
  obtain ⟨es, clock, h1, h2⟩ := h
  exact ⟨es, clock, (hb.block b hlt).trans h1, h2⟩
theorem plainBool_inv {P : Program} {e : TypeId} (he : P.underlying e = some .bool) {v : Value} {z : DataW Nat × List MemPlace} (h : plainElem P e v = some z) : ∃ x, v = .bool x ∧ z.1 = .lit (.bool x) := by
  unfold plainElem at h
  rw [he] at h
  cases v <;> simp at h
  exact ⟨_, rfl, by rw [← h]⟩
theorem had_lookup {p : List S54} {w : World} {b n : Nat} (h : w.ownsMap Try.prog 9 (plainElem Try.prog 4) b n (hadD p)) (s : ByteArray) (hs : s.size ≤ 16) :
    (Instr.lookup 114 (.map (some b)) (.string s) false).run Try.prog w = .ok (.bool (hasKey p s)) w := by
  have hkey : keyOf Try.prog 9 (.string s) = some (qz46 s) := by
    have := keyOf_string_mk (P := Try.prog) Try.underlying9 (s := s) (by unfold maxLen; omega)
    rw [this]; unfold qz46; rw [ByteArray.toList_eq]
  obtain ⟨v, ps, h1, h2⟩ := h.lookup (string_keyed Try.underlying9) Try.underlying114 (zeroB w) (plainElem_bool Try.underlying4 false) hkey
  obtain ⟨x, rfl, hx⟩ := plainBool_inv Try.underlying4 h2
  rw [h1]
  have := hadD_at s p (.map []) ⟨[], rfl⟩
  dsimp only at hx
  rw [show hadD p = p.foldl (fun D x => D.put (qz46 x.f0) (.lit (.bool true))) (.map []) from rfl, this] at hx
  by_cases hk : hasKey p s = true
  · rw [if_pos hk] at hx; cases hx; rw [hk]
  · rw [if_neg hk] at hx; cases hx; rw [Bool.eq_false_iff.2 hk]
theorem fitsGo_step (l : List S54) (j : Nat) (hj : j < l.length) : fitsGo (l.drop j) (l.take j) = if badPut (l[j]!) || hasKey (l.take j) (l[j]!).f0 then 1 else fitsGo (l.drop (j + 1)) (l.take (j + 1)) := by
  rw [List.drop_eq_getElem_cons hj, fitsGo, List.take_succ_eq_append_getElem hj, getElem!_pos l j hj]
theorem qz43 {W : World} {b i : Nat} {cs : Array Value} {t : TypeId} {v : Value} (h : W.heap[b]? = some (.cells cs t)) (hv : cs[i]? = some v) : W.cell? ⟨b, i, none⟩ = some v := by
  simp [World.cell?, h, hv]
theorem key_ok (s : ByteArray) (hs : s.size ≤ 16) : keyOf Try.prog 9 (.string s) = some (qz46 s) := by
  have := keyOf_string_mk (P := Try.prog) Try.underlying9 (s := s) (by unfold maxLen; omega)
  rw [this]; unfold qz46; rw [ByteArray.toList_eq]
theorem named_val (s : ByteArray) : rows_named.f s = some (decide (1 ≤ s.size) && decide (s.size ≤ 16)) := by
  unfold rows_named.f
  by_cases h : (s.size : Int) ≥ 1
  · rw [if_pos h, decide_eq_true (show 1 ≤ s.size by omega)]
    simp; omega
  · rw [if_neg h, decide_eq_false (show ¬ 1 ≤ s.size by omega)]
    rfl
set_option maxRecDepth 100000 in
set_option maxHeartbeats 4000000 in
theorem rows_Fits.calls (A0 : Option Addr) (c0 : Nat) (l0 : List S54) (r : Int) (w : World) (hr0 : Kd.C k54 w A0 l0.length l0) (hc0 : l0.length ≤ c0) (h : rows_Fits.f l0 = some r) :
    Calls Try.prog 42 #[.slice A0 l0.length c0] w fun e w' => e = .returned (.int .i64 r) ∧ Below w.heap.size w w' := by
  obtain rfl := Option.some.inj h
  have HR := qza.mk hr0
  clear h hr0
  have hmm := @run_makeMap Try.prog
  by_cases hbig : 8 < l0.length
  · have hv : fitsV l0 = 4 := by unfold fitsV; rw [if_pos hbig]
    rw [hv]
    have hbigz : (8 : Int) < (l0.length : Int) := by omega
    go_enter Try.func42, Try.ntmps42
    go_wp2
    go_ret
    exact ⟨rfl, Below.refl _ _⟩
  · have hv : fitsV l0 = fitsGo (l0.drop 0) (l0.take 0) := by unfold fitsV; rw [if_neg hbig, List.drop_zero, List.take_zero]
    rw [hv]
    have hbigz : ¬ (8 : Int) < (l0.length : Int) := by omega
    generalize hr : fitsGo (l0.drop 0) (l0.take 0) = r
    go_enter Try.func42, Try.ntmps42
    go_wp2
    go_loopw [12] (fun i wr => ∃ j : Nat, j ≤ l0.length ∧ i = .int .i64 j ∧ qza (fitsGo (l0.drop j) (l0.take j) = r) ∧ qza (wr.ownsMap Try.prog 9 (plainElem Try.prog 4) w.heap.size j (hadD (l0.take j))) ∧ qza (Below w.heap.size w wr)) (fun i _ => l0.length - (intOf i).toNat)
    case atStart => exact ⟨0, Nat.zero_le _, rfl, ⟨hr⟩, ⟨World.ownsMap_made _ _ _ _⟩, ⟨(Below.refl _ _).alloc (Nat.le_refl _) _⟩⟩
    case round =>
      obtain ⟨j, hj, rfl, HF, HM, HB⟩ := hrel
      by_cases hlt : j < l0.length
      · have hltz : (j : Int) < (l0.length : Int) := by omega
        obtain ⟨b, o, rfl, hrow⟩ := C_row (Kd.C_below HR.out HB.out) (by decide) (by omega)
        obtain ⟨cs, hcs, hK, hrg⟩ := hrow j hlt
        obtain rfl := flat54.openK _ _ _ hK
        have hc0_ : wr.cell? ⟨b, o + j * 3, none⟩ = some (.string (l0[j]!).f0) := hrg 0 _ rfl
        have hc1_ : wr.cell? ⟨b, o + j * 3 + 1, none⟩ = some (.string (l0[j]!).f1) := hrg 1 _ rfl
        have hc2_ : wr.cell? ⟨b, o + j * 3 + 2, none⟩ = some (.bool (l0[j]!).f2) := hrg 2 _ rfl
        have HS := qza.mk (fitsGo_step l0 j hlt)
        have HT : qza (hadD (l0.take (j + 1)) = (hadD (l0.take j)).put (qz46 (l0[j]!).f0) (.lit (.bool true))) := ⟨by rw [List.take_succ_eq_append_getElem hlt, hadD_snoc, getElem!_pos l0 j hlt]⟩
        clear hrow hrg hK hcs HR
        generalize l0[j]! = x at *
        have HN := qza.mk (named_val x.f0)
        obtain ⟨nb, hnb⟩ : ∃ nb, nb = (decide (1 ≤ x.f0.size) && decide (x.f0.size ≤ 16)) := ⟨_, rfl⟩
        rw [← hnb] at HN
        have HNB := qza.mk hnb
        clear hnb
        have hr1 (hb : (badPut x || hasKey (l0.take j) x.f0) = true) : r = 1 := by rw [← HF.out, HS.out, if_pos hb]
        cases nb with
        | false =>
          have hb : (badPut x || hasKey (l0.take j) x.f0) = true := by unfold badPut; rw [← HNB.out]; rfl
          obtain rfl := hr1 hb
          go_wp2_with (go_at_call 73; refine (rows_named.calls _ _ _ HN.out).mono ?_; rintro e w1 ⟨rfl, hd⟩; have hb1 := hd.below; clear hd)
          go_ret
          exact ⟨rfl, (HB.out.alloc HB.out.size _).trans (hb1.mono (by simp; have := HB.out.size; omega))⟩
        | true =>
          have h16 : x.f0.size ≤ 16 := by
            have := HNB.out.symm
            rw [Bool.and_eq_true] at this
            exact of_decide_eq_true this.2
          have hbad : badPut x = true ↔ ((32 : Int) < x.f1.size ∨ (x.f2 = true ∧ ¬ x.f1.toList = [])) := by
            have e32 : ((32 : Int) < (x.f1.size : Int)) = (32 < x.f1.size) := propext (by omega)
            unfold badPut
            rw [← HNB.out, e32, Bool.or_eq_true, Bool.or_eq_true, Bool.and_eq_true, decide_eq_true_eq]
            simp
          have HX := qza.mk ((MapKept.heap_alloc wr (.cells #[.string x.f0, .string x.f1, .bool x.f2] 54)).1)
          go_wp2_with (first
            | (go_at_call 73; refine (rows_named.calls _ _ _ HN.out).mono ?_; rintro e w1 ⟨rfl, hd⟩; have hb1 := hd.below; clear hd; have hM1 := ownsMap_below (World.ownsMap.alloc HM.out _) hb1 (by simp; have := HM.out.lt; omega); have hlk := had_lookup hM1 x.f0 h16; have hbx := (hb1.block wr.heap.size (by simp)).trans HX.out; have hx0 : w1.cell? ⟨wr.heap.size, 0, none⟩ = some (.string x.f0) := qz43 hbx rfl; have hx1 : w1.cell? ⟨wr.heap.size, 1, none⟩ = some (.string x.f1) := qz43 hbx rfl; have hx2 : w1.cell? ⟨wr.heap.size, 2, none⟩ = some (.bool x.f2) := qz43 hbx rfl; have HB1 := qza.mk ((HB.out.alloc HB.out.size (.cells #[.string x.f0, .string x.f1, .bool x.f2] 54)).trans (hb1.mono (by simp; have := HB.out.size; omega))); have HM1 := qza.mk hM1; clear hM1 hbx hb1)
            | (at_mapUpdate; refine wpList_mapUpdate_own _ rfl _ _ _ 114 rfl 9 4 (string_keyed Try.underlying9) Try.underlying114 _ w.heap.size j (hadD (l0.take j)) rfl HM1.out (by unfold maxLen; omega) _ _ (qz46 x.f0) rfl rfl (key_ok x.f0 h16) (.lit (.bool true)) [] (plainElem_bool Try.underlying4 true) ?_; intro w2 hM2 hg2; have HM2 := qza.mk hM2; have HG2 := qza.mk hg2; clear hM2 hg2))
          all_goals first
            | (have e : r = 1 := hr1 (by rw [Bool.or_eq_true, hbad]; clear HN HNB HX hlk hx0 hx1 hx2 HB1 HM1 HF HM HB HS HT hmm; grind)
               subst e
               go_ret
               exact ⟨rfl, HB1.out⟩)
            | (have e : ¬ (badPut x || hasKey (l0.take j) x.f0) = true := by rw [Bool.or_eq_true, hbad]; clear HN HNB HX hlk hx0 hx1 hx2 HB1 HM1 HM2 HG2 HF HM HB HS HT hmm; grind
               exact ⟨⟨j + 1, by omega, by simp, ⟨by rw [← HF.out, HS.out, if_neg e]⟩, ⟨by rw [HT.out]; exact HM2.out⟩, ⟨HB1.out.grown HG2.out HB1.out.size (fun k e => by cases e; exact Nat.le_refl _)⟩⟩, by simp [intOf]; omega⟩)
      · obtain rfl : j = l0.length := by omega
        go_wp2
        go_ret
        have hf := HF.out
        rw [List.drop_length] at hf
        have h0 : (0 : Int) = r := hf
        subst h0
        exact ⟨rfl, HB.out⟩
end Go.Proofs.Ytmcgcdpiceikeaa.PAll
end
section
namespace Go.Proofs.Ytmcgcdpiceikeaa
open Go.RowKit Go.WideMaps Go.Maps Go.Proofs.YtmcgcdpiceikeaaW.PrintWords
theorem zeroBoolM (w : World) : (zeroValue 4).run Try.prog w = .ok (.bool false) w := by kernel_rfl
def qz58 {κ : Type} (kl : κ → Lit) (kt : TypeId) (w : World) (b n : Nat) (S : κ → Bool) : Prop :=
  ∃ D : DataW Nat, w.ownsMap Try.prog kt (plainElem Try.prog 4) b n D ∧ ∀ x, D.atKey (kl x) (.lit (.bool false)) = .lit (.bool (S x))
section
variable {κ : Type} {kl : κ → Lit} {kt : TypeId} {w : World} {b n : Nat} {S : κ → Bool}
theorem qz58.lt (h : qz58 kl kt w b n S) : b < w.heap.size := by
  obtain ⟨D, h1, _⟩ := h
  exact h1.lt
theorem qz58.below {q : Nat} {w' : World} (h : qz58 kl kt w b n S) (hb : Below q w w') (hlt : b < q) : qz58 kl kt w' b n S := by
  obtain ⟨D, ⟨es, clock, h1, h2⟩, h3⟩ := h
  exact ⟨D, ⟨es, clock, (hb.block b hlt).trans h1, h2⟩, h3⟩
theorem qz58.kept {w' : World} (h : qz58 kl kt w b n S) (hb : Below w.heap.size w w') : qz58 kl kt w' b n S := h.below hb h.lt
theorem qz58.grown {w' : World} {row : Option Nat} (h : qz58 kl kt w b n S) (hb : w.grownBy w' row) (hne : some b ≠ row) : qz58 kl kt w' b n S := by
  have hlt := h.lt
  obtain ⟨D, ⟨es, clock, h1, h2⟩, h3⟩ := h
  exact ⟨D, ⟨es, clock, (hb.block b hlt hne).trans h1, h2⟩, h3⟩
theorem boolElem_inv {P : Program} {e : TypeId} (he : P.underlying e = some .bool) {v : Value} {z : DataW Nat × List MemPlace} (h : plainElem P e v = some z) : ∃ x, v = .bool x ∧ z.1 = .lit (.bool x) := by
  unfold plainElem at h
  rw [he] at h
  cases v <;> simp at h
  exact ⟨_, rfl, by rw [← h]⟩
theorem qz58.lookup (h : qz58 kl kt w b n S) (K : Keyed Try.prog kt) {mt : TypeId} (ht : Try.prog.underlying mt = some (.map kt 4)) {key : Value} {x : κ} (hkey : keyOf Try.prog kt key = some (kl x)) :
    (Instr.lookup mt (.map (some b)) key false).run Try.prog w = .ok (.bool (S x)) w := by
  obtain ⟨D, h1, h2⟩ := h
  obtain ⟨v, ps, h3, h4⟩ := h1.lookup K ht (zeroBoolM w) (plainElem_bool Try.underlying4 false) hkey
  obtain ⟨y, rfl, hy⟩ := boolElem_inv Try.underlying4 h4
  rw [h3]
  dsimp only at hy
  rw [h2 x] at hy
  cases hy
  rfl
theorem qz58.more {m : Nat} (h : qz58 kl kt w b n S) (hm : n ≤ m) : qz58 kl kt w b m S := by
  obtain ⟨D, ⟨es, clock, h1, h2⟩, h3⟩ := h
  exact ⟨D, ⟨es, clock, h1, h2.1, by have := h2.2.1; omega, h2.2.2⟩, h3⟩
theorem qz58.made {w' : World} (kl : κ → Lit) (kt : TypeId) (h : w'.ownsMap Try.prog kt (plainElem Try.prog 4) b n (.map [] : DataW Nat)) : qz58 kl kt w' b n (fun _ => false) := ⟨.map [], h, fun _ => rfl⟩
end
section
variable {κ : Type} [DecidableEq κ] {kl : κ → Lit} {kt : TypeId} {b n : Nat} {S : κ → Bool}
theorem wpList_put_bool (w : World) {ops : Array Oper} {rest : List Oper} {o : Oper} {a : Act} {Q : Exit → Act → World → Prop} (hg : o.guard = none) (m x v : Operand) (mt : TypeId) (hop : o.op = Op.mapUpdate mt m x v)
    (K : Keyed Try.prog kt) (ht : Try.prog.underlying mt = some (.map kt 4)) (hinj : ∀ x y, kl x = kl y → x = y) (hlit : ∀ x, WideAt.IsKeyLit (kl x)) (hm : a.eval m = .map (some b)) (h : qz58 kl kt w b n S) (hn : n < maxLen) (key : Value) (y : κ) (t : Bool) (hx : a.eval x = key) (hv : a.eval v = .bool t) (hkey : keyOf Try.prog kt key = some (kl y))
    (hK : ∀ w', qz58 kl kt w' b (n + 1) (fun z => if z = y then t else S z) → w.grownBy w' (some b) → wpList Try.prog ops Q rest (a.put o.dst undef) w') : wpList Try.prog ops Q (o :: rest) a w := by
  obtain ⟨D, h1, h2⟩ := h
  refine wpList_mapUpdate_own w hg m x v mt hop kt 4 K ht _ b n D hm h1 hn key (.bool t) (kl y) hx hv hkey (.lit (.bool t)) [] (plainElem_bool Try.underlying4 t) (fun w' h3 h4 => hK w' ⟨_, h3, fun z => ?_⟩ h4)
  dsimp only
  by_cases e : z = y
  · subst e
    rw [if_pos rfl, atKey_put_same h1.isMap (hlit z)]
  · rw [if_neg e, atKey_put_other (fun e2 => e (hinj _ _ e2)), h2]
end
end Go.Proofs.Ytmcgcdpiceikeaa
end
section
namespace Go.Proofs.Ytmcgcdpiceikeaa.PAll
open Go.RowKit Go.WideMaps Go.Maps Go.Proofs.YtmcgcdpiceikeaaW.PrintWords Go.Proofs.Ytmcgcdpiceikeaa
theorem toList_inj {x y : ByteArray} (h : x.toList = y.toList) : x = y := by
  rw [ByteArray.toList_eq, ByteArray.toList_eq] at h
  exact ByteArray.ext (Array.ext' h)
instance : DecidableEq ByteArray := fun x y => decidable_of_iff (x.toList = y.toList) ⟨toList_inj, fun h => by rw [h]⟩
instance memDec (s : ByteArray) (l : List ByteArray) : Decidable (s ∈ l) := decidable_of_iff (l.any (fun x => decide (x = s)) = true) (by simp)
theorem keyLit_inj (x y : ByteArray) (h : qz46 x = qz46 y) : x = y := by
  unfold qz46 at h
  exact toList_inj (Lit.string.inj h)
theorem keyLit_key (x : ByteArray) : WideAt.IsKeyLit (qz46 x) := trivial
theorem key_ok2 (s : ByteArray) (hs : s.size ≤ maxLen) : keyOf Try.prog 9 (.string s) = some (qz46 s) := by
  have := keyOf_string_mk (P := Try.prog) Try.underlying9 (s := s) hs
  rw [this]; unfold qz46; rw [ByteArray.toList_eq]
def withV (l : List ByteArray) (k : ByteArray) : List ByteArray := if k ∈ l then l else l ++ [k]
def KeySet (w : World) (b n : Nat) (acc : List ByteArray) : Prop :=
  acc.Nodup ∧ ∃ D : DataW Nat, w.ownsMap Try.prog 9 (plainElem Try.prog 4) b n D ∧ (∀ s, D.atKey (qz46 s) (.lit (.bool false)) = .lit (.bool (decide (s ∈ acc)))) ∧ (∀ s, has D (qz46 s) = decide (s ∈ acc)) ∧ Maps.size D = acc.length
section
variable {w : World} {b n : Nat} {acc : List ByteArray}
theorem KeySet.set (h : KeySet w b n acc) : qz58 qz46 9 w b n (fun s => decide (s ∈ acc)) := by
  obtain ⟨_, D, h1, h2, _, _⟩ := h
  exact ⟨D, h1, h2⟩
theorem KeySet.lt (h : KeySet w b n acc) : b < w.heap.size := h.set.lt
theorem KeySet.grown {w' : World} {row : Option Nat} (h : KeySet w b n acc) (hb : w.grownBy w' row) (hne : some b ≠ row) : KeySet w' b n acc := by
  have hlt := h.lt
  obtain ⟨h0, D, ⟨es, clock, h1, h2⟩, h3⟩ := h
  exact ⟨h0, D, ⟨es, clock, (hb.block b hlt hne).trans h1, h2⟩, h3⟩
theorem KeySet.more {m : Nat} (h : KeySet w b n acc) (hm : n ≤ m) : KeySet w b m acc := by
  obtain ⟨h0, D, ⟨es, clock, h1, h2⟩, h3⟩ := h
  exact ⟨h0, D, ⟨es, clock, h1, h2.1, by have := h2.2.1; omega, h2.2.2⟩, h3⟩
theorem KeySet.made {w' : World} (h : w'.ownsMap Try.prog 9 (plainElem Try.prog 4) b n (.map [] : DataW Nat)) : KeySet w' b n [] := ⟨List.nodup_nil, .map [], h, fun _ => rfl, fun _ => rfl, rfl⟩
theorem KeySet.lookup (h : KeySet w b n acc) {mt : TypeId} (ht : Try.prog.underlying mt = some (.map 9 4)) (s : ByteArray) (hs : s.size ≤ maxLen) :
    (Instr.lookup mt (.map (some b)) (.string s) false).run Try.prog w = .ok (.bool (decide (s ∈ acc))) w := h.set.lookup (string_keyed Try.underlying9) ht (key_ok2 s hs)
end
theorem qz81 (w : World) {b n : Nat} {acc : List ByteArray} {ops : Array Oper} {rest : List Oper} {o : Oper} {a : Act} {Q : Exit → Act → World → Prop} (hg : o.guard = none) (m x v : Operand) (mt : TypeId) (hop : o.op = Op.mapUpdate mt m x v)
    (ht : Try.prog.underlying mt = some (.map 9 4)) (hm : a.eval m = .map (some b)) (h : KeySet w b n acc) (hn : n < maxLen) (s : ByteArray) (hx : a.eval x = .string s) (hv : a.eval v = .bool true) (hs : s.size ≤ maxLen)
    (hK : ∀ w', KeySet w' b (n + 1) (withV acc s) → w.grownBy w' (some b) → wpList Try.prog ops Q rest (a.put o.dst undef) w') : wpList Try.prog ops Q (o :: rest) a w := by
  obtain ⟨h0, D, h1, h2, h3, h4⟩ := h
  have hT := h1.tidy (string_keyed Try.underlying9)
  refine wpList_mapUpdate_own w hg m x v mt hop 9 4 (string_keyed Try.underlying9) ht _ b n D hm h1 hn _ (.bool true) (qz46 s) hx hv (key_ok2 s hs) (.lit (.bool true)) [] (plainElem_bool Try.underlying4 true) (fun w' h5 h6 => hK w' ⟨?_, _, h5, fun z => ?_, fun z => ?_, ?_⟩ h6)
  · unfold withV
    by_cases c : s ∈ acc
    · rw [if_pos c]; exact h0
    · rw [if_neg c]
      exact List.nodup_append.2 ⟨h0, by simp, fun a ha b hb e => by
        rw [List.mem_singleton] at hb
        subst hb
        subst e
        exact c ha⟩
  · by_cases e : z = s
    · subst e
      rw [atKey_put_same h1.isMap (keyLit_key z)]
      have : z ∈ withV acc z := by unfold withV; by_cases c : z ∈ acc <;> simp [c]
      rw [decide_eq_true this]
    · rw [atKey_put_other (fun e2 => e (keyLit_inj _ _ e2)), h2]
      have : z ∈ withV acc s ↔ z ∈ acc := by unfold withV; by_cases c : s ∈ acc <;> simp [c, e]
      rw [decide_eq_decide.2 this]
  · by_cases e : z = s
    · subst e
      rw [has_put_same h1.isMap (keyLit_key z)]
      have : z ∈ withV acc z := by unfold withV; by_cases c : z ∈ acc <;> simp [c]
      rw [decide_eq_true this]
    · rw [has_put_other (fun e2 => e (keyLit_inj _ _ e2)), h3]
      have : z ∈ withV acc s ↔ z ∈ acc := by unfold withV; by_cases c : s ∈ acc <;> simp [c, e]
      rw [decide_eq_decide.2 this]
  · rw [size_put hT, h3, h4]
    unfold withV
    by_cases c : s ∈ acc <;> simp [c]
theorem wpList_del_key (w : World) {b n : Nat} {acc : List ByteArray} {ops : Array Oper} {rest : List Oper} {o : Oper} {a : Act} {Q : Exit → Act → World → Prop} (hg : o.guard = none) (m x : Operand) (mt : TypeId) (hop : o.op = Op.call { callee := Callee.builtin Builtin.delete, args := #[m, x], argTypes := #[mt, 9] })
    (ht : Try.prog.underlying mt = some (.map 9 4)) (hm : a.eval m = .map (some b)) (s : ByteArray) (h : KeySet w b n (acc ++ [s])) (hx : a.eval x = .string s) (hs : s.size ≤ maxLen)
    (hK : ∀ w', KeySet w' b n acc → w.grownBy w' (some b) → wpList Try.prog ops Q rest (a.put o.dst (.tuple #[])) w') : wpList Try.prog ops Q (o :: rest) a w := by
  obtain ⟨h0, D, h1, h2, h3, h4⟩ := h
  have hT := h1.tidy (string_keyed Try.underlying9)
  have hnot : s ∉ acc := by
    have := (List.nodup_append.1 h0).2.2
    intro hc
    exact this s hc s (by simp) rfl
  refine wpList_delete_own w hg m x mt 9 hop 4 (string_keyed Try.underlying9) ht _ b n D hm h1 _ (qz46 s) hx (key_ok2 s hs) (fun w' h5 h6 => hK w' ⟨(List.nodup_append.1 h0).1, _, h5, fun z => ?_, fun z => ?_, ?_⟩ h6.grown)
  · by_cases e : z = s
    · subst e
      rw [atKey_del_same, decide_eq_false hnot]
    · rw [atKey_del_other (fun e2 => e (keyLit_inj _ _ e2)), h2]
      simp [e]
  · by_cases e : z = s
    · subst e
      rw [has_del_same, decide_eq_false hnot]
    · rw [has_del_other (fun e2 => e (keyLit_inj _ _ e2)), h3]
      simp [e]
  · have := size_del (k := qz46 s) hT
    rw [h3, h4] at this
    simp at this
    omega
end Go.Proofs.Ytmcgcdpiceikeaa.PAll
end
