/- Joined texts of the claim ShardRight (part 14): contracts of functions and plain laws. -/
import Derived.ArgAppend
import Derived.Below
import Derived.BigQuiet
import Derived.Deep.AppendLies
import Derived.Deep.CutBlock
import Derived.Deep.DeepCutAuto
import Derived.Deep.Draws
import Derived.Deep.LoopGhost
import Derived.Deep.OwnRows
import Derived.Deep.QuietTactic
import Derived.Deep.RegionHeld3
import Derived.KernelRfl
import Derived.Laws.BitsLemmas
import Derived.Laws.BytesArg
import Derived.Laws.IdiomCopy
import Derived.Laws.MakeOwn
import Derived.Laws.OwnMore
import Derived.Laws.Rows
import Derived.Laws.Slices
import Derived.Lib.AppendStr
import Derived.Lib.ConvBytes
import Derived.Maps.AppendAt
import Derived.OrdersHeld
import Derived.OwnWalk
import Derived.RowKit
import Derived.RowKit3
import Derived.Tactics
import Derived.Test.YtmcgcdpiceikeaaJShardRight0
import Derived.Test.YtmcgcdpiceikeaaJShardRight10
import Derived.Test.YtmcgcdpiceikeaaJShardRight11
import Derived.Test.YtmcgcdpiceikeaaJShardRight12
import Derived.Test.YtmcgcdpiceikeaaJShardRight13
import Derived.Test.YtmcgcdpiceikeaaJShardRight3
import Derived.Test.YtmcgcdpiceikeaaJShardRight4
import Derived.Test.YtmcgcdpiceikeaaJShardRight5
import Derived.Test.YtmcgcdpiceikeaaJShardRight6
import Derived.Test.YtmcgcdpiceikeaaJShardRight7
import Derived.Test.YtmcgcdpiceikeaaJShardRight8
import Derived.Test.YtmcgcdpiceikeaaJShardRight9
import Derived.Test.YtmcgcdpiceikeaaProg
import Derived.WalkKit
import Derived.WideLaws
import Derived.Test.YtmcgcdpiceikeaaJShardRight2
import Derived.Test.YtmcgcdpiceikeaaJShardRight1
import Derived.LoopTactic
import Derived.Maps.OwnSet
import Derived.Maps.Views
import Derived.StringKeys
section
-- Printed by this session's pr.sh (the kit's print.py, several laws in one namespace). Not trusted: Lean checks it.
namespace Go.Proofs.Ytmcgcdpiceikeaa.PAll
open Go.RowKit Go.Proofs.YtmcgcdpiceikeaaW.PrintWords Go.Proofs.YtmcgcdpiceikeaaW.PrintLast Go.Proofs.YtmcgcdpiceikeaaW.PrintMore
attribute [local go_sem] max2_int min2_int max_two min_two max_three min_three max_four min_four   -- for this text's walks alone
set_option linter.unusedVariables false
set_option linter.unusedSimpArgs false



def errW : Option Int → Value
  | none => .nilIface
  | some c => .iface 0 (.int .i64 c)
theorem errW_none : errW none = .nilIface := rfl
theorem errW_some (c : Int) : errW (some c) = .iface 0 (.int .i64 c) := rfl

theorem info9 : (Try.prog.info? 9).map (fun i => (i.zero, i.size, i.bytes)) = some (some (.string ⟨#[]⟩), 1, 16) := by kernel_rfl
theorem info30 : (Try.prog.info? 30).map (fun i => (i.zero, i.size, i.bytes)) = some (some (.agg #[(.int .u64 0), (.int .u64 0)]), 2, 16) := by kernel_rfl
-- the values' own types
/-! #### struct type 50 -/
structure S50 where
  f0 : ByteArray
  f1 : ByteArray
  f2 : Int
def z50 : S50 := ⟨(⟨#[]⟩ : ByteArray), (⟨#[]⟩ : ByteArray), (0 : Int)⟩
def k50 : Kd S50 := Kd.iso (Kd.pair Kd.string (Kd.pair Kd.string (Kd.int .u64))) (fun x : S50 => (x.f0, x.f1, x.f2))
theorem k50_open {w : World} {x : S50} {cs : List Value} (h : k50.K w x cs) : cs = [.string x.f0, .string x.f1, .int .u64 x.f2] := by
  obtain ⟨_, _, rfl, rfl, ⟨_, _, rfl, rfl, rfl⟩⟩ := h
  exact rfl
theorem k50_openM {w : World} {base : Nat} {ok : Nat → Prop} {x : S50} {cs : List Value} (h : k50.M w base ok x cs) : cs = [.string x.f0, .string x.f1, .int .u64 x.f2] := by
  obtain ⟨_, _, rfl, rfl, ⟨_, _, rfl, rfl, rfl⟩⟩ := h
  exact rfl
theorem k50_mk (w : World) (x : S50)  : k50.K w x [.string x.f0, .string x.f1, .int .u64 x.f2] := ⟨[.string x.f0], [.string x.f1, .int .u64 x.f2], rfl, rfl, ⟨[.string x.f1], [.int .u64 x.f2], rfl, rfl, rfl⟩⟩
theorem k50_mkM (w : World) (base : Nat) (ok : Nat → Prop) (x : S50)  : k50.M w base ok x [.string x.f0, .string x.f1, .int .u64 x.f2] := ⟨[.string x.f0], [.string x.f1, .int .u64 x.f2], rfl, rfl, ⟨[.string x.f1], [.int .u64 x.f2], rfl, rfl, rfl⟩⟩
def rd_T50 (xs : List S50) (i : Int) : S50 := xs.getD i.toNat z50
theorem at_T50 {w : World} {A : Option Addr} {n : Nat} {xs : List S50} (h : Kd.C k50 w A n xs) (i : Int) (h0 : 0 ≤ i) (h1 : i < n) : ∃ ad , A = some ad ∧ w.cell? (ad.add (i.toNat * 3)) = some (.string (rd_T50 xs i).f0) ∧ w.cell? ⟨(ad.add (i.toNat * 3)).block, (ad.add (i.toNat * 3)).off + 1, none⟩ = some (.string (rd_T50 xs i).f1) ∧ w.cell? ⟨(ad.add (i.toNat * 3)).block, (ad.add (i.toNat * 3)).off + 2, none⟩ = some (.int .u64 (rd_T50 xs i).f2) := by
  obtain ⟨ad, c, e, _, hK, hc0⟩ := Kd.C_get h z50 i h0 h1
  have hc : ∀ j u, c[j]? = some u → w.cell? (ad.add (i.toNat * 3 + j)) = some u := hc0
  obtain rfl := k50_open hK
  exact ⟨ad, e, hc 0 _ rfl, by rw [← add_field _ _ 1 (by omega)]; exact hc 1 _ rfl, by rw [← add_field _ _ 2 (by omega)]; exact hc 2 _ rfl⟩

/-! #### struct type 30 -/
structure S30 where
  f0 : Int
  f1 : Int
def z30 : S30 := ⟨(0 : Int), (0 : Int)⟩
def k30 : Kd S30 := Kd.iso (Kd.pair (Kd.int .u64) (Kd.int .u64)) (fun x : S30 => (x.f0, x.f1))
theorem k30_open {w : World} {x : S30} {cs : List Value} (h : k30.K w x cs) : cs = [.int .u64 x.f0, .int .u64 x.f1] := by
  obtain ⟨_, _, rfl, rfl, rfl⟩ := h
  exact rfl
theorem k30_openM {w : World} {base : Nat} {ok : Nat → Prop} {x : S30} {cs : List Value} (h : k30.M w base ok x cs) : cs = [.int .u64 x.f0, .int .u64 x.f1] := by
  obtain ⟨_, _, rfl, rfl, rfl⟩ := h
  exact rfl
theorem k30_mk (w : World) (x : S30)  : k30.K w x [.int .u64 x.f0, .int .u64 x.f1] := ⟨[.int .u64 x.f0], [.int .u64 x.f1], rfl, rfl, rfl⟩
theorem k30_mkM (w : World) (base : Nat) (ok : Nat → Prop) (x : S30)  : k30.M w base ok x [.int .u64 x.f0, .int .u64 x.f1] := ⟨[.int .u64 x.f0], [.int .u64 x.f1], rfl, rfl, rfl⟩
def rd_T30 (xs : List S30) (i : Int) : S30 := xs.getD i.toNat z30
theorem at_T30 {w : World} {A : Option Addr} {n : Nat} {xs : List S30} (h : Kd.C k30 w A n xs) (i : Int) (h0 : 0 ≤ i) (h1 : i < n) : ∃ ad , A = some ad ∧ w.cell? (ad.add (i.toNat * 2)) = some (.int .u64 (rd_T30 xs i).f0) ∧ w.cell? ⟨(ad.add (i.toNat * 2)).block, (ad.add (i.toNat * 2)).off + 1, none⟩ = some (.int .u64 (rd_T30 xs i).f1) := by
  obtain ⟨ad, c, e, _, hK, hc0⟩ := Kd.C_get h z30 i h0 h1
  have hc : ∀ j u, c[j]? = some u → w.cell? (ad.add (i.toNat * 2 + j)) = some u := hc0
  obtain rfl := k30_open hK
  exact ⟨ad, e, hc 0 _ rfl, by rw [← add_field _ _ 1 (by omega)]; exact hc 1 _ rfl⟩

/-! #### struct type 75 -/
structure S75 where
  f0 : ByteArray
  f1 : S30
  f2 : Bool
def z75 : S75 := ⟨(⟨#[]⟩ : ByteArray), z30, false⟩
def k75 : Kd S75 := Kd.iso (Kd.pair Kd.string (Kd.pair k30 Kd.bool)) (fun x : S75 => (x.f0, x.f1, x.f2))
theorem k75_open {w : World} {x : S75} {cs : List Value} (h : k75.K w x cs) : cs = [.string x.f0, .int .u64 x.f1.f0, .int .u64 x.f1.f1, .bool x.f2] := by
  obtain ⟨_, _, rfl, rfl, ⟨_, _, rfl, s1, rfl⟩⟩ := h
  obtain rfl := k30_open s1
  exact rfl
theorem k75_openM {w : World} {base : Nat} {ok : Nat → Prop} {x : S75} {cs : List Value} (h : k75.M w base ok x cs) : cs = [.string x.f0, .int .u64 x.f1.f0, .int .u64 x.f1.f1, .bool x.f2] := by
  obtain ⟨_, _, rfl, rfl, ⟨_, _, rfl, s1, rfl⟩⟩ := h
  obtain rfl := k30_openM s1
  exact rfl
theorem k75_mk (w : World) (x : S75)  : k75.K w x [.string x.f0, .int .u64 x.f1.f0, .int .u64 x.f1.f1, .bool x.f2] := ⟨[.string x.f0], [.int .u64 x.f1.f0, .int .u64 x.f1.f1, .bool x.f2], rfl, rfl, ⟨[.int .u64 x.f1.f0, .int .u64 x.f1.f1], [.bool x.f2], rfl, (k30_mk w x.f1 ), rfl⟩⟩
theorem k75_mkM (w : World) (base : Nat) (ok : Nat → Prop) (x : S75)  : k75.M w base ok x [.string x.f0, .int .u64 x.f1.f0, .int .u64 x.f1.f1, .bool x.f2] := ⟨[.string x.f0], [.int .u64 x.f1.f0, .int .u64 x.f1.f1, .bool x.f2], rfl, rfl, ⟨[.int .u64 x.f1.f0, .int .u64 x.f1.f1], [.bool x.f2], rfl, (k30_mkM w base ok x.f1 ), rfl⟩⟩
def rd_T75 (xs : List S75) (i : Int) : S75 := xs.getD i.toNat z75
theorem at_T75 {w : World} {A : Option Addr} {n : Nat} {xs : List S75} (h : Kd.C k75 w A n xs) (i : Int) (h0 : 0 ≤ i) (h1 : i < n) : ∃ ad , A = some ad ∧ w.cell? (ad.add (i.toNat * 4)) = some (.string (rd_T75 xs i).f0) ∧ w.cell? ⟨(ad.add (i.toNat * 4)).block, (ad.add (i.toNat * 4)).off + 1, none⟩ = some (.int .u64 (rd_T75 xs i).f1.f0) ∧ w.cell? ⟨(ad.add (i.toNat * 4)).block, (ad.add (i.toNat * 4)).off + 2, none⟩ = some (.int .u64 (rd_T75 xs i).f1.f1) ∧ w.cell? ⟨(ad.add (i.toNat * 4)).block, (ad.add (i.toNat * 4)).off + 3, none⟩ = some (.bool (rd_T75 xs i).f2) := by
  obtain ⟨ad, c, e, _, hK, hc0⟩ := Kd.C_get h z75 i h0 h1
  have hc : ∀ j u, c[j]? = some u → w.cell? (ad.add (i.toNat * 4 + j)) = some u := hc0
  obtain rfl := k75_open hK
  exact ⟨ad, e, hc 0 _ rfl, by rw [← add_field _ _ 1 (by omega)]; exact hc 1 _ rfl, by rw [← add_field _ _ 2 (by omega)]; exact hc 2 _ rfl, by rw [← add_field _ _ 3 (by omega)]; exact hc 3 _ rfl⟩

/-! #### struct type 54 -/
structure S54 where
  f0 : ByteArray
  f1 : ByteArray
  f2 : Bool
def z54 : S54 := ⟨(⟨#[]⟩ : ByteArray), (⟨#[]⟩ : ByteArray), false⟩
def k54 : Kd S54 := Kd.iso (Kd.pair Kd.string (Kd.pair Kd.string Kd.bool)) (fun x : S54 => (x.f0, x.f1, x.f2))
theorem k54_open {w : World} {x : S54} {cs : List Value} (h : k54.K w x cs) : cs = [.string x.f0, .string x.f1, .bool x.f2] := by
  obtain ⟨_, _, rfl, rfl, ⟨_, _, rfl, rfl, rfl⟩⟩ := h
  exact rfl
theorem k54_openM {w : World} {base : Nat} {ok : Nat → Prop} {x : S54} {cs : List Value} (h : k54.M w base ok x cs) : cs = [.string x.f0, .string x.f1, .bool x.f2] := by
  obtain ⟨_, _, rfl, rfl, ⟨_, _, rfl, rfl, rfl⟩⟩ := h
  exact rfl
theorem k54_mk (w : World) (x : S54)  : k54.K w x [.string x.f0, .string x.f1, .bool x.f2] := ⟨[.string x.f0], [.string x.f1, .bool x.f2], rfl, rfl, ⟨[.string x.f1], [.bool x.f2], rfl, rfl, rfl⟩⟩
theorem k54_mkM (w : World) (base : Nat) (ok : Nat → Prop) (x : S54)  : k54.M w base ok x [.string x.f0, .string x.f1, .bool x.f2] := ⟨[.string x.f0], [.string x.f1, .bool x.f2], rfl, rfl, ⟨[.string x.f1], [.bool x.f2], rfl, rfl, rfl⟩⟩
def rd_T54 (xs : List S54) (i : Int) : S54 := xs.getD i.toNat z54
theorem at_T54 {w : World} {A : Option Addr} {n : Nat} {xs : List S54} (h : Kd.C k54 w A n xs) (i : Int) (h0 : 0 ≤ i) (h1 : i < n) : ∃ ad , A = some ad ∧ w.cell? (ad.add (i.toNat * 3)) = some (.string (rd_T54 xs i).f0) ∧ w.cell? ⟨(ad.add (i.toNat * 3)).block, (ad.add (i.toNat * 3)).off + 1, none⟩ = some (.string (rd_T54 xs i).f1) ∧ w.cell? ⟨(ad.add (i.toNat * 3)).block, (ad.add (i.toNat * 3)).off + 2, none⟩ = some (.bool (rd_T54 xs i).f2) := by
  obtain ⟨ad, c, e, _, hK, hc0⟩ := Kd.C_get h z54 i h0 h1
  have hc : ∀ j u, c[j]? = some u → w.cell? (ad.add (i.toNat * 3 + j)) = some u := hc0
  obtain rfl := k54_open hK
  exact ⟨ad, e, hc 0 _ rfl, by rw [← add_field _ _ 1 (by omega)]; exact hc 1 _ rfl, by rw [← add_field _ _ 2 (by omega)]; exact hc 2 _ rfl⟩

/-! #### struct type 48 -/
structure S48 where
  f0 : S30
  f1 : Bool
  f2 : Bool
  f3 : (List S54)
def z48 : S48 := ⟨z30, false, false, ([] : List S54)⟩
def k48 : Kd S48 := Kd.iso (Kd.pair k30 (Kd.pair Kd.bool (Kd.pair Kd.bool (Kd.slice 54 k54)))) (fun x : S48 => (x.f0, x.f1, x.f2, x.f3))
theorem k48_open {w : World} {x : S48} {cs : List Value} (h : k48.K w x cs) : ∃ A4 c4, cs = [.int .u64 x.f0.f0, .int .u64 x.f0.f1, .bool x.f1, .bool x.f2, .slice A4 x.f3.length c4] ∧ x.f3.length ≤ c4 ∧ k54.C w A4 x.f3.length x.f3 := by
  obtain ⟨_, _, rfl, s0, ⟨_, _, rfl, rfl, ⟨_, _, rfl, rfl, ⟨A4, c4, rfl, l4, g4⟩⟩⟩⟩ := h
  obtain rfl := k30_open s0
  exact ⟨A4, c4, rfl, l4, g4⟩
def rd_T48 (xs : List S48) (i : Int) : S48 := xs.getD i.toNat z48
theorem at_T48 {w : World} {A : Option Addr} {n : Nat} {xs : List S48} (h : Kd.C k48 w A n xs) (i : Int) (h0 : 0 ≤ i) (h1 : i < n) : ∃ ad A4 c4, A = some ad ∧ w.cell? (ad.add (i.toNat * 5)) = some (.int .u64 (rd_T48 xs i).f0.f0) ∧ w.cell? ⟨(ad.add (i.toNat * 5)).block, (ad.add (i.toNat * 5)).off + 1, none⟩ = some (.int .u64 (rd_T48 xs i).f0.f1) ∧ w.cell? ⟨(ad.add (i.toNat * 5)).block, (ad.add (i.toNat * 5)).off + 2, none⟩ = some (.bool (rd_T48 xs i).f1) ∧ w.cell? ⟨(ad.add (i.toNat * 5)).block, (ad.add (i.toNat * 5)).off + 3, none⟩ = some (.bool (rd_T48 xs i).f2) ∧ w.cell? ⟨(ad.add (i.toNat * 5)).block, (ad.add (i.toNat * 5)).off + 4, none⟩ = some (.slice A4 (rd_T48 xs i).f3.length c4) ∧ (rd_T48 xs i).f3.length ≤ c4 ∧ k54.C w A4 (rd_T48 xs i).f3.length (rd_T48 xs i).f3 := by
  obtain ⟨ad, c, e, _, hK, hc0⟩ := Kd.C_get h z48 i h0 h1
  have hc : ∀ j u, c[j]? = some u → w.cell? (ad.add (i.toNat * 5 + j)) = some u := hc0
  obtain ⟨A4, c4, rfl, l4, g4⟩ := k48_open hK
  exact ⟨ad, A4, c4, e, hc 0 _ rfl, by rw [← add_field _ _ 1 (by omega)]; exact hc 1 _ rfl, by rw [← add_field _ _ 2 (by omega)]; exact hc 2 _ rfl, by rw [← add_field _ _ 3 (by omega)]; exact hc 3 _ rfl, by rw [← add_field _ _ 4 (by omega)]; exact hc 4 _ rfl, l4, g4⟩

/-! #### struct type 68 -/
structure S68 where
  f0 : S30
  f1 : Bool
def z68 : S68 := ⟨z30, false⟩
def k68 : Kd S68 := Kd.iso (Kd.pair k30 Kd.bool) (fun x : S68 => (x.f0, x.f1))
theorem k68_open {w : World} {x : S68} {cs : List Value} (h : k68.K w x cs) : cs = [.int .u64 x.f0.f0, .int .u64 x.f0.f1, .bool x.f1] := by
  obtain ⟨_, _, rfl, s0, rfl⟩ := h
  obtain rfl := k30_open s0
  exact rfl
theorem k68_openM {w : World} {base : Nat} {ok : Nat → Prop} {x : S68} {cs : List Value} (h : k68.M w base ok x cs) : cs = [.int .u64 x.f0.f0, .int .u64 x.f0.f1, .bool x.f1] := by
  obtain ⟨_, _, rfl, s0, rfl⟩ := h
  obtain rfl := k30_openM s0
  exact rfl
theorem k68_mk (w : World) (x : S68)  : k68.K w x [.int .u64 x.f0.f0, .int .u64 x.f0.f1, .bool x.f1] := ⟨[.int .u64 x.f0.f0, .int .u64 x.f0.f1], [.bool x.f1], rfl, (k30_mk w x.f0 ), rfl⟩
theorem k68_mkM (w : World) (base : Nat) (ok : Nat → Prop) (x : S68)  : k68.M w base ok x [.int .u64 x.f0.f0, .int .u64 x.f0.f1, .bool x.f1] := ⟨[.int .u64 x.f0.f0, .int .u64 x.f0.f1], [.bool x.f1], rfl, (k30_mkM w base ok x.f0 ), rfl⟩
def rd_T68 (xs : List S68) (i : Int) : S68 := xs.getD i.toNat z68
theorem at_T68 {w : World} {A : Option Addr} {n : Nat} {xs : List S68} (h : Kd.C k68 w A n xs) (i : Int) (h0 : 0 ≤ i) (h1 : i < n) : ∃ ad , A = some ad ∧ w.cell? (ad.add (i.toNat * 3)) = some (.int .u64 (rd_T68 xs i).f0.f0) ∧ w.cell? ⟨(ad.add (i.toNat * 3)).block, (ad.add (i.toNat * 3)).off + 1, none⟩ = some (.int .u64 (rd_T68 xs i).f0.f1) ∧ w.cell? ⟨(ad.add (i.toNat * 3)).block, (ad.add (i.toNat * 3)).off + 2, none⟩ = some (.bool (rd_T68 xs i).f1) := by
  obtain ⟨ad, c, e, _, hK, hc0⟩ := Kd.C_get h z68 i h0 h1
  have hc : ∀ j u, c[j]? = some u → w.cell? (ad.add (i.toNat * 3 + j)) = some u := hc0
  obtain rfl := k68_open hK
  exact ⟨ad, e, hc 0 _ rfl, by rw [← add_field _ _ 1 (by omega)]; exact hc 1 _ rfl, by rw [← add_field _ _ 2 (by omega)]; exact hc 2 _ rfl⟩

end Go.Proofs.Ytmcgcdpiceikeaa.PAll
end
section
/- The printed kinds as flat ones. -/
namespace Go.Proofs.Ytmcgcdpiceikeaa.PAll
open Go.RowKit Go.Proofs.YtmcgcdpiceikeaaW.PrintWords Go.Proofs.Ytmcgcdpiceikeaa
-- not of this seat: flat api.Letter
def enc50 (x : S50) : List Value := [.string x.f0, .string x.f1, .int .u64 x.f2]
theorem flat50 : Flat k50 3 enc50 := ⟨rfl, fun w base ok x => k50_mkM w base ok x, fun w x => k50_mk w x, fun _ _ _ _ _ h => k50_openM h, fun _ _ _ h => k50_open h⟩
instance : Inhabited S50 := ⟨z50⟩
def enc54 (x : S54) : List Value := [.string x.f0, .string x.f1, .bool x.f2]
theorem flat54 : Flat k54 3 enc54 := ⟨rfl, fun w base ok x => k54_mkM w base ok x, fun w x => k54_mk w x, fun _ _ _ _ _ h => k54_openM h, fun _ _ _ h => k54_open h⟩
instance : Inhabited S54 := ⟨z54⟩
-- not of this seat: flat api.Mark
def enc30 (x : S30) : List Value := [.int .u64 x.f0, .int .u64 x.f1]
theorem flat30 : Flat k30 2 enc30 := ⟨rfl, fun w base ok x => k30_mkM w base ok x, fun w x => k30_mk w x, fun _ _ _ _ _ h => k30_openM h, fun _ _ _ h => k30_open h⟩
instance : Inhabited S30 := ⟨z30⟩
def enc75 (x : S75) : List Value := [.string x.f0, .int .u64 x.f1.f0, .int .u64 x.f1.f1, .bool x.f2]
theorem flat75 : Flat k75 4 enc75 := ⟨rfl, fun w base ok x => k75_mkM w base ok x, fun w x => k75_mk w x, fun _ _ _ _ _ h => k75_openM h, fun _ _ _ h => k75_open h⟩
instance : Inhabited S75 := ⟨z75⟩
def enc68 (x : S68) : List Value := [.int .u64 x.f0.f0, .int .u64 x.f0.f1, .bool x.f1]
theorem flat68 : Flat k68 3 enc68 := ⟨rfl, fun w base ok x => k68_mkM w base ok x, fun w x => k68_mk w x, fun _ _ _ _ _ h => k68_openM h, fun _ _ _ h => k68_open h⟩
instance : Inhabited S68 := ⟨z68⟩
-- not of this seat: flat api.Step
-- not of this seat: flat api.Saw
end Go.Proofs.Ytmcgcdpiceikeaa.PAll
end
section
/- What the laws' arguments read as: shards, with their bulk. -/
namespace Go.Proofs.Ytmcgcdpiceikeaa.PAll
open Go.RowKit Go.Proofs.YtmcgcdpiceikeaaW.PrintWords Go.Proofs.Ytmcgcdpiceikeaa
set_option linter.unusedVariables false
structure S28 where
  f0 : (List S50)
  f1 : (List S75)
  f2 : (List S48)
  f3 : (List S68)
  f4 : Int
def k28 : Kd S28 := Kd.iso (Kd.pair (Kd.slice 50 k50) (Kd.pair (Kd.slice 75 k75) (Kd.pair (Kd.slice 48 k48) (Kd.pair (Kd.slice 68 k68) (Kd.int .u64))))) (fun x : S28 => (x.f0, x.f1, x.f2, x.f3, x.f4))
theorem lenAt2 {α : Type _} {cs : List α} (h : cs.length = 2) : ∃ c0 c1, cs = [c0, c1] := by
  match cs, h with
  | [c0, c1], _ => exact ⟨_, _, rfl⟩
theorem lenAt3 {α : Type _} {cs : List α} (h : cs.length = 3) : ∃ c0 c1 c2, cs = [c0, c1, c2] := by
  match cs, h with
  | [c0, c1, c2], _ => exact ⟨_, _, _, rfl⟩
theorem lenAt4 {α : Type _} {cs : List α} (h : cs.length = 4) : ∃ c0 c1 c2 c3, cs = [c0, c1, c2, c3] := by
  match cs, h with
  | [c0, c1, c2, c3], _ => exact ⟨_, _, _, _, rfl⟩
theorem lenAt5 {α : Type _} {cs : List α} (h : cs.length = 5) : ∃ c0 c1 c2 c3 c4, cs = [c0, c1, c2, c3, c4] := by
  match cs, h with
  | [c0, c1, c2, c3, c4], _ => exact ⟨_, _, _, _, _, rfl⟩
def ok30 (x : S30) : Prop := (fun n : Int => (Lit.int .u64 n).wf = true) x.f0 ∧ (fun n : Int => (Lit.int .u64 n).wf = true) x.f1
theorem cells30 : Try.prog.cellsOf 30 = 2 := by kernel_rfl
def ok54 (x : S54) : Prop := (fun s : ByteArray => s.size ≤ 140737488351232) x.f0 ∧ (fun s : ByteArray => s.size ≤ 140737488351232) x.f1 ∧ (fun _ : Bool => True) x.f2
theorem cells54 : Try.prog.cellsOf 54 = 3 := by kernel_rfl
def ok50 (x : S50) : Prop := (fun s : ByteArray => s.size ≤ 140737488351232) x.f0 ∧ (fun s : ByteArray => s.size ≤ 140737488351232) x.f1 ∧ (fun n : Int => (Lit.int .u64 n).wf = true) x.f2
theorem cells50 : Try.prog.cellsOf 50 = 3 := by kernel_rfl
def ok75 (x : S75) : Prop := (fun s : ByteArray => s.size ≤ 140737488351232) x.f0 ∧ ok30 x.f1 ∧ (fun _ : Bool => True) x.f2
theorem cells75 : Try.prog.cellsOf 75 = 4 := by kernel_rfl
def ok48 (x : S48) : Prop := ok30 x.f0 ∧ (fun _ : Bool => True) x.f1 ∧ (fun _ : Bool => True) x.f2 ∧ (fun l => l.length * Try.prog.bytesOf 54 ≤ 140737488351232 ∧ ∀ x ∈ l, ok54 x) x.f3
theorem cells48 : Try.prog.cellsOf 48 = 5 := by kernel_rfl
def ok68 (x : S68) : Prop := ok30 x.f0 ∧ (fun _ : Bool => True) x.f1
theorem cells68 : Try.prog.cellsOf 68 = 3 := by kernel_rfl
def ok28 (x : S28) : Prop := (fun l => l.length * Try.prog.bytesOf 50 ≤ 140737488351232 ∧ ∀ x ∈ l, ok50 x) x.f0 ∧ (fun l => l.length * Try.prog.bytesOf 75 ≤ 140737488351232 ∧ ∀ x ∈ l, ok75 x) x.f1 ∧ (fun l => l.length * Try.prog.bytesOf 48 ≤ 140737488351232 ∧ ∀ x ∈ l, ok48 x) x.f2 ∧ (fun l => l.length * Try.prog.bytesOf 68 ≤ 140737488351232 ∧ ∀ x ∈ l, ok68 x) x.f3 ∧ (fun n : Int => (Lit.int .u64 n).wf = true) x.f4
theorem cells28 : Try.prog.cellsOf 28 = 5 := by kernel_rfl
def bulk30 (x : S30) : Nat := (fun _ => 1) x.f0 + (fun _ => 1) x.f1 + 1
set_option maxRecDepth 100000 in
theorem opensb30 : OpensB Try.prog 30 k30 ok30 bulk30 := by
  intro H enc w base spare held fuel cs x ps h hw
  obtain ⟨xs, n, _, hx, hl, hlen, hf⟩ := DataW.trod_struct Try.underlying30 h
  simp only [Prod.mk.injEq] at hx
  obtain ⟨rfl, _⟩ := hx
  obtain ⟨y0, y1, rfl⟩ : ∃ y0 y1, xs = [y0, y1] := by
    have hz : xs.length = 2 := by rw [hlen]; rfl
    exact lenAt2 hz
  obtain ⟨c0, c1, rfl⟩ := lenAt2 (hl.trans cells30)
  have h0 : DataW.trod enc Try.prog w base spare held n 26 [c0] = some y0 := hf 0 _ rfl
  have h1 : DataW.trod enc Try.prog w base spare held n 26 [c1] = some y1 := hf 1 _ rfl
  simp only [DataW.weights, Try.underlying30, List.map_cons, List.map_nil, DataW.weightsEach, List.mem_append] at hw
  obtain ⟨a0, k0_, s0, b0⟩ := (OpensB.int Try.underlying26) H enc w base spare held n _ y0.1 y0.2 h0 (fun q hq => hw q (.inl hq))
  obtain ⟨a1, k1_, s1, b1⟩ := (OpensB.int Try.underlying26) H enc w base spare held n _ y1.1 y1.2 h1 (fun q hq => hw q (.inr (.inl hq)))
  refine ⟨⟨a0, a1⟩, ⟨[c0], [c1], rfl, k0_, k1_⟩, ⟨s0, s1⟩, ?_⟩
  simp only [bulk30, Rows.uptoBulk, Rows.uptoBulkAll, List.map_cons, List.map_nil]
  try dsimp only at b0
  try dsimp only at b1
  omega
def bulk54 (x : S54) : Nat := (fun _ => 1) x.f0 + (fun _ => 1) x.f1 + (fun _ => 1) x.f2 + 1
theorem cellsb54 : Try.prog.cellsOf 54 = (k54).sz := cells54
set_option maxRecDepth 100000 in
theorem opensb54 : OpensB Try.prog 54 k54 ok54 bulk54 := by
  intro H enc w base spare held fuel cs x ps h hw
  obtain ⟨xs, n, _, hx, hl, hlen, hf⟩ := DataW.trod_struct Try.underlying54 h
  simp only [Prod.mk.injEq] at hx
  obtain ⟨rfl, _⟩ := hx
  obtain ⟨y0, y1, y2, rfl⟩ : ∃ y0 y1 y2, xs = [y0, y1, y2] := by
    have hz : xs.length = 3 := by rw [hlen]; rfl
    exact lenAt3 hz
  obtain ⟨c0, c1, c2, rfl⟩ := lenAt3 (hl.trans cells54)
  have h0 : DataW.trod enc Try.prog w base spare held n 9 [c0] = some y0 := hf 0 _ rfl
  have h1 : DataW.trod enc Try.prog w base spare held n 9 [c1] = some y1 := hf 1 _ rfl
  have h2 : DataW.trod enc Try.prog w base spare held n 4 [c2] = some y2 := hf 2 _ rfl
  simp only [DataW.weights, Try.underlying54, List.map_cons, List.map_nil, DataW.weightsEach, List.mem_append] at hw
  obtain ⟨a0, k0_, s0, b0⟩ := (OpensB.string Try.underlying9) H enc w base spare held n _ y0.1 y0.2 h0 (fun q hq => hw q (.inl hq))
  obtain ⟨a1, k1_, s1, b1⟩ := (OpensB.string Try.underlying9) H enc w base spare held n _ y1.1 y1.2 h1 (fun q hq => hw q (.inr (.inl hq)))
  obtain ⟨a2, k2_, s2, b2⟩ := (OpensB.bool Try.underlying4) H enc w base spare held n _ y2.1 y2.2 h2 (fun q hq => hw q (.inr (.inr (.inl hq))))
  refine ⟨⟨a0, a1, a2⟩, ⟨[c0], [c1, c2], rfl, k0_, ⟨[c1], [c2], rfl, k1_, k2_⟩⟩, ⟨s0, s1, s2⟩, ?_⟩
  simp only [bulk54, Rows.uptoBulk, Rows.uptoBulkAll, List.map_cons, List.map_nil]
  try dsimp only at b0
  try dsimp only at b1
  try dsimp only at b2
  omega
def bulk50 (x : S50) : Nat := (fun _ => 1) x.f0 + (fun _ => 1) x.f1 + (fun _ => 1) x.f2 + 1
theorem cellsb50 : Try.prog.cellsOf 50 = (k50).sz := cells50
set_option maxRecDepth 100000 in
theorem opensb50 : OpensB Try.prog 50 k50 ok50 bulk50 := by
  intro H enc w base spare held fuel cs x ps h hw
  obtain ⟨xs, n, _, hx, hl, hlen, hf⟩ := DataW.trod_struct Try.underlying50 h
  simp only [Prod.mk.injEq] at hx
  obtain ⟨rfl, _⟩ := hx
  obtain ⟨y0, y1, y2, rfl⟩ : ∃ y0 y1 y2, xs = [y0, y1, y2] := by
    have hz : xs.length = 3 := by rw [hlen]; rfl
    exact lenAt3 hz
  obtain ⟨c0, c1, c2, rfl⟩ := lenAt3 (hl.trans cells50)
  have h0 : DataW.trod enc Try.prog w base spare held n 9 [c0] = some y0 := hf 0 _ rfl
  have h1 : DataW.trod enc Try.prog w base spare held n 9 [c1] = some y1 := hf 1 _ rfl
  have h2 : DataW.trod enc Try.prog w base spare held n 26 [c2] = some y2 := hf 2 _ rfl
  simp only [DataW.weights, Try.underlying50, List.map_cons, List.map_nil, DataW.weightsEach, List.mem_append] at hw
  obtain ⟨a0, k0_, s0, b0⟩ := (OpensB.string Try.underlying9) H enc w base spare held n _ y0.1 y0.2 h0 (fun q hq => hw q (.inl hq))
  obtain ⟨a1, k1_, s1, b1⟩ := (OpensB.string Try.underlying9) H enc w base spare held n _ y1.1 y1.2 h1 (fun q hq => hw q (.inr (.inl hq)))
  obtain ⟨a2, k2_, s2, b2⟩ := (OpensB.int Try.underlying26) H enc w base spare held n _ y2.1 y2.2 h2 (fun q hq => hw q (.inr (.inr (.inl hq))))
  refine ⟨⟨a0, a1, a2⟩, ⟨[c0], [c1, c2], rfl, k0_, ⟨[c1], [c2], rfl, k1_, k2_⟩⟩, ⟨s0, s1, s2⟩, ?_⟩
  simp only [bulk50, Rows.uptoBulk, Rows.uptoBulkAll, List.map_cons, List.map_nil]
  try dsimp only at b0
  try dsimp only at b1
  try dsimp only at b2
  omega
def bulk75 (x : S75) : Nat := (fun _ => 1) x.f0 + bulk30 x.f1 + (fun _ => 1) x.f2 + 1
theorem cellsb75 : Try.prog.cellsOf 75 = (k75).sz := cells75
set_option maxRecDepth 100000 in
theorem opensb75 : OpensB Try.prog 75 k75 ok75 bulk75 := by
  intro H enc w base spare held fuel cs x ps h hw
  obtain ⟨xs, n, _, hx, hl, hlen, hf⟩ := DataW.trod_struct Try.underlying75 h
  simp only [Prod.mk.injEq] at hx
  obtain ⟨rfl, _⟩ := hx
  obtain ⟨y0, y1, y2, rfl⟩ : ∃ y0 y1 y2, xs = [y0, y1, y2] := by
    have hz : xs.length = 3 := by rw [hlen]; rfl
    exact lenAt3 hz
  obtain ⟨c0, c1, c2, c3, rfl⟩ := lenAt4 (hl.trans cells75)
  have h0 : DataW.trod enc Try.prog w base spare held n 9 [c0] = some y0 := hf 0 _ rfl
  have h1 : DataW.trod enc Try.prog w base spare held n 30 [c1, c2] = some y1 := hf 1 _ rfl
  have h2 : DataW.trod enc Try.prog w base spare held n 4 [c3] = some y2 := hf 2 _ rfl
  simp only [DataW.weights, Try.underlying75, List.map_cons, List.map_nil, DataW.weightsEach, List.mem_append] at hw
  obtain ⟨a0, k0_, s0, b0⟩ := (OpensB.string Try.underlying9) H enc w base spare held n _ y0.1 y0.2 h0 (fun q hq => hw q (.inl hq))
  obtain ⟨a1, k1_, s1, b1⟩ := opensb30 H enc w base spare held n _ y1.1 y1.2 h1 (fun q hq => hw q (.inr (.inl hq)))
  obtain ⟨a2, k2_, s2, b2⟩ := (OpensB.bool Try.underlying4) H enc w base spare held n _ y2.1 y2.2 h2 (fun q hq => hw q (.inr (.inr (.inl hq))))
  refine ⟨⟨a0, a1, a2⟩, ⟨[c0], [c1, c2, c3], rfl, k0_, ⟨[c1, c2], [c3], rfl, k1_, k2_⟩⟩, ⟨s0, s1, s2⟩, ?_⟩
  simp only [bulk75, Rows.uptoBulk, Rows.uptoBulkAll, List.map_cons, List.map_nil]
  try dsimp only at b0
  try dsimp only at b1
  try dsimp only at b2
  omega
def bulk48 (x : S48) : Nat := bulk30 x.f0 + (fun _ => 1) x.f1 + (fun _ => 1) x.f2 + (fun l => (l.map bulk54).sum + 1) x.f3 + 1
theorem cellsb48 : Try.prog.cellsOf 48 = (k48).sz := cells48
set_option maxRecDepth 100000 in
theorem opensb48 : OpensB Try.prog 48 k48 ok48 bulk48 := by
  intro H enc w base spare held fuel cs x ps h hw
  obtain ⟨xs, n, _, hx, hl, hlen, hf⟩ := DataW.trod_struct Try.underlying48 h
  simp only [Prod.mk.injEq] at hx
  obtain ⟨rfl, _⟩ := hx
  obtain ⟨y0, y1, y2, y3, rfl⟩ : ∃ y0 y1 y2 y3, xs = [y0, y1, y2, y3] := by
    have hz : xs.length = 4 := by rw [hlen]; rfl
    exact lenAt4 hz
  obtain ⟨c0, c1, c2, c3, c4, rfl⟩ := lenAt5 (hl.trans cells48)
  have h0 : DataW.trod enc Try.prog w base spare held n 30 [c0, c1] = some y0 := hf 0 _ rfl
  have h1 : DataW.trod enc Try.prog w base spare held n 4 [c2] = some y1 := hf 1 _ rfl
  have h2 : DataW.trod enc Try.prog w base spare held n 4 [c3] = some y2 := hf 2 _ rfl
  have h3 : DataW.trod enc Try.prog w base spare held n 31 [c4] = some y3 := hf 3 _ rfl
  simp only [DataW.weights, Try.underlying48, List.map_cons, List.map_nil, DataW.weightsEach, List.mem_append] at hw
  obtain ⟨a0, k0_, s0, b0⟩ := opensb30 H enc w base spare held n _ y0.1 y0.2 h0 (fun q hq => hw q (.inl hq))
  obtain ⟨a1, k1_, s1, b1⟩ := (OpensB.bool Try.underlying4) H enc w base spare held n _ y1.1 y1.2 h1 (fun q hq => hw q (.inr (.inl hq)))
  obtain ⟨a2, k2_, s2, b2⟩ := (OpensB.bool Try.underlying4) H enc w base spare held n _ y2.1 y2.2 h2 (fun q hq => hw q (.inr (.inr (.inl hq))))
  obtain ⟨a3, k3_, s3, b3⟩ := (OpensB.slice Try.underlying31 cellsb54 opensb54) H enc w base spare held n _ y3.1 y3.2 h3 (fun q hq => hw q (.inr (.inr (.inr (.inl hq)))))
  refine ⟨⟨a0, a1, a2, a3⟩, ⟨[c0, c1], [c2, c3, c4], rfl, k0_, ⟨[c2], [c3, c4], rfl, k1_, ⟨[c3], [c4], rfl, k2_, k3_⟩⟩⟩, ⟨s0, s1, s2, s3⟩, ?_⟩
  simp only [bulk48, Rows.uptoBulk, Rows.uptoBulkAll, List.map_cons, List.map_nil]
  try dsimp only at b0
  try dsimp only at b1
  try dsimp only at b2
  try dsimp only at b3
  omega
def bulk68 (x : S68) : Nat := bulk30 x.f0 + (fun _ => 1) x.f1 + 1
theorem cellsb68 : Try.prog.cellsOf 68 = (k68).sz := cells68
set_option maxRecDepth 100000 in
theorem opensb68 : OpensB Try.prog 68 k68 ok68 bulk68 := by
  intro H enc w base spare held fuel cs x ps h hw
  obtain ⟨xs, n, _, hx, hl, hlen, hf⟩ := DataW.trod_struct Try.underlying68 h
  simp only [Prod.mk.injEq] at hx
  obtain ⟨rfl, _⟩ := hx
  obtain ⟨y0, y1, rfl⟩ : ∃ y0 y1, xs = [y0, y1] := by
    have hz : xs.length = 2 := by rw [hlen]; rfl
    exact lenAt2 hz
  obtain ⟨c0, c1, c2, rfl⟩ := lenAt3 (hl.trans cells68)
  have h0 : DataW.trod enc Try.prog w base spare held n 30 [c0, c1] = some y0 := hf 0 _ rfl
  have h1 : DataW.trod enc Try.prog w base spare held n 4 [c2] = some y1 := hf 1 _ rfl
  simp only [DataW.weights, Try.underlying68, List.map_cons, List.map_nil, DataW.weightsEach, List.mem_append] at hw
  obtain ⟨a0, k0_, s0, b0⟩ := opensb30 H enc w base spare held n _ y0.1 y0.2 h0 (fun q hq => hw q (.inl hq))
  obtain ⟨a1, k1_, s1, b1⟩ := (OpensB.bool Try.underlying4) H enc w base spare held n _ y1.1 y1.2 h1 (fun q hq => hw q (.inr (.inl hq)))
  refine ⟨⟨a0, a1⟩, ⟨[c0, c1], [c2], rfl, k0_, k1_⟩, ⟨s0, s1⟩, ?_⟩
  simp only [bulk68, Rows.uptoBulk, Rows.uptoBulkAll, List.map_cons, List.map_nil]
  try dsimp only at b0
  try dsimp only at b1
  omega
def bulk28 (x : S28) : Nat := (fun l => (l.map bulk50).sum + 1) x.f0 + (fun l => (l.map bulk75).sum + 1) x.f1 + (fun l => (l.map bulk48).sum + 1) x.f2 + (fun l => (l.map bulk68).sum + 1) x.f3 + (fun _ => 1) x.f4 + 1
set_option maxRecDepth 100000 in
theorem opensb28 : OpensB Try.prog 28 k28 ok28 bulk28 := by
  intro H enc w base spare held fuel cs x ps h hw
  obtain ⟨xs, n, _, hx, hl, hlen, hf⟩ := DataW.trod_struct Try.underlying28 h
  simp only [Prod.mk.injEq] at hx
  obtain ⟨rfl, _⟩ := hx
  obtain ⟨y0, y1, y2, y3, y4, rfl⟩ : ∃ y0 y1 y2 y3 y4, xs = [y0, y1, y2, y3, y4] := by
    have hz : xs.length = 5 := by rw [hlen]; rfl
    exact lenAt5 hz
  obtain ⟨c0, c1, c2, c3, c4, rfl⟩ := lenAt5 (hl.trans cells28)
  have h0 : DataW.trod enc Try.prog w base spare held n 22 [c0] = some y0 := hf 0 _ rfl
  have h1 : DataW.trod enc Try.prog w base spare held n 23 [c1] = some y1 := hf 1 _ rfl
  have h2 : DataW.trod enc Try.prog w base spare held n 24 [c2] = some y2 := hf 2 _ rfl
  have h3 : DataW.trod enc Try.prog w base spare held n 25 [c3] = some y3 := hf 3 _ rfl
  have h4 : DataW.trod enc Try.prog w base spare held n 26 [c4] = some y4 := hf 4 _ rfl
  simp only [DataW.weights, Try.underlying28, List.map_cons, List.map_nil, DataW.weightsEach, List.mem_append] at hw
  obtain ⟨a0, k0_, s0, b0⟩ := (OpensB.slice Try.underlying22 cellsb50 opensb50) H enc w base spare held n _ y0.1 y0.2 h0 (fun q hq => hw q (.inl hq))
  obtain ⟨a1, k1_, s1, b1⟩ := (OpensB.slice Try.underlying23 cellsb75 opensb75) H enc w base spare held n _ y1.1 y1.2 h1 (fun q hq => hw q (.inr (.inl hq)))
  obtain ⟨a2, k2_, s2, b2⟩ := (OpensB.slice Try.underlying24 cellsb48 opensb48) H enc w base spare held n _ y2.1 y2.2 h2 (fun q hq => hw q (.inr (.inr (.inl hq))))
  obtain ⟨a3, k3_, s3, b3⟩ := (OpensB.slice Try.underlying25 cellsb68 opensb68) H enc w base spare held n _ y3.1 y3.2 h3 (fun q hq => hw q (.inr (.inr (.inr (.inl hq)))))
  obtain ⟨a4, k4_, s4, b4⟩ := (OpensB.int Try.underlying26) H enc w base spare held n _ y4.1 y4.2 h4 (fun q hq => hw q (.inr (.inr (.inr (.inr (.inl hq))))))
  refine ⟨⟨a0, a1, a2, a3, a4⟩, ⟨[c0], [c1, c2, c3, c4], rfl, k0_, ⟨[c1], [c2, c3, c4], rfl, k1_, ⟨[c2], [c3, c4], rfl, k2_, ⟨[c3], [c4], rfl, k3_, k4_⟩⟩⟩⟩, ⟨s0, s1, s2, s3, s4⟩, ?_⟩
  simp only [bulk28, Rows.uptoBulk, Rows.uptoBulkAll, List.map_cons, List.map_nil]
  try dsimp only at b0
  try dsimp only at b1
  try dsimp only at b2
  try dsimp only at b3
  try dsimp only at b4
  omega
end Go.Proofs.Ytmcgcdpiceikeaa.PAll
end
section
-- Printed by this session's pr.sh (the kit's print.py, several laws in one namespace). Not trusted: Lean checks it.
namespace Go.Proofs.Ytmcgcdpiceikeaa.PAll
open Go.RowKit Go.Proofs.YtmcgcdpiceikeaaW.PrintWords Go.Proofs.YtmcgcdpiceikeaaW.PrintLast Go.Proofs.YtmcgcdpiceikeaaW.PrintMore
attribute [local go_sem] max2_int min2_int max_two min_two max_three min_three max_four min_four   -- for this text's walks alone
set_option linter.unusedVariables false
set_option linter.unusedSimpArgs false

/-! ### rows_named: function 73 -/
def rows_named.f (a0 : ByteArray) : Option (Bool) := if (a0.size : Int) ≥ 1 then (some (decide ((a0.size : Int) ≤ 16))) else (some false)
set_option maxHeartbeats 8000000 in
set_option maxRecDepth 100000 in
theorem rows_named.calls (a0 : ByteArray) (r : Bool) (w : World) (h : rows_named.f a0 = some r) :
    Calls Try.prog 73 #[.string a0] w fun e w' => e = .returned (.bool r) ∧ Drawn0 w w' := by
  have H : (if (a0.size : Int) ≥ 1 then (some (decide ((a0.size : Int) ≤ 16))) else (some false)) = some r := h
  clear h
  by_cases c2 : (a0.size : Int) ≥ 1
  · rw [if_pos c2] at H
    have c2b0 : decide (1 ≤ (a0.size : Int)) = true := decide_eq_true c2
    have c2b1 : decide (1 ≤ a0.size) = true := decide_eq_true (by omega)
    clear c2
    obtain rfl := Option.some.inj H
    go_enter Try.func73, Try.ntmps73
    go_wp2
    go_ret
    exact ⟨by first | rfl | (simp; done) | (simp [*]; done), by repeat (first | exact Drawn0.refl _ | apply Drawn0.step)⟩
  · rw [if_neg c2] at H
    have c2b0 : decide (1 ≤ (a0.size : Int)) = false := decide_eq_false c2
    have c2b1 : decide (1 ≤ a0.size) = false := decide_eq_false (by omega)
    clear c2
    obtain rfl := Option.some.inj H
    go_enter Try.func73, Try.ntmps73
    go_wp2
    go_ret
    exact ⟨by first | rfl | (simp; done) | (simp [*]; done), by repeat (first | exact Drawn0.refl _ | apply Drawn0.step)⟩

end Go.Proofs.Ytmcgcdpiceikeaa.PAll
end
section
/- rows.Fits, as the printed texts call it. -/
namespace Go.Proofs.Ytmcgcdpiceikeaa.PAll
open Go.RowKit Go.WideMaps Go.Maps Go.Proofs.YtmcgcdpiceikeaaW.PrintWords Go.Proofs.Ytmcgcdpiceikeaa
set_option linter.unusedVariables false
/-- A put that can't be done, whatever others there are. -/
def badPut (x : S54) : Bool := !(decide (1 ≤ x.f0.size) && decide (x.f0.size ≤ 16)) || decide (32 < x.f1.size) || (x.f2 && !(x.f1.toList == []))
def hasKey (p : List S54) (s : ByteArray) : Bool := p.any (fun y => y.f0.toList == s.toList)
def fitsGo : List S54 → List S54 → Int
  | [], _ => 0
  | x :: r, done => if badPut x || hasKey done x.f0 then 1 else fitsGo r (done ++ [x])
def fitsV (p : List S54) : Int := if 8 < p.length then 4 else fitsGo p []
def rows_Fits.f (l0 : List S54) : Option Int := some (fitsV l0)
def keyLit (s : ByteArray) : Lit := .string s.toList
def hadD (p : List S54) : DataW Nat := p.foldl (fun D x => D.put (keyLit x.f0) (.lit (.bool true))) (.map [])
theorem hadD_snoc (p : List S54) (x : S54) : hadD (p ++ [x]) = (hadD p).put (keyLit x.f0) (.lit (.bool true)) := by simp [hadD]
theorem hadD_at (s : ByteArray) : ∀ (p : List S54) (D : DataW Nat), IsMap D → (p.foldl (fun D x => D.put (keyLit x.f0) (.lit (.bool true))) D).atKey (keyLit s) (.lit (.bool false)) = if hasKey p s then .lit (.bool true) else D.atKey (keyLit s) (.lit (.bool false))
  | [], D, h => by simp [hasKey]
  | x :: r, D, h => by
    rw [List.foldl_cons, hadD_at s r _ (by obtain ⟨es, rfl⟩ := h; exact ⟨_, rfl⟩)]
    by_cases hr : hasKey r s = true
    · rw [if_pos hr, if_pos (by unfold hasKey at hr ⊢; rw [List.any_cons, hr, Bool.or_true])]
    · rw [if_neg hr]
      by_cases hx : x.f0.toList = s.toList
      · rw [if_pos (by unfold hasKey; rw [List.any_cons, beq_iff_eq.2 hx, Bool.true_or]), show keyLit s = keyLit x.f0 by unfold keyLit; rw [hx], atKey_put_same h (show WideAt.IsKeyLit (keyLit x.f0) from trivial)]
      · rw [if_neg (by unfold hasKey at hr ⊢; rw [List.any_cons, beq_eq_false_iff_ne.2 hx, Bool.false_or]; exact hr), atKey_put_other (by unfold keyLit; intro e; exact hx (Lit.string.inj e).symm)]
theorem zeroB (w : World) : (zeroValue 4).run Try.prog w = .ok (.bool false) w := by kernel_rfl
theorem ownsMap_below {H : Type} {P : Program} {k : TypeId} {R : Value → Option (DataW H × List MemPlace)} {w w' : World} {b n q : Nat} {D : DataW H} (h : w.ownsMap P k R b n D) (hb : Below q w w') (hlt : b < q) : w'.ownsMap P k R b n D := by
  obtain ⟨es, clock, h1, h2⟩ := h
  exact ⟨es, clock, (hb.block b hlt).trans h1, h2⟩
theorem plainBool_inv {P : Program} {e : TypeId} (he : P.underlying e = some .bool) {v : Value} {z : DataW Nat × List MemPlace} (h : plainElem P e v = some z) : ∃ x, v = .bool x ∧ z.1 = .lit (.bool x) := by
  unfold plainElem at h
  rw [he] at h
  cases v <;> simp at h
  exact ⟨_, rfl, by rw [← h]⟩
theorem had_lookup {p : List S54} {w : World} {b n : Nat} (h : w.ownsMap Try.prog 9 (plainElem Try.prog 4) b n (hadD p)) (s : ByteArray) (hs : s.size ≤ 16) :
    (Instr.lookup 114 (.map (some b)) (.string s) false).run Try.prog w = .ok (.bool (hasKey p s)) w := by
  have hkey : keyOf Try.prog 9 (.string s) = some (keyLit s) := by
    have := keyOf_string_mk (P := Try.prog) Try.underlying9 (s := s) (by unfold maxLen; omega)
    rw [this]; unfold keyLit; rw [ByteArray.toList_eq]
  obtain ⟨v, ps, h1, h2⟩ := h.lookup (string_keyed Try.underlying9) Try.underlying114 (zeroB w) (plainElem_bool Try.underlying4 false) hkey
  obtain ⟨x, rfl, hx⟩ := plainBool_inv Try.underlying4 h2
  rw [h1]
  have := hadD_at s p (.map []) ⟨[], rfl⟩
  dsimp only at hx
  rw [show hadD p = p.foldl (fun D x => D.put (keyLit x.f0) (.lit (.bool true))) (.map []) from rfl, this] at hx
  by_cases hk : hasKey p s = true
  · rw [if_pos hk] at hx; cases hx; rw [hk]
  · rw [if_neg hk] at hx; cases hx; rw [Bool.eq_false_iff.2 hk]
end Go.Proofs.Ytmcgcdpiceikeaa.PAll
end
