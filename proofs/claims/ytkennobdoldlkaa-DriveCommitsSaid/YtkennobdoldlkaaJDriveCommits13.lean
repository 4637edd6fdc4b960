/- Joined texts of the claim DriveCommits (part 13): contracts of functions and plain laws. -/
import Derived.ArgAppend
import Derived.Below
import Derived.BigQuiet
import Derived.Deep.AppendLies
import Derived.Deep.CutBlock
import Derived.Deep.DeepCutAuto
import Derived.Deep.Draws
import Derived.Deep.LoopGhost
import Derived.Deep.OwnRows
import Derived.Deep.QuietTactic
import Derived.Deep.RegionHeld3
import Derived.KernelRfl
import Derived.Laws.BitsLemmas
import Derived.Laws.BytesArg
import Derived.Laws.IdiomCopy
import Derived.Laws.MakeOwn
import Derived.Laws.OwnMore
import Derived.Laws.Rows
import Derived.Laws.Slices
import Derived.Laws.StructEq
import Derived.Lib.AppendStr
import Derived.Lib.ConvBytes
import Derived.Maps.AppendAt
import Derived.OrdersHeld
import Derived.OwnWalk
import Derived.RowKit
import Derived.RowKit3
import Derived.Tactics
import Derived.Test.YtkennobdoldlkaaJDriveCommits0
import Derived.Test.YtkennobdoldlkaaJDriveCommits10
import Derived.Test.YtkennobdoldlkaaJDriveCommits11
import Derived.Test.YtkennobdoldlkaaJDriveCommits12
import Derived.Test.YtkennobdoldlkaaJDriveCommits4
import Derived.Test.YtkennobdoldlkaaJDriveCommits5
import Derived.Test.YtkennobdoldlkaaJDriveCommits6
import Derived.Test.YtkennobdoldlkaaJDriveCommits7
import Derived.Test.YtkennobdoldlkaaJDriveCommits8
import Derived.Test.YtkennobdoldlkaaJDriveCommits9
import Derived.Test.YtkennobdoldlkaaProg
import Derived.WalkKit
import Derived.WideLaws
section
-- Printed by this session's pr.sh (the kit's print.py, several laws in one namespace). Not trusted: Lean checks it.
namespace Go.Proofs.Ytkennobdoldlkaa.PAll
open Go.RowKit Go.Proofs.YtkennobdoldlkaaW.PrintWords Go.Proofs.YtkennobdoldlkaaW.PrintLast Go.Proofs.YtkennobdoldlkaaW.PrintMore
attribute [local go_sem] max2_int min2_int max_two min_two max_three min_three max_four min_four   -- for this text's walks alone
set_option linter.unusedVariables false
set_option linter.unusedSimpArgs false



def errW : Option Int → Value
  | none => .nilIface
  | some c => .iface 0 (.int .i64 c)
theorem errW_none : errW none = .nilIface := rfl
theorem errW_some (c : Int) : errW (some c) = .iface 0 (.int .i64 c) := rfl

-- the values' own types
/-! #### struct type 24 -/
structure S24 where
  f0 : Int
  f1 : Int
def z24 : S24 := ⟨(0 : Int), (0 : Int)⟩
def k24 : Kd S24 := Kd.iso (Kd.pair (Kd.int .u64) (Kd.int .u64)) (fun x : S24 => (x.f0, x.f1))
theorem k24_open {w : World} {x : S24} {cs : List Value} (h : k24.K w x cs) : cs = [.int .u64 x.f0, .int .u64 x.f1] := by
  obtain ⟨_, _, rfl, rfl, rfl⟩ := h
  exact rfl
/-! #### struct type 53 -/
structure S53 where
  f0 : Int
  f1 : ByteArray
  f2 : ByteArray
  f3 : Bool
  f4 : Bool
def z53 : S53 := ⟨(0 : Int), (⟨#[]⟩ : ByteArray), (⟨#[]⟩ : ByteArray), false, false⟩
def k53 : Kd S53 := Kd.iso (Kd.pair (Kd.int .u64) (Kd.pair Kd.string (Kd.pair Kd.string (Kd.pair Kd.bool Kd.bool)))) (fun x : S53 => (x.f0, x.f1, x.f2, x.f3, x.f4))
theorem k53_open {w : World} {x : S53} {cs : List Value} (h : k53.K w x cs) : cs = [.int .u64 x.f0, .string x.f1, .string x.f2, .bool x.f3, .bool x.f4] := by
  obtain ⟨_, _, rfl, rfl, ⟨_, _, rfl, rfl, ⟨_, _, rfl, rfl, ⟨_, _, rfl, rfl, rfl⟩⟩⟩⟩ := h
  exact rfl
theorem k53_openM {w : World} {base : Nat} {ok : Nat → Prop} {x : S53} {cs : List Value} (h : k53.M w base ok x cs) : cs = [.int .u64 x.f0, .string x.f1, .string x.f2, .bool x.f3, .bool x.f4] := by
  obtain ⟨_, _, rfl, rfl, ⟨_, _, rfl, rfl, ⟨_, _, rfl, rfl, ⟨_, _, rfl, rfl, rfl⟩⟩⟩⟩ := h
  exact rfl
theorem k53_mk (w : World) (x : S53)  : k53.K w x [.int .u64 x.f0, .string x.f1, .string x.f2, .bool x.f3, .bool x.f4] := ⟨[.int .u64 x.f0], [.string x.f1, .string x.f2, .bool x.f3, .bool x.f4], rfl, rfl, ⟨[.string x.f1], [.string x.f2, .bool x.f3, .bool x.f4], rfl, rfl, ⟨[.string x.f2], [.bool x.f3, .bool x.f4], rfl, rfl, ⟨[.bool x.f3], [.bool x.f4], rfl, rfl, rfl⟩⟩⟩⟩
theorem k53_mkM (w : World) (base : Nat) (ok : Nat → Prop) (x : S53)  : k53.M w base ok x [.int .u64 x.f0, .string x.f1, .string x.f2, .bool x.f3, .bool x.f4] := ⟨[.int .u64 x.f0], [.string x.f1, .string x.f2, .bool x.f3, .bool x.f4], rfl, rfl, ⟨[.string x.f1], [.string x.f2, .bool x.f3, .bool x.f4], rfl, rfl, ⟨[.string x.f2], [.bool x.f3, .bool x.f4], rfl, rfl, ⟨[.bool x.f3], [.bool x.f4], rfl, rfl, rfl⟩⟩⟩⟩
/-! #### struct type 27 -/
structure S27 where
  f0 : S24
  f1 : (List S53)
def k27 : Kd S27 := Kd.iso (Kd.pair k24 (Kd.slice 53 k53)) (fun x : S27 => (x.f0, x.f1))
theorem k27_open {w : World} {x : S27} {cs : List Value} (h : k27.K w x cs) : ∃ A2 c2, cs = [.int .u64 x.f0.f0, .int .u64 x.f0.f1, .slice A2 x.f1.length c2] ∧ x.f1.length ≤ c2 ∧ k53.C w A2 x.f1.length x.f1 := by
  obtain ⟨_, _, rfl, s0, ⟨A2, c2, rfl, l2, g2⟩⟩ := h
  obtain rfl := k24_open s0
  exact ⟨A2, c2, rfl, l2, g2⟩
/-! #### struct type 74 -/
structure S74 where
  f0 : ByteArray
  f1 : ByteArray
  f2 : Bool
def z74 : S74 := ⟨(⟨#[]⟩ : ByteArray), (⟨#[]⟩ : ByteArray), false⟩
def k74 : Kd S74 := Kd.iso (Kd.pair Kd.string (Kd.pair Kd.string Kd.bool)) (fun x : S74 => (x.f0, x.f1, x.f2))
theorem k74_open {w : World} {x : S74} {cs : List Value} (h : k74.K w x cs) : cs = [.string x.f0, .string x.f1, .bool x.f2] := by
  obtain ⟨_, _, rfl, rfl, ⟨_, _, rfl, rfl, rfl⟩⟩ := h
  exact rfl
theorem k74_openM {w : World} {base : Nat} {ok : Nat → Prop} {x : S74} {cs : List Value} (h : k74.M w base ok x cs) : cs = [.string x.f0, .string x.f1, .bool x.f2] := by
  obtain ⟨_, _, rfl, rfl, ⟨_, _, rfl, rfl, rfl⟩⟩ := h
  exact rfl
theorem k74_mk (w : World) (x : S74)  : k74.K w x [.string x.f0, .string x.f1, .bool x.f2] := ⟨[.string x.f0], [.string x.f1, .bool x.f2], rfl, rfl, ⟨[.string x.f1], [.bool x.f2], rfl, rfl, rfl⟩⟩
theorem k74_mkM (w : World) (base : Nat) (ok : Nat → Prop) (x : S74)  : k74.M w base ok x [.string x.f0, .string x.f1, .bool x.f2] := ⟨[.string x.f0], [.string x.f1, .bool x.f2], rfl, rfl, ⟨[.string x.f1], [.bool x.f2], rfl, rfl, rfl⟩⟩
/-! #### struct type 51 -/
structure S51 where
  f0 : Int
  f1 : ByteArray
  f2 : ByteArray
  f3 : Int
  f4 : Bool
def z51 : S51 := ⟨(0 : Int), (⟨#[]⟩ : ByteArray), (⟨#[]⟩ : ByteArray), (0 : Int), false⟩
def k51 : Kd S51 := Kd.iso (Kd.pair (Kd.int .u64) (Kd.pair Kd.string (Kd.pair Kd.string (Kd.pair (Kd.int .u64) Kd.bool)))) (fun x : S51 => (x.f0, x.f1, x.f2, x.f3, x.f4))
theorem k51_open {w : World} {x : S51} {cs : List Value} (h : k51.K w x cs) : cs = [.int .u64 x.f0, .string x.f1, .string x.f2, .int .u64 x.f3, .bool x.f4] := by
  obtain ⟨_, _, rfl, rfl, ⟨_, _, rfl, rfl, ⟨_, _, rfl, rfl, ⟨_, _, rfl, rfl, rfl⟩⟩⟩⟩ := h
  exact rfl
theorem k51_openM {w : World} {base : Nat} {ok : Nat → Prop} {x : S51} {cs : List Value} (h : k51.M w base ok x cs) : cs = [.int .u64 x.f0, .string x.f1, .string x.f2, .int .u64 x.f3, .bool x.f4] := by
  obtain ⟨_, _, rfl, rfl, ⟨_, _, rfl, rfl, ⟨_, _, rfl, rfl, ⟨_, _, rfl, rfl, rfl⟩⟩⟩⟩ := h
  exact rfl
theorem k51_mk (w : World) (x : S51)  : k51.K w x [.int .u64 x.f0, .string x.f1, .string x.f2, .int .u64 x.f3, .bool x.f4] := ⟨[.int .u64 x.f0], [.string x.f1, .string x.f2, .int .u64 x.f3, .bool x.f4], rfl, rfl, ⟨[.string x.f1], [.string x.f2, .int .u64 x.f3, .bool x.f4], rfl, rfl, ⟨[.string x.f2], [.int .u64 x.f3, .bool x.f4], rfl, rfl, ⟨[.int .u64 x.f3], [.bool x.f4], rfl, rfl, rfl⟩⟩⟩⟩
theorem k51_mkM (w : World) (base : Nat) (ok : Nat → Prop) (x : S51)  : k51.M w base ok x [.int .u64 x.f0, .string x.f1, .string x.f2, .int .u64 x.f3, .bool x.f4] := ⟨[.int .u64 x.f0], [.string x.f1, .string x.f2, .int .u64 x.f3, .bool x.f4], rfl, rfl, ⟨[.string x.f1], [.string x.f2, .int .u64 x.f3, .bool x.f4], rfl, rfl, ⟨[.string x.f2], [.int .u64 x.f3, .bool x.f4], rfl, rfl, ⟨[.int .u64 x.f3], [.bool x.f4], rfl, rfl, rfl⟩⟩⟩⟩
end Go.Proofs.Ytkennobdoldlkaa.PAll
end
