/- Joined texts of the claim GroupBack (part 14): contracts of functions and plain laws. -/
import Derived.ArgAppend
import Derived.Below
import Derived.BigQuiet
import Derived.Deep.AppendLies
import Derived.Deep.CutBlock
import Derived.Deep.DeepCutAuto
import Derived.Deep.Draws
import Derived.Deep.LoopGhost
import Derived.Deep.OwnRows
import Derived.Deep.QuietTactic
import Derived.Deep.RegionHeld3
import Derived.KernelRfl
import Derived.Laws.BitsLemmas
import Derived.Laws.BytesArg
import Derived.Laws.IdiomCopy
import Derived.Laws.MakeOwn
import Derived.Laws.OwnMore
import Derived.Laws.Rows
import Derived.Laws.Slices
import Derived.Laws.StructEq
import Derived.Lib.AppendStr
import Derived.Lib.ConvBytes
import Derived.Maps.AppendAt
import Derived.OrdersHeld
import Derived.OwnWalk
import Derived.RowKit
import Derived.RowKit3
import Derived.Tactics
import Derived.Test.YtlmefnifhbcbcaaJGroupBack0
import Derived.Test.YtlmefnifhbcbcaaJGroupBack10
import Derived.Test.YtlmefnifhbcbcaaJGroupBack11
import Derived.Test.YtlmefnifhbcbcaaJGroupBack12
import Derived.Test.YtlmefnifhbcbcaaJGroupBack13
import Derived.Test.YtlmefnifhbcbcaaJGroupBack4
import Derived.Test.YtlmefnifhbcbcaaJGroupBack5
import Derived.Test.YtlmefnifhbcbcaaJGroupBack6
import Derived.Test.YtlmefnifhbcbcaaJGroupBack7
import Derived.Test.YtlmefnifhbcbcaaJGroupBack8
import Derived.Test.YtlmefnifhbcbcaaJGroupBack9
import Derived.Test.YtlmefnifhbcbcaaProg
import Derived.WalkKit
import Derived.WideLaws
import Derived.Test.YtlmefnifhbcbcaaJGroupBack3
import Derived.Test.YtlmefnifhbcbcaaJGroupBack1
section
-- Printed by this session's pr.sh (the kit's print.py, several laws in one namespace). Not trusted: Lean checks it.
namespace Go.Proofs.Ytlmefnifhbcbcaa.PAll
open Go.RowKit Go.Proofs.YtlmefnifhbcbcaaW.PrintWords Go.Proofs.YtlmefnifhbcbcaaW.PrintLast Go.Proofs.YtlmefnifhbcbcaaW.PrintMore
set_option linter.unusedVariables false
set_option linter.unusedSimpArgs false



def errW : Option Int → Value
  | none => .nilIface
  | some c => .iface 0 (.int .i64 c)
theorem errW_none : errW none = .nilIface := rfl
theorem errW_some (c : Int) : errW (some c) = .iface 0 (.int .i64 c) := rfl

theorem info22 : (Try.prog.info? 22).map (fun i => (i.zero, i.size, i.bytes)) = some (some (.int .u64 0), 1, 8) := by kernel_rfl
-- the values' own types
/-! #### struct type 39 -/
structure S39 where
  f0 : Int
  f1 : Int
def z39 : S39 := ⟨(0 : Int), (0 : Int)⟩
def k39 : Kd S39 := Kd.iso (Kd.pair (Kd.int .u64) (Kd.int .u64)) (fun x : S39 => (x.f0, x.f1))
theorem k39_open {w : World} {x : S39} {cs : List Value} (h : k39.K w x cs) : cs = [.int .u64 x.f0, .int .u64 x.f1] := by
  obtain ⟨_, _, rfl, rfl, rfl⟩ := h
  exact rfl
theorem k39_openM {w : World} {base : Nat} {ok : Nat → Prop} {x : S39} {cs : List Value} (h : k39.M w base ok x cs) : cs = [.int .u64 x.f0, .int .u64 x.f1] := by
  obtain ⟨_, _, rfl, rfl, rfl⟩ := h
  exact rfl
theorem k39_mk (w : World) (x : S39)  : k39.K w x [.int .u64 x.f0, .int .u64 x.f1] := ⟨[.int .u64 x.f0], [.int .u64 x.f1], rfl, rfl, rfl⟩
theorem k39_mkM (w : World) (base : Nat) (ok : Nat → Prop) (x : S39)  : k39.M w base ok x [.int .u64 x.f0, .int .u64 x.f1] := ⟨[.int .u64 x.f0], [.int .u64 x.f1], rfl, rfl, rfl⟩
def rd_T39 (xs : List S39) (i : Int) : S39 := xs.getD i.toNat z39
theorem at_T39 {w : World} {A : Option Addr} {n : Nat} {xs : List S39} (h : Kd.C k39 w A n xs) (i : Int) (h0 : 0 ≤ i) (h1 : i < n) : ∃ ad , A = some ad ∧ w.cell? (ad.add (i.toNat * 2)) = some (.int .u64 (rd_T39 xs i).f0) ∧ w.cell? ⟨(ad.add (i.toNat * 2)).block, (ad.add (i.toNat * 2)).off + 1, none⟩ = some (.int .u64 (rd_T39 xs i).f1) := by
  obtain ⟨ad, c, e, _, hK, hc0⟩ := Kd.C_get h z39 i h0 h1
  have hc : ∀ j u, c[j]? = some u → w.cell? (ad.add (i.toNat * 2 + j)) = some u := hc0
  obtain rfl := k39_open hK
  exact ⟨ad, e, hc 0 _ rfl, by rw [← add_field _ _ 1 (by omega)]; exact hc 1 _ rfl⟩

/-! #### struct type 28 -/
structure S28 where
  f0 : (List Int)
  f1 : (List Int)
def k28 : Kd S28 := Kd.iso (Kd.pair (Kd.slice 22 (Kd.int .u64)) (Kd.slice 22 (Kd.int .u64))) (fun x : S28 => (x.f0, x.f1))
end Go.Proofs.Ytlmefnifhbcbcaa.PAll
end
section
/- The printed kinds as flat ones. -/
namespace Go.Proofs.Ytlmefnifhbcbcaa.PAll
open Go.RowKit Go.Proofs.YtlmefnifhbcbcaaW.PrintWords Go.Proofs.Ytlmefnifhbcbcaa
-- not of this seat: flat api.Letter
-- not of this seat: flat api.Row
-- not of this seat: flat api.Put
def enc39 (x : S39) : List Value := [.int .u64 x.f0, .int .u64 x.f1]
theorem flat39 : Flat k39 2 enc39 := ⟨rfl, fun w base ok x => k39_mkM w base ok x, fun w x => k39_mk w x, fun _ _ _ _ _ h => k39_openM h, fun _ _ _ h => k39_open h⟩
instance : Inhabited S39 := ⟨z39⟩
-- not of this seat: flat api.Tx
-- not of this seat: flat api.Hold
-- not of this seat: flat api.Done
-- not of this seat: flat api.Step
-- not of this seat: flat api.Saw
def encu64 (x : Int) : List Value := [Value.int .u64 x]
theorem flatu64 : Flat (Kd.int .u64) 1 encu64 := ⟨rfl, fun _ _ _ _ => rfl, fun _ _ => rfl, fun _ _ _ _ _ h => h, fun _ _ _ h => h⟩
end Go.Proofs.Ytlmefnifhbcbcaa.PAll
end
section
/- What the laws' arguments read as: groups. -/
namespace Go.Proofs.Ytlmefnifhbcbcaa.PAll
open Go.RowKit Go.Proofs.YtlmefnifhbcbcaaW.PrintWords Go.Proofs.Ytlmefnifhbcbcaa
set_option linter.unusedVariables false
structure S47 where
  f0 : Int
  f1 : Int
structure S64 where
  f0 : S28
  f1 : S47
  f2 : (List Int)
  f3 : (List Int)
structure S68 where
  f0 : S28
  f1 : (List S39)
  f2 : Int
  f3 : Int
theorem lenAt2 {α : Type _} {cs : List α} (h : cs.length = 2) : ∃ c0 c1, cs = [c0, c1] := by
  match cs, h with
  | [c0, c1], _ => exact ⟨_, _, rfl⟩
def ok28 (x : S28) : Prop := (fun l => l.length * Try.prog.bytesOf 22 ≤ 140737488351232 ∧ ∀ x ∈ l, (fun n : Int => (Lit.int .u64 n).wf = true) x) x.f0 ∧ (fun l => l.length * Try.prog.bytesOf 22 ≤ 140737488351232 ∧ ∀ x ∈ l, (fun n : Int => (Lit.int .u64 n).wf = true) x) x.f1
theorem cells28 : Try.prog.cellsOf 28 = 2 := by kernel_rfl
set_option maxRecDepth 100000 in
theorem opens28 : Opens Try.prog 28 k28 ok28 := by
  intro H enc w base spare held fuel cs x ps h hw
  obtain ⟨xs, n, _, hx, hl, hlen, hf⟩ := DataW.trod_struct Try.underlying28 h
  simp only [Prod.mk.injEq] at hx
  obtain ⟨rfl, _⟩ := hx
  obtain ⟨y0, y1, rfl⟩ : ∃ y0 y1, xs = [y0, y1] := by
    have hz : xs.length = 2 := by rw [hlen]; rfl
    exact lenAt2 hz
  obtain ⟨c0, c1, rfl⟩ := lenAt2 (hl.trans cells28)
  have h0 : DataW.trod enc Try.prog w base spare held n 26 [c0] = some y0 := hf 0 _ rfl
  have h1 : DataW.trod enc Try.prog w base spare held n 26 [c1] = some y1 := hf 1 _ rfl
  simp only [DataW.weights, Try.underlying28, List.map_cons, List.map_nil, DataW.weightsEach, List.mem_append] at hw
  obtain ⟨a0, k0_, s0⟩ := (Opens.slice Try.underlying26 (by kernel_rfl) (Opens.int (k := .u64) Try.underlying22)) H enc w base spare held n _ y0.1 y0.2 h0 (fun q hq => hw q (.inl hq))
  obtain ⟨a1, k1_, s1⟩ := (Opens.slice Try.underlying26 (by kernel_rfl) (Opens.int (k := .u64) Try.underlying22)) H enc w base spare held n _ y1.1 y1.2 h1 (fun q hq => hw q (.inr (.inl hq)))
  exact ⟨⟨a0, a1⟩, ⟨[c0], [c1], rfl, k0_, k1_⟩, s0, s1⟩
end Go.Proofs.Ytlmefnifhbcbcaa.PAll
end
