/-
  No cell of these rows narrows 'for every input' (looked for: loops, veiled, ifaces, maps, wideKeys, modest, calm, conditions, laid).
  DERIVED. THE GIVEN ROWS OF THIS SEAT. 7 by the template 'for every input the law returns true; each argument reads behind the call as it read before'; 0 by the template 'total and deterministic' (their statements: YtmcgcdpiceikeaaTotals.lean).
  GIVEN WITH THE SEED: the statements are not yours to turn. If you find one false, say at which input.
  Laid BY PROGRAM, IN A SANDBOX (cutbox-rows.mjs): the forced cells as the released guide's own fill.sh prints them over the translation 2c8f4c35f12860d5… (all of the seat's roots in one cut). By AI agents, Wed Nov 11 2026. No macro, syntax, notation, axiom, sorry.
-/
import Derived.Test.YtmcgcdpiceikeaaChecked
import GoSem.Claim
import GoSem.ClaimJoined
import GoSem.ClaimMapViews
import Derived.JoinedTies
import Derived.KernelRfl
namespace Go.Proofs.Ytmcgcdpiceikeaa
/- THE CELL 'sum', in the pinned program and in every row, IS THE sha256 OF THE DUMP (.gsa) THAT YtmcgcdpiceikeaaProg.lean LOADS. Nothing in Lean hashes anything: it is a label: what it is worth is what the hold of that sum in a sandbox is worth. -/
noncomputable def Try.pinned : Pinned := { name := "ytmcgcdpiceikeaa", sum := "2c8f4c35f12860d5085da05e05444a65221001596aa46a48c15a1cef23dcaf9f", checked := Try.checked }
namespace Rows
def none {H : Type} : Left H := { results := [], args := [] }

/-- 'ferrulelaw13.ShardDoes': WHATEVER THE INPUT: true; the input reads as it did. -/
def shardDoesSpec : ChangeSpec := { name := "shardDoes", fn := fun _ => fun
  | [d1, d2] => { results := [.lit (.bool true)], args := [d1, d2] }
  | _ => none }
def shardDoesRow : OpenClaim := { program := "ytmcgcdpiceikeaa", sum := "2c8f4c35f12860d5085da05e05444a65221001596aa46a48c15a1cef23dcaf9f", func := "ferrule/ferrulelaw13.ShardDoes", spec := "shardDoes", inPlace := ["slices.overlaps[ferrule/api.Row]"], unfollowed := true, recurses := true, plainKeys := false, apart := false }
def ShardDoesSaid : Prop := shardDoesRow.holds Try.pinned (OpenSpec.ofChange shardDoesSpec)

/-- ITS FALSE NEIGHBOUR: 'it returns false'. Refute it at one input. -/
def shardDoesWrong : ChangeSpec := { name := "shardDoes", fn := fun _ => fun
  | [d1, d2] => { results := [.lit (.bool false)], args := [d1, d2] }
  | _ => none }
def ShardDoesWrongFalsely : Prop := shardDoesRow.holds Try.pinned (OpenSpec.ofChange shardDoesWrong)

/-- 'ferrulelaw13.ShardStays': WHATEVER THE INPUT: true; the input reads as it did. -/
def shardStaysSpec : ChangeSpec := { name := "shardStays", fn := fun _ => fun
  | [d] => { results := [.lit (.bool true)], args := [d] }
  | _ => none }
def shardStaysRow : OpenClaim := { program := "ytmcgcdpiceikeaa", sum := "2c8f4c35f12860d5085da05e05444a65221001596aa46a48c15a1cef23dcaf9f", func := "ferrule/ferrulelaw13.ShardStays", spec := "shardStays", inPlace := ["slices.overlaps[ferrule/api.Row]"], unfollowed := true, recurses := true, plainKeys := false, apart := false }
def ShardStaysSaid : Prop := shardStaysRow.holds Try.pinned (OpenSpec.ofChange shardStaysSpec)

/-- ITS FALSE NEIGHBOUR: 'it returns false'. Refute it at one input. -/
def shardStaysWrong : ChangeSpec := { name := "shardStays", fn := fun _ => fun
  | [d] => { results := [.lit (.bool false)], args := [d] }
  | _ => none }
def ShardStaysWrongFalsely : Prop := shardStaysRow.holds Try.pinned (OpenSpec.ofChange shardStaysWrong)

/-- 'ferrulelaw13.ShardFirm': WHATEVER THE INPUT: true; the input reads as it did. -/
def shardFirmSpec : ChangeSpec := { name := "shardFirm", fn := fun _ => fun
  | [d1, d2, d3] => { results := [.lit (.bool true)], args := [d1, d2, d3] }
  | _ => none }
def shardFirmRow : OpenClaim := { program := "ytmcgcdpiceikeaa", sum := "2c8f4c35f12860d5085da05e05444a65221001596aa46a48c15a1cef23dcaf9f", func := "ferrule/ferrulelaw13.ShardFirm", spec := "shardFirm", inPlace := ["slices.overlaps[ferrule/api.Row]"], unfollowed := true, recurses := true, plainKeys := false, apart := false }
def ShardFirmSaid : Prop := shardFirmRow.holds Try.pinned (OpenSpec.ofChange shardFirmSpec)

/-- ITS FALSE NEIGHBOUR: 'it returns false'. Refute it at one input. -/
def shardFirmWrong : ChangeSpec := { name := "shardFirm", fn := fun _ => fun
  | [d1, d2, d3] => { results := [.lit (.bool false)], args := [d1, d2, d3] }
  | _ => none }
def ShardFirmWrongFalsely : Prop := shardFirmRow.holds Try.pinned (OpenSpec.ofChange shardFirmWrong)

/-- 'ferrulelaw13.ShardOnce': WHATEVER THE INPUT: true; the input reads as it did. -/
def shardOnceSpec : ChangeSpec := { name := "shardOnce", fn := fun _ => fun
  | [d1, d2] => { results := [.lit (.bool true)], args := [d1, d2] }
  | _ => none }
def shardOnceRow : OpenClaim := { program := "ytmcgcdpiceikeaa", sum := "2c8f4c35f12860d5085da05e05444a65221001596aa46a48c15a1cef23dcaf9f", func := "ferrule/ferrulelaw13.ShardOnce", spec := "shardOnce", inPlace := ["slices.overlaps[ferrule/api.Row]"], unfollowed := true, recurses := true, plainKeys := false, apart := false }
def ShardOnceSaid : Prop := shardOnceRow.holds Try.pinned (OpenSpec.ofChange shardOnceSpec)

/-- ITS FALSE NEIGHBOUR: 'it returns false'. Refute it at one input. -/
def shardOnceWrong : ChangeSpec := { name := "shardOnce", fn := fun _ => fun
  | [d1, d2] => { results := [.lit (.bool false)], args := [d1, d2] }
  | _ => none }
def ShardOnceWrongFalsely : Prop := shardOnceRow.holds Try.pinned (OpenSpec.ofChange shardOnceWrong)

/-- 'ferrulelaw13.ShardAborts': WHATEVER THE INPUT: true; the input reads as it did. -/
def shardAbortsSpec : ChangeSpec := { name := "shardAborts", fn := fun _ => fun
  | [d1, d2, d3] => { results := [.lit (.bool true)], args := [d1, d2, d3] }
  | _ => none }
def shardAbortsRow : OpenClaim := { program := "ytmcgcdpiceikeaa", sum := "2c8f4c35f12860d5085da05e05444a65221001596aa46a48c15a1cef23dcaf9f", func := "ferrule/ferrulelaw13.ShardAborts", spec := "shardAborts", inPlace := ["slices.overlaps[ferrule/api.Row]"], unfollowed := true, recurses := true, plainKeys := false, apart := false }
def ShardAbortsSaid : Prop := shardAbortsRow.holds Try.pinned (OpenSpec.ofChange shardAbortsSpec)

/-- ITS FALSE NEIGHBOUR: 'it returns false'. Refute it at one input. -/
def shardAbortsWrong : ChangeSpec := { name := "shardAborts", fn := fun _ => fun
  | [d1, d2, d3] => { results := [.lit (.bool false)], args := [d1, d2, d3] }
  | _ => none }
def ShardAbortsWrongFalsely : Prop := shardAbortsRow.holds Try.pinned (OpenSpec.ofChange shardAbortsWrong)

/-- 'ferrulelaw13.ShardReads': WHATEVER THE INPUT: true; the input reads as it did. -/
def shardReadsSpec : ChangeSpec := { name := "shardReads", fn := fun _ => fun
  | [d] => { results := [.lit (.bool true)], args := [d] }
  | _ => none }
def shardReadsRow : OpenClaim := { program := "ytmcgcdpiceikeaa", sum := "2c8f4c35f12860d5085da05e05444a65221001596aa46a48c15a1cef23dcaf9f", func := "ferrule/ferrulelaw13.ShardReads", spec := "shardReads", inPlace := ["slices.overlaps[ferrule/api.Row]"], unfollowed := true, recurses := true, plainKeys := false, apart := false }
def ShardReadsSaid : Prop := shardReadsRow.holds Try.pinned (OpenSpec.ofChange shardReadsSpec)

/-- ITS FALSE NEIGHBOUR: 'it returns false'. Refute it at one input. -/
def shardReadsWrong : ChangeSpec := { name := "shardReads", fn := fun _ => fun
  | [d] => { results := [.lit (.bool false)], args := [d] }
  | _ => none }
def ShardReadsWrongFalsely : Prop := shardReadsRow.holds Try.pinned (OpenSpec.ofChange shardReadsWrong)

/-- 'ferrulelaw13.ShardRight': WHATEVER THE INPUT: true; the input reads as it did. -/
def shardRightSpec : ChangeSpec := { name := "shardRight", fn := fun _ => fun
  | [d1, d2] => { results := [.lit (.bool true)], args := [d1, d2] }
  | _ => none }
def shardRightRow : OpenClaim := { program := "ytmcgcdpiceikeaa", sum := "2c8f4c35f12860d5085da05e05444a65221001596aa46a48c15a1cef23dcaf9f", func := "ferrule/ferrulelaw13.ShardRight", spec := "shardRight", inPlace := ["slices.overlaps[ferrule/api.Row]"], unfollowed := true, recurses := true, plainKeys := false, apart := false }
def ShardRightSaid : Prop := shardRightRow.holds Try.pinned (OpenSpec.ofChange shardRightSpec)

/-- ITS FALSE NEIGHBOUR: 'it returns false'. Refute it at one input. -/
def shardRightWrong : ChangeSpec := { name := "shardRight", fn := fun _ => fun
  | [d1, d2] => { results := [.lit (.bool false)], args := [d1, d2] }
  | _ => none }
def ShardRightWrongFalsely : Prop := shardRightRow.holds Try.pinned (OpenSpec.ofChange shardRightWrong)

/- THE SECOND FORM. 'bulk': how many values and letters a reading holds, each counted each time it is reached (what is shared counts as often as it is met; a slice's spare places count too). A statement '..UptoSaid' is the law's where the arguments, and the package variables that the reading takes, are together of bulk at most 1048576: NARROWER than '..Said'. Prove '..Said' where nothing that the law and all that it calls make is longer than what came in: it says more and counts as full. Else prove '..UptoSaid'. A law counts once. -/
mutual
def uptoBulk {H : Type} : DataW H → Nat
  | .lit (.string bytes) => bytes.length + 1
  | .lit _ => 1
  | .nil => 1
  | .ptr d => uptoBulk d + 1
  | .slice elems spare => uptoBulkAll elems + uptoBulkAll spare + 1
  | .agg parts => uptoBulkAll parts + 1
  | .iface _ d => uptoBulk d + 1
  | .map entries => uptoBulkEntries entries + 1
  | .held _ => 1
def uptoBulkAll {H : Type} : List (DataW H) → Nat
  | [] => 0
  | d :: r => uptoBulk d + uptoBulkAll r
def uptoBulkEntries {H : Type} : List (Lit × DataW H) → Nat
  | [] => 0
  | x :: r => uptoBulkEntry x + uptoBulkEntries r
def uptoBulkEntry {H : Type} : Lit × DataW H → Nat
  | (.string bytes, d) => bytes.length + uptoBulk d + 1
  | (_, d) => uptoBulk d + 1
 end
def uptoSmall : (H : Type) → List (DataW H) → Bool := fun _ ds => decide (uptoBulkAll ds ≤ 1048576)
def OpenSpec.upto (s : _root_.Go.ChangeSpec) : _root_.Go.OpenSpec := { _root_.Go.OpenSpec.ofChange s with cond := some uptoSmall }

/-- 'ferrulelaw13.ShardDoes', WHERE WHAT IT READS IS OF BULK AT MOST 1048576: true; the input reads as it did. -/
def shardDoesUptoRow : OpenClaim := { program := "ytmcgcdpiceikeaa", sum := "2c8f4c35f12860d5085da05e05444a65221001596aa46a48c15a1cef23dcaf9f", func := "ferrule/ferrulelaw13.ShardDoes", spec := "shardDoes", inPlace := ["slices.overlaps[ferrule/api.Row]"], unfollowed := true, recurses := true, plainKeys := false, apart := false, narrowed := true }
def ShardDoesUptoSaid : Prop := shardDoesUptoRow.holds Try.pinned (OpenSpec.upto shardDoesSpec)

/-- 'ferrulelaw13.ShardStays', WHERE WHAT IT READS IS OF BULK AT MOST 1048576: true; the input reads as it did. -/
def shardStaysUptoRow : OpenClaim := { program := "ytmcgcdpiceikeaa", sum := "2c8f4c35f12860d5085da05e05444a65221001596aa46a48c15a1cef23dcaf9f", func := "ferrule/ferrulelaw13.ShardStays", spec := "shardStays", inPlace := ["slices.overlaps[ferrule/api.Row]"], unfollowed := true, recurses := true, plainKeys := false, apart := false, narrowed := true }
def ShardStaysUptoSaid : Prop := shardStaysUptoRow.holds Try.pinned (OpenSpec.upto shardStaysSpec)

/-- 'ferrulelaw13.ShardFirm', WHERE WHAT IT READS IS OF BULK AT MOST 1048576: true; the input reads as it did. -/
def shardFirmUptoRow : OpenClaim := { program := "ytmcgcdpiceikeaa", sum := "2c8f4c35f12860d5085da05e05444a65221001596aa46a48c15a1cef23dcaf9f", func := "ferrule/ferrulelaw13.ShardFirm", spec := "shardFirm", inPlace := ["slices.overlaps[ferrule/api.Row]"], unfollowed := true, recurses := true, plainKeys := false, apart := false, narrowed := true }
def ShardFirmUptoSaid : Prop := shardFirmUptoRow.holds Try.pinned (OpenSpec.upto shardFirmSpec)

/-- 'ferrulelaw13.ShardOnce', WHERE WHAT IT READS IS OF BULK AT MOST 1048576: true; the input reads as it did. -/
def shardOnceUptoRow : OpenClaim := { program := "ytmcgcdpiceikeaa", sum := "2c8f4c35f12860d5085da05e05444a65221001596aa46a48c15a1cef23dcaf9f", func := "ferrule/ferrulelaw13.ShardOnce", spec := "shardOnce", inPlace := ["slices.overlaps[ferrule/api.Row]"], unfollowed := true, recurses := true, plainKeys := false, apart := false, narrowed := true }
def ShardOnceUptoSaid : Prop := shardOnceUptoRow.holds Try.pinned (OpenSpec.upto shardOnceSpec)

/-- 'ferrulelaw13.ShardAborts', WHERE WHAT IT READS IS OF BULK AT MOST 1048576: true; the input reads as it did. -/
def shardAbortsUptoRow : OpenClaim := { program := "ytmcgcdpiceikeaa", sum := "2c8f4c35f12860d5085da05e05444a65221001596aa46a48c15a1cef23dcaf9f", func := "ferrule/ferrulelaw13.ShardAborts", spec := "shardAborts", inPlace := ["slices.overlaps[ferrule/api.Row]"], unfollowed := true, recurses := true, plainKeys := false, apart := false, narrowed := true }
def ShardAbortsUptoSaid : Prop := shardAbortsUptoRow.holds Try.pinned (OpenSpec.upto shardAbortsSpec)

/-- 'ferrulelaw13.ShardReads', WHERE WHAT IT READS IS OF BULK AT MOST 1048576: true; the input reads as it did. -/
def shardReadsUptoRow : OpenClaim := { program := "ytmcgcdpiceikeaa", sum := "2c8f4c35f12860d5085da05e05444a65221001596aa46a48c15a1cef23dcaf9f", func := "ferrule/ferrulelaw13.ShardReads", spec := "shardReads", inPlace := ["slices.overlaps[ferrule/api.Row]"], unfollowed := true, recurses := true, plainKeys := false, apart := false, narrowed := true }
def ShardReadsUptoSaid : Prop := shardReadsUptoRow.holds Try.pinned (OpenSpec.upto shardReadsSpec)

/-- 'ferrulelaw13.ShardRight', WHERE WHAT IT READS IS OF BULK AT MOST 1048576: true; the input reads as it did. -/
def shardRightUptoRow : OpenClaim := { program := "ytmcgcdpiceikeaa", sum := "2c8f4c35f12860d5085da05e05444a65221001596aa46a48c15a1cef23dcaf9f", func := "ferrule/ferrulelaw13.ShardRight", spec := "shardRight", inPlace := ["slices.overlaps[ferrule/api.Row]"], unfollowed := true, recurses := true, plainKeys := false, apart := false, narrowed := true }
def ShardRightUptoSaid : Prop := shardRightUptoRow.holds Try.pinned (OpenSpec.upto shardRightSpec)

end Rows
end Go.Proofs.Ytmcgcdpiceikeaa
