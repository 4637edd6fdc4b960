/-
  No cell of these rows narrows 'for every input' (looked for: loops, veiled, ifaces, maps, wideKeys, modest, calm, conditions, laid).
  DERIVED. THE GIVEN ROWS OF THIS SEAT. 11 by the template 'for every input the law returns true; each argument reads behind the call as it read before'; 0 by the template 'total and deterministic' (their statements: YthfkbfahpgdnfaaTotals.lean).
  GIVEN WITH THE SEED: the statements are not yours to turn. If you find one false, say at which input.
  Laid BY PROGRAM, IN A SANDBOX (cutbox-rows.mjs): the forced cells as the released guide's own fill.sh prints them over the translation ca23b06d982a8b49… (all of the seat's roots in one cut). By AI agents, Wed Nov 11 2026. No macro, syntax, notation, axiom, sorry.
-/
import Derived.Test.YthfkbfahpgdnfaaChecked
import GoSem.Claim
import GoSem.ClaimJoined
import GoSem.ClaimMapViews
import Derived.JoinedTies
import Derived.KernelRfl
namespace Go.Proofs.Ythfkbfahpgdnfaa
/- THE CELL 'sum', in the pinned program and in every row, IS THE sha256 OF THE DUMP (.gsa) THAT YthfkbfahpgdnfaaProg.lean LOADS. Nothing in Lean hashes anything: it is a label: what it is worth is what the hold of that sum in a sandbox is worth. -/
noncomputable def Try.pinned : Pinned := { name := "ythfkbfahpgdnfaa", sum := "ca23b06d982a8b49c7fb926c899ddc93f0c4aab2930d15d90211145255ff8df2", checked := Try.checked }
namespace Rows
def none {H : Type} : Left H := { results := [], args := [] }

/-- 'ferrulelaw18.BagTells': WHATEVER THE INPUT: true; the input reads as it did. -/
def bagTellsSpec : ChangeSpec := { name := "bagTells", fn := fun _ => fun
  | [d] => { results := [.lit (.bool true)], args := [d] }
  | _ => none }
def bagTellsRow : OpenClaim := { program := "ythfkbfahpgdnfaa", sum := "ca23b06d982a8b49c7fb926c899ddc93f0c4aab2930d15d90211145255ff8df2", func := "ferrule/ferrulelaw18.BagTells", spec := "bagTells", inPlace := ["slices.overlaps[ferrule/api.Letter]"], unfollowed := true, recurses := true, apart := false }
def BagTellsSaid : Prop := bagTellsRow.holds Try.pinned (OpenSpec.ofChange bagTellsSpec)

/-- ITS FALSE NEIGHBOUR: 'it returns false'. Refute it at one input. -/
def bagTellsWrong : ChangeSpec := { name := "bagTells", fn := fun _ => fun
  | [d] => { results := [.lit (.bool false)], args := [d] }
  | _ => none }
def BagTellsWrongFalsely : Prop := bagTellsRow.holds Try.pinned (OpenSpec.ofChange bagTellsWrong)

/-- 'ferrulelaw18.BagAll': WHATEVER THE INPUT: true; the input reads as it did. -/
def bagAllSpec : ChangeSpec := { name := "bagAll", fn := fun _ => fun
  | [d1, d2] => { results := [.lit (.bool true)], args := [d1, d2] }
  | _ => none }
def bagAllRow : OpenClaim := { program := "ythfkbfahpgdnfaa", sum := "ca23b06d982a8b49c7fb926c899ddc93f0c4aab2930d15d90211145255ff8df2", func := "ferrule/ferrulelaw18.BagAll", spec := "bagAll", inPlace := ["slices.overlaps[ferrule/api.Letter]"], unfollowed := true, recurses := true, apart := false }
def BagAllSaid : Prop := bagAllRow.holds Try.pinned (OpenSpec.ofChange bagAllSpec)

/-- ITS FALSE NEIGHBOUR: 'it returns false'. Refute it at one input. -/
def bagAllWrong : ChangeSpec := { name := "bagAll", fn := fun _ => fun
  | [d1, d2] => { results := [.lit (.bool false)], args := [d1, d2] }
  | _ => none }
def BagAllWrongFalsely : Prop := bagAllRow.holds Try.pinned (OpenSpec.ofChange bagAllWrong)

/-- 'ferrulelaw18.BagPuts': WHATEVER THE INPUT: true; the input reads as it did. -/
def bagPutsSpec : ChangeSpec := { name := "bagPuts", fn := fun _ => fun
  | [d1, d2, d3] => { results := [.lit (.bool true)], args := [d1, d2, d3] }
  | _ => none }
def bagPutsRow : OpenClaim := { program := "ythfkbfahpgdnfaa", sum := "ca23b06d982a8b49c7fb926c899ddc93f0c4aab2930d15d90211145255ff8df2", func := "ferrule/ferrulelaw18.BagPuts", spec := "bagPuts", inPlace := ["slices.overlaps[ferrule/api.Letter]"], unfollowed := true, recurses := true, apart := false }
def BagPutsSaid : Prop := bagPutsRow.holds Try.pinned (OpenSpec.ofChange bagPutsSpec)

/-- ITS FALSE NEIGHBOUR: 'it returns false'. Refute it at one input. -/
def bagPutsWrong : ChangeSpec := { name := "bagPuts", fn := fun _ => fun
  | [d1, d2, d3] => { results := [.lit (.bool false)], args := [d1, d2, d3] }
  | _ => none }
def BagPutsWrongFalsely : Prop := bagPutsRow.holds Try.pinned (OpenSpec.ofChange bagPutsWrong)

/-- 'ferrulelaw18.BagBack': WHATEVER THE INPUT: true; the input reads as it did. -/
def bagBackSpec : ChangeSpec := { name := "bagBack", fn := fun _ => fun
  | [d1, d2, d3] => { results := [.lit (.bool true)], args := [d1, d2, d3] }
  | _ => none }
def bagBackRow : OpenClaim := { program := "ythfkbfahpgdnfaa", sum := "ca23b06d982a8b49c7fb926c899ddc93f0c4aab2930d15d90211145255ff8df2", func := "ferrule/ferrulelaw18.BagBack", spec := "bagBack", inPlace := ["slices.overlaps[ferrule/api.Letter]"], unfollowed := true, recurses := true, apart := false }
def BagBackSaid : Prop := bagBackRow.holds Try.pinned (OpenSpec.ofChange bagBackSpec)

/-- ITS FALSE NEIGHBOUR: 'it returns false'. Refute it at one input. -/
def bagBackWrong : ChangeSpec := { name := "bagBack", fn := fun _ => fun
  | [d1, d2, d3] => { results := [.lit (.bool false)], args := [d1, d2, d3] }
  | _ => none }
def BagBackWrongFalsely : Prop := bagBackRow.holds Try.pinned (OpenSpec.ofChange bagBackWrong)

/-- 'ferrulelaw11.RowsFits': WHATEVER THE INPUT: true; the input reads as it did. -/
def rowsFitsSpec : ChangeSpec := { name := "rowsFits", fn := fun _ => fun
  | [d] => { results := [.lit (.bool true)], args := [d] }
  | _ => none }
def rowsFitsRow : OpenClaim := { program := "ythfkbfahpgdnfaa", sum := "ca23b06d982a8b49c7fb926c899ddc93f0c4aab2930d15d90211145255ff8df2", func := "ferrule/ferrulelaw11.RowsFits", spec := "rowsFits", inPlace := ["slices.overlaps[ferrule/api.Row]", "internal/abi.NoEscape"], unfollowed := true, recurses := true, apart := false }
def RowsFitsSaid : Prop := rowsFitsRow.holds Try.pinned (OpenSpec.ofChange rowsFitsSpec)

/-- ITS FALSE NEIGHBOUR: 'it returns false'. Refute it at one input. -/
def rowsFitsWrong : ChangeSpec := { name := "rowsFits", fn := fun _ => fun
  | [d] => { results := [.lit (.bool false)], args := [d] }
  | _ => none }
def RowsFitsWrongFalsely : Prop := rowsFitsRow.holds Try.pinned (OpenSpec.ofChange rowsFitsWrong)

/-- 'ferrulelaw11.RowsDo': WHATEVER THE INPUT: true; the input reads as it did. -/
def rowsDoSpec : ChangeSpec := { name := "rowsDo", fn := fun _ => fun
  | [d1, d2, d3] => { results := [.lit (.bool true)], args := [d1, d2, d3] }
  | _ => none }
def rowsDoRow : OpenClaim := { program := "ythfkbfahpgdnfaa", sum := "ca23b06d982a8b49c7fb926c899ddc93f0c4aab2930d15d90211145255ff8df2", func := "ferrule/ferrulelaw11.RowsDo", spec := "rowsDo", inPlace := ["slices.overlaps[ferrule/api.Row]", "internal/abi.NoEscape"], unfollowed := true, recurses := true, apart := false }
def RowsDoSaid : Prop := rowsDoRow.holds Try.pinned (OpenSpec.ofChange rowsDoSpec)

/-- ITS FALSE NEIGHBOUR: 'it returns false'. Refute it at one input. -/
def rowsDoWrong : ChangeSpec := { name := "rowsDo", fn := fun _ => fun
  | [d1, d2, d3] => { results := [.lit (.bool false)], args := [d1, d2, d3] }
  | _ => none }
def RowsDoWrongFalsely : Prop := rowsDoRow.holds Try.pinned (OpenSpec.ofChange rowsDoWrong)

/-- 'ferrulelaw11.RowsAll': WHATEVER THE INPUT: true; the input reads as it did. -/
def rowsAllSpec : ChangeSpec := { name := "rowsAll", fn := fun _ => fun
  | [d1, d2, d3] => { results := [.lit (.bool true)], args := [d1, d2, d3] }
  | _ => none }
def rowsAllRow : OpenClaim := { program := "ythfkbfahpgdnfaa", sum := "ca23b06d982a8b49c7fb926c899ddc93f0c4aab2930d15d90211145255ff8df2", func := "ferrule/ferrulelaw11.RowsAll", spec := "rowsAll", inPlace := ["slices.overlaps[ferrule/api.Row]", "internal/abi.NoEscape"], unfollowed := true, recurses := true, apart := false }
def RowsAllSaid : Prop := rowsAllRow.holds Try.pinned (OpenSpec.ofChange rowsAllSpec)

/-- ITS FALSE NEIGHBOUR: 'it returns false'. Refute it at one input. -/
def rowsAllWrong : ChangeSpec := { name := "rowsAll", fn := fun _ => fun
  | [d1, d2, d3] => { results := [.lit (.bool false)], args := [d1, d2, d3] }
  | _ => none }
def RowsAllWrongFalsely : Prop := rowsAllRow.holds Try.pinned (OpenSpec.ofChange rowsAllWrong)

/-- 'ferrulelaw11.RowsRight': WHATEVER THE INPUT: true; the input reads as it did. -/
def rowsRightSpec : ChangeSpec := { name := "rowsRight", fn := fun _ => fun
  | [d1, d2] => { results := [.lit (.bool true)], args := [d1, d2] }
  | _ => none }
def rowsRightRow : OpenClaim := { program := "ythfkbfahpgdnfaa", sum := "ca23b06d982a8b49c7fb926c899ddc93f0c4aab2930d15d90211145255ff8df2", func := "ferrule/ferrulelaw11.RowsRight", spec := "rowsRight", inPlace := ["slices.overlaps[ferrule/api.Row]", "internal/abi.NoEscape"], unfollowed := true, recurses := true, apart := false }
def RowsRightSaid : Prop := rowsRightRow.holds Try.pinned (OpenSpec.ofChange rowsRightSpec)

/-- ITS FALSE NEIGHBOUR: 'it returns false'. Refute it at one input. -/
def rowsRightWrong : ChangeSpec := { name := "rowsRight", fn := fun _ => fun
  | [d1, d2] => { results := [.lit (.bool false)], args := [d1, d2] }
  | _ => none }
def RowsRightWrongFalsely : Prop := rowsRightRow.holds Try.pinned (OpenSpec.ofChange rowsRightWrong)

/-- 'ferrulelaw11.RowsKeeps': WHATEVER THE INPUT: true; the input reads as it did. -/
def rowsKeepsSpec : ChangeSpec := { name := "rowsKeeps", fn := fun _ => fun
  | [d] => { results := [.lit (.bool true)], args := [d] }
  | _ => none }
def rowsKeepsRow : OpenClaim := { program := "ythfkbfahpgdnfaa", sum := "ca23b06d982a8b49c7fb926c899ddc93f0c4aab2930d15d90211145255ff8df2", func := "ferrule/ferrulelaw11.RowsKeeps", spec := "rowsKeeps", inPlace := ["slices.overlaps[ferrule/api.Row]", "internal/abi.NoEscape"], unfollowed := true, recurses := true, apart := false }
def RowsKeepsSaid : Prop := rowsKeepsRow.holds Try.pinned (OpenSpec.ofChange rowsKeepsSpec)

/-- ITS FALSE NEIGHBOUR: 'it returns false'. Refute it at one input. -/
def rowsKeepsWrong : ChangeSpec := { name := "rowsKeeps", fn := fun _ => fun
  | [d] => { results := [.lit (.bool false)], args := [d] }
  | _ => none }
def RowsKeepsWrongFalsely : Prop := rowsKeepsRow.holds Try.pinned (OpenSpec.ofChange rowsKeepsWrong)

/-- 'ferrulelaw11.RowsBytes': WHATEVER THE INPUT: true; the input reads as it did. -/
def rowsBytesSpec : ChangeSpec := { name := "rowsBytes", fn := fun _ => fun
  | [d1, d2] => { results := [.lit (.bool true)], args := [d1, d2] }
  | _ => none }
def rowsBytesRow : OpenClaim := { program := "ythfkbfahpgdnfaa", sum := "ca23b06d982a8b49c7fb926c899ddc93f0c4aab2930d15d90211145255ff8df2", func := "ferrule/ferrulelaw11.RowsBytes", spec := "rowsBytes", inPlace := ["slices.overlaps[ferrule/api.Row]", "internal/abi.NoEscape"], unfollowed := true, recurses := true, apart := false }
def RowsBytesSaid : Prop := rowsBytesRow.holds Try.pinned (OpenSpec.ofChange rowsBytesSpec)

/-- ITS FALSE NEIGHBOUR: 'it returns false'. Refute it at one input. -/
def rowsBytesWrong : ChangeSpec := { name := "rowsBytes", fn := fun _ => fun
  | [d1, d2] => { results := [.lit (.bool false)], args := [d1, d2] }
  | _ => none }
def RowsBytesWrongFalsely : Prop := rowsBytesRow.holds Try.pinned (OpenSpec.ofChange rowsBytesWrong)

/-- 'ferrulelaw11.RowsBack': WHATEVER THE INPUT: true; the input reads as it did. -/
def rowsBackSpec : ChangeSpec := { name := "rowsBack", fn := fun _ => fun
  | [d1, d2] => { results := [.lit (.bool true)], args := [d1, d2] }
  | _ => none }
def rowsBackRow : OpenClaim := { program := "ythfkbfahpgdnfaa", sum := "ca23b06d982a8b49c7fb926c899ddc93f0c4aab2930d15d90211145255ff8df2", func := "ferrule/ferrulelaw11.RowsBack", spec := "rowsBack", inPlace := ["slices.overlaps[ferrule/api.Row]", "internal/abi.NoEscape"], unfollowed := true, recurses := true, apart := false }
def RowsBackSaid : Prop := rowsBackRow.holds Try.pinned (OpenSpec.ofChange rowsBackSpec)

/-- ITS FALSE NEIGHBOUR: 'it returns false'. Refute it at one input. -/
def rowsBackWrong : ChangeSpec := { name := "rowsBack", fn := fun _ => fun
  | [d1, d2] => { results := [.lit (.bool false)], args := [d1, d2] }
  | _ => none }
def RowsBackWrongFalsely : Prop := rowsBackRow.holds Try.pinned (OpenSpec.ofChange rowsBackWrong)

/- THE SECOND FORM. 'bulk': how many values and letters a reading holds, each counted each time it is reached (what is shared counts as often as it is met; a slice's spare places count too). A statement '..UptoSaid' is the law's where the arguments, and the package variables that the reading takes, are together of bulk at most 1048576: NARROWER than '..Said'. Prove '..Said' where nothing that the law and all that it calls make is longer than what came in: it says more and counts as full. Else prove '..UptoSaid'. A law counts once. -/
mutual
def uptoBulk {H : Type} : DataW H → Nat
  | .lit (.string bytes) => bytes.length + 1
  | .lit _ => 1
  | .nil => 1
  | .ptr d => uptoBulk d + 1
  | .slice elems spare => uptoBulkAll elems + uptoBulkAll spare + 1
  | .agg parts => uptoBulkAll parts + 1
  | .iface _ d => uptoBulk d + 1
  | .map entries => uptoBulkEntries entries + 1
  | .held _ => 1
def uptoBulkAll {H : Type} : List (DataW H) → Nat
  | [] => 0
  | d :: r => uptoBulk d + uptoBulkAll r
def uptoBulkEntries {H : Type} : List (Lit × DataW H) → Nat
  | [] => 0
  | x :: r => uptoBulkEntry x + uptoBulkEntries r
def uptoBulkEntry {H : Type} : Lit × DataW H → Nat
  | (.string bytes, d) => bytes.length + uptoBulk d + 1
  | (_, d) => uptoBulk d + 1
 end
def uptoSmall : (H : Type) → List (DataW H) → Bool := fun _ ds => decide (uptoBulkAll ds ≤ 1048576)
def OpenSpec.upto (s : _root_.Go.ChangeSpec) : _root_.Go.OpenSpec := { _root_.Go.OpenSpec.ofChange s with cond := some uptoSmall }

/-- 'ferrulelaw18.BagTells', WHERE WHAT IT READS IS OF BULK AT MOST 1048576: true; the input reads as it did. -/
def bagTellsUptoRow : OpenClaim := { program := "ythfkbfahpgdnfaa", sum := "ca23b06d982a8b49c7fb926c899ddc93f0c4aab2930d15d90211145255ff8df2", func := "ferrule/ferrulelaw18.BagTells", spec := "bagTells", inPlace := ["slices.overlaps[ferrule/api.Letter]"], unfollowed := true, recurses := true, apart := false, narrowed := true }
def BagTellsUptoSaid : Prop := bagTellsUptoRow.holds Try.pinned (OpenSpec.upto bagTellsSpec)

/-- 'ferrulelaw18.BagAll', WHERE WHAT IT READS IS OF BULK AT MOST 1048576: true; the input reads as it did. -/
def bagAllUptoRow : OpenClaim := { program := "ythfkbfahpgdnfaa", sum := "ca23b06d982a8b49c7fb926c899ddc93f0c4aab2930d15d90211145255ff8df2", func := "ferrule/ferrulelaw18.BagAll", spec := "bagAll", inPlace := ["slices.overlaps[ferrule/api.Letter]"], unfollowed := true, recurses := true, apart := false, narrowed := true }
def BagAllUptoSaid : Prop := bagAllUptoRow.holds Try.pinned (OpenSpec.upto bagAllSpec)

/-- 'ferrulelaw18.BagPuts', WHERE WHAT IT READS IS OF BULK AT MOST 1048576: true; the input reads as it did. -/
def bagPutsUptoRow : OpenClaim := { program := "ythfkbfahpgdnfaa", sum := "ca23b06d982a8b49c7fb926c899ddc93f0c4aab2930d15d90211145255ff8df2", func := "ferrule/ferrulelaw18.BagPuts", spec := "bagPuts", inPlace := ["slices.overlaps[ferrule/api.Letter]"], unfollowed := true, recurses := true, apart := false, narrowed := true }
def BagPutsUptoSaid : Prop := bagPutsUptoRow.holds Try.pinned (OpenSpec.upto bagPutsSpec)

/-- 'ferrulelaw18.BagBack', WHERE WHAT IT READS IS OF BULK AT MOST 1048576: true; the input reads as it did. -/
def bagBackUptoRow : OpenClaim := { program := "ythfkbfahpgdnfaa", sum := "ca23b06d982a8b49c7fb926c899ddc93f0c4aab2930d15d90211145255ff8df2", func := "ferrule/ferrulelaw18.BagBack", spec := "bagBack", inPlace := ["slices.overlaps[ferrule/api.Letter]"], unfollowed := true, recurses := true, apart := false, narrowed := true }
def BagBackUptoSaid : Prop := bagBackUptoRow.holds Try.pinned (OpenSpec.upto bagBackSpec)

/-- 'ferrulelaw11.RowsFits', WHERE WHAT IT READS IS OF BULK AT MOST 1048576: true; the input reads as it did. -/
def rowsFitsUptoRow : OpenClaim := { program := "ythfkbfahpgdnfaa", sum := "ca23b06d982a8b49c7fb926c899ddc93f0c4aab2930d15d90211145255ff8df2", func := "ferrule/ferrulelaw11.RowsFits", spec := "rowsFits", inPlace := ["slices.overlaps[ferrule/api.Row]", "internal/abi.NoEscape"], unfollowed := true, recurses := true, apart := false, narrowed := true }
def RowsFitsUptoSaid : Prop := rowsFitsUptoRow.holds Try.pinned (OpenSpec.upto rowsFitsSpec)

/-- 'ferrulelaw11.RowsDo', WHERE WHAT IT READS IS OF BULK AT MOST 1048576: true; the input reads as it did. -/
def rowsDoUptoRow : OpenClaim := { program := "ythfkbfahpgdnfaa", sum := "ca23b06d982a8b49c7fb926c899ddc93f0c4aab2930d15d90211145255ff8df2", func := "ferrule/ferrulelaw11.RowsDo", spec := "rowsDo", inPlace := ["slices.overlaps[ferrule/api.Row]", "internal/abi.NoEscape"], unfollowed := true, recurses := true, apart := false, narrowed := true }
def RowsDoUptoSaid : Prop := rowsDoUptoRow.holds Try.pinned (OpenSpec.upto rowsDoSpec)

/-- 'ferrulelaw11.RowsAll', WHERE WHAT IT READS IS OF BULK AT MOST 1048576: true; the input reads as it did. -/
def rowsAllUptoRow : OpenClaim := { program := "ythfkbfahpgdnfaa", sum := "ca23b06d982a8b49c7fb926c899ddc93f0c4aab2930d15d90211145255ff8df2", func := "ferrule/ferrulelaw11.RowsAll", spec := "rowsAll", inPlace := ["slices.overlaps[ferrule/api.Row]", "internal/abi.NoEscape"], unfollowed := true, recurses := true, apart := false, narrowed := true }
def RowsAllUptoSaid : Prop := rowsAllUptoRow.holds Try.pinned (OpenSpec.upto rowsAllSpec)

/-- 'ferrulelaw11.RowsRight', WHERE WHAT IT READS IS OF BULK AT MOST 1048576: true; the input reads as it did. -/
def rowsRightUptoRow : OpenClaim := { program := "ythfkbfahpgdnfaa", sum := "ca23b06d982a8b49c7fb926c899ddc93f0c4aab2930d15d90211145255ff8df2", func := "ferrule/ferrulelaw11.RowsRight", spec := "rowsRight", inPlace := ["slices.overlaps[ferrule/api.Row]", "internal/abi.NoEscape"], unfollowed := true, recurses := true, apart := false, narrowed := true }
def RowsRightUptoSaid : Prop := rowsRightUptoRow.holds Try.pinned (OpenSpec.upto rowsRightSpec)

/-- 'ferrulelaw11.RowsKeeps', WHERE WHAT IT READS IS OF BULK AT MOST 1048576: true; the input reads as it did. -/
def rowsKeepsUptoRow : OpenClaim := { program := "ythfkbfahpgdnfaa", sum := "ca23b06d982a8b49c7fb926c899ddc93f0c4aab2930d15d90211145255ff8df2", func := "ferrule/ferrulelaw11.RowsKeeps", spec := "rowsKeeps", inPlace := ["slices.overlaps[ferrule/api.Row]", "internal/abi.NoEscape"], unfollowed := true, recurses := true, apart := false, narrowed := true }
def RowsKeepsUptoSaid : Prop := rowsKeepsUptoRow.holds Try.pinned (OpenSpec.upto rowsKeepsSpec)

/-- 'ferrulelaw11.RowsBytes', WHERE WHAT IT READS IS OF BULK AT MOST 1048576: true; the input reads as it did. -/
def rowsBytesUptoRow : OpenClaim := { program := "ythfkbfahpgdnfaa", sum := "ca23b06d982a8b49c7fb926c899ddc93f0c4aab2930d15d90211145255ff8df2", func := "ferrule/ferrulelaw11.RowsBytes", spec := "rowsBytes", inPlace := ["slices.overlaps[ferrule/api.Row]", "internal/abi.NoEscape"], unfollowed := true, recurses := true, apart := false, narrowed := true }
def RowsBytesUptoSaid : Prop := rowsBytesUptoRow.holds Try.pinned (OpenSpec.upto rowsBytesSpec)

/-- 'ferrulelaw11.RowsBack', WHERE WHAT IT READS IS OF BULK AT MOST 1048576: true; the input reads as it did. -/
def rowsBackUptoRow : OpenClaim := { program := "ythfkbfahpgdnfaa", sum := "ca23b06d982a8b49c7fb926c899ddc93f0c4aab2930d15d90211145255ff8df2", func := "ferrule/ferrulelaw11.RowsBack", spec := "rowsBack", inPlace := ["slices.overlaps[ferrule/api.Row]", "internal/abi.NoEscape"], unfollowed := true, recurses := true, apart := false, narrowed := true }
def RowsBackUptoSaid : Prop := rowsBackUptoRow.holds Try.pinned (OpenSpec.upto rowsBackSpec)

end Rows
end Go.Proofs.Ythfkbfahpgdnfaa
