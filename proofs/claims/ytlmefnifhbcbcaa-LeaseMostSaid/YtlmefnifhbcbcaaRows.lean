/-
  No cell of these rows narrows 'for every input' (looked for: loops, veiled, ifaces, maps, wideKeys, modest, calm, conditions, laid).
  DERIVED. THE GIVEN ROWS OF THIS SEAT. 14 by the template 'for every input the law returns true; each argument reads behind the call as it read before'; 0 by the template 'total and deterministic' (their statements: YtlmefnifhbcbcaaTotals.lean).
  GIVEN WITH THE SEED: the statements are not yours to turn. If you find one false, say at which input.
  Laid BY PROGRAM, IN A SANDBOX (cutbox-rows.mjs): the forced cells as the released guide's own fill.sh prints them over the translation 07de527858d5031b… (all of the seat's roots in one cut). By AI agents, Wed Nov 11 2026. No macro, syntax, notation, axiom, sorry.
-/
import Derived.Test.YtlmefnifhbcbcaaChecked
import GoSem.Claim
import GoSem.ClaimJoined
import GoSem.ClaimMapViews
import Derived.JoinedTies
import Derived.KernelRfl
namespace Go.Proofs.Ytlmefnifhbcbcaa
/- THE CELL 'sum', in the pinned program and in every row, IS THE sha256 OF THE DUMP (.gsa) THAT YtlmefnifhbcbcaaProg.lean LOADS. Nothing in Lean hashes anything: it is a label: what it is worth is what the hold of that sum in a sandbox is worth. -/
noncomputable def Try.pinned : Pinned := { name := "ytlmefnifhbcbcaa", sum := "07de527858d5031b2d0cf0e52a112ad980658851111cf07c39affdb50a27546e", checked := Try.checked }
namespace Rows
def none {H : Type} : Left H := { results := [], args := [] }

/-- 'ferrulelaw10.LeaseBounds': WHATEVER THE INPUT: true; the input reads as it did. -/
def leaseBoundsSpec : ChangeSpec := { name := "leaseBounds", fn := fun _ => fun
  | [d1, d2] => { results := [.lit (.bool true)], args := [d1, d2] }
  | _ => none }
def leaseBoundsRow : OpenClaim := { program := "ytlmefnifhbcbcaa", sum := "07de527858d5031b2d0cf0e52a112ad980658851111cf07c39affdb50a27546e", func := "ferrule/ferrulelaw10.LeaseBounds", spec := "leaseBounds", inPlace := ["math/bits.Add64"], unfollowed := true, recurses := true, named := ["math/bits.divideError", "math/bits.overflowError"], apart := false }
def LeaseBoundsSaid : Prop := leaseBoundsRow.holds Try.pinned (OpenSpec.ofChange leaseBoundsSpec)

/-- ITS FALSE NEIGHBOUR: 'it returns false'. Refute it at one input. -/
def leaseBoundsWrong : ChangeSpec := { name := "leaseBounds", fn := fun _ => fun
  | [d1, d2] => { results := [.lit (.bool false)], args := [d1, d2] }
  | _ => none }
def LeaseBoundsWrongFalsely : Prop := leaseBoundsRow.holds Try.pinned (OpenSpec.ofChange leaseBoundsWrong)

/-- 'ferrulelaw10.LeaseUntil': WHATEVER THE INPUT: true; the input reads as it did. -/
def leaseUntilSpec : ChangeSpec := { name := "leaseUntil", fn := fun _ => fun
  | [d] => { results := [.lit (.bool true)], args := [d] }
  | _ => none }
def leaseUntilRow : OpenClaim := { program := "ytlmefnifhbcbcaa", sum := "07de527858d5031b2d0cf0e52a112ad980658851111cf07c39affdb50a27546e", func := "ferrule/ferrulelaw10.LeaseUntil", spec := "leaseUntil", inPlace := ["math/bits.Add64"], unfollowed := true, recurses := true, named := ["math/bits.divideError", "math/bits.overflowError"], apart := false }
def LeaseUntilSaid : Prop := leaseUntilRow.holds Try.pinned (OpenSpec.ofChange leaseUntilSpec)

/-- ITS FALSE NEIGHBOUR: 'it returns false'. Refute it at one input. -/
def leaseUntilWrong : ChangeSpec := { name := "leaseUntil", fn := fun _ => fun
  | [d] => { results := [.lit (.bool false)], args := [d] }
  | _ => none }
def LeaseUntilWrongFalsely : Prop := leaseUntilRow.holds Try.pinned (OpenSpec.ofChange leaseUntilWrong)

/-- 'ferrulelaw10.LeaseLess': WHATEVER THE INPUT: true; the input reads as it did. -/
def leaseLessSpec : ChangeSpec := { name := "leaseLess", fn := fun _ => fun
  | [d1, d2, d3] => { results := [.lit (.bool true)], args := [d1, d2, d3] }
  | _ => none }
def leaseLessRow : OpenClaim := { program := "ytlmefnifhbcbcaa", sum := "07de527858d5031b2d0cf0e52a112ad980658851111cf07c39affdb50a27546e", func := "ferrule/ferrulelaw10.LeaseLess", spec := "leaseLess", inPlace := ["math/bits.Add64"], unfollowed := true, recurses := true, named := ["math/bits.divideError", "math/bits.overflowError"], apart := false }
def LeaseLessSaid : Prop := leaseLessRow.holds Try.pinned (OpenSpec.ofChange leaseLessSpec)

/-- ITS FALSE NEIGHBOUR: 'it returns false'. Refute it at one input. -/
def leaseLessWrong : ChangeSpec := { name := "leaseLess", fn := fun _ => fun
  | [d1, d2, d3] => { results := [.lit (.bool false)], args := [d1, d2, d3] }
  | _ => none }
def LeaseLessWrongFalsely : Prop := leaseLessRow.holds Try.pinned (OpenSpec.ofChange leaseLessWrong)

/-- 'ferrulelaw10.LeaseMost': WHATEVER THE INPUT: true; the input reads as it did. -/
def leaseMostSpec : ChangeSpec := { name := "leaseMost", fn := fun _ => fun
  | [d] => { results := [.lit (.bool true)], args := [d] }
  | _ => none }
def leaseMostRow : OpenClaim := { program := "ytlmefnifhbcbcaa", sum := "07de527858d5031b2d0cf0e52a112ad980658851111cf07c39affdb50a27546e", func := "ferrule/ferrulelaw10.LeaseMost", spec := "leaseMost", inPlace := ["math/bits.Add64"], unfollowed := true, recurses := true, named := ["math/bits.divideError", "math/bits.overflowError"], apart := false }
def LeaseMostSaid : Prop := leaseMostRow.holds Try.pinned (OpenSpec.ofChange leaseMostSpec)

/-- ITS FALSE NEIGHBOUR: 'it returns false'. Refute it at one input. -/
def leaseMostWrong : ChangeSpec := { name := "leaseMost", fn := fun _ => fun
  | [d] => { results := [.lit (.bool false)], args := [d] }
  | _ => none }
def LeaseMostWrongFalsely : Prop := leaseMostRow.holds Try.pinned (OpenSpec.ofChange leaseMostWrong)

/-- 'ferrulelaw10.LeaseWithin': WHATEVER THE INPUT: true; the input reads as it did. -/
def leaseWithinSpec : ChangeSpec := { name := "leaseWithin", fn := fun _ => fun
  | [d1, d2, d3] => { results := [.lit (.bool true)], args := [d1, d2, d3] }
  | _ => none }
def leaseWithinRow : OpenClaim := { program := "ytlmefnifhbcbcaa", sum := "07de527858d5031b2d0cf0e52a112ad980658851111cf07c39affdb50a27546e", func := "ferrule/ferrulelaw10.LeaseWithin", spec := "leaseWithin", inPlace := ["math/bits.Add64"], unfollowed := true, recurses := true, named := ["math/bits.divideError", "math/bits.overflowError"], apart := false }
def LeaseWithinSaid : Prop := leaseWithinRow.holds Try.pinned (OpenSpec.ofChange leaseWithinSpec)

/-- ITS FALSE NEIGHBOUR: 'it returns false'. Refute it at one input. -/
def leaseWithinWrong : ChangeSpec := { name := "leaseWithin", fn := fun _ => fun
  | [d1, d2, d3] => { results := [.lit (.bool false)], args := [d1, d2, d3] }
  | _ => none }
def LeaseWithinWrongFalsely : Prop := leaseWithinRow.holds Try.pinned (OpenSpec.ofChange leaseWithinWrong)

/-- 'ferrulelaw10.LeaseSafe': WHATEVER THE INPUT: true; the input reads as it did. -/
def leaseSafeSpec : ChangeSpec := { name := "leaseSafe", fn := fun _ => fun
  | [d] => { results := [.lit (.bool true)], args := [d] }
  | _ => none }
def leaseSafeRow : OpenClaim := { program := "ytlmefnifhbcbcaa", sum := "07de527858d5031b2d0cf0e52a112ad980658851111cf07c39affdb50a27546e", func := "ferrule/ferrulelaw10.LeaseSafe", spec := "leaseSafe", inPlace := ["math/bits.Add64"], unfollowed := true, recurses := true, named := ["math/bits.divideError", "math/bits.overflowError"], apart := false }
def LeaseSafeSaid : Prop := leaseSafeRow.holds Try.pinned (OpenSpec.ofChange leaseSafeSpec)

/-- ITS FALSE NEIGHBOUR: 'it returns false'. Refute it at one input. -/
def leaseSafeWrong : ChangeSpec := { name := "leaseSafe", fn := fun _ => fun
  | [d] => { results := [.lit (.bool false)], args := [d] }
  | _ => none }
def LeaseSafeWrongFalsely : Prop := leaseSafeRow.holds Try.pinned (OpenSpec.ofChange leaseSafeWrong)

/-- 'ferrulelaw06.GroupAgrees': WHATEVER THE INPUT: true; the input reads as it did. -/
def groupAgreesSpec : ChangeSpec := { name := "groupAgrees", fn := fun _ => fun
  | [d1, d2] => { results := [.lit (.bool true)], args := [d1, d2] }
  | _ => none }
def groupAgreesRow : OpenClaim := { program := "ytlmefnifhbcbcaa", sum := "07de527858d5031b2d0cf0e52a112ad980658851111cf07c39affdb50a27546e", func := "ferrule/ferrulelaw06.GroupAgrees", spec := "groupAgrees", unfollowed := true, recurses := true, apart := false }
def GroupAgreesSaid : Prop := groupAgreesRow.holds Try.pinned (OpenSpec.ofChange groupAgreesSpec)

/-- ITS FALSE NEIGHBOUR: 'it returns false'. Refute it at one input. -/
def groupAgreesWrong : ChangeSpec := { name := "groupAgrees", fn := fun _ => fun
  | [d1, d2] => { results := [.lit (.bool false)], args := [d1, d2] }
  | _ => none }
def GroupAgreesWrongFalsely : Prop := groupAgreesRow.holds Try.pinned (OpenSpec.ofChange groupAgreesWrong)

/-- 'ferrulelaw06.GroupChanges': WHATEVER THE INPUT: true; the input reads as it did. -/
def groupChangesSpec : ChangeSpec := { name := "groupChanges", fn := fun _ => fun
  | [d1, d2] => { results := [.lit (.bool true)], args := [d1, d2] }
  | _ => none }
def groupChangesRow : OpenClaim := { program := "ytlmefnifhbcbcaa", sum := "07de527858d5031b2d0cf0e52a112ad980658851111cf07c39affdb50a27546e", func := "ferrule/ferrulelaw06.GroupChanges", spec := "groupChanges", unfollowed := true, recurses := true, apart := false }
def GroupChangesSaid : Prop := groupChangesRow.holds Try.pinned (OpenSpec.ofChange groupChangesSpec)

/-- ITS FALSE NEIGHBOUR: 'it returns false'. Refute it at one input. -/
def groupChangesWrong : ChangeSpec := { name := "groupChanges", fn := fun _ => fun
  | [d1, d2] => { results := [.lit (.bool false)], args := [d1, d2] }
  | _ => none }
def GroupChangesWrongFalsely : Prop := groupChangesRow.holds Try.pinned (OpenSpec.ofChange groupChangesWrong)

/-- 'ferrulelaw06.GroupMarks': WHATEVER THE INPUT: true; the input reads as it did. -/
def groupMarksSpec : ChangeSpec := { name := "groupMarks", fn := fun _ => fun
  | [d1, d2, d3] => { results := [.lit (.bool true)], args := [d1, d2, d3] }
  | _ => none }
def groupMarksRow : OpenClaim := { program := "ytlmefnifhbcbcaa", sum := "07de527858d5031b2d0cf0e52a112ad980658851111cf07c39affdb50a27546e", func := "ferrule/ferrulelaw06.GroupMarks", spec := "groupMarks", unfollowed := true, recurses := true, apart := false }
def GroupMarksSaid : Prop := groupMarksRow.holds Try.pinned (OpenSpec.ofChange groupMarksSpec)

/-- ITS FALSE NEIGHBOUR: 'it returns false'. Refute it at one input. -/
def groupMarksWrong : ChangeSpec := { name := "groupMarks", fn := fun _ => fun
  | [d1, d2, d3] => { results := [.lit (.bool false)], args := [d1, d2, d3] }
  | _ => none }
def GroupMarksWrongFalsely : Prop := groupMarksRow.holds Try.pinned (OpenSpec.ofChange groupMarksWrong)

/-- 'ferrulelaw06.GroupMay': WHATEVER THE INPUT: true; the input reads as it did. -/
def groupMaySpec : ChangeSpec := { name := "groupMay", fn := fun _ => fun
  | [d1, d2] => { results := [.lit (.bool true)], args := [d1, d2] }
  | _ => none }
def groupMayRow : OpenClaim := { program := "ytlmefnifhbcbcaa", sum := "07de527858d5031b2d0cf0e52a112ad980658851111cf07c39affdb50a27546e", func := "ferrule/ferrulelaw06.GroupMay", spec := "groupMay", unfollowed := true, recurses := true, apart := false }
def GroupMaySaid : Prop := groupMayRow.holds Try.pinned (OpenSpec.ofChange groupMaySpec)

/-- ITS FALSE NEIGHBOUR: 'it returns false'. Refute it at one input. -/
def groupMayWrong : ChangeSpec := { name := "groupMay", fn := fun _ => fun
  | [d1, d2] => { results := [.lit (.bool false)], args := [d1, d2] }
  | _ => none }
def GroupMayWrongFalsely : Prop := groupMayRow.holds Try.pinned (OpenSpec.ofChange groupMayWrong)

/-- 'ferrulelaw06.GroupMeets': WHATEVER THE INPUT: true; the input reads as it did. -/
def groupMeetsSpec : ChangeSpec := { name := "groupMeets", fn := fun _ => fun
  | [d] => { results := [.lit (.bool true)], args := [d] }
  | _ => none }
def groupMeetsRow : OpenClaim := { program := "ytlmefnifhbcbcaa", sum := "07de527858d5031b2d0cf0e52a112ad980658851111cf07c39affdb50a27546e", func := "ferrule/ferrulelaw06.GroupMeets", spec := "groupMeets", unfollowed := true, recurses := true, apart := false }
def GroupMeetsSaid : Prop := groupMeetsRow.holds Try.pinned (OpenSpec.ofChange groupMeetsSpec)

/-- ITS FALSE NEIGHBOUR: 'it returns false'. Refute it at one input. -/
def groupMeetsWrong : ChangeSpec := { name := "groupMeets", fn := fun _ => fun
  | [d] => { results := [.lit (.bool false)], args := [d] }
  | _ => none }
def GroupMeetsWrongFalsely : Prop := groupMeetsRow.holds Try.pinned (OpenSpec.ofChange groupMeetsWrong)

/-- 'ferrulelaw06.GroupRises': WHATEVER THE INPUT: true; the input reads as it did. -/
def groupRisesSpec : ChangeSpec := { name := "groupRises", fn := fun _ => fun
  | [d] => { results := [.lit (.bool true)], args := [d] }
  | _ => none }
def groupRisesRow : OpenClaim := { program := "ytlmefnifhbcbcaa", sum := "07de527858d5031b2d0cf0e52a112ad980658851111cf07c39affdb50a27546e", func := "ferrule/ferrulelaw06.GroupRises", spec := "groupRises", unfollowed := true, recurses := true, apart := false }
def GroupRisesSaid : Prop := groupRisesRow.holds Try.pinned (OpenSpec.ofChange groupRisesSpec)

/-- ITS FALSE NEIGHBOUR: 'it returns false'. Refute it at one input. -/
def groupRisesWrong : ChangeSpec := { name := "groupRises", fn := fun _ => fun
  | [d] => { results := [.lit (.bool false)], args := [d] }
  | _ => none }
def GroupRisesWrongFalsely : Prop := groupRisesRow.holds Try.pinned (OpenSpec.ofChange groupRisesWrong)

/-- 'ferrulelaw06.GroupBytes': WHATEVER THE INPUT: true; the input reads as it did. -/
def groupBytesSpec : ChangeSpec := { name := "groupBytes", fn := fun _ => fun
  | [d1, d2] => { results := [.lit (.bool true)], args := [d1, d2] }
  | _ => none }
def groupBytesRow : OpenClaim := { program := "ytlmefnifhbcbcaa", sum := "07de527858d5031b2d0cf0e52a112ad980658851111cf07c39affdb50a27546e", func := "ferrule/ferrulelaw06.GroupBytes", spec := "groupBytes", inPlace := ["internal/abi.NoEscape"], unfollowed := true, recurses := true, apart := false }
def GroupBytesSaid : Prop := groupBytesRow.holds Try.pinned (OpenSpec.ofChange groupBytesSpec)

/-- ITS FALSE NEIGHBOUR: 'it returns false'. Refute it at one input. -/
def groupBytesWrong : ChangeSpec := { name := "groupBytes", fn := fun _ => fun
  | [d1, d2] => { results := [.lit (.bool false)], args := [d1, d2] }
  | _ => none }
def GroupBytesWrongFalsely : Prop := groupBytesRow.holds Try.pinned (OpenSpec.ofChange groupBytesWrong)

/-- 'ferrulelaw06.GroupBack': WHATEVER THE INPUT: true; the input reads as it did. -/
def groupBackSpec : ChangeSpec := { name := "groupBack", fn := fun _ => fun
  | [d] => { results := [.lit (.bool true)], args := [d] }
  | _ => none }
def groupBackRow : OpenClaim := { program := "ytlmefnifhbcbcaa", sum := "07de527858d5031b2d0cf0e52a112ad980658851111cf07c39affdb50a27546e", func := "ferrule/ferrulelaw06.GroupBack", spec := "groupBack", inPlace := ["internal/abi.NoEscape"], unfollowed := true, recurses := true, apart := false }
def GroupBackSaid : Prop := groupBackRow.holds Try.pinned (OpenSpec.ofChange groupBackSpec)

/-- ITS FALSE NEIGHBOUR: 'it returns false'. Refute it at one input. -/
def groupBackWrong : ChangeSpec := { name := "groupBack", fn := fun _ => fun
  | [d] => { results := [.lit (.bool false)], args := [d] }
  | _ => none }
def GroupBackWrongFalsely : Prop := groupBackRow.holds Try.pinned (OpenSpec.ofChange groupBackWrong)

/- THE SECOND FORM. 'bulk': how many values and letters a reading holds, each counted each time it is reached (what is shared counts as often as it is met; a slice's spare places count too). A statement '..UptoSaid' is the law's where the arguments, and the package variables that the reading takes, are together of bulk at most 1048576: NARROWER than '..Said'. Prove '..Said' where nothing that the law and all that it calls make is longer than what came in: it says more and counts as full. Else prove '..UptoSaid'. A law counts once. -/
mutual
def uptoBulk {H : Type} : DataW H → Nat
  | .lit (.string bytes) => bytes.length + 1
  | .lit _ => 1
  | .nil => 1
  | .ptr d => uptoBulk d + 1
  | .slice elems spare => uptoBulkAll elems + uptoBulkAll spare + 1
  | .agg parts => uptoBulkAll parts + 1
  | .iface _ d => uptoBulk d + 1
  | .map entries => uptoBulkEntries entries + 1
  | .held _ => 1
def uptoBulkAll {H : Type} : List (DataW H) → Nat
  | [] => 0
  | d :: r => uptoBulk d + uptoBulkAll r
def uptoBulkEntries {H : Type} : List (Lit × DataW H) → Nat
  | [] => 0
  | x :: r => uptoBulkEntry x + uptoBulkEntries r
def uptoBulkEntry {H : Type} : Lit × DataW H → Nat
  | (.string bytes, d) => bytes.length + uptoBulk d + 1
  | (_, d) => uptoBulk d + 1
 end
def uptoSmall : (H : Type) → List (DataW H) → Bool := fun _ ds => decide (uptoBulkAll ds ≤ 1048576)
def OpenSpec.upto (s : _root_.Go.ChangeSpec) : _root_.Go.OpenSpec := { _root_.Go.OpenSpec.ofChange s with cond := some uptoSmall }

/-- 'ferrulelaw10.LeaseBounds', WHERE WHAT IT READS IS OF BULK AT MOST 1048576: true; the input reads as it did. -/
def leaseBoundsUptoRow : OpenClaim := { program := "ytlmefnifhbcbcaa", sum := "07de527858d5031b2d0cf0e52a112ad980658851111cf07c39affdb50a27546e", func := "ferrule/ferrulelaw10.LeaseBounds", spec := "leaseBounds", inPlace := ["math/bits.Add64"], unfollowed := true, recurses := true, named := ["math/bits.divideError", "math/bits.overflowError"], apart := false, narrowed := true }
def LeaseBoundsUptoSaid : Prop := leaseBoundsUptoRow.holds Try.pinned (OpenSpec.upto leaseBoundsSpec)

/-- 'ferrulelaw10.LeaseUntil', WHERE WHAT IT READS IS OF BULK AT MOST 1048576: true; the input reads as it did. -/
def leaseUntilUptoRow : OpenClaim := { program := "ytlmefnifhbcbcaa", sum := "07de527858d5031b2d0cf0e52a112ad980658851111cf07c39affdb50a27546e", func := "ferrule/ferrulelaw10.LeaseUntil", spec := "leaseUntil", inPlace := ["math/bits.Add64"], unfollowed := true, recurses := true, named := ["math/bits.divideError", "math/bits.overflowError"], apart := false, narrowed := true }
def LeaseUntilUptoSaid : Prop := leaseUntilUptoRow.holds Try.pinned (OpenSpec.upto leaseUntilSpec)

/-- 'ferrulelaw10.LeaseLess', WHERE WHAT IT READS IS OF BULK AT MOST 1048576: true; the input reads as it did. -/
def leaseLessUptoRow : OpenClaim := { program := "ytlmefnifhbcbcaa", sum := "07de527858d5031b2d0cf0e52a112ad980658851111cf07c39affdb50a27546e", func := "ferrule/ferrulelaw10.LeaseLess", spec := "leaseLess", inPlace := ["math/bits.Add64"], unfollowed := true, recurses := true, named := ["math/bits.divideError", "math/bits.overflowError"], apart := false, narrowed := true }
def LeaseLessUptoSaid : Prop := leaseLessUptoRow.holds Try.pinned (OpenSpec.upto leaseLessSpec)

/-- 'ferrulelaw10.LeaseMost', WHERE WHAT IT READS IS OF BULK AT MOST 1048576: true; the input reads as it did. -/
def leaseMostUptoRow : OpenClaim := { program := "ytlmefnifhbcbcaa", sum := "07de527858d5031b2d0cf0e52a112ad980658851111cf07c39affdb50a27546e", func := "ferrule/ferrulelaw10.LeaseMost", spec := "leaseMost", inPlace := ["math/bits.Add64"], unfollowed := true, recurses := true, named := ["math/bits.divideError", "math/bits.overflowError"], apart := false, narrowed := true }
def LeaseMostUptoSaid : Prop := leaseMostUptoRow.holds Try.pinned (OpenSpec.upto leaseMostSpec)

/-- 'ferrulelaw10.LeaseWithin', WHERE WHAT IT READS IS OF BULK AT MOST 1048576: true; the input reads as it did. -/
def leaseWithinUptoRow : OpenClaim := { program := "ytlmefnifhbcbcaa", sum := "07de527858d5031b2d0cf0e52a112ad980658851111cf07c39affdb50a27546e", func := "ferrule/ferrulelaw10.LeaseWithin", spec := "leaseWithin", inPlace := ["math/bits.Add64"], unfollowed := true, recurses := true, named := ["math/bits.divideError", "math/bits.overflowError"], apart := false, narrowed := true }
def LeaseWithinUptoSaid : Prop := leaseWithinUptoRow.holds Try.pinned (OpenSpec.upto leaseWithinSpec)

/-- 'ferrulelaw10.LeaseSafe', WHERE WHAT IT READS IS OF BULK AT MOST 1048576: true; the input reads as it did. -/
def leaseSafeUptoRow : OpenClaim := { program := "ytlmefnifhbcbcaa", sum := "07de527858d5031b2d0cf0e52a112ad980658851111cf07c39affdb50a27546e", func := "ferrule/ferrulelaw10.LeaseSafe", spec := "leaseSafe", inPlace := ["math/bits.Add64"], unfollowed := true, recurses := true, named := ["math/bits.divideError", "math/bits.overflowError"], apart := false, narrowed := true }
def LeaseSafeUptoSaid : Prop := leaseSafeUptoRow.holds Try.pinned (OpenSpec.upto leaseSafeSpec)

/-- 'ferrulelaw06.GroupAgrees', WHERE WHAT IT READS IS OF BULK AT MOST 1048576: true; the input reads as it did. -/
def groupAgreesUptoRow : OpenClaim := { program := "ytlmefnifhbcbcaa", sum := "07de527858d5031b2d0cf0e52a112ad980658851111cf07c39affdb50a27546e", func := "ferrule/ferrulelaw06.GroupAgrees", spec := "groupAgrees", unfollowed := true, recurses := true, apart := false, narrowed := true }
def GroupAgreesUptoSaid : Prop := groupAgreesUptoRow.holds Try.pinned (OpenSpec.upto groupAgreesSpec)

/-- 'ferrulelaw06.GroupChanges', WHERE WHAT IT READS IS OF BULK AT MOST 1048576: true; the input reads as it did. -/
def groupChangesUptoRow : OpenClaim := { program := "ytlmefnifhbcbcaa", sum := "07de527858d5031b2d0cf0e52a112ad980658851111cf07c39affdb50a27546e", func := "ferrule/ferrulelaw06.GroupChanges", spec := "groupChanges", unfollowed := true, recurses := true, apart := false, narrowed := true }
def GroupChangesUptoSaid : Prop := groupChangesUptoRow.holds Try.pinned (OpenSpec.upto groupChangesSpec)

/-- 'ferrulelaw06.GroupMarks', WHERE WHAT IT READS IS OF BULK AT MOST 1048576: true; the input reads as it did. -/
def groupMarksUptoRow : OpenClaim := { program := "ytlmefnifhbcbcaa", sum := "07de527858d5031b2d0cf0e52a112ad980658851111cf07c39affdb50a27546e", func := "ferrule/ferrulelaw06.GroupMarks", spec := "groupMarks", unfollowed := true, recurses := true, apart := false, narrowed := true }
def GroupMarksUptoSaid : Prop := groupMarksUptoRow.holds Try.pinned (OpenSpec.upto groupMarksSpec)

/-- 'ferrulelaw06.GroupMay', WHERE WHAT IT READS IS OF BULK AT MOST 1048576: true; the input reads as it did. -/
def groupMayUptoRow : OpenClaim := { program := "ytlmefnifhbcbcaa", sum := "07de527858d5031b2d0cf0e52a112ad980658851111cf07c39affdb50a27546e", func := "ferrule/ferrulelaw06.GroupMay", spec := "groupMay", unfollowed := true, recurses := true, apart := false, narrowed := true }
def GroupMayUptoSaid : Prop := groupMayUptoRow.holds Try.pinned (OpenSpec.upto groupMaySpec)

/-- 'ferrulelaw06.GroupMeets', WHERE WHAT IT READS IS OF BULK AT MOST 1048576: true; the input reads as it did. -/
def groupMeetsUptoRow : OpenClaim := { program := "ytlmefnifhbcbcaa", sum := "07de527858d5031b2d0cf0e52a112ad980658851111cf07c39affdb50a27546e", func := "ferrule/ferrulelaw06.GroupMeets", spec := "groupMeets", unfollowed := true, recurses := true, apart := false, narrowed := true }
def GroupMeetsUptoSaid : Prop := groupMeetsUptoRow.holds Try.pinned (OpenSpec.upto groupMeetsSpec)

/-- 'ferrulelaw06.GroupRises', WHERE WHAT IT READS IS OF BULK AT MOST 1048576: true; the input reads as it did. -/
def groupRisesUptoRow : OpenClaim := { program := "ytlmefnifhbcbcaa", sum := "07de527858d5031b2d0cf0e52a112ad980658851111cf07c39affdb50a27546e", func := "ferrule/ferrulelaw06.GroupRises", spec := "groupRises", unfollowed := true, recurses := true, apart := false, narrowed := true }
def GroupRisesUptoSaid : Prop := groupRisesUptoRow.holds Try.pinned (OpenSpec.upto groupRisesSpec)

/-- 'ferrulelaw06.GroupBytes', WHERE WHAT IT READS IS OF BULK AT MOST 1048576: true; the input reads as it did. -/
def groupBytesUptoRow : OpenClaim := { program := "ytlmefnifhbcbcaa", sum := "07de527858d5031b2d0cf0e52a112ad980658851111cf07c39affdb50a27546e", func := "ferrule/ferrulelaw06.GroupBytes", spec := "groupBytes", inPlace := ["internal/abi.NoEscape"], unfollowed := true, recurses := true, apart := false, narrowed := true }
def GroupBytesUptoSaid : Prop := groupBytesUptoRow.holds Try.pinned (OpenSpec.upto groupBytesSpec)

/-- 'ferrulelaw06.GroupBack', WHERE WHAT IT READS IS OF BULK AT MOST 1048576: true; the input reads as it did. -/
def groupBackUptoRow : OpenClaim := { program := "ytlmefnifhbcbcaa", sum := "07de527858d5031b2d0cf0e52a112ad980658851111cf07c39affdb50a27546e", func := "ferrule/ferrulelaw06.GroupBack", spec := "groupBack", inPlace := ["internal/abi.NoEscape"], unfollowed := true, recurses := true, apart := false, narrowed := true }
def GroupBackUptoSaid : Prop := groupBackUptoRow.holds Try.pinned (OpenSpec.upto groupBackSpec)

end Rows
end Go.Proofs.Ytlmefnifhbcbcaa
