/-
  No cell of these rows narrows 'for every input' (looked for: loops, veiled, ifaces, maps, wideKeys, modest, calm, conditions, laid).
  DERIVED. THE GIVEN ROWS OF THIS SEAT. 6 by the template 'for every input the law returns true; each argument reads behind the call as it read before'; 0 by the template 'total and deterministic' (their statements: YtkennobdoldlkaaTotals.lean).
  GIVEN WITH THE SEED: the statements are not yours to turn. If you find one false, say at which input.
  Laid BY PROGRAM, IN A SANDBOX (cutbox-rows.mjs): the forced cells as the released guide's own fill.sh prints them over the translation b5a4107d16fe2efc… (all of the seat's roots in one cut). By AI agents, Wed Nov 11 2026. No macro, syntax, notation, axiom, sorry.
-/
import Derived.Test.YtkennobdoldlkaaChecked
import GoSem.Claim
import GoSem.ClaimJoined
import GoSem.ClaimMapViews
import Derived.JoinedTies
import Derived.KernelRfl
namespace Go.Proofs.Ytkennobdoldlkaa
/- THE CELL 'sum', in the pinned program and in every row, IS THE sha256 OF THE DUMP (.gsa) THAT YtkennobdoldlkaaProg.lean LOADS. Nothing in Lean hashes anything: it is a label: what it is worth is what the hold of that sum in a sandbox is worth. -/
noncomputable def Try.pinned : Pinned := { name := "ytkennobdoldlkaa", sum := "b5a4107d16fe2efcd5bcc2a77249b9d6644fa115481c747fc6e5484ff0216666", checked := Try.checked }
namespace Rows
def none {H : Type} : Left H := { results := [], args := [] }

/-- 'ferrulelaw20.DriveSteps': WHATEVER THE INPUT: true; the input reads as it did. -/
def driveStepsSpec : ChangeSpec := { name := "driveSteps", fn := fun _ => fun
  | [d1, d2] => { results := [.lit (.bool true)], args := [d1, d2] }
  | _ => none }
def driveStepsRow : OpenClaim := { program := "ytkennobdoldlkaa", sum := "b5a4107d16fe2efcd5bcc2a77249b9d6644fa115481c747fc6e5484ff0216666", func := "ferrule/ferrulelaw20.DriveSteps", spec := "driveSteps", unfollowed := true, recurses := true, apart := false }
def DriveStepsSaid : Prop := driveStepsRow.holds Try.pinned (OpenSpec.ofChange driveStepsSpec)

/-- ITS FALSE NEIGHBOUR: 'it returns false'. Refute it at one input. -/
def driveStepsWrong : ChangeSpec := { name := "driveSteps", fn := fun _ => fun
  | [d1, d2] => { results := [.lit (.bool false)], args := [d1, d2] }
  | _ => none }
def DriveStepsWrongFalsely : Prop := driveStepsRow.holds Try.pinned (OpenSpec.ofChange driveStepsWrong)

/-- 'ferrulelaw20.DriveCommits': WHATEVER THE INPUT: true; the input reads as it did. -/
def driveCommitsSpec : ChangeSpec := { name := "driveCommits", fn := fun _ => fun
  | [d1, d2] => { results := [.lit (.bool true)], args := [d1, d2] }
  | _ => none }
def driveCommitsRow : OpenClaim := { program := "ytkennobdoldlkaa", sum := "b5a4107d16fe2efcd5bcc2a77249b9d6644fa115481c747fc6e5484ff0216666", func := "ferrule/ferrulelaw20.DriveCommits", spec := "driveCommits", unfollowed := true, recurses := true, apart := false }
def DriveCommitsSaid : Prop := driveCommitsRow.holds Try.pinned (OpenSpec.ofChange driveCommitsSpec)

/-- ITS FALSE NEIGHBOUR: 'it returns false'. Refute it at one input. -/
def driveCommitsWrong : ChangeSpec := { name := "driveCommits", fn := fun _ => fun
  | [d1, d2] => { results := [.lit (.bool false)], args := [d1, d2] }
  | _ => none }
def DriveCommitsWrongFalsely : Prop := driveCommitsRow.holds Try.pinned (OpenSpec.ofChange driveCommitsWrong)

/-- 'ferrulelaw20.DriveSees': WHATEVER THE INPUT: true; the input reads as it did. -/
def driveSeesSpec : ChangeSpec := { name := "driveSees", fn := fun _ => fun
  | [d1, d2] => { results := [.lit (.bool true)], args := [d1, d2] }
  | _ => none }
def driveSeesRow : OpenClaim := { program := "ytkennobdoldlkaa", sum := "b5a4107d16fe2efcd5bcc2a77249b9d6644fa115481c747fc6e5484ff0216666", func := "ferrule/ferrulelaw20.DriveSees", spec := "driveSees", unfollowed := true, recurses := true, apart := false }
def DriveSeesSaid : Prop := driveSeesRow.holds Try.pinned (OpenSpec.ofChange driveSeesSpec)

/-- ITS FALSE NEIGHBOUR: 'it returns false'. Refute it at one input. -/
def driveSeesWrong : ChangeSpec := { name := "driveSees", fn := fun _ => fun
  | [d1, d2] => { results := [.lit (.bool false)], args := [d1, d2] }
  | _ => none }
def DriveSeesWrongFalsely : Prop := driveSeesRow.holds Try.pinned (OpenSpec.ofChange driveSeesWrong)

/-- 'ferrulelaw20.DrivePlans': WHATEVER THE INPUT: true; the input reads as it did. -/
def drivePlansSpec : ChangeSpec := { name := "drivePlans", fn := fun _ => fun
  | [d1, d2] => { results := [.lit (.bool true)], args := [d1, d2] }
  | _ => none }
def drivePlansRow : OpenClaim := { program := "ytkennobdoldlkaa", sum := "b5a4107d16fe2efcd5bcc2a77249b9d6644fa115481c747fc6e5484ff0216666", func := "ferrule/ferrulelaw20.DrivePlans", spec := "drivePlans", unfollowed := true, recurses := true, apart := false }
def DrivePlansSaid : Prop := drivePlansRow.holds Try.pinned (OpenSpec.ofChange drivePlansSpec)

/-- ITS FALSE NEIGHBOUR: 'it returns false'. Refute it at one input. -/
def drivePlansWrong : ChangeSpec := { name := "drivePlans", fn := fun _ => fun
  | [d1, d2] => { results := [.lit (.bool false)], args := [d1, d2] }
  | _ => none }
def DrivePlansWrongFalsely : Prop := drivePlansRow.holds Try.pinned (OpenSpec.ofChange drivePlansWrong)

/-- 'ferrulelaw20.DriveEnds': WHATEVER THE INPUT: true; the input reads as it did. -/
def driveEndsSpec : ChangeSpec := { name := "driveEnds", fn := fun _ => fun
  | [d1, d2, d3] => { results := [.lit (.bool true)], args := [d1, d2, d3] }
  | _ => none }
def driveEndsRow : OpenClaim := { program := "ytkennobdoldlkaa", sum := "b5a4107d16fe2efcd5bcc2a77249b9d6644fa115481c747fc6e5484ff0216666", func := "ferrule/ferrulelaw20.DriveEnds", spec := "driveEnds", unfollowed := true, recurses := true, apart := false }
def DriveEndsSaid : Prop := driveEndsRow.holds Try.pinned (OpenSpec.ofChange driveEndsSpec)

/-- ITS FALSE NEIGHBOUR: 'it returns false'. Refute it at one input. -/
def driveEndsWrong : ChangeSpec := { name := "driveEnds", fn := fun _ => fun
  | [d1, d2, d3] => { results := [.lit (.bool false)], args := [d1, d2, d3] }
  | _ => none }
def DriveEndsWrongFalsely : Prop := driveEndsRow.holds Try.pinned (OpenSpec.ofChange driveEndsWrong)

/-- 'ferrulelaw20.DriveSame': WHATEVER THE INPUT: true; the input reads as it did. -/
def driveSameSpec : ChangeSpec := { name := "driveSame", fn := fun _ => fun
  | [d1, d2] => { results := [.lit (.bool true)], args := [d1, d2] }
  | _ => none }
def driveSameRow : OpenClaim := { program := "ytkennobdoldlkaa", sum := "b5a4107d16fe2efcd5bcc2a77249b9d6644fa115481c747fc6e5484ff0216666", func := "ferrule/ferrulelaw20.DriveSame", spec := "driveSame", unfollowed := true, recurses := true, apart := false }
def DriveSameSaid : Prop := driveSameRow.holds Try.pinned (OpenSpec.ofChange driveSameSpec)

/-- ITS FALSE NEIGHBOUR: 'it returns false'. Refute it at one input. -/
def driveSameWrong : ChangeSpec := { name := "driveSame", fn := fun _ => fun
  | [d1, d2] => { results := [.lit (.bool false)], args := [d1, d2] }
  | _ => none }
def DriveSameWrongFalsely : Prop := driveSameRow.holds Try.pinned (OpenSpec.ofChange driveSameWrong)

/- THE SECOND FORM. 'bulk': how many values and letters a reading holds, each counted each time it is reached (what is shared counts as often as it is met; a slice's spare places count too). A statement '..UptoSaid' is the law's where the arguments, and the package variables that the reading takes, are together of bulk at most 1048576: NARROWER than '..Said'. Prove '..Said' where nothing that the law and all that it calls make is longer than what came in: it says more and counts as full. Else prove '..UptoSaid'. A law counts once. -/
mutual
def uptoBulk {H : Type} : DataW H → Nat
  | .lit (.string bytes) => bytes.length + 1
  | .lit _ => 1
  | .nil => 1
  | .ptr d => uptoBulk d + 1
  | .slice elems spare => uptoBulkAll elems + uptoBulkAll spare + 1
  | .agg parts => uptoBulkAll parts + 1
  | .iface _ d => uptoBulk d + 1
  | .map entries => uptoBulkEntries entries + 1
  | .held _ => 1
def uptoBulkAll {H : Type} : List (DataW H) → Nat
  | [] => 0
  | d :: r => uptoBulk d + uptoBulkAll r
def uptoBulkEntries {H : Type} : List (Lit × DataW H) → Nat
  | [] => 0
  | x :: r => uptoBulkEntry x + uptoBulkEntries r
def uptoBulkEntry {H : Type} : Lit × DataW H → Nat
  | (.string bytes, d) => bytes.length + uptoBulk d + 1
  | (_, d) => uptoBulk d + 1
 end
def uptoSmall : (H : Type) → List (DataW H) → Bool := fun _ ds => decide (uptoBulkAll ds ≤ 1048576)
def OpenSpec.upto (s : _root_.Go.ChangeSpec) : _root_.Go.OpenSpec := { _root_.Go.OpenSpec.ofChange s with cond := some uptoSmall }

/-- 'ferrulelaw20.DriveSteps', WHERE WHAT IT READS IS OF BULK AT MOST 1048576: true; the input reads as it did. -/
def driveStepsUptoRow : OpenClaim := { program := "ytkennobdoldlkaa", sum := "b5a4107d16fe2efcd5bcc2a77249b9d6644fa115481c747fc6e5484ff0216666", func := "ferrule/ferrulelaw20.DriveSteps", spec := "driveSteps", unfollowed := true, recurses := true, apart := false, narrowed := true }
def DriveStepsUptoSaid : Prop := driveStepsUptoRow.holds Try.pinned (OpenSpec.upto driveStepsSpec)

/-- 'ferrulelaw20.DriveCommits', WHERE WHAT IT READS IS OF BULK AT MOST 1048576: true; the input reads as it did. -/
def driveCommitsUptoRow : OpenClaim := { program := "ytkennobdoldlkaa", sum := "b5a4107d16fe2efcd5bcc2a77249b9d6644fa115481c747fc6e5484ff0216666", func := "ferrule/ferrulelaw20.DriveCommits", spec := "driveCommits", unfollowed := true, recurses := true, apart := false, narrowed := true }
def DriveCommitsUptoSaid : Prop := driveCommitsUptoRow.holds Try.pinned (OpenSpec.upto driveCommitsSpec)

/-- 'ferrulelaw20.DriveSees', WHERE WHAT IT READS IS OF BULK AT MOST 1048576: true; the input reads as it did. -/
def driveSeesUptoRow : OpenClaim := { program := "ytkennobdoldlkaa", sum := "b5a4107d16fe2efcd5bcc2a77249b9d6644fa115481c747fc6e5484ff0216666", func := "ferrule/ferrulelaw20.DriveSees", spec := "driveSees", unfollowed := true, recurses := true, apart := false, narrowed := true }
def DriveSeesUptoSaid : Prop := driveSeesUptoRow.holds Try.pinned (OpenSpec.upto driveSeesSpec)

/-- 'ferrulelaw20.DrivePlans', WHERE WHAT IT READS IS OF BULK AT MOST 1048576: true; the input reads as it did. -/
def drivePlansUptoRow : OpenClaim := { program := "ytkennobdoldlkaa", sum := "b5a4107d16fe2efcd5bcc2a77249b9d6644fa115481c747fc6e5484ff0216666", func := "ferrule/ferrulelaw20.DrivePlans", spec := "drivePlans", unfollowed := true, recurses := true, apart := false, narrowed := true }
def DrivePlansUptoSaid : Prop := drivePlansUptoRow.holds Try.pinned (OpenSpec.upto drivePlansSpec)

/-- 'ferrulelaw20.DriveEnds', WHERE WHAT IT READS IS OF BULK AT MOST 1048576: true; the input reads as it did. -/
def driveEndsUptoRow : OpenClaim := { program := "ytkennobdoldlkaa", sum := "b5a4107d16fe2efcd5bcc2a77249b9d6644fa115481c747fc6e5484ff0216666", func := "ferrule/ferrulelaw20.DriveEnds", spec := "driveEnds", unfollowed := true, recurses := true, apart := false, narrowed := true }
def DriveEndsUptoSaid : Prop := driveEndsUptoRow.holds Try.pinned (OpenSpec.upto driveEndsSpec)

/-- 'ferrulelaw20.DriveSame', WHERE WHAT IT READS IS OF BULK AT MOST 1048576: true; the input reads as it did. -/
def driveSameUptoRow : OpenClaim := { program := "ytkennobdoldlkaa", sum := "b5a4107d16fe2efcd5bcc2a77249b9d6644fa115481c747fc6e5484ff0216666", func := "ferrule/ferrulelaw20.DriveSame", spec := "driveSame", unfollowed := true, recurses := true, apart := false, narrowed := true }
def DriveSameUptoSaid : Prop := driveSameUptoRow.holds Try.pinned (OpenSpec.upto driveSameSpec)

end Rows
end Go.Proofs.Ytkennobdoldlkaa
