/- Joined texts of the claim LeaseLess (part 43): contracts of functions and plain laws. -/
import Derived.Test.YtlmefnifhbcbcaaJLeaseLess21
import Derived.Test.YtlmefnifhbcbcaaJLeaseLess42
section
/- What the laws' arguments read as: leases. -/
namespace Go.Proofs.Ytlmefnifhbcbcaa.PAll
open Go.RowKit Go.Proofs.YtlmefnifhbcbcaaW.PrintWords Go.Proofs.Ytlmefnifhbcbcaa
set_option linter.unusedVariables false
structure S31 where
  f0 : S28
  f1 : Int
  f2 : Int
  f3 : (List S39)
  f4 : Int
  f5 : Int
structure S37 where
  f0 : S28
  f1 : Int
  f2 : (List S39)
  f3 : Int
  f4 : Int
structure S42 where
  f0 : Int
  f1 : Int
  f2 : Int
  f3 : Int
  f4 : Int
end Go.Proofs.Ytlmefnifhbcbcaa.PAll
end
