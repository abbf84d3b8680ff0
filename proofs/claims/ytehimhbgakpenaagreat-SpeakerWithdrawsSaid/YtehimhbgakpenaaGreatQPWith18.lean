/-
  The texts PfxR, ValR, one after the other.
-/
import Derived.Test.YtehimhbgakpenaaGreatQPWith1
import Derived.Test.YtehimhbgakpenaaGreatQPWith5
namespace Go.Proofs.YtehimhbgakpenaaGreat
set_option linter.unusedVariables false
open Go.RowKit
end Go.Proofs.YtehimhbgakpenaaGreat

namespace Go.Proofs.YtehimhbgakpenaaGreat
set_option linter.unusedVariables false
open Go.RowKit Go.Sort
end Go.Proofs.YtehimhbgakpenaaGreat
