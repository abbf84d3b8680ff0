/-
  The texts CodRN, Fields, FleSum, SealR, one after the other.
-/
import Derived.Test.YtehimhbgakpenaaGreatQPWith3
import Derived.Deep.RegionHeld3
import Derived.IntWalk
import Derived.Test.YtehimhbgakpenaaGreatQPWith2
import Derived.Deep.DeepCutAuto
namespace Go.Proofs.YtehimhbgakpenaaGreat
set_option linter.unusedVariables false
open Go.RowKit
end Go.Proofs.YtehimhbgakpenaaGreat

namespace Go.Proofs.YtehimhbgakpenaaGreat
set_option linter.unusedVariables false
open Go.RowKit
end Go.Proofs.YtehimhbgakpenaaGreat

namespace Go.Proofs.YtehimhbgakpenaaGreat
set_option linter.unusedVariables false
open Go.RowKit
end Go.Proofs.YtehimhbgakpenaaGreat

namespace Go.Proofs.YtehimhbgakpenaaGreat
set_option linter.unusedVariables false
open Go.RowKit
end Go.Proofs.YtehimhbgakpenaaGreat
