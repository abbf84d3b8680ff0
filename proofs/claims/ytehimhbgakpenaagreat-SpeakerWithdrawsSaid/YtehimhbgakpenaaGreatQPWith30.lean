/-
  The texts MsRV, MsRP, one after the other.
-/
import Derived.Test.YtehimhbgakpenaaGreatQPWith29
import Derived.Test.YtehimhbgakpenaaGreatQPWith9
import Derived.Test.YtehimhbgakpenaaGreatQPWith16
import Derived.Test.YtehimhbgakpenaaGreatQPWith17
import Derived.Deep.RegionLaw
namespace Go.Proofs.YtehimhbgakpenaaGreat
set_option linter.unusedVariables false
open Go.RowKit Go.Sort
end Go.Proofs.YtehimhbgakpenaaGreat

namespace Go.Proofs.YtehimhbgakpenaaGreat
set_option linter.unusedVariables false
open Go.RowKit Go.Sort
end Go.Proofs.YtehimhbgakpenaaGreat
