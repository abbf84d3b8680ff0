/-
  The iterator that codec.records makes: its rounds. The loop's body is given by two premises on its rounds.
-/
import Derived.RangeFuncNested
import Derived.RangeFuncBound
import Derived.RangeFuncCalls
import Derived.RangeFuncLeaves
import Derived.OwnWalkIn
import Derived.TacticsInMore
import Derived.LoopNIn
import Derived.LoopIn
import Derived.Sort.QuietIn
import Derived.IntWalk
import Derived.Stop.RegionWithIn
import Derived.Test.YtnfldccaeibcpaaCodP
import Derived.Test.YtnfldccaeibcpaaBytes
namespace Go.Proofs.Ytnfldccaeibcpaa
set_option linter.unusedVariables false
open Go.RowKit
attribute [local go_sem] Oper.semAt_some

/-- What the iterator leaves behind. -/
def ItPost (J : List Rec → World → Prop) (Jx : World → Prop) (D : Option (List Rec)) (e : Ending) (w' : World) : Prop :=
  (∃ v, e = .returned v) ∧ ((∃ l, D = some l ∧ J l w') ∨ (D = none ∧ Jx w'))

end Go.Proofs.Ytnfldccaeibcpaa
