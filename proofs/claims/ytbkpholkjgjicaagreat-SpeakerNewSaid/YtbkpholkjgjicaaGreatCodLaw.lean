/-
  A range over a function whose iterator keeps a state of its own: the statement, and one round; the caller gives the iterator's contract at its own invariant.
-/
import Derived.RangeFuncNested
import Derived.RangeFuncBound
import Derived.RangeFuncCalls
import Derived.RangeFuncLeaves
import Derived.Test.YtbkpholkjgjicaaGreatMem
namespace Go.Proofs.YtbkpholkjgjicaaGreat
set_option linter.unusedVariables false
open Go.RowKit

section
variable {F : Fence} {n : Nat} {P : Program}

/-- The loop's record. -/
def lrec (fn : FuncId) (tmps : Array Value) (ps : Array Tmp) (assign body : Code) (D : Nat) (st : LoopState) (pe : Option Code) : Loop :=
  { state := st, pending := pe, fn, tmps, params := ps, assign, body, defers := D }

end

end Go.Proofs.YtbkpholkjgjicaaGreat
