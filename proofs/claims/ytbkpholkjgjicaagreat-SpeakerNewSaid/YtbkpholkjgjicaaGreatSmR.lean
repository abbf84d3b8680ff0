/-
  The contracts of the reference's Few, Contents, Same, Equal, sign.
-/
import Derived.Test.YtbkpholkjgjicaaGreatTake
import Derived.Test.YtbkpholkjgjicaaGreatEqS
namespace Go.Proofs.YtbkpholkjgjicaaGreat
set_option linter.unusedVariables false
open Go.RowKit

def fewB (x : La) : Bool := decide (x.adj.length ≤ 300) && decide (x.pre.length ≤ 100)
def conB (x y : La) : Bool := (x.ov == y.ov) && (decide (x.adj = y.adj) && decide (x.pre = y.pre))
theorem conB_iff {x y : La} : conB x y = true ↔ x.ov = y.ov ∧ x.adj = y.adj ∧ x.pre = y.pre := by simp [conB]

end Go.Proofs.YtbkpholkjgjicaaGreat
