/-
  The contract of the reference's Valid. Printed by wip/tools/gen32v.py.
-/
import Derived.Test.YtbkpholkjgjicaaGreatValW
import Derived.Test.YtbkpholkjgjicaaGreatPfxR
namespace Go.Proofs.YtbkpholkjgjicaaGreat
set_option linter.unusedVariables false
open Go.RowKit Go.Sort

theorem cmpP_lt {x l y m : Int} : cmpP x l y m < 0 ↔ (x < y ∨ x = y ∧ l < m) := by
  unfold cmpP orI cmpI
  repeat' split
  all_goals omega

end Go.Proofs.YtbkpholkjgjicaaGreat
