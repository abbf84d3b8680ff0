/-
  The contracts of the reference's Number and Uint.
-/
import Derived.Test.YtbkpholkjgjicaaGreatCodN
namespace Go.Proofs.YtbkpholkjgjicaaGreat
set_option linter.unusedVariables false
open Go.RowKit

theorem div_pow256 (m j : Nat) : ((m / 256 ^ j : Nat) : Int) / 256 = ((m / 256 ^ (j + 1) : Nat) : Int) := by
  rw [show (256 : Int) = ((256 : Nat) : Int) from rfl, ← Int.natCast_ediv, Nat.div_div_eq_div_mul, Nat.pow_succ]

end Go.Proofs.YtbkpholkjgjicaaGreat
