/-
  The contract of the reference's Decode.
-/
import Derived.Test.YtbkpholkjgjicaaGreatCodP
import Derived.Test.YtbkpholkjgjicaaGreatBytes
import Derived.Deep.RegionHeld3
import Derived.Deep.DrawnRows
import Derived.IntWalk
namespace Go.Proofs.YtbkpholkjgjicaaGreat
set_option linter.unusedVariables false
open Go.RowKit
attribute [local go_sem ↓] Go.wp_at_zero Go.wp_at_succ

theorem W2c (x0 : Nat) (A3 : Option Addr) (N c3 : Nat) : ∀ u ∈ [(.int .i64 (x0 : Int) : Value), .slice A3 N c3], u.oneCell' = true := by simp [Value.oneCell']
end Go.Proofs.YtbkpholkjgjicaaGreat
