/-
  The contract of the reference's Prefix.
-/
import Derived.Test.YtbkpholkjgjicaaGreatPfx
namespace Go.Proofs.YtbkpholkjgjicaaGreat
set_option linter.unusedVariables false
open Go.RowKit

theorem and1 (a : Nat) (ha : a < 4294967296) : bits .and .u32 (a : Int) 1 = ((a % 2 : Nat) : Int) := by
  show IntKind.u32.wrap ((BitVec.ofInt 32 (a : Int) &&& BitVec.ofInt 32 1).toNat : Int) = _
  have e : (BitVec.ofInt 32 (a : Int) &&& BitVec.ofInt 32 1).toNat = a % 2 := by
    rw [BitVec.toNat_and, bv_of a 32 (by omega), show (BitVec.ofInt 32 1).toNat = 2 ^ 1 - 1 from rfl, Nat.and_two_pow_sub_one_eq_mod]
  rw [e, IntKind.wrap_u32]
  omega
theorem mod_bit (x j : Nat) : x % 2 ^ (j + 1) = x % 2 ^ j + 2 ^ j * (x / 2 ^ j % 2) := by rw [Nat.pow_succ, Nat.mod_mul]

end Go.Proofs.YtbkpholkjgjicaaGreat
