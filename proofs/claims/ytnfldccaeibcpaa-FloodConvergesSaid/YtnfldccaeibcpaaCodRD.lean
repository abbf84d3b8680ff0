/-
  The contract of the reference's Decode.
-/
import Derived.Test.YtnfldccaeibcpaaCodP
import Derived.Test.YtnfldccaeibcpaaBytes
import Derived.Deep.RegionHeld3
import Derived.Deep.DrawnRows
import Derived.IntWalk
namespace Go.Proofs.Ytnfldccaeibcpaa
set_option linter.unusedVariables false
open Go.RowKit
attribute [local go_sem ↓] Go.wp_at_zero Go.wp_at_succ

theorem rrecT' : ElemT Try.prog 148 147 (.agg #[.int .i64 0, .slice none 0 0]) 2 32 := ⟨Try.underlying148, by kernel_rfl, rfl, by omega⟩

theorem W2b {w1 w2 : World} (hb : Below w1.heap.size w1 w2) (x0 : Nat) (A3 : Option Addr) (N c3 : Nat) : Below w1.heap.size w1 (w2.alloc (.cells #[.int .i64 (x0 : Int), .slice A3 N c3] 147)) :=
  (hb.trans ((below_new' w2 _).mono hb.size))
theorem W2o {base2 : Nat} {e : TypeId} {s : Nat} {v : Value} {n : Nat} {xs : List Value} {w1 w2 : World} (hown : w1.ownsRow base2 e s v n xs) (hb : Below w1.heap.size w1 w2) (x0 : Nat) (A3 : Option Addr) (N c3 : Nat) :
    (w2.alloc (.cells #[.int .i64 (x0 : Int), .slice A3 N c3] 147)).ownsRow base2 e s v n xs := own_below hown (W2b hb x0 A3 N c3)
theorem W2c (x0 : Nat) (A3 : Option Addr) (N c3 : Nat) : ∀ u ∈ [(.int .i64 (x0 : Int) : Value), .slice A3 N c3], u.oneCell' = true := by simp [Value.oneCell']
theorem W2r (w2 : World) (x0 : Nat) (A3 : Option Addr) (N c3 : Nat) : Rd (w2.alloc (.cells #[.int .i64 (x0 : Int), .slice A3 N c3] 147)) (some ⟨w2.heap.size, 0, none⟩) [.int .i64 (x0 : Int), .slice A3 N c3] := Rd.lit w2 _ _
end Go.Proofs.Ytnfldccaeibcpaa
