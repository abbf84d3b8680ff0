/-
  The contract of lsa.Decode.
-/
import Derived.Test.YtnfldccaeibcpaaAcc
import Derived.Test.YtnfldccaeibcpaaBeq
import Derived.Test.YtnfldccaeibcpaaEnc
import Derived.Test.YtnfldccaeibcpaaCodD
import Derived.Deep.RegionLaw
import Derived.IntWalk
namespace Go.Proofs.Ytnfldccaeibcpaa
set_option linter.unusedVariables false
open Go.RowKit

/-- What Decode leaves. -/
def LdecPost (w : World) (bs : List UInt8) (e : Ending) (w' : World) : Prop :=
  ∃ v, e = .returned (.tuple #[v, .int .i64 (ldecE bs)]) ∧ LaOwn w' w.heap.size v (ldecV bs) ∧ Below w.heap.size w w'

abbrev z6 : List Value := [.int .i64 0, .int .i64 0, .int .i64 0, .bool false, .slice none 0 0, .slice none 0 0]

theorem St.set6 {W w : World} {g : Nat} {bs : List (Nat × List Value)} {rs : List (Option Addr × List Value)} {a0 a1 a2 a3 a4 a5 : Value} (S : St W w ((g, [a0, a1, a2, a3, a4, a5]) :: bs) rs) (o s a : Int) (ov : Bool) (vA vB : Value) (hg : W.heap.size ≤ g) (hd : ∀ x ∈ bs, x.1 ≠ g) :
    St W ((((((w.setCell ⟨g, 0, none⟩ (.int .i64 o)).setCell ⟨g, 1, none⟩ (.int .i64 s)).setCell ⟨g, 2, none⟩ (.int .i64 a)).setCell ⟨g, 3, none⟩ (.bool ov)).setCell ⟨g, 4, none⟩ vA).setCell ⟨g, 5, none⟩ vB) ((g, [.int .i64 o, .int .i64 s, .int .i64 a, .bool ov, vA, vB]) :: bs) rs :=
  (((((S.set 0 0 (.int .i64 o) rfl (by simp) hg hd _ rfl).set 0 1 (.int .i64 s) rfl (by simp) hg hd _ rfl).set 0 2 (.int .i64 a) rfl (by simp) hg hd _ rfl).set 0 3 (.bool ov) rfl (by simp) hg hd _ rfl).set 0 4 vA rfl (by simp) hg hd _ rfl).set 0 5 vB rfl (by simp) hg hd _ rfl

theorem own_set6 {w : World} {base : Nat} {e : TypeId} {size : Nat} {v : Value} {n : Nat} {xs : List Value} (h : w.ownsRow base e size v n xs) {g : Nat} (hg : g < base) (u0 u1 u2 u3 u4 u5 : Value) :
    ((((((w.setCell ⟨g, 0, none⟩ u0).setCell ⟨g, 1, none⟩ u1).setCell ⟨g, 2, none⟩ u2).setCell ⟨g, 3, none⟩ u3).setCell ⟨g, 4, none⟩ u4).setCell ⟨g, 5, none⟩ u5).ownsRow base e size v n xs :=
  ownsRow_setCell_below (a := ⟨g, 5, none⟩) (ownsRow_setCell_below (a := ⟨g, 4, none⟩) (ownsRow_setCell_below (a := ⟨g, 3, none⟩) (ownsRow_setCell_below (a := ⟨g, 2, none⟩) (ownsRow_setCell_below (a := ⟨g, 1, none⟩) (ownsRow_setCell_below (a := ⟨g, 0, none⟩) h hg _) hg _) hg _) hg _) hg _) hg _

end Go.Proofs.Ytnfldccaeibcpaa
