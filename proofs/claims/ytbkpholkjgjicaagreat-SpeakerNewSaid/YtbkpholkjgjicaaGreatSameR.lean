/-
  The contracts of the reference's Same, Equal, Purge.
-/
import Derived.Test.YtbkpholkjgjicaaGreatSmR
namespace Go.Proofs.YtbkpholkjgjicaaGreat
set_option linter.unusedVariables false
open Go.RowKit

def sameB (x y : La) : Bool := (x.o == y.o) && ((x.s == y.s) && (((x.a == 3600) == (y.a == 3600)) && conB x y))
def equB (x y : La) : Bool := sameB x y && (x.a == y.a)
def purgeX (x : La) : La := ⟨x.o, x.s, 3600, false, [], []⟩

theorem purge_own (w : World) (base : Nat) (x : La) : LaOwn w base (laV x.o x.s 3600 false none 0 0 none 0 0) (purgeX x) :=
  ⟨none, 0, none, 0, rfl, World.ownsRow_nil _ _ _ _, World.ownsRow_nil _ _ _ _, by simp [purgeX]⟩

end Go.Proofs.YtbkpholkjgjicaaGreat
