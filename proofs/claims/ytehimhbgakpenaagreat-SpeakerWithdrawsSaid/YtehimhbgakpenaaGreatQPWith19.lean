/-
  The texts CodRD, DecR, one after the other.
-/
import Derived.Test.YtehimhbgakpenaaGreatQPWith1
import Derived.Deep.RegionHeld3
import Derived.Deep.DrawnRows
import Derived.IntWalk
import Derived.Test.YtehimhbgakpenaaGreatQPWith14
import Derived.Test.YtehimhbgakpenaaGreatQPWith17
import Derived.Test.YtehimhbgakpenaaGreatQPWith18
import Derived.Deep.RegionLaw
import Derived.Deep.DeepCutAuto
import Derived.Deep.CutBlock
namespace Go.Proofs.YtehimhbgakpenaaGreat
set_option linter.unusedVariables false
open Go.RowKit
attribute [local go_sem ↓] Go.wp_at_zero Go.wp_at_succ
end Go.Proofs.YtehimhbgakpenaaGreat

namespace Go.Proofs.YtehimhbgakpenaaGreat
set_option linter.unusedVariables false
open Go.RowKit Go.Sort
theorem own_slice {w:World} {base:Nat} {e:TypeId} {size:Nat} {A:Option Addr} {n c:Nat} {xs:List Value} (h:w.ownsRow base e size (.slice A n c) n xs):Rd w A xs:=by
 obtain ⟨A',c',e,r,_⟩:=own_rd h
 simp only [Value.slice.injEq,true_and] at e
 obtain ⟨rfl,rfl⟩:=e
 exact r
end Go.Proofs.YtehimhbgakpenaaGreat
