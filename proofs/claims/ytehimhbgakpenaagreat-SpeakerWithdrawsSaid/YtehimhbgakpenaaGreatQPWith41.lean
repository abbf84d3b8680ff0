/-
  The texts RdI, RdR, one after the other.
-/
import Derived.Test.YtehimhbgakpenaaGreatQPWith23
import Derived.Deep.RegionHeld3
namespace Go.Proofs.YtehimhbgakpenaaGreat
set_option linter.unusedVariables false
open Go.RowKit Go.Maps Go.Sort
end Go.Proofs.YtehimhbgakpenaaGreat

namespace Go.Proofs.YtehimhbgakpenaaGreat
set_option linter.unusedVariables false
open Go.RowKit Go.Maps Go.Sort
section
variable {P:Program} {ops:Array Oper} {Q:Exit → Act → World → Prop} {md:Region.Mode} {S:World → Prop} {i:Nat} {oi:Oper} {fuel:Nat} {listed:Array Bool} {a:Act} {w:World} {R:Nat → Rs}
theorem take_first {v:Value} (d:Option Tmp) (hi:ops[i]? = some oi) (hd:oi.dst = d) (hs:Region.noSelect ops = true) (hf:Region.free md ops listed i = true) (hr:(Region.ready md ops listed).contains i = true)
  (hQ:∀ c a w,Q (.panic c) (a.put d v) w → Q (.panic c) a w) (hy:YieldsIf P ops S oi v a) (hS:S w)
  (h:wpAnyH P md ops Q S fuel (listed.setIfInBounds i true) (a.put d v) w):wpAnyH P md ops Q S (fuel + 1) listed a w:=by
 subst hd
 exact wpAnyH_take hi hs hf hr hQ hy hS h
end
end Go.Proofs.YtehimhbgakpenaaGreat
