/-
  The texts CodRE, EncR, one after the other.
-/
import Derived.Test.YtehimhbgakpenaaGreatQPWith1
import Derived.Test.YtehimhbgakpenaaGreatQPWith16
import Derived.Test.YtehimhbgakpenaaGreatQPWith2
import Derived.Deep.DeepCutAuto
namespace Go.Proofs.YtehimhbgakpenaaGreat
set_option linter.unusedVariables false
open Go.RowKit
end Go.Proofs.YtehimhbgakpenaaGreat

namespace Go.Proofs.YtehimhbgakpenaaGreat
set_option linter.unusedVariables false
open Go.RowKit
structure RecS (W w:World) (T:TypeId) (v:Value) (l:List Rec) (rs:List Rc):Prop where
 own:w.ownsRow W.heap.size T 2 v rs.length (recV rs)
 recs:∀ r ∈ rs,RcOwn w W.heap.size 5 r
 says:rs.map dat = l
theorem RecS.add {W w w1 w2:World} {T:TypeId} {v v':Value} {l:List Rec} {rs:List Rc} (h:RecS W w T v l rs) (hT:5 ≠ T) (hb:Below w.heap.size w w1) (r:Rc) (hr:RcOwn w1 W.heap.size 5 r)
  (ho:w2.ownsRow W.heap.size T 2 v' (rs.length + 1) (recV rs ++ [.int .i64 r.t,.slice r.A r.n r.c])) (hg:w1.grownBy w2 v.ownBlock) (x:Rec) (hx:dat r = x):RecS W w2 T v' (l ++ [x]) (rs ++ [r]):=by
 have o1:=own_below h.own hb
 refine ⟨?_,?_,by rw [List.map_append,h.says,← hx]; rfl⟩
 ·rw [recV_append,List.length_append]; exact ho
 ·intro q hq
  rcases List.mem_append.1 hq with hq | hq
  ·exact ((h.recs q hq).below hb).grown o1 hT hg
  ·obtain rfl:=List.mem_singleton.1 hq
   exact hr.grown o1 hT hg
theorem RecS.call {W w w1:World} {T:TypeId} {v:Value} {l:List Rec} {rs:List Rc} (h:RecS W w T v l rs) (hb:Below w.heap.size w w1):RecS W w1 T v l rs:=⟨own_below h.own hb,fun r hr=>(h.recs r hr).below hb,h.says⟩
end Go.Proofs.YtehimhbgakpenaaGreat
