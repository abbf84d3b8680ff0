/-
  The contract of lsa.Purge.
-/
import Derived.Test.YtnfldccaeibcpaaSameR
import Derived.Test.YtnfldccaeibcpaaDec
namespace Go.Proofs.Ytnfldccaeibcpaa
set_option linter.unusedVariables false
open Go.RowKit

noncomputable def purgeE (x : La) : Int := if vB x = true then 0 else 1
noncomputable def purgeV (x : La) : La := if vB x = true then purgeX x else laZero
def PurgePost (w : World) (x : La) (e : Ending) (w' : World) : Prop :=
  ∃ v, e = .returned (.tuple #[v, .int .i64 (purgeE x)]) ∧ LaOwn w' w.heap.size v (purgeV x) ∧ Below w.heap.size w w'

end Go.Proofs.Ytnfldccaeibcpaa
