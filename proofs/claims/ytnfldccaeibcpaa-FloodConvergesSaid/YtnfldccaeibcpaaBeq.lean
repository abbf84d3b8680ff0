/-
  The contract of bytes.Equal.
-/
import Derived.Test.YtnfldccaeibcpaaBytes
namespace Go.Proofs.Ytnfldccaeibcpaa
set_option linter.unusedVariables false
open Go.RowKit

theorem toArr_inj {a b : List UInt8} : ((⟨a.toArray⟩ : ByteArray) = ⟨b.toArray⟩) ↔ a = b := by
  constructor
  · intro h
    injection h with h
    simpa using congrArg Array.toList h
  · rintro rfl; rfl

end Go.Proofs.Ytnfldccaeibcpaa
