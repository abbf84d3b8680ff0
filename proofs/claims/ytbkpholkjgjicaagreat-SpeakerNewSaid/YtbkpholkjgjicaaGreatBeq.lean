/-
  The contract of bytes.Equal.
-/
import Derived.Test.YtbkpholkjgjicaaGreatBytes
namespace Go.Proofs.YtbkpholkjgjicaaGreat
set_option linter.unusedVariables false
open Go.RowKit

theorem toArr_inj {a b : List UInt8} : ((⟨a.toArray⟩ : ByteArray) = ⟨b.toArray⟩) ↔ a = b := by
  constructor
  · intro h
    injection h with h
    simpa using congrArg Array.toList h
  · rintro rfl; rfl

set_option maxHeartbeats 800000 in
theorem bequal_any (A B : Option Addr) (n m c d : Nat) (xs bs : List UInt8) (w : World) (ha : Bs w A xs) (hb : Bs w B bs) (hn : xs.length = n) (hm : bs.length = m) :
    Calls Tryz.prog 100 #[.slice A n c, .slice B m d] w fun e w' => e = .returned (.bool (decide (xs = bs))) ∧ w = w' := by
  have cv := conv_bytes (P := Tryz.prog) w (src := 54) (dst := 9) (e := 5) Tryz.underlying54 Tryz.underlying5 Tryz.underlying9 (cap := c) ha hn
  have cv2 := conv_bytes (P := Tryz.prog) w (src := 54) (dst := 9) (e := 5) Tryz.underlying54 Tryz.underlying5 Tryz.underlying9 (cap := d) hb hm
  clear ha hb hn hm
  go_enter Tryz.func100, Tryz.ntmps100
  go_wp2_with fail
  go_ret
  exact ⟨ret_bool (by rw [Bool.eq_iff_iff]; simp), rfl⟩

end Go.Proofs.YtbkpholkjgjicaaGreat
