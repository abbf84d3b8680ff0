/-
  The contract of the reference's Seal.
-/
import Derived.Test.YtbkpholkjgjicaaGreatFle
import Derived.Deep.DeepCutAuto
namespace Go.Proofs.YtbkpholkjgjicaaGreat
set_option linter.unusedVariables false
open Go.RowKit

theorem seal_id (s L x y M f p q : Int) (hy : y = -f - x + 255*q) (hL : L = M + 1 - 255*p) : s + L*x + (L+254)*y = (s + x - M*f) + 255*(-p*x + (1-p)*(-f-x) + (M+255-255*p)*q) := by
  subst hy hL
  grind
/-- The reference's test: only one pair of bytes passes. -/
theorem seal_test (bs : List UInt8) (k : Nat) (x : Int) (h0 : 0 ≤ x) (h1 : x < 255) :
    (((fl2 (zeroed bs k) + ((bs.length : Int) - k) % 255 * x + (((bs.length : Int) - k) % 255 + 254) * ((510 - fl1 (zeroed bs k) - x) % 255)) % 255 == 0) = true) ↔ x = sealX bs k := by
  rw [beq_iff_eq]
  unfold sealX
  generalize fl1 (zeroed bs k) = f
  generalize fl2 (zeroed bs k) = s
  generalize hd : (bs.length : Int) - k = d
  obtain ⟨q, hq⟩ : ∃ q, (510 - f - x) % 255 = -f - x + 255 * q := ⟨2 - (510 - f - x) / 255, by omega⟩
  obtain ⟨p, hp⟩ : ∃ p, d % 255 = (d - 1) % 255 + 1 - 255 * p := ⟨((d - 1) % 255 + 1 - d % 255) / 255, by omega⟩
  rw [seal_id s (d % 255) x _ ((d - 1) % 255) f p q hq hp]
  generalize (d - 1) % 255 * f = z
  generalize -p * x + (1 - p) * (-f - x) + ((d - 1) % 255 + 255 - 255 * p) * q = u
  omega
theorem sealY_eq (bs : List UInt8) (k : Nat) : (510 - fl1 (zeroed bs k) - sealX bs k) % 255 = sealY bs k := by
  unfold sealY; omega

end Go.Proofs.YtbkpholkjgjicaaGreat
