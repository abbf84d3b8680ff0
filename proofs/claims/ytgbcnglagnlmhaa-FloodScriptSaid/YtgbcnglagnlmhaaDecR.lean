/-
  The contract of the reference's Decode.
-/
import Derived.Test.YtgbcnglagnlmhaaDec
import Derived.Test.YtgbcnglagnlmhaaEncR
import Derived.Test.YtgbcnglagnlmhaaValR
import Derived.Test.YtgbcnglagnlmhaaCodRD
import Derived.Deep.RegionHeld3
import Derived.Deep.RegionLaw
import Derived.IntWalk
import Derived.Deep.DeepCutAuto
import Derived.Deep.CutBlock
namespace Go.Proofs.Ytgbcnglagnlmhaa
set_option linter.unusedVariables false
open Go.RowKit Go.Sort

def AccX (W0 w : World) (x : La) : Prop := ∃ vA vB, AccS W0 w x vA vB
theorem rc_block {w : World} {base : Nat} {e : TypeId} {r : Rc} (h : RcOwn w base e r) : ∀ ad, r.A = some ad → ad.block < w.heap.size := by
  intro ad e2
  rcases h.2 with ⟨e3, _⟩ | ⟨g', cap, cur, e3, _, hh, _⟩
  · rw [e2] at e3; cases e3
  · rw [e2] at e3
    simp only [Value.slice.injEq, Option.some.injEq] at e3
    obtain ⟨rfl, _⟩ := e3
    exact (Array.getElem?_eq_some_iff.1 hh).1
theorem own_slice {w : World} {base : Nat} {e : TypeId} {size : Nat} {A : Option Addr} {n c : Nat} {xs : List Value} (h : w.ownsRow base e size (.slice A n c) n xs) : Rd w A xs := by
  obtain ⟨A', c', e, r, _⟩ := own_rd h
  simp only [Value.slice.injEq, true_and] at e
  obtain ⟨rfl, rfl⟩ := e
  exact r
theorem uintB_lt2 (bs : List UInt8) (h : bs.length ≤ 4) : uintB bs < 4294967296 := by
  have := uintB_lt bs
  have := Nat.pow_le_pow_right (n := 256) (by omega) h
  omega
theorem chk_f {bs : List UInt8} : chk bs = (fl1 bs == 0 && fl2 bs == 0) := rfl

end Go.Proofs.Ytgbcnglagnlmhaa
