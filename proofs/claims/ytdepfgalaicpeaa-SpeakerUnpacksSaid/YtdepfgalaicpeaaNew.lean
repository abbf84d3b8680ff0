/-
  The contract of lsa.Newer.
-/
import Derived.Test.YtdepfgalaicpeaaSameR
import Derived.Test.YtdepfgalaicpeaaEqS
import Derived.Test.YtdepfgalaicpeaaDec
import Derived.Test.YtdepfgalaicpeaaBcmp
namespace Go.Proofs.Ytdepfgalaicpeaa
set_option linter.unusedVariables false
open Go.RowKit

theorem own_slice' {w : World} {base : Nat} {e : TypeId} {size : Nat} {A : Option Addr} {n c : Nat} {xs : List Value} (h : w.ownsRow base e size (.slice A n c) n xs) : Rd w A xs := by
  obtain ⟨A', c', e, r, _⟩ := own_rd h
  simp only [Value.slice.injEq, true_and] at e
  obtain ⟨rfl, rfl⟩ := e
  exact r
def age0 (x : La) : La := { x with a := 0 }
noncomputable def newI (x y : La) : Int :=
  if vB x = true ∧ vB y = true then
    if x.s = y.s then if (x.a == 3600) = (y.a == 3600) then Lib.compareBytes (laEnc (age0 x)) (laEnc (age0 y)) else if (x.a == 3600) = true then 1 else -1
    else cmpI x.s y.s
  else 0
theorem age0_valid {x : La} (h : LaValid x) : LaValid (age0 x) := by
  obtain ⟨h1, h2, h3, h4, h5, h6, h7, h8⟩ := h
  exact ⟨h1, h2, ⟨by simp [age0], by simp [age0]⟩, h4, h5, fun e => by simp [age0] at e, h7, h8⟩

end Go.Proofs.Ytdepfgalaicpeaa
