/-
  chapter 36: the arguments of OriginRenews.
-/
import Derived.Test.YtfpoghhjpfkbaaaOrgRn
import Derived.Test.YtfpoghhjpfkbaaaLaArg
namespace Go.Proofs.Ytfpoghhjpfkbaaa
set_option linter.unusedVariables false
open Go.RowKit Go.Sort Go.ChangeShapes Go.WideShapes Go.ChangeAt

section
variable {H : Type} {enc : TypeId × Value → H} {w : World} {base : Nat} {spare : Nat → Bool} {held : Bool} {r : Reach} {b0 : Nat} {v : Value} {d : DataW H} {ps : List MemPlace}
theorem rep_u16 {xs : List Int} : ∀ {vs : List Value}, Rep (IsInt .u16) 1 xs vs → vs = u16V xs ∧ ∀ z ∈ xs, 0 ≤ z ∧ z ≤ 65535 := by
  induction xs with
  | nil => intro vs h; exact ⟨h, by simp⟩
  | cons b t ih =>
    rintro vs ⟨c, q, rfl, ⟨rfl, hw⟩, _, hr⟩
    obtain ⟨rfl, hok⟩ := ih hr
    have hz := bounds_u16 hw
    refine ⟨rfl, fun z hz' => ?_⟩
    rcases List.mem_cons.1 hz' with rfl | hz'
    · omega
    · exact hok z hz'
set_option maxRecDepth 100000 in
theorem arg_u16s (hv : Value.okWide Try.prog w r b0 57 v) (h : DataW.Trod enc Try.prog w base spare held 57 v d ps) :
    ∃ (A : Option Addr) (n c : Nat) (l : List Int), v = .slice A n c ∧ Rd w A (u16V l) ∧ l.length = n ∧ n ≤ maxLen ∧ ∀ z ∈ l, 0 ≤ z ∧ z ≤ 65535 := by
  obtain ⟨A, n, c, x, rfl, A', c', vs, h1, h2, h3, h4, h5⟩ := arg_slice Try.underlying57 (opens_slice Try.underlying57 (by kernel_rfl) (opens_int Try.underlying58 (by kernel_rfl))) hv h
  simp only [List.cons.injEq, Value.slice.injEq, and_true] at h1
  obtain ⟨rfl, rfl, rfl⟩ := h1
  rw [show Try.prog.cellsOf 58 = 1 from by kernel_rfl] at h4
  obtain ⟨rfl, hok⟩ := rep_u16 h4
  exact ⟨A, _, c, x, rfl, h5, rfl, Nat.le_trans h2 h3, hok⟩
end

end Go.Proofs.Ytfpoghhjpfkbaaa
