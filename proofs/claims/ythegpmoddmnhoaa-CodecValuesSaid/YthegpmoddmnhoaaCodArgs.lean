/-
  The arguments of chapter 07's statements: lists of records.
-/
import Derived.Test.YthegpmoddmnhoaaFrame
import Derived.Test.YthegpmoddmnhoaaCodP
namespace Go.Proofs.Ythegpmoddmnhoaa
set_option linter.unusedVariables false
open Go.RowKit Go.ChangeShapes Go.WideShapes Go.ChangeAt

section
variable {H : Type} {enc : TypeId × Value → H} {w : World} {base : Nat} {spare : Nat → Bool} {held : Bool} {r : Reach} {b0 : Nat} {v : Value} {d : DataW H} {ps : List MemPlace}

theorem rep_recs {xs : List (Int × List UInt8)} : ∀ {vs : List Value}, Rep (IsTwo (IsInt .i64) (IsBytes w)) 2 xs vs → ∃ l : List Rc, vs = recV l ∧ l.length = xs.length ∧ ∀ r ∈ l, RcOk w r := by
  induction xs with
  | nil => intro vs h; exact ⟨[], h, rfl, by simp⟩
  | cons b t ih =>
    rintro vs ⟨c, q, rfl, ⟨c1, c2, rfl, ⟨rfl, w1⟩, ⟨A, cp, rfl, h1, h2, h3⟩⟩, _, hr⟩
    obtain ⟨l, rfl, hl, hok⟩ := ih hr
    refine ⟨⟨b.1, A, b.2.length, cp, b.2⟩ :: l, rfl, by simp [hl], fun r hr => ?_⟩
    rcases List.mem_cons.1 hr with rfl | hr
    · exact ⟨h3, rfl, h1, h2⟩
    · exact hok r hr

theorem arg_recs (hv : Value.okWide Try.prog w r b0 22 v) (h : DataW.Trod enc Try.prog w base spare held 22 v d ps) :
    ∃ (A : Option Addr) (n c : Nat) (l : List Rc), v = .slice A n c ∧ Rd w A (recV l) ∧ l.length = n ∧ n ≤ maxLen ∧ ∀ r ∈ l, RcOk w r := by
  obtain ⟨A, n, c, x, rfl, A', c', vs, h1, h2, h3, h4, h5⟩ := arg_slice Try.underlying22 (opens_slice Try.underlying22 (by kernel_rfl) (opens_struct2 Try.underlying43 rfl (by kernel_rfl) (by kernel_rfl) (opens_int Try.underlying3 (by kernel_rfl)) (opens_bytes Try.underlying27 (by kernel_rfl) Try.underlying5 (by kernel_rfl)))) hv h
  simp only [List.cons.injEq, Value.slice.injEq, and_true] at h1
  obtain ⟨rfl, rfl, rfl⟩ := h1
  rw [show Try.prog.cellsOf 43 = 2 from by kernel_rfl] at h4
  obtain ⟨l, rfl, hl, hok⟩ := rep_recs h4
  exact ⟨A, _, c, l, rfl, h5, hl, Nat.le_trans h2 h3, hok⟩

theorem arg_recsc (hv : Value.okWide Try.prog w r b0 22 v) (h : DataW.Trod enc Try.prog w base spare held 22 v d ps) :
    ∃ (A : Option Addr) (n c : Nat) (l : List Rc), v = .slice A n c ∧ Rd w A (recV l) ∧ l.length = n ∧ n ≤ c ∧ c ≤ maxLen ∧ ∀ r ∈ l, RcOk w r := by
  obtain ⟨A, n, c, x, rfl, A', c', vs, h1, h2, h3, h4, h5⟩ := arg_slice Try.underlying22 (opens_slice Try.underlying22 (by kernel_rfl) (opens_struct2 Try.underlying43 rfl (by kernel_rfl) (by kernel_rfl) (opens_int Try.underlying3 (by kernel_rfl)) (opens_bytes Try.underlying27 (by kernel_rfl) Try.underlying5 (by kernel_rfl)))) hv h
  simp only [List.cons.injEq, Value.slice.injEq, and_true] at h1
  obtain ⟨rfl, rfl, rfl⟩ := h1
  rw [show Try.prog.cellsOf 43 = 2 from by kernel_rfl] at h4
  obtain ⟨l, rfl, hl, hok⟩ := rep_recs h4
  exact ⟨A, _, c, l, rfl, h5, hl, h2, h3, hok⟩
end

end Go.Proofs.Ythegpmoddmnhoaa
