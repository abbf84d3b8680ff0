/-
  The arguments of the statements of layer 19, opened.
-/
import Derived.Test.YtchppfgoaeddlaaFrame
import Derived.Test.YtchppfgoaeddlaaLabPack
namespace Go.Proofs.Ytchppfgoaeddlaa
set_option linter.unusedVariables false
open Go.RowKit Go.ChangeShapes Go.WideShapes Go.ChangeAt

section
variable {H : Type} {enc : TypeId × Value → H} {w : World} {base : Nat} {spare : Nat → Bool} {held : Bool} {r : Reach} {b0 : Nat} {v : Value} {d : DataW H} {ps : List MemPlace}

theorem arg_seg (hv : Value.okWide Try.prog w r b0 30 v) (h : DataW.Trod enc Try.prog w base spare held 30 v d ps) :
    ∃ p l, v = .agg #[.int .i64 p, .int .i64 l] ∧ (Lit.int .i64 p).wf = true ∧ (Lit.int .i64 l).wf = true := by
  obtain ⟨cs, x, rfl, c, d', rfl, ⟨rfl, h1⟩, ⟨rfl, h2⟩⟩ := arg_struct Try.underlying30 (opens_struct2 Try.underlying30 rfl (by kernel_rfl) (by kernel_rfl) (opens_int Try.underlying3 (by kernel_rfl)) (opens_int Try.underlying3 (by kernel_rfl))) hv h
  exact ⟨x.1, x.2, rfl, h1, h2⟩

theorem rep_segs {ls : List (Int × Int)} : ∀ {vs : List Value}, Rep (IsTwo (IsInt .i64) (IsInt .i64)) 2 ls vs → vs = segs ls ∧ ∀ x ∈ ls, (Lit.int .i64 x.1).wf = true ∧ (Lit.int .i64 x.2).wf = true := by
  induction ls with
  | nil => intro vs h; exact ⟨h, by simp⟩
  | cons b r ih =>
    rintro vs ⟨c, q, rfl, ⟨c1, c2, rfl, ⟨rfl, w1⟩, ⟨rfl, w2⟩⟩, _, hr⟩
    obtain ⟨e, h⟩ := ih hr
    rw [e]
    refine ⟨rfl, fun x hx => ?_⟩
    rcases List.mem_cons.1 hx with rfl | hx
    · exact ⟨w1, w2⟩
    · exact h x hx

theorem arg_segs (hv : Value.okWide Try.prog w r b0 22 v) (h : DataW.Trod enc Try.prog w base spare held 22 v d ps) :
    ∃ (A : Option Addr) (n c : Nat) (ls : List (Int × Int)), v = .slice A n c ∧ Rd w A (segs ls) ∧ ls.length = n ∧ n ≤ maxLen ∧ ∀ x ∈ ls, (Lit.int .i64 x.1).wf = true ∧ (Lit.int .i64 x.2).wf = true := by
  obtain ⟨A, n, c, x, rfl, A', c', vs, h1, h2, h3, h4, h5⟩ := arg_slice Try.underlying22 (opens_slice Try.underlying22 (by kernel_rfl) (opens_struct2 Try.underlying30 rfl (by kernel_rfl) (by kernel_rfl) (opens_int Try.underlying3 (by kernel_rfl)) (opens_int Try.underlying3 (by kernel_rfl)))) hv h
  simp only [List.cons.injEq, Value.slice.injEq, and_true] at h1
  obtain ⟨rfl, rfl, rfl⟩ := h1
  rw [show Try.prog.cellsOf 30 = 2 from by kernel_rfl] at h4
  obtain ⟨e, h⟩ := rep_segs h4
  rw [e] at h5
  exact ⟨A, _, c, x, rfl, h5, rfl, Nat.le_trans h2 h3, h⟩
end

end Go.Proofs.Ytchppfgoaeddlaa
