/-
  The arguments of the statements of layer 34, opened.
-/
import Derived.Test.YtpjbblmhpkapnaaFrame
import Derived.Test.YtpjbblmhpkapnaaHelFlat
namespace Go.Proofs.Ytpjbblmhpkapnaa
set_option linter.unusedVariables false
open Go.RowKit Go.ChangeShapes Go.WideShapes Go.ChangeAt

section
variable {P : Program} {w : World} {t : TypeId}
theorem opens_struct3 {α β γ : Type} {R : α → List Value → Prop} {S : β → List Value → Prop} {T : γ → List Value → Prop} {f g h : Field} (ht : P.underlying t = some (.struct #[f, g, h])) (hf : f.offset = 0) (hg : g.offset = P.cellsOf f.type)
    (hh : h.offset = P.cellsOf f.type + P.cellsOf g.type) (hC : P.cellsOf t = P.cellsOf f.type + P.cellsOf g.type + P.cellsOf h.type) (hR : Opens P w f.type R) (hS : Opens P w g.type S) (hT : Opens P w h.type T) : Opens P w t (IsTwo R (IsTwo S T)) := by
  intro H enc base spare held fuel cs x hx
  obtain ⟨xs, n, _, _, hcl, hl, hi⟩ := DataW.trod_struct ht hx
  simp at hl
  have h0 := hi 0 f rfl
  have h1 := hi 1 g rfl
  have h2 := hi 2 h rfl
  rw [List.getElem?_eq_getElem (by omega)] at h0 h1 h2
  obtain ⟨a, ra, _⟩ := hR h0
  obtain ⟨b, rb, _⟩ := hS h1
  obtain ⟨c, rc, _⟩ := hT h2
  refine ⟨(a, b, c), ⟨_, _, ?_, ra, _, _, rfl, rb, rc⟩, hcl⟩
  rw [hf, hg, hh, List.drop_zero, List.take_of_length_le (l := cs.drop (P.cellsOf f.type + P.cellsOf g.type)) (by rw [List.length_drop]; omega), ← List.drop_drop, List.take_append_drop, List.take_append_drop]
end

section
variable {H : Type} {enc : TypeId × Value → H} {w : World} {base : Nat} {spare : Nat → Bool} {held : Bool} {r : Reach} {b0 : Nat} {v : Value} {d : DataW H} {ps : List MemPlace}

theorem arg_state (hv : Value.okWide Try.prog w r b0 23 v) (h : DataW.Trod enc Try.prog w base spare held 23 v d ps) :
    ∃ p l, v = .agg #[.int .i64 p, .int .i64 l] ∧ (Lit.int .i64 p).wf = true ∧ (Lit.int .i64 l).wf = true := by
  obtain ⟨cs, x, rfl, c, d', rfl, ⟨rfl, h1⟩, ⟨rfl, h2⟩⟩ := arg_struct Try.underlying23 (opens_struct2 Try.underlying23 rfl (by kernel_rfl) (by kernel_rfl) (opens_int Try.underlying3 (by kernel_rfl)) (opens_int Try.underlying3 (by kernel_rfl))) hv h
  exact ⟨x.1, x.2, rfl, h1, h2⟩

theorem rep_flat2 {ls : List (Bool × Bool)} : ∀ {vs : List Value}, Rep (IsTwo IsBool IsBool) 2 ls vs → vs = flat2 ls := by
  induction ls with
  | nil => intro vs h; exact h
  | cons b r ih =>
    rintro vs ⟨c, q, rfl, ⟨c1, c2, rfl, rfl, rfl⟩, _, hr⟩
    rw [ih hr]; rfl
theorem rep_flat3 {ls : List (Bool × Bool × Int)} : ∀ {vs : List Value}, Rep (IsTwo IsBool (IsTwo IsBool (IsInt .i64))) 3 ls vs → vs = flat3 ls ∧ ∀ x ∈ ls, (Lit.int .i64 x.2.2).wf = true := by
  induction ls with
  | nil => intro vs h; exact ⟨h, by simp⟩
  | cons b r ih =>
    rintro vs ⟨c, q, rfl, ⟨c1, c2, rfl, rfl, c3, c4, rfl, rfl, rfl, hw⟩, _, hr⟩
    obtain ⟨e, h⟩ := ih hr
    rw [e]
    refine ⟨rfl, fun x hx => ?_⟩
    rcases List.mem_cons.1 hx with rfl | hx
    · exact hw
    · exact h x hx

theorem arg_losses (hv : Value.okWide Try.prog w r b0 45 v) (h : DataW.Trod enc Try.prog w base spare held 45 v d ps) :
    ∃ (A : Option Addr) (n c : Nat) (ls : List (Bool × Bool)), v = .slice A n c ∧ Rd w A (flat2 ls) ∧ ls.length = n ∧ n ≤ maxLen := by
  obtain ⟨A, n, c, x, rfl, A', c', vs, h1, h2, h3, h4, h5⟩ := arg_slice Try.underlying45 (opens_slice Try.underlying45 (by kernel_rfl) (opens_arr2 Try.underlying48 (by kernel_rfl) (opens_bool Try.underlying4 (by kernel_rfl)))) hv h
  simp only [List.cons.injEq, Value.slice.injEq, and_true] at h1
  obtain ⟨rfl, rfl, rfl⟩ := h1
  rw [show Try.prog.cellsOf 48 = 2 from by kernel_rfl] at h4
  rw [rep_flat2 h4] at h5
  exact ⟨A, _, c, x, rfl, h5, rfl, Nat.le_trans h2 h3⟩

theorem arg_steps (hv : Value.okWide Try.prog w r b0 37 v) (h : DataW.Trod enc Try.prog w base spare held 37 v d ps) :
    ∃ (A : Option Addr) (n c : Nat) (ls : List (Bool × Bool × Int)), v = .slice A n c ∧ Rd w A (flat3 ls) ∧ ls.length = n ∧ n ≤ maxLen ∧ ∀ x ∈ ls, (Lit.int .i64 x.2.2).wf = true := by
  obtain ⟨A, n, c, x, rfl, A', c', vs, h1, h2, h3, h4, h5⟩ := arg_slice Try.underlying37 (opens_slice Try.underlying37 (by kernel_rfl)
    (opens_struct3 Try.underlying39 rfl (by kernel_rfl) (by kernel_rfl) (by kernel_rfl) (opens_bool Try.underlying4 (by kernel_rfl)) (opens_bool Try.underlying4 (by kernel_rfl)) (opens_int Try.underlying3 (by kernel_rfl)))) hv h
  simp only [List.cons.injEq, Value.slice.injEq, and_true] at h1
  obtain ⟨rfl, rfl, rfl⟩ := h1
  rw [show Try.prog.cellsOf 39 = 3 from by kernel_rfl] at h4
  obtain ⟨e, hw⟩ := rep_flat3 h4
  rw [e] at h5
  exact ⟨A, _, c, x, rfl, h5, rfl, Nat.le_trans h2 h3, hw⟩
end

end Go.Proofs.Ytpjbblmhpkapnaa
