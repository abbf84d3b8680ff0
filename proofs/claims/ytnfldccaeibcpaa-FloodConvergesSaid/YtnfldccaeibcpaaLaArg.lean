/-
  How an advertisement that came in reads.
-/
import Derived.Test.YtnfldccaeibcpaaFrame
import Derived.Test.YtnfldccaeibcpaaTake
namespace Go.Proofs.Ytnfldccaeibcpaa
set_option linter.unusedVariables false
open Go.RowKit Go.ChangeShapes Go.WideShapes Go.ChangeAt

section
variable {P : Program} {w : World} {t : TypeId}
theorem len1 {a : List Value} (h : a.length = 1) : ∃ v, a = [v] := by
  match a, h with
  | [v], _ => exact ⟨v, rfl⟩
/-- A struct of three fields of a cell each. -/
theorem opens_struct3 {α β γ : Type} {R : α → List Value → Prop} {S : β → List Value → Prop} {T : γ → List Value → Prop} {f g h : Field} (ht : P.underlying t = some (.struct #[f, g, h])) (hf : f.offset = 0) (hg : g.offset = 1) (hh : h.offset = 2)
    (cf : P.cellsOf f.type = 1) (cg : P.cellsOf g.type = 1) (ch : P.cellsOf h.type = 1) (hC : P.cellsOf t = 3) (hR : Opens P w f.type R) (hS : Opens P w g.type S) (hT : Opens P w h.type T) :
    Opens P w t (fun (x : α × β × γ) cs => ∃ a b c, cs = [a, b, c] ∧ R x.1 [a] ∧ S x.2.1 [b] ∧ T x.2.2 [c]) := by
  intro H enc base spare held fuel cs x hx
  obtain ⟨xs, n, _, _, hcl, hl, hi⟩ := DataW.trod_struct ht hx
  simp at hl
  have h0 := hi 0 f rfl
  have h1 := hi 1 g rfl
  have h2 := hi 2 h rfl
  rw [List.getElem?_eq_getElem (by omega)] at h0 h1 h2
  rw [hC] at hcl
  match cs, hcl with
  | [a, b, c], _ =>
    rw [hf, cf] at h0
    rw [hg, cg] at h1
    rw [hh, ch] at h2
    obtain ⟨p, rp, _⟩ := hR h0
    obtain ⟨q, rq, _⟩ := hS h1
    obtain ⟨r, rr, _⟩ := hT h2
    exact ⟨(p, q, r), ⟨a, b, c, rfl, rp, rq, rr⟩, by simp [hC]⟩
theorem opens_struct6 {α0 α1 α2 α3 α4 α5 : Type} {R0 : α0 → List Value → Prop} {R1 : α1 → List Value → Prop} {R2 : α2 → List Value → Prop} {R3 : α3 → List Value → Prop} {R4 : α4 → List Value → Prop} {R5 : α5 → List Value → Prop} {f0 f1 f2 f3 f4 f5 : Field}
    (ht : P.underlying t = some (.struct #[f0, f1, f2, f3, f4, f5])) (o0 : f0.offset = 0) (o1 : f1.offset = 1) (o2 : f2.offset = 2) (o3 : f3.offset = 3) (o4 : f4.offset = 4) (o5 : f5.offset = 5)
    (c0 : P.cellsOf f0.type = 1) (c1 : P.cellsOf f1.type = 1) (c2 : P.cellsOf f2.type = 1) (c3 : P.cellsOf f3.type = 1) (c4 : P.cellsOf f4.type = 1) (c5 : P.cellsOf f5.type = 1) (hC : P.cellsOf t = 6)
    (h0 : Opens P w f0.type R0) (h1 : Opens P w f1.type R1) (h2 : Opens P w f2.type R2) (h3 : Opens P w f3.type R3) (h4 : Opens P w f4.type R4) (h5 : Opens P w f5.type R5) :
    Opens P w t (fun (x : α0 × α1 × α2 × α3 × α4 × α5) cs => ∃ v0 v1 v2 v3 v4 v5, cs = [v0, v1, v2, v3, v4, v5] ∧ R0 x.1 [v0] ∧ R1 x.2.1 [v1] ∧ R2 x.2.2.1 [v2] ∧ R3 x.2.2.2.1 [v3] ∧ R4 x.2.2.2.2.1 [v4] ∧ R5 x.2.2.2.2.2 [v5]) := by
  intro H enc base spare held fuel cs x hx
  obtain ⟨xs, n, _, _, hcl, hl, hi⟩ := DataW.trod_struct ht hx
  simp at hl
  have e0 := hi 0 f0 rfl
  have e1 := hi 1 f1 rfl
  have e2 := hi 2 f2 rfl
  have e3 := hi 3 f3 rfl
  have e4 := hi 4 f4 rfl
  have e5 := hi 5 f5 rfl
  rw [List.getElem?_eq_getElem (by omega)] at e0 e1 e2 e3 e4 e5
  rw [hC] at hcl
  match cs, hcl with
  | [v0, v1, v2, v3, v4, v5], _ =>
    rw [o0, c0] at e0
    rw [o1, c1] at e1
    rw [o2, c2] at e2
    rw [o3, c3] at e3
    rw [o4, c4] at e4
    rw [o5, c5] at e5
    obtain ⟨p0, r0, _⟩ := h0 e0
    obtain ⟨p1, r1, _⟩ := h1 e1
    obtain ⟨p2, r2, _⟩ := h2 e2
    obtain ⟨p3, r3, _⟩ := h3 e3
    obtain ⟨p4, r4, _⟩ := h4 e4
    obtain ⟨p5, r5, _⟩ := h5 e5
    exact ⟨(p0, p1, p2, p3, p4, p5), ⟨v0, v1, v2, v3, v4, v5, rfl, r0, r1, r2, r3, r4, r5⟩, by simp [hC]⟩
end

/-- The cells of adjacencies, of prefixes. -/
theorem rep_adj {xs : List (Int × Int × Int)} : ∀ {vs : List Value}, Rep (fun (x : Int × Int × Int) cs => ∃ a b c, cs = [a, b, c] ∧ IsInt .i64 x.1 [a] ∧ IsInt .i64 x.2.1 [b] ∧ IsInt .i64 x.2.2 [c]) 3 xs vs → vs = adV xs := by
  induction xs with
  | nil => intro vs h; exact h
  | cons x t ih =>
    rintro vs ⟨c, q, rfl, ⟨a1, a2, a3, rfl, ⟨e1, _⟩, ⟨e2, _⟩, ⟨e3, _⟩⟩, _, hr⟩
    rw [ih hr]
    simp only [List.cons.injEq, and_true] at e1 e2 e3
    subst e1 e2 e3
    rfl
theorem rep_pre {xs : List (Int × Int)} : ∀ {vs : List Value}, Rep (IsTwo (IsInt .u32) (IsInt .i64)) 2 xs vs → ∃ l : List Pf, vs = pfV l ∧ l.length = xs.length ∧ ∀ p ∈ l, p.1 < 4294967296 := by
  induction xs with
  | nil => intro vs h; exact ⟨[], h, rfl, by simp⟩
  | cons x t ih =>
    rintro vs ⟨c, q, rfl, ⟨c1, c2, rfl, ⟨rfl, w1⟩, ⟨rfl, _⟩⟩, _, hr⟩
    obtain ⟨l, rfl, hl, hok⟩ := ih hr
    obtain ⟨b0, b1⟩ := bounds_u32 w1
    refine ⟨(x.1.toNat, x.2) :: l, ?_, by simp [hl], fun p hp => ?_⟩
    · simp only [pfV, List.cons_append, List.nil_append]
      rw [Int.toNat_of_nonneg b0]
    · rcases List.mem_cons.1 hp with rfl | hp
      · simp only; omega
      · exact hok p hp

section
variable {H : Type} {enc : TypeId × Value → H} {w : World} {base : Nat} {spare : Nat → Bool} {held : Bool} {r : Reach} {b0 : Nat} {v : Value} {d : DataW H} {ps : List MemPlace}
/-- A struct of an advertisement's cells. -/
def IsLa (w : World) (x : La) (cs : List Value) : Prop := LaAt w (.agg cs.toArray) x ∧ cs.length = 6
theorem opens_la (w : World) : Opens Try.prog w 45 (IsLa w) := by
  have OA : Opens Try.prog w 105 _ := opens_struct3 (w := w) Try.underlying105 rfl rfl rfl (by kernel_rfl) (by kernel_rfl) (by kernel_rfl) (by kernel_rfl) (opens_int Try.underlying3 (by kernel_rfl)) (opens_int Try.underlying3 (by kernel_rfl)) (opens_int Try.underlying3 (by kernel_rfl))
  have OP : Opens Try.prog w 108 _ := opens_struct2 (w := w) Try.underlying108 rfl (by kernel_rfl) (by kernel_rfl) (opens_int Try.underlying106 (by kernel_rfl)) (opens_int Try.underlying3 (by kernel_rfl))
  have O : Opens Try.prog w 45 _ := opens_struct6 (w := w) Try.underlying45 rfl rfl rfl rfl rfl rfl (by kernel_rfl) (by kernel_rfl) (by kernel_rfl) (by kernel_rfl) (by kernel_rfl) (by kernel_rfl) (by kernel_rfl)
    (opens_int Try.underlying3 (by kernel_rfl)) (opens_int Try.underlying3 (by kernel_rfl)) (opens_int Try.underlying3 (by kernel_rfl)) (opens_bool Try.underlying4 (by kernel_rfl))
    (opens_slice Try.underlying42 (by kernel_rfl) OA) (opens_slice Try.underlying43 (by kernel_rfl) OP)
  intro H enc base spare held fuel cs x hx
  obtain ⟨⟨p0, p1, p2, p3, xs, ys⟩, ⟨v0, v1, v2, v3, v4, v5, rfl, ⟨e0, _⟩, ⟨e1, _⟩, ⟨e2, _⟩, e3, ⟨A, c, vs, e4, l1, l2, r1, rd1⟩, ⟨B, d, us, e5, l3, l4, r2, rd2⟩⟩, hl⟩ := O hx
  rw [show Try.prog.cellsOf 105 = 3 from by kernel_rfl] at r1
  rw [show Try.prog.cellsOf 108 = 2 from by kernel_rfl] at r2
  obtain rfl := rep_adj r1
  obtain ⟨l, rfl, hll, hlok⟩ := rep_pre r2
  unfold IsBool at e3
  simp only [List.cons.injEq, and_true] at e0 e1 e2 e3 e4 e5
  subst e0 e1 e2 e3 e4 e5
  simp only at l1 l3 hll ⊢
  refine ⟨⟨p0, p1, p2, p3, xs, l⟩, ⟨⟨A, c, B, d, ?_, rd1, rd2, l1, l2, by simp only; omega, l4, hlok⟩, rfl⟩, hl⟩
  simp only [hll]
set_option maxRecDepth 100000 in
theorem arg_la (hv : Value.okWide Try.prog w r b0 45 v) (h : DataW.Trod enc Try.prog w base spare held 45 v d ps) : ∃ x, LaAt w v x := by
  obtain ⟨cs, x, rfl, hx, _⟩ := arg_struct Try.underlying45 (opens_la w) hv h
  exact ⟨x, hx⟩
end

end Go.Proofs.Ytnfldccaeibcpaa
