/-
  How a topology that came in reads.
-/
import Derived.Test.YtbkpholkjgjicaaGreatLaArg
import Derived.Test.YtbkpholkjgjicaaGreatTp
namespace Go.Proofs.YtbkpholkjgjicaaGreat
set_option linter.unusedVariables false
open Go.RowKit Go.ChangeShapes Go.WideShapes Go.ChangeAt

section
variable {P : Program} {w : World} {t : TypeId}
theorem opens_link {f0 f1 f2 f3 f4 f5 : Field} {R : Int → List Value → Prop} {R2 : Int × Int → List Value → Prop}
    (ht : P.underlying t = some (.struct #[f0, f1, f2, f3, f4, f5])) (o0 : f0.offset = 0) (o1 : f1.offset = 1) (o2 : f2.offset = 2) (o3 : f3.offset = 4) (o4 : f4.offset = 5) (o5 : f5.offset = 6)
    (c0 : P.cellsOf f0.type = 1) (c1 : P.cellsOf f1.type = 1) (c2 : P.cellsOf f2.type = 2) (c3 : P.cellsOf f3.type = 1) (c4 : P.cellsOf f4.type = 1) (c5 : P.cellsOf f5.type = 1) (hC : P.cellsOf t = 7)
    (h0 : Opens P w f0.type R) (h1 : Opens P w f1.type R) (h2 : Opens P w f2.type R2) (h3 : Opens P w f3.type R) (h4 : Opens P w f4.type R) (h5 : Opens P w f5.type R) :
    Opens P w t (fun (x : Int × Int × (Int × Int) × Int × Int × Int) cs => ∃ v0 v1 v2 v2' v3 v4 v5, cs = [v0, v1, v2, v2', v3, v4, v5] ∧ R x.1 [v0] ∧ R x.2.1 [v1] ∧ R2 x.2.2.1 [v2, v2'] ∧ R x.2.2.2.1 [v3] ∧ R x.2.2.2.2.1 [v4] ∧ R x.2.2.2.2.2 [v5]) := by
  intro H enc base spare held fuel cs x hx
  obtain ⟨xs, n, _, _, hcl, hl, hi⟩ := DataW.trod_struct ht hx
  simp at hl
  have e0 := hi 0 f0 rfl
  have e1 := hi 1 f1 rfl
  have e2 := hi 2 f2 rfl
  have e3 := hi 3 f3 rfl
  have e4 := hi 4 f4 rfl
  have e5 := hi 5 f5 rfl
  rw [List.getElem?_eq_getElem (by omega)] at e0 e1 e2 e3 e4 e5
  rw [hC] at hcl
  match cs, hcl with
  | [v0, v1, v2, v2', v3, v4, v5], _ =>
    rw [o0, c0] at e0
    rw [o1, c1] at e1
    rw [o2, c2] at e2
    rw [o3, c3] at e3
    rw [o4, c4] at e4
    rw [o5, c5] at e5
    obtain ⟨p0, r0, _⟩ := h0 e0
    obtain ⟨p1, r1, _⟩ := h1 e1
    obtain ⟨p2, r2, _⟩ := h2 e2
    obtain ⟨p3, r3, _⟩ := h3 e3
    obtain ⟨p4, r4, _⟩ := h4 e4
    obtain ⟨p5, r5, _⟩ := h5 e5
    exact ⟨(p0, p1, p2, p3, p4, p5), ⟨v0, v1, v2, v2', v3, v4, v5, rfl, r0, r1, r2, r3, r4, r5⟩, by simp [hC]⟩
end
def lkOf (x : Int × Int × (Int × Int) × Int × Int × Int) : Lk := ⟨x.1, x.2.1, x.2.2.1.1, x.2.2.1.2, x.2.2.2.1, x.2.2.2.2.1, x.2.2.2.2.2⟩
theorem rep_lk {xs : List (Int × Int × (Int × Int) × Int × Int × Int)} : ∀ {vs : List Value}, Rep (fun (x : Int × Int × (Int × Int) × Int × Int × Int) cs => ∃ v0 v1 v2 v2' v3 v4 v5, cs = [v0, v1, v2, v2', v3, v4, v5] ∧ IsInt .i64 x.1 [v0] ∧ IsInt .i64 x.2.1 [v1] ∧ IsTwo (IsInt .i64) (IsInt .i64) x.2.2.1 [v2, v2'] ∧ IsInt .i64 x.2.2.2.1 [v3] ∧ IsInt .i64 x.2.2.2.2.1 [v4] ∧ IsInt .i64 x.2.2.2.2.2 [v5]) 7 xs vs → vs = lksV (xs.map lkOf) := by
  induction xs with
  | nil => intro vs h; exact h
  | cons x t ih =>
    rintro vs ⟨c, q, rfl, ⟨a0, a1, a2, a2', a3, a4, a5, rfl, ⟨e0, _⟩, ⟨e1, _⟩, ⟨c1, c2, e2, ⟨rfl, _⟩, ⟨rfl, _⟩⟩, ⟨e3, _⟩, ⟨e4, _⟩, ⟨e5, _⟩⟩, _, hr⟩
    rw [ih hr]
    simp only [List.cons.injEq, and_true, List.cons_append, List.nil_append] at e0 e1 e2 e3 e4 e5
    obtain ⟨rfl, rfl⟩ := e2
    subst e0 e1 e3 e4 e5
    rfl
theorem rep_bo {xs : List Bool} : ∀ {vs : List Value}, Rep IsBool 1 xs vs → vs = boV xs := by
  induction xs with
  | nil => intro vs h; exact h
  | cons x t ih =>
    rintro vs ⟨c, q, rfl, h1, _, hr⟩
    unfold IsBool at h1
    rw [ih hr, h1]
    rfl
def IsTp (w : World) (x : Tp) (cs : List Value) : Prop := TpAt w (.agg cs.toArray) x ∧ cs.length = 3
theorem opens_tp (w : World) : Opens Tryz.prog w 25 (IsTp w) := by
  have OI : Opens Tryz.prog w 3 _ := opens_int (w := w) Tryz.underlying3 (by kernel_rfl)
  have OL : Opens Tryz.prog w 110 _ := opens_link (w := w) Tryz.underlying110 rfl rfl rfl rfl rfl rfl (by kernel_rfl) (by kernel_rfl) (by kernel_rfl) (by kernel_rfl) (by kernel_rfl) (by kernel_rfl) (by kernel_rfl) OI OI (opens_arr2 Tryz.underlying26 (by kernel_rfl) OI) OI OI OI
  have O : Opens Tryz.prog w 25 _ := opens_struct3 (w := w) Tryz.underlying25 rfl rfl rfl (by kernel_rfl) (by kernel_rfl) (by kernel_rfl) (by kernel_rfl) OI
    (opens_slice Tryz.underlying22 (by kernel_rfl) (opens_bool Tryz.underlying4 (by kernel_rfl))) (opens_slice Tryz.underlying23 (by kernel_rfl) OL)
  intro H enc base spare held fuel cs x hx
  obtain ⟨⟨p0, xs, ys⟩, ⟨v0, v1, v2, rfl, ⟨e0, _⟩, ⟨A, c, vs, e1, l1, l2, r1, rd1⟩, ⟨B, d, us, e2, l3, l4, r2, rd2⟩⟩, hl⟩ := O hx
  rw [show Tryz.prog.cellsOf 4 = 1 from by kernel_rfl] at r1
  rw [show Tryz.prog.cellsOf 110 = 7 from by kernel_rfl] at r2
  obtain rfl := rep_bo r1
  obtain rfl := rep_lk r2
  simp only [List.cons.injEq, and_true] at e0 e1 e2
  subst e0 e1 e2
  simp only at l1 l3 ⊢
  refine ⟨⟨p0, xs, ys.map lkOf⟩, ⟨⟨A, c, B, d, ?_, rd1, rd2, Nat.le_trans l1 l2, by simp only [List.length_map]; exact Nat.le_trans l3 l4⟩, rfl⟩, hl⟩
  simp only [List.length_map]
section
variable {H : Type} {enc : TypeId × Value → H} {w : World} {base : Nat} {spare : Nat → Bool} {held : Bool} {r : Reach} {b0 : Nat} {v : Value} {d : DataW H} {ps : List MemPlace}
set_option maxRecDepth 100000 in
theorem arg_tp (hv : Value.okWide Tryz.prog w r b0 25 v) (h : DataW.Trod enc Tryz.prog w base spare held 25 v d ps) : ∃ x, TpAt w v x := by
  obtain ⟨cs, x, rfl, hx, _⟩ := arg_struct Tryz.underlying25 (opens_tp w) hv h
  exact ⟨x, hx⟩
end

end Go.Proofs.YtbkpholkjgjicaaGreat
