/-
  The arguments of a statement's call, opened by their types.
-/
import Derived.Test.YtnfldccaeibcpaaOpen
import Derived.Test.YtnfldccaeibcpaaRows
namespace Go.Proofs.Ytnfldccaeibcpaa
open Go.RowKit Go.ChangeShapes Go.WideShapes Go.ChangeAt

theorem frame_own : ownKnob Try.prog.godebug = none := by kernel_rfl
theorem frame_laidOut : laidOutB Try.prog = true := by kernel_rfl

section
variable {H : Type} {enc : TypeId × Value → H} {P : Program} {w : World} {base : Nat} {spare : Nat → Bool} {held : Bool} {r : Reach} {b0 : Nat} {t : TypeId} {v : Value} {d : DataW H} {ps : List MemPlace}

theorem arg_slice {α : Type} {R : α → List Value → Prop} {e : TypeId} (ht : P.underlying t = some (.slice e)) (hO : Opens P w t R) (hv : Value.okWide P w r b0 t v) (h : DataW.Trod enc P w base spare held t v d ps) :
    ∃ (A : Option Addr) (n c : Nat) (x : α), v = .slice A n c ∧ R x [.slice A n c] := by
  obtain ⟨A, n, c, rfl⟩ := okWide_slice ht hv
  obtain ⟨fuel, hf⟩ := h
  obtain ⟨x, hx, _⟩ := hO hf
  exact ⟨A, n, c, x, rfl, hx⟩

theorem arg_bytes {e : TypeId} (ht : P.underlying t = some (.slice e)) (hc : P.cellsOf t = 1) (he : P.underlying e = some (.int .u8)) (hce : P.cellsOf e = 1) (hv : Value.okWide P w r b0 t v)
    (h : DataW.Trod enc P w base spare held t v d ps) : ∃ (A : Option Addr) (n c : Nat) (bs : List UInt8), v = .slice A n c ∧ Bs w A bs ∧ bs.length = n ∧ n ≤ maxLen := by
  obtain ⟨A, n, c, bs, rfl, A', c', h1, h2, h3, h4⟩ := arg_slice ht (opens_bytes ht hc he hce) hv h
  simp only [List.cons.injEq, Value.slice.injEq, and_true] at h1
  obtain ⟨rfl, rfl, rfl⟩ := h1
  exact ⟨A, _, c, bs, rfl, h4, rfl, Nat.le_trans h2 h3⟩

theorem arg_bytesc {e : TypeId} (ht : P.underlying t = some (.slice e)) (hc : P.cellsOf t = 1) (he : P.underlying e = some (.int .u8)) (hce : P.cellsOf e = 1) (hv : Value.okWide P w r b0 t v)
    (h : DataW.Trod enc P w base spare held t v d ps) : ∃ (A : Option Addr) (n c : Nat) (bs : List UInt8), v = .slice A n c ∧ Bs w A bs ∧ bs.length = n ∧ n ≤ c ∧ c ≤ maxLen := by
  obtain ⟨A, n, c, bs, rfl, A', c', h1, h2, h3, h4⟩ := arg_slice ht (opens_bytes ht hc he hce) hv h
  simp only [List.cons.injEq, Value.slice.injEq, and_true] at h1
  obtain ⟨rfl, rfl, rfl⟩ := h1
  exact ⟨A, _, c, bs, rfl, h4, rfl, h2, h3⟩

theorem arg_arr {α : Type} {R : α → List Value → Prop} {n : Nat} {e : TypeId} (ht : P.underlying t = some (.array n e)) (hO : Opens P w t R) (hv : Value.okWide P w r b0 t v) (h : DataW.Trod enc P w base spare held t v d ps) :
    ∃ (cs : List Value) (x : α), v = .agg cs.toArray ∧ R x cs := by
  simp only [Value.okWide, ht] at hv
  obtain ⟨cs, rfl, _⟩ := hv
  obtain ⟨fuel, hf⟩ := h
  obtain ⟨x, hx, _⟩ := hO hf
  exact ⟨cs.toList, x, by simp, hx⟩

theorem arg_struct {α : Type} {R : α → List Value → Prop} {fs : Array Field} (ht : P.underlying t = some (.struct fs)) (hO : Opens P w t R) (hv : Value.okWide P w r b0 t v) (h : DataW.Trod enc P w base spare held t v d ps) :
    ∃ (cs : List Value) (x : α), v = .agg cs.toArray ∧ R x cs := by
  obtain ⟨cs, rfl, _⟩ := okWide_struct ht hv
  obtain ⟨fuel, hf⟩ := h
  obtain ⟨x, hx, _⟩ := hO hf
  exact ⟨cs.toList, x, by simp, hx⟩

theorem arg_ints2 {k : IntKind} {e : TypeId} (ht : P.underlying t = some (.array 2 e)) (hC : P.cellsOf t = 2 * P.cellsOf e) (he : P.underlying e = some (.int k)) (hce : P.cellsOf e = 1) (hv : Value.okWide P w r b0 t v)
    (h : DataW.Trod enc P w base spare held t v d ps) : ∃ a b, v = .agg #[.int k a, .int k b] ∧ (Lit.int k a).wf = true ∧ (Lit.int k b).wf = true := by
  obtain ⟨cs, x, rfl, c, d', rfl, ⟨rfl, h1⟩, ⟨rfl, h2⟩⟩ := arg_arr ht (opens_arr2 ht hC (opens_int he hce)) hv h
  exact ⟨x.1, x.2, rfl, h1, h2⟩
end

end Go.Proofs.Ytnfldccaeibcpaa
