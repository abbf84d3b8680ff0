/-
  The contract of codec.Decode.
-/
import Derived.Test.YtnfldccaeibcpaaCodIt
import Derived.Test.YtnfldccaeibcpaaCodLaw
import Derived.Shelf.Abstract
import Derived.Deep.AppendLies
namespace Go.Proofs.Ytnfldccaeibcpaa
set_option linter.unusedVariables false
open Go.RowKit Go.Shelf
attribute [local go_sem] Oper.semAt_some

theorem recT' : ElemT Try.prog 136 139 (.agg #[.int .i64 0, .slice none 0 0]) 2 32 := ⟨Try.underlying136, by kernel_rfl, rfl, by omega⟩

/-- Between two rounds. -/
structure DecI (w W : World) (rs : List Rc) (v : Value) : Prop where
  c : W.cell? ⟨w.heap.size + 2, 0, none⟩ = some v
  f : W.frozen? ⟨w.heap.size + 2, 0, none⟩ = false
  own : W.ownsRow (w.heap.size + 4) 139 2 v rs.length (recV rs)
  rs : ∀ r ∈ rs, RcOwn W (w.heap.size + 4) 5 r
  c0 : W.cell? ⟨w.heap.size, 0, none⟩ = some (.slice none 0 0)
  f0 : W.frozen? ⟨w.heap.size, 0, none⟩ = false
  c1 : W.cell? ⟨w.heap.size + 1, 0, none⟩ = some (.int .i64 0)
  f1 : W.frozen? ⟨w.heap.size + 1, 0, none⟩ = false
  b : Below w.heap.size w W
/-- Where a round has found that it is no encoding. -/
structure DecX (w W : World) : Prop where
  c0 : W.cell? ⟨w.heap.size, 0, none⟩ = some (.slice none 0 0)
  c1 : W.cell? ⟨w.heap.size + 1, 0, none⟩ = some (.int .i64 4)
  b : Below w.heap.size w W

theorem cell_set_other {W : World} {p q : Addr} {v : Value} (u : Value) (h : W.cell? q = some v) (hne : q ≠ p) : (W.setCell p u).cell? q = some v := (cell_far u (fun e => hne e.symm)).trans h

theorem DecI.below {w W W' : World} {rs : List Rc} {v : Value} (h : DecI w W rs v) (hb : Below W.heap.size W W') : DecI w W' rs v :=
  ⟨cell_later hb h.c, free_later hb h.c h.f, own_below h.own hb, fun r hr => (h.rs r hr).below hb, cell_later hb h.c0, free_later hb h.c0 h.f0, cell_later hb h.c1, free_later hb h.c1 h.f1, h.b.trans (hb.mono h.b.size)⟩
theorem DecI.set {w W : World} {rs : List Rc} {v : Value} (h : DecI w W rs v) (u : Value) : DecI w (W.setCell ⟨w.heap.size + 3, 0, none⟩ u) rs v :=
  ⟨cell_set_other u h.c (by simp), by simp [h.f], ownsRow_setCell_below h.own (a := ⟨w.heap.size + 3, 0, none⟩) (Nat.lt_succ_self _) u, fun r hr => (h.rs r hr).set (a := ⟨w.heap.size + 3, 0, none⟩) (Nat.lt_succ_self _) u,
    cell_set_other u h.c0 (by simp), by simp [h.f0], cell_set_other u h.c1 (by simp), by simp [h.f1], h.b.setCell (p := ⟨w.heap.size + 3, 0, none⟩) (by simp) u⟩
theorem DecI.put {w W : World} {rs : List Rc} {v : Value} (h : DecI w W rs v) {l : Nat} {o : Obj} (o' : Obj) (hw : w.heap.size ≤ l) (hl : W.heap[l]? = some o) (ho : o.isCells = false) : DecI w (W.putObj l o') rs v :=
  have hg := grownBy_putObj' W l o'
  have hk : ∀ r, some l = some r → ∃ o : Obj, W.heap[r]? = some o ∧ o.isCells = false := fun r e => by cases e; exact ⟨o, hl, ho⟩
  ⟨cell_kept h.c hg hk, (frozen_kept h.c hg hk).trans h.f, ownsRow_putObj h.own o' hl ho, fun r hr => ownsRow_putObj (h.rs r hr) o' hl ho, cell_kept h.c0 hg hk, (frozen_kept h.c0 hg hk).trans h.f0, cell_kept h.c1 hg hk, (frozen_kept h.c1 hg hk).trans h.f1,
    h.b.grown hg h.b.size fun k e => by cases e; exact hw⟩
theorem DecX.put {w W : World} (h : DecX w W) {l : Nat} {o : Obj} (o' : Obj) (hw : w.heap.size ≤ l) (hl : W.heap[l]? = some o) (ho : o.isCells = false) : DecX w (W.putObj l o') :=
  have hg := grownBy_putObj' W l o'
  have hk : ∀ r, some l = some r → ∃ o : Obj, W.heap[r]? = some o ∧ o.isCells = false := fun r e => by cases e; exact ⟨o, hl, ho⟩
  ⟨cell_kept h.c0 hg hk, cell_kept h.c1 hg hk, h.b.grown hg h.b.size fun k e => by cases e; exact hw⟩

end Go.Proofs.Ytnfldccaeibcpaa
