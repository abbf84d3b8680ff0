/-
  The contracts of chapter 32 at advertisements as values.
-/
import Derived.Test.YtpcbgmnldpbamaaSame
import Derived.Test.YtpcbgmnldpbamaaPurge
import Derived.Test.YtpcbgmnldpbamaaDecR
import Derived.Test.YtpcbgmnldpbamaaNewR
namespace Go.Proofs.Ytpcbgmnldpbamaa
set_option linter.unusedVariables false
open Go.RowKit

theorem valid_at (w : World) (v : Value) (x : La) (h : LaAt w v x) : Calls Try.prog 14 #[v] w fun e w' => e = .returned (.bool (vB x)) ∧ Below w.heap.size w w' := by
  obtain ⟨A, c, B, d, rfl, rA, rB, h1, h2, h3, h4, hu⟩ := h
  exact valid_any x.o x.s x.a x.ov x.adj x.pre A _ c B _ d w rfl rfl rA rB hu
theorem rvalid_at (w : World) (v : Value) (x : La) (h : LaAt w v x) : Calls Try.prog 15 #[v] w fun e w' => e = .returned (.bool (vB x)) ∧ Below w.heap.size w w' := by
  obtain ⟨A, c, B, d, rfl, rA, rB, h1, h2, h3, h4, hu⟩ := h
  unfold maxLen at h2 h4
  exact rvalid_any x.o x.s x.a x.ov x.adj x.pre A _ c B _ d w rfl rfl (by omega) (by omega) rA rB hu
def EncPost (w : World) (x : La) (e : Ending) (w' : World) : Prop :=
  ∃ A c, e = .returned (.tuple #[.slice A (lencB x).length c, .int .i64 (lencE x)]) ∧ w'.ownsRow w.heap.size 5 1 (.slice A (lencB x).length c) (lencB x).length ((lencB x).map u8v) ∧ Below w.heap.size w w'
theorem enc_at (w : World) (v : Value) (x : La) (h : LaAt w v x) : Calls Try.prog 12 #[v] w (EncPost w x) := by
  obtain ⟨A, c, B, d, rfl, rA, rB, h1, h2, h3, h4, hu⟩ := h
  refine (lencode_any x.o x.s x.a x.ov x.adj x.pre A _ c B _ d w rfl rfl rA rB hu).mono ?_
  rintro e w' ⟨v, he, hown, hb⟩
  obtain ⟨A', c', rfl, _⟩ := own_rd hown
  exact ⟨A', c', he, hown, hb⟩
def REncPost (w : World) (x : La) (e : Ending) (w' : World) : Prop :=
  ∃ A c, e = .returned (.slice A (laEnc x).length c) ∧ w'.ownsRow w.heap.size 5 1 (.slice A (laEnc x).length c) (laEnc x).length ((laEnc x).map u8v) ∧ Below w.heap.size w w'
theorem renc_at (w : World) (v : Value) (x : La) (h : LaAt w v x) (hv : LaValid x) : Calls Try.prog 17 #[v] w (REncPost w x) := by
  obtain ⟨A, c, B, d, rfl, rA, rB, h1, h2, h3, h4, hu⟩ := h
  refine (rencode_any x.o x.s x.a x.ov x.adj x.pre A _ c B _ d w rfl rfl rA rB hu hv).mono ?_
  rintro e w' ⟨v, he, hown, hb⟩
  obtain ⟨A', c', rfl, _⟩ := own_rd hown
  exact ⟨A', c', he, hown, hb⟩
theorem LaAt.ok {w : World} {v : Value} {x : La} (h : LaAt w v x) : ∀ p ∈ x.pre, p.1 < 4294967296 := by
  obtain ⟨A, c, B, d, _, _, _, _, _, _, _, hu⟩ := h
  exact hu
theorem LaAt.form {w : World} {v : Value} {x : La} (h : LaAt w v x) : ∃ A c B d, v = laV x.o x.s x.a x.ov A x.adj.length c B x.pre.length d := by
  obtain ⟨A, c, B, d, hv, _⟩ := h
  exact ⟨A, c, B, d, hv⟩
/-- Both at once: what an advertisement's value is, and that it is there in all later worlds. -/
theorem LaAt.open {w : World} {v : Value} {x : La} (h : LaAt w v x) : ∃ A c B d, v = laV x.o x.s x.a x.ov A x.adj.length c B x.pre.length d ∧ Hid (∀ W', Below w.heap.size w W' → LaAt W' (laV x.o x.s x.a x.ov A x.adj.length c B x.pre.length d) x) := by
  obtain ⟨A, c, B, d, hv⟩ := h.form
  subst hv
  exact ⟨A, c, B, d, rfl, fun W' hb => h.below hb⟩
theorem LaOwn.open {w : World} {base : Nat} {v : Value} {x : La} (h : LaOwn w base v x) : ∃ A c B d, v = laV x.o x.s x.a x.ov A x.adj.length c B x.pre.length d ∧ Hid (∀ W', Below w.heap.size w W' → LaAt W' (laV x.o x.s x.a x.ov A x.adj.length c B x.pre.length d) x) := h.at.open

end Go.Proofs.Ytpcbgmnldpbamaa
