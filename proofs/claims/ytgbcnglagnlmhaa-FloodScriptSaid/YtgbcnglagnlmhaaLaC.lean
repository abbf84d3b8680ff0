/-
  The contracts of chapter 32 at advertisements as values.
-/
import Derived.Test.YtgbcnglagnlmhaaSame
import Derived.Test.YtgbcnglagnlmhaaPurge
import Derived.Test.YtgbcnglagnlmhaaDecR
import Derived.Test.YtgbcnglagnlmhaaNewR
import Derived.Lib.QuietBelow
namespace Go.Proofs.Ytgbcnglagnlmhaa
set_option linter.unusedVariables false
open Go.RowKit

theorem valid_at (w : World) (v : Value) (x : La) (h : LaAt w v x) : Calls Try.prog 20 #[v] w fun e w' => e = .returned (.bool (vB x)) ∧ Below w.heap.size w w' := by
  obtain ⟨A, c, B, d, rfl, rA, rB, h1, h2, h3, h4, hu⟩ := h
  exact valid_any x.o x.s x.a x.ov x.adj x.pre A _ c B _ d w rfl rfl rA rB hu
theorem rvalid_at (w : World) (v : Value) (x : La) (h : LaAt w v x) : Calls Try.prog 31 #[v] w fun e w' => e = .returned (.bool (vB x)) ∧ Below w.heap.size w w' := by
  obtain ⟨A, c, B, d, rfl, rA, rB, h1, h2, h3, h4, hu⟩ := h
  unfold maxLen at h2 h4
  exact rvalid_any x.o x.s x.a x.ov x.adj x.pre A _ c B _ d w rfl rfl (by omega) (by omega) rA rB hu
def EncPost (w : World) (x : La) (e : Ending) (w' : World) : Prop :=
  ∃ A c, e = .returned (.tuple #[.slice A (lencB x).length c, .int .i64 (lencE x)]) ∧ w'.ownsRow w.heap.size 5 1 (.slice A (lencB x).length c) (lencB x).length ((lencB x).map u8v) ∧ Below w.heap.size w w'
theorem enc_at (w : World) (v : Value) (x : La) (h : LaAt w v x) : Calls Try.prog 59 #[v] w (EncPost w x) := by
  obtain ⟨A, c, B, d, rfl, rA, rB, h1, h2, h3, h4, hu⟩ := h
  refine (lencode_any x.o x.s x.a x.ov x.adj x.pre A _ c B _ d w rfl rfl rA rB hu).mono ?_
  rintro e w' ⟨v, he, hown, hb⟩
  obtain ⟨A', c', rfl, _⟩ := own_rd hown
  exact ⟨A', c', he, hown, hb⟩
def REncPost (w : World) (x : La) (e : Ending) (w' : World) : Prop :=
  ∃ A c, e = .returned (.slice A (laEnc x).length c) ∧ w'.ownsRow w.heap.size 5 1 (.slice A (laEnc x).length c) (laEnc x).length ((laEnc x).map u8v) ∧ Below w.heap.size w w'
theorem renc_at (w : World) (v : Value) (x : La) (h : LaAt w v x) (hv : LaValid x) : Calls Try.prog 68 #[v] w (REncPost w x) := by
  obtain ⟨A, c, B, d, rfl, rA, rB, h1, h2, h3, h4, hu⟩ := h
  refine (rencode_any x.o x.s x.a x.ov x.adj x.pre A _ c B _ d w rfl rfl rA rB hu hv).mono ?_
  rintro e w' ⟨v, he, hown, hb⟩
  obtain ⟨A', c', rfl, _⟩ := own_rd hown
  exact ⟨A', c', he, hown, hb⟩
theorem LaAt.ok {w : World} {v : Value} {x : La} (h : LaAt w v x) : ∀ p ∈ x.pre, p.1 < 4294967296 := by
  obtain ⟨A, c, B, d, _, _, _, _, _, _, _, hu⟩ := h
  exact hu
theorem LaAt.form {w : World} {v : Value} {x : La} (h : LaAt w v x) : ∃ A c B d, v = laV x.o x.s x.a x.ov A x.adj.length c B x.pre.length d := by
  obtain ⟨A, c, B, d, hv, _⟩ := h
  exact ⟨A, c, B, d, hv⟩
/-- Both at once: what an advertisement's value is, and that it is there in all later worlds. -/
theorem LaAt.open {w : World} {v : Value} {x : La} (h : LaAt w v x) : ∃ A c B d, v = laV x.o x.s x.a x.ov A x.adj.length c B x.pre.length d ∧ Hid (∀ W', Below w.heap.size w W' → LaAt W' (laV x.o x.s x.a x.ov A x.adj.length c B x.pre.length d) x) := by
  obtain ⟨A, c, B, d, hv⟩ := h.form
  subst hv
  exact ⟨A, c, B, d, rfl, fun W' hb => h.below hb⟩
theorem LaOwn.open {w : World} {base : Nat} {v : Value} {x : La} (h : LaOwn w base v x) : ∃ A c B d, v = laV x.o x.s x.a x.ov A x.adj.length c B x.pre.length d ∧ Hid (∀ W', Below w.heap.size w W' → LaAt W' (laV x.o x.s x.a x.ov A x.adj.length c B x.pre.length d) x) := h.at.open

theorem St.lt {W w : World} {bs : List (Nat × List Value)} {rs : List (Option Addr × List Value)} (S : St W w bs rs) (i : Nat) {g : Nat} {cs : List Value} (hi : bs[i]? = some (g, cs)) (hn : 0 < cs.length) : g < w.heap.size := (S.box i hi).lt hn
/-- The numbers were stored anew. -/
theorem LaAt.renum {w : World} {o s a : Int} {ov : Bool} {A : Option Addr} {n c : Nat} {B : Option Addr} {m d : Nat} {x : La} (h : LaAt w (laV o s a ov A n c B m d) x) (o' s' a' : Int) (ov' : Bool) :
    LaAt w (laV o' s' a' ov' A n c B m d) ⟨o', s', a', ov', x.adj, x.pre⟩ := by
  obtain ⟨A9, c9, B9, d9, e9, r1, r2, l1, l2, l3, l4, hu⟩ := h
  simp only [laV, Value.agg.injEq, Array.mk.injEq, List.cons.injEq, Value.slice.injEq, and_true] at e9
  obtain ⟨_, _, _, _, ⟨rfl, rfl, rfl⟩, rfl, rfl, rfl⟩ := e9
  exact ⟨_, _, _, _, rfl, r1, r2, l1, l2, l3, l4, hu⟩
theorem LaAt.opened {w : World} {v : Value} {x : La} (h : LaAt w v x) : ∃ A c B d, v = laV x.o x.s x.a x.ov A x.adj.length c B x.pre.length d ∧ LaAt w (laV x.o x.s x.a x.ov A x.adj.length c B x.pre.length d) x := by
  obtain ⟨A, c, B, d, hv⟩ := h.form
  subst hv
  exact ⟨A, c, B, d, rfl, h⟩
theorem belowR {B : Nat} {w w1 : World} (h : Below B w w1) (d : Nat) (os : Array Obj) (hs : B ≤ w1.heap.size) : Below B w (Go.Sort.grow (redrawn w1 d) os) := h.trans ((below_regrown w1 d os).mono hs)

end Go.Proofs.Ytgbcnglagnlmhaa
