/-
  Advertisements as values; the contract of the closure in lsa.Decode.
-/
import Derived.Test.YtnfldccaeibcpaaLaD
import Derived.Test.YtnfldccaeibcpaaValW
namespace Go.Proofs.Ytnfldccaeibcpaa
set_option linter.unusedVariables false
open Go.RowKit

theorem adT : ElemT Try.prog 42 105 (.agg #[.int .i64 0, .int .i64 0, .int .i64 0]) 3 24 := ⟨Try.underlying42, by kernel_rfl, rfl, by omega⟩
theorem pfT : ElemT Try.prog 43 108 (.agg #[.int .u32 0, .int .i64 0]) 2 16 := ⟨Try.underlying43, by kernel_rfl, rfl, by omega⟩

/-- The value is this advertisement; its slices are read where they lie. -/
def LaAt (w : World) (v : Value) (x : La) : Prop := ∃ A c B d, v = laV x.o x.s x.a x.ov A x.adj.length c B x.pre.length d ∧ Rd w A (adV x.adj) ∧ Rd w B (pfV x.pre) ∧
  x.adj.length ≤ c ∧ c ≤ maxLen ∧ x.pre.length ≤ d ∧ d ≤ maxLen ∧ ∀ p ∈ x.pre, p.1 < 4294967296
/-- .. its slices are the call's own. -/
def LaOwn (w : World) (base : Nat) (v : Value) (x : La) : Prop := ∃ A c B d, v = laV x.o x.s x.a x.ov A x.adj.length c B x.pre.length d ∧
  w.ownsRow base 105 3 (.slice A x.adj.length c) x.adj.length (adV x.adj) ∧ w.ownsRow base 108 2 (.slice B x.pre.length d) x.pre.length (pfV x.pre) ∧ ∀ p ∈ x.pre, p.1 < 4294967296
theorem LaOwn.at {w : World} {base : Nat} {v : Value} {x : La} (h : LaOwn w base v x) : LaAt w v x := by
  obtain ⟨A, c, B, d, rfl, h1, h2, h3⟩ := h
  obtain ⟨A', c', e1, r1, l1, m1⟩ := own_rd h1
  obtain ⟨B', d', e2, r2, l2, m2⟩ := own_rd h2
  simp only [Value.slice.injEq, true_and] at e1 e2
  obtain ⟨rfl, rfl⟩ := e1
  obtain ⟨rfl, rfl⟩ := e2
  exact ⟨A, c, B, d, rfl, r1, r2, l1, m1, l2, m2, h3⟩
theorem LaOwn.below {w w' : World} {base : Nat} {v : Value} {x : La} (h : LaOwn w base v x) (hb : Below w.heap.size w w') : LaOwn w' base v x := by
  obtain ⟨A, c, B, d, rfl, h1, h2, h3⟩ := h
  exact ⟨A, c, B, d, rfl, own_below h1 hb, own_below h2 hb, h3⟩
theorem LaOwn.mono {w : World} {base base' : Nat} {v : Value} {x : La} (h : LaOwn w base' v x) (hb : base ≤ base') : LaOwn w base v x := by
  obtain ⟨A, c, B, d, rfl, h1, h2, h3⟩ := h
  exact ⟨A, c, B, d, rfl, own_mono h1 hb, own_mono h2 hb, h3⟩
theorem LaAt.below {w w' : World} {v : Value} {x : La} (h : LaAt w v x) (hb : Below w.heap.size w w') : LaAt w' v x := by
  obtain ⟨A, c, B, d, rfl, h1, h2, h3⟩ := h
  exact ⟨A, c, B, d, rfl, h1.below hb, h2.below hb, h3⟩
theorem laZero_own (w : World) (base : Nat) : LaOwn w base (laV 0 0 0 false none 0 0 none 0 0) laZero :=
  ⟨none, 0, none, 0, rfl, World.ownsRow_nil _ _ _ _, World.ownsRow_nil _ _ _ _, by simp [laZero]⟩

theorem run_upto {P : Program} {t e : TypeId} {z : Value} {bytes : Nat} (hE : ElemT P t e z 1 bytes) (A : Option Addr) (n c hi : Nat) (h2 : hi ≤ c) (W : World) :
    (Instr.slice t (.slice A n c) none (some (.int .i64 (hi : Int))) none).run P W = .ok (.slice A hi c) W := by
  obtain ⟨i, hi', hz0, hz1, hz2⟩ := info_parts hE.info
  have hel : P.elem t = e := by simp [Program.elem, hE.under]
  rw [run_slice_h W t A n c (by rw [hel]; exact hE.under) .i64 hi (by omega) (by omega), hel]
  cases A <;> simp [sizeOf, typeInfo, hi', hz1, sliced, Result.andThen, Addr.add]

/-- The captured slice of bytes, in block g. -/
structure TakS (w : World) (g : Nat) (bs : List UInt8) (X : Option Addr) (m c : Nat) : Prop where
  cel : w.cell? ⟨g, 0, none⟩ = some (.slice X m c)
  frz : w.frozen? ⟨g, 0, none⟩ = false
  rd : Bs w X bs
  len : bs.length = m
  mc : m ≤ c
  cm : c ≤ 9223372036854775807
  far : ∀ ad, X = some ad → ad.block ≠ g
theorem subA_block {X : Option Addr} {lo c : Nat} {ad : Addr} (h : subA X lo c = some ad) : ∃ ad', X = some ad' ∧ ad.block = ad'.block := by
  unfold subA at h
  split at h
  · exact ⟨ad, h, rfl⟩
  · obtain ⟨a, rfl, rfl⟩ := Option.map_eq_some_iff.1 h
    exact ⟨a, rfl, addr_add_block _ _⟩
theorem Rd.setFar {w : World} {A : Option Addr} {xs : List Value} (h : Rd w A xs) {p : Addr} (u : Value) (hp : ∀ ad, A = some ad → ad.block ≠ p.block) : Rd (w.setCell p u) A xs := by
  intro hn
  obtain ⟨ad, e, hc⟩ := h hn
  refine ⟨ad, e, fun j v hv => ?_⟩
  rw [cell_far u (by intro e2; exact hp ad e (by rw [e2, addr_add_block]))]
  exact hc j v hv

theorem uiN_lt (bs : List UInt8) (h : bs.length ≤ 4) : uiN bs < 4294967296 := by
  unfold uiN
  split
  · have := uintB_lt bs
    have := Nat.pow_le_pow_right (n := 256) (by omega) h
    omega
  · omega

end Go.Proofs.Ytnfldccaeibcpaa
