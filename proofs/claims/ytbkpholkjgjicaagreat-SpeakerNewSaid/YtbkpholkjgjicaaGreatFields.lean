/-
  The contract of the reference's fields.
-/
import Derived.Test.YtbkpholkjgjicaaGreatCodRN
import Derived.Deep.RegionHeld3
import Derived.IntWalk
namespace Go.Proofs.YtbkpholkjgjicaaGreat
set_option linter.unusedVariables false
open Go.RowKit

/-- Pairs of numbers as cells. -/
def prV : List (Nat × Nat) → List Value
  | [] => []
  | x :: l => .int .i64 (x.1 : Int) :: .int .i64 (x.2 : Int) :: prV l
theorem prV_len (l : List (Nat × Nat)) : (prV l).length = l.length * 2 := by
  induction l with
  | nil => rfl
  | cons r l ih => simp only [prV, List.length_cons, ih]; omega
theorem prV_get (l : List (Nat × Nat)) : ∀ (k : Nat) (hk : k < l.length), (prV l)[2 * k]? = some (.int .i64 (l[k].1 : Int)) ∧ (prV l)[2 * k + 1]? = some (.int .i64 (l[k].2 : Int)) := by
  induction l with
  | nil => intro k hk; simp at hk
  | cons r l ih =>
    intro k hk
    cases k with
    | zero => exact ⟨rfl, rfl⟩
    | succ k =>
      obtain ⟨h1, h2⟩ := ih k (by simpa using hk)
      rw [show 2 * (k + 1) = 2 * k + 1 + 1 by omega]
      exact ⟨by simpa [prV] using h1, by simpa [prV] using h2⟩
theorem rd_pr {w : World} {A : Option Addr} {l : List (Nat × Nat)} (h : Rd w A (prV l)) (hn : 0 < l.length) :
    ∃ b off, A = some ⟨b, off, none⟩ ∧ ∀ k (hk : k < l.length), w.cell? ⟨b, off + k * 2, none⟩ = some (.int .i64 (l[k].1 : Int)) ∧ w.cell? ⟨b, off + k * 2 + 1, none⟩ = some (.int .i64 (l[k].2 : Int)) := by
  obtain ⟨b, off, e, hc⟩ := rd_at h (by rw [prV_len]; omega)
  refine ⟨b, off, e, fun k hk => ?_⟩
  obtain ⟨h1, h2⟩ := prV_get l k hk
  exact ⟨hc _ _ (by rw [Nat.mul_comm]; exact h1), by rw [Nat.add_assoc]; exact hc _ _ (by rw [Nat.mul_comm]; exact h2)⟩
def fldB : List (Nat × Nat) → List UInt8
  | [] => []
  | x :: l => numB x.1 x.2 ++ fldB l
theorem fldB_append (a b : List (Nat × Nat)) : fldB (a ++ b) = fldB a ++ fldB b := by
  induction a with
  | nil => rfl
  | cons r a ih => simp only [List.cons_append, fldB, ih, List.append_assoc]
theorem fldB_take (l : List (Nat × Nat)) (k : Nat) (hk : k < l.length) : fldB (l.take (k + 1)) = fldB (l.take k) ++ numB l[k].1 l[k].2 := by
  rw [List.take_succ_eq_append_getElem hk, fldB_append]; simp [fldB]

end Go.Proofs.YtbkpholkjgjicaaGreat
