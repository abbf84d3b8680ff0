/-
  Lists of pairs and of steps, as cells; small facts.
-/
import Derived.Test.YtpjbblmhpkapnaaHelRef
namespace Go.Proofs.Ytpjbblmhpkapnaa
set_option linter.unusedVariables false
open Go.RowKit

theorem tk_vld {p l : Int} (n : Int) (h : vld p l = true) : vld (tkP p l n) (tkL p l n) = true := by
  have hv := vld_le h
  by_cases h1 : n ≤ 0 ∨ p = 0
  · simp only [tkP, tkL, h1, if_true]; exact h
  · by_cases h2 : l ≤ n
    · simp only [tkP, tkL, h1, h2, if_true, if_false]; rfl
    · simp only [tkP, tkL, h1, h2, if_false]
      simp [vld] at h ⊢
      omega

/-- A list of pairs of bools, as cells. -/
def flat2 : List (Bool × Bool) → List Value
  | [] => []
  | b :: r => .bool b.1 :: .bool b.2 :: flat2 r
theorem flat2_get (ls : List (Bool × Bool)) : ∀ (k : Nat) (hk : k < ls.length), (flat2 ls)[2 * k]? = some (.bool ls[k].1) ∧ (flat2 ls)[2 * k + 1]? = some (.bool ls[k].2) := by
  induction ls with
  | nil => intro k hk; simp at hk
  | cons b r ih =>
    intro k hk
    cases k with
    | zero => exact ⟨rfl, rfl⟩
    | succ k =>
      have := ih k (by simpa using hk)
      simpa [flat2, Nat.mul_add] using this

theorem flat2_len (ls : List (Bool × Bool)) : (flat2 ls).length = 2 * ls.length := by
  induction ls with
  | nil => rfl
  | cons b r ih => simp [flat2, ih]; omega

/-- The address written out. -/
theorem rd_at {w : World} {A : Option Addr} {xs : List Value} (h : Rd w A xs) (hn : 0 < xs.length) : ∃ b off, A = some ⟨b, off, none⟩ ∧ ∀ (j : Nat) (u : Value), xs[j]? = some u → w.cell? ⟨b, off + j, none⟩ = some u := by
  obtain ⟨ad, e, hc⟩ := h hn
  obtain ⟨b, off, spot⟩ := ad
  have h0 := hc 0 _ (List.getElem?_eq_getElem hn)
  have hs : spot = none := by simpa [Addr.add] using World.cell?_spot h0
  subst hs
  refine ⟨b, off, e, fun j u hu => ?_⟩
  have := hc j u hu
  have hadd : (⟨b, off, none⟩ : Addr).add j = ⟨b, off + j, none⟩ := by unfold Addr.add; split <;> simp_all
  rwa [hadd] at this
theorem rd_flat2 {w : World} {A : Option Addr} {ls : List (Bool × Bool)} (h : Rd w A (flat2 ls)) {k : Nat} (hk : k < ls.length) :
    ∃ b off, A = some ⟨b, off, none⟩ ∧ w.cell? ⟨b, off + k * 2, none⟩ = some (.bool ls[k].1) ∧ w.cell? ⟨b, off + k * 2 + 1, none⟩ = some (.bool ls[k].2) := by
  obtain ⟨b, off, e, hc⟩ := rd_at h (by rw [flat2_len]; omega)
  obtain ⟨h1, h2⟩ := flat2_get ls k hk
  exact ⟨b, off, e, hc _ _ (by rw [Nat.mul_comm]; exact h1), by rw [Nat.add_assoc]; exact hc _ _ (by rw [Nat.mul_comm]; exact h2)⟩

/-- A list of steps, as cells. -/
def flat3 : List (Bool × Bool × Int) → List Value
  | [] => []
  | b :: r => .bool b.1 :: .bool b.2.1 :: .int .i64 b.2.2 :: flat3 r
theorem flat3_get (ls : List (Bool × Bool × Int)) : ∀ (k : Nat) (hk : k < ls.length), (flat3 ls)[3 * k]? = some (.bool ls[k].1) ∧ (flat3 ls)[3 * k + 1]? = some (.bool ls[k].2.1) ∧ (flat3 ls)[3 * k + 2]? = some (.int .i64 ls[k].2.2) := by
  induction ls with
  | nil => intro k hk; simp at hk
  | cons b r ih =>
    intro k hk
    cases k with
    | zero => exact ⟨rfl, rfl, rfl⟩
    | succ k =>
      have := ih k (by simpa using hk)
      simpa [flat3, Nat.mul_add] using this
theorem flat3_len (ls : List (Bool × Bool × Int)) : (flat3 ls).length = 3 * ls.length := by
  induction ls with
  | nil => rfl
  | cons b r ih => simp [flat3, ih]; omega
theorem rd_flat3 {w : World} {A : Option Addr} {ls : List (Bool × Bool × Int)} (h : Rd w A (flat3 ls)) {k : Nat} (hk : k < ls.length) :
    ∃ b off, A = some ⟨b, off, none⟩ ∧ w.cell? ⟨b, off + k * 3, none⟩ = some (.bool ls[k].1) ∧ w.cell? ⟨b, off + k * 3 + 1, none⟩ = some (.bool ls[k].2.1) ∧ w.cell? ⟨b, off + k * 3 + 2, none⟩ = some (.int .i64 ls[k].2.2) := by
  obtain ⟨b, off, e, hc⟩ := rd_at h (by rw [flat3_len]; omega)
  obtain ⟨h1, h2, h3⟩ := flat3_get ls k hk
  exact ⟨b, off, e, hc _ _ (by rw [Nat.mul_comm]; exact h1), by rw [Nat.add_assoc]; exact hc _ _ (by rw [Nat.mul_comm]; exact h2), by rw [Nat.add_assoc]; exact hc _ _ (by rw [Nat.mul_comm]; exact h3)⟩

end Go.Proofs.Ytpjbblmhpkapnaa
