/-
  Plain: the stack without its first entry.
-/
import Derived.Test.YtchppfgoaeddlaaLabRound
namespace Go.Proofs.Ytchppfgoaeddlaa
set_option linter.unusedVariables false
open Go.RowKit

theorem entB_len (n : Nat) : (entB n).length = 4 := rfl
theorem pk_cons (s : Int × Int) (r : List (Int × Int)) (c t : Nat) : ∀ k, pk (s :: r) c t (k + 1) = entB (entN (encL s.1 s.2).toNat c t (1 == (s :: r).length)) ++ pk r c t k := by
  intro k
  induction k with
  | zero => simp [pk]
  | succ k ih =>
    rw [pk, ih]
    show _ = _ ++ (pk r c t k ++ _)
    rw [List.append_assoc]
    simp

/-- The rest of a stack is the stack of the rest. -/
theorem pk_rest (s : Int × Int) (r : List (Int × Int)) (c t : Nat) : (pk (s :: r) c t (s :: r).length).drop 4 = pk r c t r.length := by
  rw [List.length_cons, pk_cons, List.drop_left' (entB_len _)]
theorem packErr_tail (s : Int × Int) (r : List (Int × Int)) (c t : Int) (h : packErr (s :: r) c t = 0) : packErr r c t = 0 := by
  by_cases hx : c < 0 ∨ 7 < c ∨ t < 0 ∨ 255 < t
  · unfold packErr at h; rw [if_pos hx] at h; omega
  · by_cases hy : 32 < (s :: r).length
    · unfold packErr at h; rw [if_neg hx, if_pos hy] at h; omega
    · unfold packErr at h ⊢
      rw [if_neg hx, if_neg hy, firstErr] at h
      rw [if_neg hx, if_neg (by simp at hy; omega)]
      split at h
      · exact h
      · contradiction

/-- What is known of a stack that is read. -/
theorem good_parts (bs : List UInt8) (s : Int × Int) (r : List (Int × Int)) (hg : good bs = true) (hL : unL bs = s :: r) :
    packErr (s :: r) (unC bs) (unT bs) = 0 ∧ packR (s :: r) (unC bs) (unT bs) = bs ∧ 4 ≤ bs.length ∧ bs.drop 4 = packR r (unC bs) (unT bs) ∧ packErr r (unC bs) (unT bs) = 0 := by
  have h0 := hg
  unfold good at h0
  simp only [Bool.and_eq_true, Bool.or_eq_true, beq_iff_eq, decide_eq_true_eq] at h0
  obtain ⟨⟨⟨h1, h2⟩, h3⟩, h4⟩ := h0
  have hu : unpL bs (bs.length / 4) = s :: r := by rw [← hL]; unfold unL; rw [if_pos hg]
  have hlen : bs.length / 4 = r.length + 1 := by rw [← unpL_len bs (bs.length / 4), hu]; rfl
  have hne : bs ≠ [] := by rintro rfl; simp at hlen
  have hC : unC bs = clsI bs 0 := by unfold unC; rw [if_pos ⟨hg, hne⟩]
  have hT : unT bs = ttlI bs 0 := by unfold unT; rw [if_pos ⟨hg, hne⟩]
  have hk := packR_known bs (bs.length / 4) (clsI bs 0) (ttlI bs 0) (by omega) (Nat.mod_lt _ (by omega)) (Nat.mod_lt _ (by omega)) h3
  rw [hu] at hk h4
  have hR := h4.resolve_left (by omega)
  have ht := packErr_tail s r _ _ hk.2
  rw [hC, hT]
  refine ⟨hk.2, hR, by omega, ?_, ht⟩
  rw [(pack_good r _ _ ht).1, ← pk_rest s r, ← hk.1, hR]

end Go.Proofs.Ytchppfgoaeddlaa
