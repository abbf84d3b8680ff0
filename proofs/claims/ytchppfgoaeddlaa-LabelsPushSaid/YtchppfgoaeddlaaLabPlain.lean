/-
  Plain laws of stacks: what a stack's bytes read as.
-/
import Derived.Test.YtchppfgoaeddlaaLabUnp
namespace Go.Proofs.Ytchppfgoaeddlaa
set_option linter.unusedVariables false
open Go.RowKit

theorem at8_left (a b : List UInt8) (i : Nat) (h : i < a.length) : at8 (a ++ b) i = at8 a i := by
  unfold at8; rw [List.getD_eq_getElem?_getD, List.getD_eq_getElem?_getD, List.getElem?_append_left h]
theorem at8_right (a b : List UInt8) (i : Nat) (h : a.length ≤ i) : at8 (a ++ b) i = at8 b (i - a.length) := by
  unfold at8; rw [List.getD_eq_getElem?_getD, List.getD_eq_getElem?_getD, List.getElem?_append_right h]
theorem num_entB (n : Nat) : numI (entB n) 0 = n % 4294967296 := by
  have h0 : at8 (entB n) 0 = n / 16777216 % 256 := by simp [at8, entB]
  have h1 : at8 (entB n) (0 + 1) = n / 65536 % 256 := by simp [at8, entB]
  have h2 : at8 (entB n) (0 + 2) = n / 256 % 256 := by simp [at8, entB]
  have h3 : at8 (entB n) (0 + 3) = n % 256 := by simp [at8, entB]
  unfold numI
  rw [h0, h1, h2, h3]
  omega
theorem num_pk (l : List (Int × Int)) (c t : Nat) : ∀ (k j : Nat), j < k → numI (pk l c t k) (4 * j) = entN (encL (l.getD j (0, 0)).1 (l.getD j (0, 0)).2).toNat c t (j + 1 == l.length) % 4294967296 := by
  intro k
  induction k with
  | zero => intro j h; omega
  | succ k ih =>
    intro j h
    have hl := pk_len l c t k
    by_cases hj : j < k
    · rw [← ih j hj]
      show numI (pk l c t k ++ _) _ = _
      unfold numI
      rw [at8_left _ _ _ (by omega), at8_left _ _ _ (by omega), at8_left _ _ _ (by omega), at8_left _ _ _ (by omega)]
    · obtain rfl : j = k := by omega
      rw [← num_entB]
      show numI (pk l c t j ++ entB _) _ = _
      unfold numI
      rw [at8_right _ _ _ (by omega), at8_right _ _ _ (by omega), at8_right _ _ _ (by omega), at8_right _ _ _ (by omega), hl]
      rw [show 4 * j - 4 * j = 0 by omega, show 4 * j + 1 - 4 * j = 0 + 1 by omega, show 4 * j + 2 - 4 * j = 0 + 2 by omega, show 4 * j + 3 - 4 * j = 0 + 3 by omega]

theorem firstErr_zero (l : List (Int × Int)) (h : firstErr l = 0) : ∀ s ∈ l, encE s.1 s.2 = 0 := by
  induction l with
  | nil => simp
  | cons s r ih =>
    intro x hx
    by_cases hs : encE s.1 s.2 = 0
    · rw [firstErr, if_pos hs] at h
      rcases List.mem_cons.1 hx with rfl | hx
      · exact hs
      · exact ih h x hx
    · rw [firstErr, if_neg hs] at h
      exact absurd h hs

theorem dec_enc' (k m : Int) (h : encE k m = 0) : decK (encL k m) = k ∧ decN (encL k m) = m ∧ decE (encL k m) = 0 := by
  have hk : k = 1 ∨ k = 2 ∨ k = 3 ∨ k = 4 := by
    revert h
    unfold encE
    repeat' split
    all_goals omega
  rcases hk with rfl | rfl | rfl | rfl
  · have hm : 0 ≤ m ∧ m ≤ 63 := by
      revert h
      unfold encE
      repeat' split
      all_goals (intro _; omega)
    have hL : encL 1 m = 16 + m := by
      unfold encL
      repeat' split
      all_goals omega
    clear h
    rw [hL]
    unfold decK decN decE
    refine ⟨?_, ?_, ?_⟩
    all_goals
      repeat' split
      all_goals omega
  · have hm : 0 ≤ m ∧ m ≤ 511 := by
      revert h
      unfold encE
      repeat' split
      all_goals (intro _; omega)
    have hL : encL 2 m = 128 + m := by
      unfold encL
      repeat' split
      all_goals omega
    clear h
    rw [hL]
    unfold decK decN decE
    refine ⟨?_, ?_, ?_⟩
    all_goals
      repeat' split
      all_goals omega
  · have hm : 1 ≤ m ∧ m ≤ 64 := by
      revert h
      unfold encE
      repeat' split
      all_goals (intro _; omega)
    have hL : encL 3 m = 1024 + m := by
      unfold encL
      repeat' split
      all_goals omega
    clear h
    rw [hL]
    unfold decK decN decE
    refine ⟨?_, ?_, ?_⟩
    all_goals
      repeat' split
      all_goals omega
  · have hm : 0 ≤ m ∧ m ≤ 65535 := by
      revert h
      unfold encE
      repeat' split
      all_goals (intro _; omega)
    have hL : encL 4 m = 2048 + m := by
      unfold encL
      repeat' split
      all_goals omega
    clear h
    rw [hL]
    unfold decK decN decE
    refine ⟨?_, ?_, ?_⟩
    all_goals
      repeat' split
      all_goals omega


/-- What an entry of a stack reads as. -/
theorem pk_parts (l : List (Int × Int)) (c t : Nat) (hc : c < 8) (ht : t < 256) (he : firstErr l = 0) (j : Nat) (hj : j < l.length) :
    segI (pk l c t l.length) (4 * j) = l[j] ∧ decE (labI (pk l c t l.length) (4 * j)) = 0 ∧ clsI (pk l c t l.length) (4 * j) = c ∧ ttlI (pk l c t l.length) (4 * j) = t := by
  have hn := num_pk l c t l.length j hj
  have hg : l.getD j (0, 0) = l[j] := by rw [List.getD_eq_getElem?_getD, List.getElem?_eq_getElem hj]; rfl
  rw [hg] at hn
  have he2 := firstErr_zero l he l[j] (List.getElem_mem hj)
  obtain ⟨L, hL, hL2⟩ := enc_ok _ _ he2
  have hd := dec_enc' _ _ he2
  rw [hL] at hn hd
  rw [Int.toNat_natCast] at hn
  have hlab : labI (pk l c t l.length) (4 * j) = L := by
    unfold labI; rw [hn]; unfold entN; split <;> omega
  refine ⟨?_, ?_, ?_, ?_⟩
  · unfold segI; rw [hlab, hd.1, hd.2.1]
  · rw [hlab]; exact hd.2.2
  · unfold clsI; rw [hn]; unfold entN; split <;> omega
  · unfold ttlI; rw [hn]; unfold entN; split <;> omega

theorem packR_known (bs : List UInt8) (k c t : Nat) (hk : k ≤ 32) (hc : c < 8) (ht : t < 256) (h : known bs k = true) : packR (unpL bs k) c t = pk (unpL bs k) c t (unpL bs k).length ∧ packErr (unpL bs k) c t = 0 := by
  have he : packErr (unpL bs k) c t = 0 := by
    unfold packErr
    rw [if_neg (by omega), if_neg (by rw [unpL_len]; omega)]
    exact firstErr_known bs k h
  refine ⟨?_, he⟩
  unfold packR
  rw [if_pos he, Int.toNat_natCast, Int.toNat_natCast]
/-- The class and the time to live of the first entry, of the last. -/
theorem same_good (bs : List UInt8) (k : Nat) (hk : k ≤ 32) (h : known bs k = true) (j i : Nat) (hj : j < k) (hi : i < k) (hR : packR (unpL bs k) (clsI bs (4 * j)) (ttlI bs (4 * j)) = bs) :
    clsI bs (4 * j) = clsI bs (4 * i) ∧ ttlI bs (4 * j) = ttlI bs (4 * i) := by
  have hc : clsI bs (4 * j) < 8 := Nat.mod_lt _ (by omega)
  have ht : ttlI bs (4 * j) < 256 := Nat.mod_lt _ (by omega)
  rw [(packR_known bs k _ _ hk hc ht h).1] at hR
  have hp := pk_parts (unpL bs k) _ _ hc ht (firstErr_known bs k h) i (by rw [unpL_len]; exact hi)
  rw [hR] at hp
  exact ⟨hp.2.2.1.symm, hp.2.2.2.symm⟩
theorem good_last (bs : List UInt8) (k : Nat) (hk : k ≤ 32) (h : known bs k = true) (h0 : 0 < k) :
    (packR (unpL bs k) (clsI bs (4 * (k - 1))) (ttlI bs (4 * (k - 1))) == bs) = (packR (unpL bs k) (clsI bs 0) (ttlI bs 0) == bs) := by
  rw [Bool.eq_iff_iff, beq_iff_eq, beq_iff_eq]
  constructor
  · intro hR
    obtain ⟨h1, h2⟩ := same_good bs k hk h (k - 1) 0 (by omega) h0 hR
    rw [h1, h2] at hR
    exact hR
  · intro hR
    obtain ⟨h1, h2⟩ := same_good bs k hk h 0 (k - 1) h0 (by omega) hR
    rw [← h1, ← h2]
    exact hR

end Go.Proofs.Ytchppfgoaeddlaa
