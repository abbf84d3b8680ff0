/-
  Plain: the bytes of a list read as that list.
-/
import Derived.Test.YtchppfgoaeddlaaLabPlain
namespace Go.Proofs.Ytchppfgoaeddlaa
set_option linter.unusedVariables false
open Go.RowKit

/-- A stack of a list that can be packed. -/
theorem pack_good (l : List (Int × Int)) (c t : Nat) (h : packErr l c t = 0) :
    packR l c t = pk l c t l.length ∧ (packR l c t).length = 4 * l.length ∧ good (packR l c t) = true ∧ unL (packR l c t) = l ∧ unC (packR l c t) = (if l = [] then 0 else (c : Int)) ∧ unT (packR l c t) = (if l = [] then 0 else (t : Int)) := by
  have hR : packR l c t = pk l c t l.length := by unfold packR; rw [if_pos h, Int.toNat_natCast, Int.toNat_natCast]
  have hin : ¬ ((c : Int) < 0 ∨ 7 < (c : Int) ∨ (t : Int) < 0 ∨ 255 < (t : Int)) := by
    intro hx; unfold packErr at h; rw [if_pos hx] at h; omega
  have hlen : ¬ 32 < l.length := by
    intro hx; unfold packErr at h; rw [if_neg hin, if_pos hx] at h; omega
  have hf : firstErr l = 0 := by unfold packErr at h; rwa [if_neg hin, if_neg hlen] at h
  have hc : c < 8 := by omega
  have ht : t < 256 := by omega
  have hn : (packR l c t).length = 4 * l.length := by rw [hR, pk_len]
  have parts := fun j hj => pk_parts l c t hc ht hf j hj
  rw [← hR] at parts
  have hL : unpL (packR l c t) l.length = l := by
    apply List.ext_getElem
    · rw [unpL_len]
    · intro j h1 h2
      simp only [unpL, List.getElem_map, List.getElem_range]
      exact (parts j h2).1
  have hk : known (packR l c t) l.length = true := by
    unfold known
    rw [List.all_eq_true]
    intro j hj
    simpa using (parts j (List.mem_range.1 hj)).2.1
  have hg : good (packR l c t) = true := by
    unfold good
    rw [hn, show 4 * l.length / 4 = l.length by omega, hk, hL, show (4 * l.length % 4 == 0) = true by simp, show decide (4 * l.length ≤ 128) = true by simp; omega]
    rcases Nat.eq_zero_or_pos l.length with h0 | h0
    · rw [h0]; rfl
    · have := parts 0 h0
      rw [show (4 * 0) = 0 from rfl] at this
      rw [this.2.2.1, this.2.2.2]
      simp
  have hnil : l = [] ↔ packR l c t = [] := by
    rw [← List.length_eq_zero_iff, ← List.length_eq_zero_iff, hn]; omega
  refine ⟨hR, hn, hg, ?_, ?_, ?_⟩
  · unfold unL; rw [if_pos hg, hn, show 4 * l.length / 4 = l.length by omega, hL]
  · unfold unC
    by_cases h0 : l = []
    · rw [if_pos h0, if_neg (by rw [← hnil.1 h0]; simp)]
    · rw [if_neg h0, if_pos ⟨hg, fun hx => h0 (hnil.2 hx)⟩]
      have := parts 0 (List.length_pos_iff.2 h0)
      rw [show (4 * 0) = 0 from rfl] at this
      rw [this.2.2.1]
  · unfold unT
    by_cases h0 : l = []
    · rw [if_pos h0, if_neg (by rw [← hnil.1 h0]; simp)]
    · rw [if_neg h0, if_pos ⟨hg, fun hx => h0 (hnil.2 hx)⟩]
      have := parts 0 (List.length_pos_iff.2 h0)
      rw [show (4 * 0) = 0 from rfl] at this
      rw [this.2.2.2]

end Go.Proofs.Ytchppfgoaeddlaa
