/-
  Plain: Pop of a stack that was pushed onto.
-/
import Derived.Test.YtchppfgoaeddlaaLabPopW
import Derived.Test.YtchppfgoaeddlaaLabPush
namespace Go.Proofs.Ytchppfgoaeddlaa
set_option linter.unusedVariables false
open Go.RowKit

theorem push_pop (bs : List UInt8) (s : Int × Int) (h : pushE bs s = 0) :
    popE (pushR bs s) = 0 ∧ popS (pushR bs s) = s ∧ popR (pushR bs s) = bs := by
  have hg : good bs = true := by
    by_cases hg : good bs = true
    · exact hg
    · unfold pushE at h; rw [if_neg hg] at h; omega
  have hC : ∃ c : Nat, unC bs = c := by unfold unC; split <;> exact ⟨_, rfl⟩
  have hT : ∃ t : Nat, unT bs = t := by unfold unT; split <;> exact ⟨_, rfl⟩
  obtain ⟨c, hc⟩ := hC
  obtain ⟨t, ht⟩ := hT
  have hE : packErr (s :: unL bs) c t = 0 := by unfold pushE at h; rwa [if_pos hg, hc, ht] at h
  have hR : pushR bs s = packR (s :: unL bs) c t := by unfold pushR; rw [if_pos hg, hc, ht]
  obtain ⟨g1, g2, g3, g4, g5, g6⟩ := pack_good (s :: unL bs) c t hE
  rw [hR]
  have hne : unL (packR (s :: unL bs) c t) ≠ [] := by rw [g4]; simp
  refine ⟨?_, ?_, ?_⟩
  · unfold popE; rw [if_pos g3, if_neg hne]
  · unfold popS; rw [g4]; rfl
  · unfold popR
    rw [if_neg hne, g1, pk_rest]
    have ht' := packErr_tail s (unL bs) c t hE
    rcases hL : unL bs with _ | ⟨x, r⟩
    · have h0 := hg
      unfold good at h0
      simp only [Bool.and_eq_true, beq_iff_eq, decide_eq_true_eq] at h0
      have hl : (unL bs).length = bs.length / 4 := by unfold unL; rw [if_pos hg, unpL_len]
      rw [hL] at hl
      have h1 : bs.length = 0 := by have := h0.1.1.1; simp at hl; omega
      have := List.eq_nil_of_length_eq_zero h1
      subst this
      simp [pk]
    · obtain ⟨k1, k2, k3, k4, k5⟩ := good_parts bs x r hg hL
      rw [hc, ht] at k1 k2
      rw [← (pack_good (x :: r) c t k1).1, k2]

theorem pushR_len (bs : List UInt8) (s : Int × Int) (hb : bs.length ≤ 200) : (pushR bs s).length ≤ 1000 := by
  by_cases h : pushE bs s = 0
  · have := (push_pop bs s h).2.2
    have hp := congrArg List.length this
    unfold popR at hp
    have hg : good bs = true := by
      by_cases hg : good bs = true
      · exact hg
      · unfold pushE at h; rw [if_neg hg] at h; omega
    split at hp
    · rename_i h0
      obtain ⟨e1, e2, e3⟩ := push_pop bs s h
      unfold popE at e1
      split at e1
      · first | omega | (rw [if_pos h0] at e1; omega)
      · omega
    · rw [List.length_drop] at hp; omega
  · unfold pushR
    split
    · rename_i hg
      unfold pushE at h
      rw [if_pos hg] at h
      unfold packR
      rw [if_neg h]; simp
    · simp

end Go.Proofs.Ytchppfgoaeddlaa
