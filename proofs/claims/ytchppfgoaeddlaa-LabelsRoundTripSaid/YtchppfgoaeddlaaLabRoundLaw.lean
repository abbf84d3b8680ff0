/-
  The walk of the statement LabelsRoundTrip.
-/
import Derived.Test.YtchppfgoaeddlaaLabRound
import Derived.Test.YtchppfgoaeddlaaLabSame
import Derived.Test.YtchppfgoaeddlaaLabArgs
namespace Go.Proofs.Ytchppfgoaeddlaa
set_option linter.unusedVariables false
open Go.RowKit

set_option maxHeartbeats 3200000 in
theorem round_law (w : World) (A : Option Addr) (n cap : Nat) (l : List (Int × Int)) (hr : Rd w A (segs l)) (hn : l.length = n) (hm : n ≤ maxLen) (c0 : Int) (hc : (Lit.int .u8 c0).wf = true) (t0 : Int) (ht : (Lit.int .u8 t0).wf = true) :
    Calls Try.prog 7 #[.slice A n cap, .int .u8 c0, .int .u8 t0] w fun e w' => e = .returned (.bool true) ∧ Below w.heap.size w w' := by
  obtain ⟨b1, b2⟩ := bounds_u8 hc
  obtain ⟨b3, b4⟩ := bounds_u8 ht
  obtain ⟨c, rfl⟩ : ∃ c : Nat, c0 = c := ⟨c0.toNat, by omega⟩
  obtain ⟨t, rfl⟩ : ∃ c : Nat, t0 = c := ⟨t0.toNat, by omega⟩
  clear hc ht
  unfold maxLen at hm
  have S := (St.start w).read hr
  clear hr
  go_enter Try.func7, Try.ntmps7
  go_wp2_with fail
  (with_reducible refine (awake_any _).mono ?_)
  rintro e w1 ⟨rfl, hb⟩
  replace S := S.call hb
  clear hb
  by_cases hl : 60 < n
  · have hl' : (60 : Int) < n := by omega
    go_wp2_with fail
    (with_reducible refine (awake_any _).mono ?_)
    rintro e w2 ⟨rfl, hb⟩
    go_wp2_with fail
    go_ret
    exact ⟨rfl, (S.call hb).b⟩
  have hl' : ¬ (60 : Int) < n := by omega
  have K := fun W hR => pack_any A n cap l ((c % 8 : Nat) : Int) t W hR hn (by omega)
  have hq : ((c : Int) % 8) = ((c % 8 : Nat) : Int) := by omega
  obtain ⟨d, hd⟩ : ∃ d, c % 8 = d := ⟨_, rfl⟩
  rw [hd] at K hq
  obtain ⟨E, hE⟩ : ∃ x, packErr l d t = x := ⟨_, rfl⟩
  obtain ⟨R, hR⟩ : ∃ x, packR l d t = x := ⟨_, rfl⟩
  obtain ⟨m, hm2⟩ : ∃ m, R.length = m := ⟨_, rfl⟩
  rw [hE, hR, hm2] at K
  have hgood : Hid (E = 0 → m = 4 * l.length ∧ good R = true ∧ unL R = l ∧ unC R = (if l = [] then 0 else (d : Int)) ∧ unT R = (if l = [] then 0 else (t : Int))) := by
    intro h
    have := pack_good l d t (hE.trans h)
    rw [hR, hm2] at this
    exact this.2
  have hbad : Hid (E ≠ 0 → m = 0) := by
    intro h
    rw [← hm2, ← hR]; unfold packR; rw [if_neg (by rw [hE]; exact h)]; rfl
  replace K := Lib.hid K
  replace hm2 := Lib.hid hm2
  replace hn := Lib.hid hn
  replace hq := Lib.hid hq
  clear hE hR hd
  go_wp2_with fail
  rw [hq.out]
  (with_reducible refine (K.out _ (S.r 0 rfl)).mono ?_)
  rintro e w2 ⟨v, rfl, hown, hb⟩
  replace S := S.call hb
  clear hb K
  obtain ⟨A1, c1, rfl, rd1, _, _⟩ := own_rd hown
  by_cases hz : E = 0
  · subst hz
    obtain ⟨g1, g2, g3, g4, g5⟩ := hgood.out rfl
    rw [hn.out] at g1
    have U := fun W hR => unpack_any A1 m c1 R W hR hm2.out (by omega)
    have hE0 : unE R = 0 := by unfold unE; rw [if_pos g2]
    rw [g3, g4, g5, hE0, hn.out] at U
    replace U := Lib.hid U
    replace g1 := Lib.hid g1
    clear g2 g3 g4 g5 hE0 hgood hbad
    by_cases hl0 : n = 0
    · have hnil : l = [] := List.eq_nil_of_length_eq_zero (hn.out.trans hl0)
      subst hnil hl0
      replace U := Lib.hid U.out
      go_wp2_with fail
      (with_reducible refine (U.out _ rd1).mono ?_)
      rintro e w3 ⟨v2, rfl, hown2, hb⟩
      replace S := S.call hb
      clear hb U
      obtain ⟨A2, c2, rfl, rd2, _, _⟩ := own_rd hown2
      go_wp2_with fail
      (with_reducible refine (same_any A A2 0 cap c2 [] _ (S.r 0 rfl) rd2 rfl (by omega)).mono ?_)
      rintro e w4 ⟨rfl, hb⟩
      replace S := S.call hb
      obtain rfl : m = 0 := g1.out
      go_wp2_with fail
      go_ret
      exact ⟨rfl, S.b⟩
    · have hne : l ≠ [] := by rintro rfl; exact hl0 hn.out.symm
      rw [if_neg hne, if_neg hne] at U
      have hl0' : ((n : Int) == 0) = false := by simp; omega
      go_wp2_with fail
      (with_reducible refine (U.out _ rd1).mono ?_)
      rintro e w3 ⟨v2, rfl, hown2, hb⟩
      replace S := S.call hb
      clear hb U
      obtain ⟨A2, c2, rfl, rd2, _, _⟩ := own_rd hown2
      go_wp2_with fail
      (with_reducible refine (same_any A A2 n cap c2 l _ (S.r 0 rfl) rd2 hn.out (by omega)).mono ?_)
      rintro e w4 ⟨rfl, hb⟩
      replace S := S.call hb
      obtain rfl : m = 4 * n := g1.out
      have hq' := hq.out
      go_wp2_with fail
      go_ret
      exact ⟨rfl, S.b⟩
  · obtain rfl := hbad.out hz
    have hz' : (E == 0) = false := by simpa using hz
    go_wp2_with fail
    go_ret
    exact ⟨rfl, S.b⟩

end Go.Proofs.Ytchppfgoaeddlaa
