/-
  The walk of the statement LabelsUnpack.
-/
import Derived.Test.YtchppfgoaeddlaaLabRUnp
import Derived.Test.YtchppfgoaeddlaaLabSame
namespace Go.Proofs.Ytchppfgoaeddlaa
set_option linter.unusedVariables false
open Go.RowKit

theorem unL_len (bs : List UInt8) : (unL bs).length ≤ bs.length := by
  unfold unL
  split
  · rw [unpL_len]; omega
  · simp

set_option maxHeartbeats 1600000 in
theorem unpack_law (w : World) (A : Option Addr) (n cap : Nat) (bs : List UInt8) (hr : Bs w A bs) (hn : bs.length = n) (hm : n ≤ maxLen) :
    Calls Try.prog 6 #[.slice A n cap] w fun e w' => e = .returned (.bool true) ∧ Below w.heap.size w w' := by
  unfold maxLen at hm
  have S := (St.start w).read hr
  clear hr
  go_enter Try.func6, Try.ntmps6
  go_wp2_with fail
  (with_reducible refine (awake_any _).mono ?_)
  rintro e w1 ⟨rfl, hb⟩
  replace S := S.call hb
  clear hb
  by_cases hl : 200 < n
  · have hl' : (200 : Int) < n := by omega
    go_wp2_with fail
    (with_reducible refine (awake_any _).mono ?_)
    rintro e w2 ⟨rfl, hb⟩
    go_wp2_with fail
    go_ret
    exact ⟨rfl, (S.call hb).b⟩
  have hl' : ¬ (200 : Int) < n := by omega
  have K := fun W hR => unpack_any A n cap bs W hR hn (by omega)
  have K2 := fun W hR => runpack_any A n cap bs W hR hn (by omega)
  have hlen := unL_len bs
  rw [hn] at hlen
  obtain ⟨L, hL⟩ : ∃ x, unL bs = x := ⟨_, rfl⟩
  obtain ⟨C, hC⟩ : ∃ x, unC bs = x := ⟨_, rfl⟩
  obtain ⟨T, hT⟩ : ∃ x, unT bs = x := ⟨_, rfl⟩
  obtain ⟨E, hE⟩ : ∃ x, unE bs = x := ⟨_, rfl⟩
  obtain ⟨m, hm2⟩ : ∃ m, L.length = m := ⟨_, rfl⟩
  rw [hL, hC, hT, hE, hm2] at K K2
  rw [hL, hm2] at hlen
  replace K := Lib.hid K
  replace K2 := Lib.hid K2
  replace hm2 := Lib.hid hm2
  clear hE hL hC hT hn
  go_wp2_with fail
  (with_reducible refine (K.out _ (S.r 0 rfl)).mono ?_)
  rintro e w2 ⟨v, rfl, hown, hb⟩
  replace S := S.call hb
  clear hb K
  go_wp2_with fail
  (with_reducible refine (K2.out _ (S.r 0 rfl)).mono ?_)
  rintro e w3 ⟨v2, rfl, hown2, hb⟩
  replace S := S.call hb
  replace hown := own_below hown hb
  clear hb K2
  obtain ⟨A1, c1, rfl, rd1, _, _⟩ := own_rd hown
  obtain ⟨A2, c2, rfl, rd2, _, _⟩ := own_rd hown2
  go_wp2_with fail
  (with_reducible refine (same_any A1 A2 m c1 c2 L _ rd1 rd2 hm2.out (by omega)).mono ?_)
  rintro e w4 ⟨rfl, hb⟩
  replace S := S.call hb
  go_wp2_with fail
  go_ret
  exact ⟨rfl, S.b⟩

end Go.Proofs.Ytchppfgoaeddlaa
