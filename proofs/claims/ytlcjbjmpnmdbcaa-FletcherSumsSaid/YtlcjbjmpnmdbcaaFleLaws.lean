/-
  The walks of the statements about package fletcher.
-/
import Derived.Test.YtlcjbjmpnmdbcaaFleRef
namespace Go.Proofs.Ytlcjbjmpnmdbcaa
open Go.RowKit

set_option maxHeartbeats 400000 in
theorem sums_law (w : World) (A : Option Addr) (n cap : Nat) (bs : List UInt8) (hb : Bs w A bs) (hn : bs.length = n) (hm : n ≤ maxLen) :
    Calls Try.prog 3 #[.slice A n cap] w fun e w' => e = .returned (.bool true) ∧ Below w.heap.size w w' := by
  unfold maxLen at hm
  go_enter Try.func3, Try.ntmps3
  go_wp2_with fail
  refine (awake_any _).mono ?_
  rintro e w1 ⟨rfl, hb1⟩
  have hr := hb.below hb1
  by_cases hl : n ≤ 2000
  · have hl' : ¬ (2000 : Int) < n := by omega
    go_wp2_with fail
    (with_reducible refine (sum_any A n cap bs _ hr hn (by omega)).mono ?_)
    rintro e w' ⟨rfl, rfl⟩
    go_wp2_with fail
    (with_reducible refine (refSum_any A n cap bs _ hr hn (by omega)).mono ?_)
    rintro e w' ⟨rfl, rfl⟩
    by_cases h0 : fl1 bs = 0
    · have e0 : (fl1 bs == 0) = true := by simp [h0]
      clear h0
      by_cases h1 : fl2 bs = 0
      · have e1 : (fl2 bs == 0) = true := by simp [h1]
        have ec : chk bs = true := by simp [chk, e0, e1]
        clear h1
        have C := check_any A n cap bs _ hr hn (by omega)
        rw [ec] at C
        go_wp2_with fail
        (with_reducible refine C.mono ?_)
        rintro e w' ⟨rfl, rfl⟩
        go_wp2_with fail
        go_ret
        exact ⟨rfl, hb1⟩
      · have e1 : (fl2 bs == 0) = false := by simp [h1]
        have ec : chk bs = false := by simp [chk, e1]
        clear h1
        have C := check_any A n cap bs _ hr hn (by omega)
        rw [ec] at C
        go_wp2_with fail
        (with_reducible refine C.mono ?_)
        rintro e w' ⟨rfl, rfl⟩
        go_wp2_with fail
        go_ret
        exact ⟨rfl, hb1⟩
    · have e0 : (fl1 bs == 0) = false := by simp [h0]
      have ec : chk bs = false := by simp [chk, e0]
      clear h0
      have C := check_any A n cap bs _ hr hn (by omega)
      rw [ec] at C
      go_wp2_with fail
      (with_reducible refine C.mono ?_)
      rintro e w' ⟨rfl, rfl⟩
      go_wp2_with fail
      go_ret
      exact ⟨rfl, hb1⟩
  · have hl' : (2000 : Int) < n := by omega
    go_wp2_with fail
    go_ret
    exact ⟨rfl, hb1⟩

end Go.Proofs.Ytlcjbjmpnmdbcaa
