/-
  The contract of the reference's Same at two equal lists.
-/
import Derived.Test.YtchppfgoaeddlaaLabUnp
namespace Go.Proofs.Ytchppfgoaeddlaa
set_option linter.unusedVariables false
open Go.RowKit

set_option maxHeartbeats 1600000 in
theorem same_any (A B : Option Addr) (n cap cap2 : Nat) (l : List (Int × Int)) (w : World) (ha : Rd w A (segs l)) (hb : Rd w B (segs l)) (hn : l.length = n) (hn2 : n ≤ 1000000) :
    Calls Try.prog 19 #[.slice A n cap, .slice B n cap2] w fun e w' => e = .returned (.bool true) ∧ Below w.heap.size w w' := by
  subst hn
  have S := ((St.start w).read hb).read ha
  clear ha hb
  go_enter Try.func19, Try.ntmps19
  go_wp2_with fail
  go_loopw [5] (fun v5 wr => ∃ k : Nat, k ≤ l.length ∧ v5 = .int .i64 k ∧ St w wr [] [(A, segs l), (B, segs l)]) (fun v5 _ => l.length - (intOf v5).toNat)
  case atStart => exact ⟨0, by omega, rfl, S⟩
  case round =>
    clear S
    obtain ⟨k, hk, rfl, S⟩ := hrel
    by_cases hkn : k < l.length
    · obtain ⟨b, off, rfl, c0, c1⟩ := rd_segs (S.r 0 rfl) hkn
      obtain ⟨b2, off2, rfl, d0, d1⟩ := rd_segs (S.r 1 rfl) hkn
      obtain ⟨p, q, hpq⟩ : ∃ p q, l[k] = (p, q) := ⟨_, _, rfl⟩
      rw [hpq] at c0 c1 d0 d1
      clear hpq
      go_wp2_with fail
      go_region
      replace S := S.drew
      clear c0 c1 d0 d1
      go_wp2_with fail
      go_roundw
      case rel => exact ⟨k + 1, hkn, by go_num, S⟩
      case measure => simp [intOf]; omega
    · obtain rfl : k = l.length := by omega
      go_wp2_with fail
      go_ret
      exact ⟨rfl, S.b⟩

end Go.Proofs.Ytchppfgoaeddlaa
