/-
  The walk of the statement LabelsPop.
-/
import Derived.Test.YtchppfgoaeddlaaLabRPop
namespace Go.Proofs.Ytchppfgoaeddlaa
set_option linter.unusedVariables false
open Go.RowKit

theorem popR_len (bs : List UInt8) : (popR bs).length ≤ bs.length := by
  unfold popR
  split
  · simp
  · rw [List.length_drop]; omega

set_option maxHeartbeats 1600000 in
theorem pop_law (w : World) (A : Option Addr) (n cap : Nat) (bs : List UInt8) (hr : Bs w A bs) (hn : bs.length = n) (hcap : n ≤ cap) (hm : cap ≤ maxLen) :
    Calls Try.prog 8 #[.slice A n cap] w fun e w' => e = .returned (.bool true) ∧ Below w.heap.size w w' := by
  unfold maxLen at hm
  have S := (St.start w).read hr
  clear hr
  go_enter Try.func8, Try.ntmps8
  go_wp2_with fail
  (with_reducible refine (awake_any _).mono ?_)
  rintro e w1 ⟨rfl, hb⟩
  replace S := S.call hb
  clear hb
  by_cases hl : 200 < n
  · have hl' : (200 : Int) < n := by omega
    go_wp2_with fail
    (with_reducible refine (awake_any _).mono ?_)
    rintro e w2 ⟨rfl, hb⟩
    go_wp2_with fail
    go_ret
    exact ⟨rfl, (S.call hb).b⟩
  have hl' : ¬ (200 : Int) < n := by omega
  have K := fun W hR => pop_any A n cap bs W hR hn (by omega) hcap
  have K2 := fun W hR => rpop_any A n cap bs W hR hn (by omega) hcap
  have hlen := popR_len bs
  rw [hn] at hlen
  obtain ⟨⟨p, q⟩, hL⟩ : ∃ x, popS bs = x := ⟨_, rfl⟩
  obtain ⟨R, hR⟩ : ∃ x, popR bs = x := ⟨_, rfl⟩
  obtain ⟨E, hE⟩ : ∃ x, popE bs = x := ⟨_, rfl⟩
  obtain ⟨m, hm2⟩ : ∃ m, R.length = m := ⟨_, rfl⟩
  rw [hL, hR, hE, hm2] at K K2
  rw [hR, hm2] at hlen
  replace K := Lib.hid K
  replace K2 := Lib.hid K2
  replace hm2 := Lib.hid hm2
  clear hE hL hR hn
  go_wp2_with fail
  (with_reducible refine (K.out _ (S.r 0 rfl)).mono ?_)
  rintro e w2 ⟨v, rfl, hown, hb⟩
  replace S := S.call hb
  clear hb K
  go_wp2_with fail
  replace S := S.new' #[.int .i64 p, .int .i64 q] 30 w2.heap.size [.int .i64 p, .int .i64 q] rfl rfl
  replace hown := own_below hown (below_new' w2 (.cells #[.int .i64 p, .int .i64 q] 30))
  (with_reducible refine (K2.out _ (S.r 0 rfl)).mono ?_)
  rintro e w3 ⟨v2, rfl, hown2, hb⟩
  replace S := S.call hb
  replace hown := own_below hown hb
  have S4 := S.new' #[.int .i64 p, .int .i64 q] 30 w3.heap.size [.int .i64 p, .int .i64 q] rfl rfl
  have hbn := below_new' w3 (.cells #[.int .i64 p, .int .i64 q] 30)
  obtain ⟨A1, c1, rfl, rd1, _, _⟩ := own_rd hown
  obtain ⟨A2, c2, rfl, rd2, _, _⟩ := own_rd hown2
  replace rd1 := rd1.below hbn
  replace rd2 := rd2.below hbn
  have cv := conv_bytes (P := Try.prog) _ (src := 24) (dst := 9) (e := 5) Try.underlying24 Try.underlying5 Try.underlying9 (cap := c1) rd1 hm2.out
  have cv2 := conv_bytes (P := Try.prog) _ (src := 24) (dst := 9) (e := 5) Try.underlying24 Try.underlying5 Try.underlying9 (cap := c2) rd2 hm2.out
  have c0 := S4.c 1 0 rfl rfl
  have c1 := S4.c 1 1 rfl rfl
  clear rd1 rd2 hown hown2 hbn hb K2
  go_wp2_with fail
  go_ret
  exact ⟨rfl, S4.b⟩

end Go.Proofs.Ytchppfgoaeddlaa
