/-
  The walk of the statement LabelsPush.
-/
import Derived.Test.YtchppfgoaeddlaaLabPushPop
namespace Go.Proofs.Ytchppfgoaeddlaa
set_option linter.unusedVariables false
open Go.RowKit

set_option maxHeartbeats 1600000 in
theorem push_law (w : World) (A : Option Addr) (n cap : Nat) (bs : List UInt8) (hr : Bs w A bs) (hn : bs.length = n) (hcap : n ≤ cap) (hm : cap ≤ maxLen) (p q : Int) :
    Calls Try.prog 9 #[.slice A n cap, .agg #[.int .i64 p, .int .i64 q]] w fun e w' => e = .returned (.bool true) ∧ Below w.heap.size w w' := by
  unfold maxLen at hm
  have S := ((St.start w).read hr).new' #[.int .i64 p, .int .i64 q] 30 w.heap.size [.int .i64 p, .int .i64 q] rfl rfl
  clear hr
  go_enter Try.func9, Try.ntmps9
  go_wp2_with fail
  (with_reducible refine (awake_any _).mono ?_)
  rintro e w1 ⟨rfl, hb⟩
  replace S := S.call hb
  clear hb
  by_cases hl : 200 < n
  · have hl' : (200 : Int) < n := by omega
    go_wp2_with fail
    (with_reducible refine (awake_any _).mono ?_)
    rintro e w2 ⟨rfl, hb⟩
    go_wp2_with fail
    go_ret
    exact ⟨rfl, (S.call hb).b⟩
  have hl' : ¬ (200 : Int) < n := by omega
  have K := fun W hR => push_any A n cap bs p q W hR hn (by omega)
  have K2 := fun W hR => rpush_any A n cap bs p q W hR hn (by omega)
  have hlen := pushR_len bs (p, q) (by omega)
  have hpp := push_pop bs (p, q)
  obtain ⟨R, hR⟩ : ∃ x, pushR bs (p, q) = x := ⟨_, rfl⟩
  obtain ⟨E, hE⟩ : ∃ x, pushE bs (p, q) = x := ⟨_, rfl⟩
  obtain ⟨m, hm2⟩ : ∃ m, R.length = m := ⟨_, rfl⟩
  rw [hR, hE, hm2] at K K2
  rw [hR, hm2] at hlen
  rw [hR, hE] at hpp
  replace K := Lib.hid K
  replace K2 := Lib.hid K2
  replace hm2 := Lib.hid hm2
  replace hpp := Lib.hid hpp
  replace hn := Lib.hid hn
  clear hE hR
  have cv0 := conv_bytes (P := Try.prog) _ (src := 24) (dst := 9) (e := 5) Try.underlying24 Try.underlying5 Try.underlying9 (cap := cap) (S.r 0 rfl) hn.out
  have x0 := S.c 0 0 rfl rfl
  have x1 := S.c 0 1 rfl rfl
  go_wp2_with fail
  clear cv0 x0 x1
  (with_reducible refine (K.out _ (S.r 0 rfl)).mono ?_)
  rintro e w2 ⟨v, rfl, hown, hb⟩
  replace S := S.call hb
  clear hb K
  have x0 := S.c 0 0 rfl rfl
  have x1 := S.c 0 1 rfl rfl
  go_wp2_with fail
  (with_reducible refine (K2.out _ (S.r 0 rfl)).mono ?_)
  rintro e w3 ⟨v2, rfl, hown2, hb⟩
  replace S := S.call hb
  replace hown := own_below hown hb
  obtain ⟨A1, c1, rfl, rd1, hcap1, hcapm⟩ := own_rd hown
  obtain ⟨A2, c2, rfl, rd2, _, _⟩ := own_rd hown2
  clear x0 x1 hown2 hb K2
  have cv0 := conv_bytes (P := Try.prog) _ (src := 24) (dst := 9) (e := 5) Try.underlying24 Try.underlying5 Try.underlying9 (cap := cap) (S.r 0 rfl) hn.out
  have cv := conv_bytes (P := Try.prog) _ (src := 24) (dst := 9) (e := 5) Try.underlying24 Try.underlying5 Try.underlying9 (cap := c1) rd1 hm2.out
  have cv2 := conv_bytes (P := Try.prog) _ (src := 24) (dst := 9) (e := 5) Try.underlying24 Try.underlying5 Try.underlying9 (cap := c2) rd2 hm2.out
  by_cases hz : E = 0
  · subst hz
    obtain ⟨g1, g2, g3⟩ := hpp.out rfl
    have U := fun W hR => pop_any A1 m c1 R W hR hm2.out (by omega) hcap1
    rw [g1, g2, g3, hn.out] at U
    replace U := Lib.hid U
    clear g1 g2 g3 hpp
    go_wp2_with fail
    clear cv0 cv cv2
    (with_reducible refine (U.out _ rd1).mono ?_)
    rintro e w4 ⟨v5, rfl, hown5, hb⟩
    replace S := S.call hb
    clear hb U hown rd1 rd2
    obtain ⟨A5, c5, rfl, rd5, _, _⟩ := own_rd hown5
    have S4 := S.new' #[.int .i64 p, .int .i64 q] 30 w4.heap.size [.int .i64 p, .int .i64 q] rfl rfl
    have hbn := below_new' w4 (.cells #[.int .i64 p, .int .i64 q] 30)
    replace rd5 := rd5.below hbn
    have cv := conv_bytes (P := Try.prog) _ (src := 24) (dst := 9) (e := 5) Try.underlying24 Try.underlying5 Try.underlying9 (cap := c5) rd5 hn.out
    have x0 := S4.c 1 0 rfl rfl
    have x1 := S4.c 1 1 rfl rfl
    clear hown5 hbn rd5
    go_wp2_with fail
    go_ret
    exact ⟨rfl, S4.b⟩
  · have hz' : (E == 0) = false := by simpa using hz
    clear hpp
    go_wp2_with fail
    go_ret
    exact ⟨rfl, S.b⟩

end Go.Proofs.Ytchppfgoaeddlaa
