/-
  The walk of the statement LabelsPack.
-/
import Derived.Test.YtchppfgoaeddlaaLabRPack
import Derived.Test.YtchppfgoaeddlaaLabArgs
namespace Go.Proofs.Ytchppfgoaeddlaa
set_option linter.unusedVariables false
open Go.RowKit

set_option maxHeartbeats 1600000 in
theorem pack_law (w : World) (A : Option Addr) (n cap : Nat) (l : List (Int × Int)) (hr : Rd w A (segs l)) (hn : l.length = n) (hm : n ≤ maxLen) (c : Int) (_hc : (Lit.int .i64 c).wf = true) (t : Int) (_ht : (Lit.int .i64 t).wf = true) :
    Calls Try.prog 3 #[.slice A n cap, .int .i64 c, .int .i64 t] w fun e w' => e = .returned (.bool true) ∧ Below w.heap.size w w' := by
  unfold maxLen at hm
  have S := (St.start w).read hr
  clear hr
  go_enter Try.func3, Try.ntmps3
  go_wp2_with fail
  (with_reducible refine (awake_any _).mono ?_)
  rintro e w1 ⟨rfl, hb⟩
  replace S := S.call hb
  clear hb
  by_cases hl : 60 < n
  · have hl' : (60 : Int) < n := by omega
    go_wp2_with fail
    (with_reducible refine (awake_any _).mono ?_)
    rintro e w2 ⟨rfl, hb⟩
    go_wp2_with fail
    go_ret
    exact ⟨rfl, (S.call hb).b⟩
  have hl' : ¬ (60 : Int) < n := by omega
  have K := pack_any A n cap l c t w1 (S.r 0 rfl) hn (by omega)
  have K2 := fun W hR => rpack_any A n cap l c t W hR hn (by omega)
  obtain ⟨E, hE⟩ : ∃ x, packErr l c t = x := ⟨_, rfl⟩
  obtain ⟨R, hR⟩ : ∃ x, packR l c t = x := ⟨_, rfl⟩
  obtain ⟨m, hm2⟩ : ∃ m, R.length = m := ⟨_, rfl⟩
  rw [hE, hR, hm2] at K K2
  replace K := Lib.hid K
  replace K2 := Lib.hid K2
  replace hm2 := Lib.hid hm2
  clear hE hR hn
  go_wp2_with fail
  (with_reducible refine K.out.mono ?_)
  rintro e w2 ⟨v, rfl, hown, hb⟩
  replace S := S.call hb
  clear hb K
  go_wp2_with fail
  (with_reducible refine (K2.out _ (S.r 0 rfl)).mono ?_)
  rintro e w3 ⟨v2, rfl, hown2, hb⟩
  replace S := S.call hb
  replace hown := own_below hown hb
  clear hb K2
  obtain ⟨A1, c1, rfl, rd1, _, _⟩ := own_rd hown
  obtain ⟨A2, c2, rfl, rd2, _, _⟩ := own_rd hown2
  have cv := conv_bytes (P := Try.prog) w3 (src := 24) (dst := 9) (e := 5) Try.underlying24 Try.underlying5 Try.underlying9 (cap := c1) rd1 hm2.out
  have cv2 := conv_bytes (P := Try.prog) w3 (src := 24) (dst := 9) (e := 5) Try.underlying24 Try.underlying5 Try.underlying9 (cap := c2) rd2 hm2.out
  go_wp2_with fail
  go_ret
  exact ⟨rfl, S.b⟩

end Go.Proofs.Ytchppfgoaeddlaa
