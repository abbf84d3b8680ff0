/-
  The walks of the statements CodecEncodes and CodecUint.
-/
import Derived.Test.YthegpmoddmnhoaaCodAw
import Derived.Test.YthegpmoddmnhoaaCodRE
import Derived.Test.YthegpmoddmnhoaaCodRN
import Derived.Test.YthegpmoddmnhoaaCodSm
namespace Go.Proofs.Ythegpmoddmnhoaa
set_option linter.unusedVariables false
open Go.RowKit

set_option maxHeartbeats 4000000 in
theorem encodes_law (w : World) (A : Option Addr) (n cap : Nat) (l : List Rc) (hr : Rd w A (recV l)) (hn : l.length = n) (hm : n ≤ maxLen) (hok : ∀ r ∈ l, RcOk w r) :
    Calls Try.prog 3 #[.slice A n cap] w fun e w' => e = .returned (.bool true) ∧ Below w.heap.size w w' := by
  unfold maxLen at hm
  have S := (St.start w).read hr
  replace hok : Hid (∀ W', Below w.heap.size w W' → ∀ r ∈ l, RcOk W' r) := fun W' hb r hr => (hok r hr).below hb
  replace hn := Lib.hid hn
  clear hr
  go_enter Try.func3, Try.ntmps3
  go_wp2_with fail
  (with_reducible refine (awake_any _).mono ?_)
  rintro e w1 ⟨rfl, hb⟩
  replace S := S.call hb
  clear hb
  by_cases hl : 40 < n
  · have hl' : (40 : Int) < n := by omega
    go_wp2_with fail
    go_ret
    exact ⟨rfl, S.b⟩
  have hl' : ¬ (40 : Int) < n := by omega
  go_wp2_with fail
  (with_reducible refine (size_any A n cap l _ (S.r 0 rfl) hn.out (by omega)).mono ?_)
  rintro e w1' ⟨⟨z, rfl⟩, rfl⟩
  by_cases hz : 70000 < z
  · go_wp2_with fail
    go_ret
    exact ⟨rfl, S.b⟩
  go_wp2_with fail
  (with_reducible refine (own_any A n cap l _ (S.r 0 rfl) hn.out (by omega)).mono ?_)
  rintro e w2 ⟨v, rfl, hown, hb⟩
  replace S := S.call hb
  obtain ⟨A1, c1, rfl, rd1, _, _⟩ := own_rd hown
  clear hb hown
  have T := (St.start w2).read rd1
  have K1 := cencode_any A1 n c1 l w2 rd1 (hok.out _ S.b) hn.out (by omega)
  have K2 := fun W hR hO => rcencode_any A n cap l W hR hO hn.out (by omega)
  obtain ⟨E, hE⟩ : ∃ x, encE (l.map dat) = x := ⟨_, rfl⟩
  obtain ⟨R, hR⟩ : ∃ x, encR (l.map dat) = x := ⟨_, rfl⟩
  obtain ⟨m, hm2⟩ : ∃ m, R.length = m := ⟨_, rfl⟩
  rw [hE, hR, hm2] at K1 K2
  replace K1 := Lib.hid K1
  replace K2 := Lib.hid K2
  replace hm2 := Lib.hid hm2
  clear hE hR rd1
  go_wp2_with fail
  (with_reducible refine K1.out.mono ?_)
  rintro e w3 ⟨v3, rfl, hown3, hb⟩
  replace S := S.call hb
  replace T := T.call hb
  clear hb K1
  go_wp2_with fail
  (with_reducible refine (K2.out _ (S.r 0 rfl) (hok.out _ S.b)).mono ?_)
  rintro e w4 ⟨v4, rfl, hown4, hb⟩
  replace S := S.call hb
  replace T := T.call hb
  replace hown3 := own_below hown3 hb
  clear hb K2
  obtain ⟨A3, c3, rfl, rd3, _, _⟩ := own_rd hown3
  obtain ⟨A4, c4, rfl, rd4, _, _⟩ := own_rd hown4
  have cv := conv_bytes (P := Try.prog) w4 (src := 27) (dst := 9) (e := 5) Try.underlying27 Try.underlying5 Try.underlying9 (cap := c3) rd3 hm2.out
  have cv2 := conv_bytes (P := Try.prog) w4 (src := 27) (dst := 9) (e := 5) Try.underlying27 Try.underlying5 Try.underlying9 (cap := c4) rd4 hm2.out
  clear rd3 rd4 hown3 hown4
  go_wp2_with fail
  (with_reducible refine (back_any A1 n c1 l _ (T.r 0 rfl) hn.out (by omega)).mono ?_)
  rintro e w5 ⟨v5, rfl, hown5, hb⟩
  replace S := S.call hb
  obtain ⟨A5, c5, rfl, rd5, _, _⟩ := own_rd hown5
  clear hb hown5 cv cv2
  go_wp2_with fail
  (with_reducible refine (rsame_any A5 A n c5 n cap l l _ rd5 (S.r 0 rfl) (hok.out _ S.b) (hok.out _ S.b) hn.out hn.out (by omega) rfl).mono ?_)
  rintro e w6 ⟨rfl, hb⟩
  replace S := S.call hb
  go_wp2_with fail
  go_ret
  exact ⟨rfl, S.b⟩

set_option maxHeartbeats 1600000 in
theorem uint_law (w : World) (A : Option Addr) (n cap : Nat) (bs : List UInt8) (hr : Bs w A bs) (hn : bs.length = n) (hm : n ≤ maxLen) :
    Calls Try.prog 9 #[.slice A n cap] w fun e w' => e = .returned (.bool true) ∧ Below w.heap.size w w' := by
  unfold maxLen at hm
  have S := (St.start w).read hr
  clear hr
  by_cases h1 : 1 ≤ n ∧ n ≤ 8
  · have e1 : uiE bs = 0 := by unfold uiE; rw [hn, if_pos h1]
    have e2 : uiN bs = uintB bs := by unfold uiN; rw [hn, if_pos h1]
    have K := fun W hR => uint_any A n cap bs W hR hn (by omega)
    have K2 := fun W hR => ruint_any A n cap bs W hR hn (by omega)
    rw [e1, e2] at K
    replace K := Lib.hid K
    replace K2 := Lib.hid K2
    clear e1 e2 hn
    obtain ⟨h1, h2⟩ := h1
    go_enter Try.func9, Try.ntmps9
    go_wp2_with fail
    (with_reducible refine (awake_any _).mono ?_)
    rintro e w1 ⟨rfl, hb⟩
    replace S := S.call hb
    clear hb
    go_wp2_with fail
    (with_reducible refine (K.out _ (S.r 0 rfl)).mono ?_)
    rintro e w2 ⟨rfl, rfl⟩
    go_wp2_with fail
    (with_reducible refine (K2.out _ (S.r 0 rfl)).mono ?_)
    rintro e w2 ⟨rfl, rfl⟩
    go_wp2_with fail
    go_ret
    exact ⟨rfl, S.b⟩
  · have e1 : uiE bs = 4 := by unfold uiE; rw [hn, if_neg h1]
    have e2 : uiN bs = 0 := by unfold uiN; rw [hn, if_neg h1]
    by_cases h0 : n < 1
    · have K := fun W hR => uint_any A n cap bs W hR hn (by omega)
      rw [e1, e2] at K
      replace K := Lib.hid K
      clear e1 e2 hn h1
      go_enter Try.func9, Try.ntmps9
      go_wp2_with fail
      (with_reducible refine (awake_any _).mono ?_)
      rintro e w1 ⟨rfl, hb⟩
      replace S := S.call hb
      clear hb
      go_wp2_with fail
      (with_reducible refine (K.out _ (S.r 0 rfl)).mono ?_)
      rintro e w2 ⟨rfl, rfl⟩
      go_wp2_with fail
      go_ret
      exact ⟨rfl, S.b⟩
    · have h8 : 8 < n := by omega
      by_cases h9 : 100 < n
      · clear e1 e2 hn h1
        go_enter Try.func9, Try.ntmps9
        go_wp2_with fail
        (with_reducible refine (awake_any _).mono ?_)
        rintro e w1 ⟨rfl, hb⟩
        replace S := S.call hb
        clear hb
        go_wp2_with fail
        go_ret
        exact ⟨rfl, S.b⟩
      · have K := fun W hR => uint_any A n cap bs W hR hn (by omega)
        rw [e1, e2] at K
        replace K := Lib.hid K
        clear e1 e2 hn h1
        go_enter Try.func9, Try.ntmps9
        go_wp2_with fail
        (with_reducible refine (awake_any _).mono ?_)
        rintro e w1 ⟨rfl, hb⟩
        replace S := S.call hb
        clear hb
        go_wp2_with fail
        (with_reducible refine (K.out _ (S.r 0 rfl)).mono ?_)
        rintro e w2 ⟨rfl, rfl⟩
        go_wp2_with fail
        go_ret
        exact ⟨rfl, S.b⟩

end Go.Proofs.Ythegpmoddmnhoaa
