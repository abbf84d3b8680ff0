/-
  The contracts of the reference functions of layer 19: ranges, Encode, Decode; the example.
-/
import Derived.Test.YtchppfgoaeddlaaLabPack
namespace Go.Proofs.Ytchppfgoaeddlaa
set_option linter.unusedVariables false
open Go.RowKit

def rgLo (k : Int) : Int := if k = 3 then 1 else 0
def rgHi (k : Int) : Int := if k = 1 then 63 else if k = 2 then 511 else if k = 3 then 64 else if k = 4 then 65535 else 0
def rgBase (k : Int) : Int := if k = 1 then 16 else if k = 2 then 128 else if k = 3 then 1024 else if k = 4 then 2048 else 0
def rgOk (k : Int) : Bool := decide (1 ≤ k ∧ k ≤ 4)

theorem ranges_any (k : Int) (w : World) : Calls Try.prog 26 #[.int .i64 k] w fun e w' => e = .returned (.tuple #[.int .i64 (rgLo k), .int .i64 (rgHi k), .int .i64 (rgBase k), .bool (rgOk k)]) ∧ w = w' := by
  by_cases h1 : k = 1
  · subst h1
    go_enter Try.func26, Try.ntmps26
    go_wp2_with fail
    exact bodyPost_ret (v := .tuple #[.int .i64 0, .int .i64 63, .int .i64 16, .bool true]) (by simp [results, Try.results26, go_sem]) rfl ⟨rfl, rfl⟩
  by_cases h2 : k = 2
  · subst h2
    go_enter Try.func26, Try.ntmps26
    go_wp2_with fail
    exact bodyPost_ret (v := .tuple #[.int .i64 0, .int .i64 511, .int .i64 128, .bool true]) (by simp [results, Try.results26, go_sem]) rfl ⟨rfl, rfl⟩
  by_cases h3 : k = 3
  · subst h3
    go_enter Try.func26, Try.ntmps26
    go_wp2_with fail
    exact bodyPost_ret (v := .tuple #[.int .i64 1, .int .i64 64, .int .i64 1024, .bool true]) (by simp [results, Try.results26, go_sem]) rfl ⟨rfl, rfl⟩
  by_cases h4 : k = 4
  · subst h4
    go_enter Try.func26, Try.ntmps26
    go_wp2_with fail
    exact bodyPost_ret (v := .tuple #[.int .i64 0, .int .i64 65535, .int .i64 2048, .bool true]) (by simp [results, Try.results26, go_sem]) rfl ⟨rfl, rfl⟩
  have e1 : rgLo k = 0 := by simp [rgLo, h3]
  have e2 : rgHi k = 0 := by simp [rgHi, h1, h2, h3, h4]
  have e3 : rgBase k = 0 := by simp [rgBase, h1, h2, h3, h4]
  have e4 : rgOk k = false := by simp [rgOk]; omega
  rw [e1, e2, e3, e4]
  have g1 : (k == 1) = false := by simpa using h1
  have g2 : (k == 2) = false := by simpa using h2
  have g3 : (k == 3) = false := by simpa using h3
  have g4 : (k == 4) = false := by simpa using h4
  clear e1 e2 e3 e4
  go_enter Try.func26, Try.ntmps26
  go_wp2_with fail
  exact bodyPost_ret (v := .tuple #[.int .i64 0, .int .i64 0, .int .i64 0, .bool false]) (by simp [results, Try.results26, go_sem]) rfl ⟨rfl, rfl⟩

set_option maxHeartbeats 1000000 in
theorem rencode_any (k m : Int) (w : World) : Calls Try.prog 14 #[.agg #[.int .i64 k, .int .i64 m]] w fun e w' => e = .returned (.tuple #[.int .i64 (encL k m), .int .i64 (encE k m)]) ∧ Below w.heap.size w w' := by
  have K := fun W => ranges_any k W
  obtain ⟨lo, hlo⟩ : ∃ x, rgLo k = x := ⟨_, rfl⟩
  obtain ⟨hi, hhi⟩ : ∃ x, rgHi k = x := ⟨_, rfl⟩
  obtain ⟨ba, hba⟩ : ∃ x, rgBase k = x := ⟨_, rfl⟩
  obtain ⟨ok, hok⟩ : ∃ x, rgOk k = x := ⟨_, rfl⟩
  have hL : encL k m = if ok = true then (if m < lo ∨ hi < m then 0 else ba + m) else 0 := by
    subst hlo hhi hba hok
    unfold encL rgLo rgHi rgBase rgOk
    repeat' split
    all_goals simp_all
    all_goals omega
  have hE : encE k m = if ok = true then (if m < lo ∨ hi < m then 2 else 0) else 1 := by
    subst hlo hhi hba hok
    unfold encE rgLo rgHi rgOk
    repeat' split
    all_goals simp_all
    all_goals omega
  have hbd : ok = true → 0 ≤ ba ∧ ba ≤ 2048 ∧ 0 ≤ lo ∧ hi ≤ 65535 := by
    subst hlo hhi hba hok
    unfold rgLo rgHi rgBase rgOk
    intro _
    refine ⟨?_, ?_, ?_, ?_⟩
    all_goals
      repeat' split
      all_goals omega
  rw [hlo, hhi, hba, hok] at K
  rw [hL, hE]
  replace K := Lib.hid K
  clear hlo hhi hba hok hL hE
  have S := ((St.start w).new' #[.int .i64 k, .int .i64 m] 30 w.heap.size [.int .i64 k, .int .i64 m] rfl rfl)
  cases ok
  · go_enter Try.func14, Try.ntmps14
    go_wp2_with fail
    (with_reducible refine (K.out _).mono ?_)
    rintro e w1 ⟨rfl, rfl⟩
    go_wp2_with fail
    go_ret2
    exact ⟨rfl, S.b⟩
  · obtain ⟨b0, b1, b2, b3⟩ := hbd rfl
    clear hbd
    by_cases h1 : m < lo
    · rw [if_pos rfl, if_pos rfl, if_pos (.inl h1), if_pos (.inl h1)]
      go_enter Try.func14, Try.ntmps14
      go_wp2_with fail
      (with_reducible refine (K.out _).mono ?_)
      rintro e w1 ⟨rfl, rfl⟩
      go_wp2_with fail
      go_ret2
      exact ⟨rfl, S.b⟩
    · by_cases h2 : hi < m
      · rw [if_pos rfl, if_pos rfl, if_pos (.inr h2), if_pos (.inr h2)]
        go_enter Try.func14, Try.ntmps14
        go_wp2_with fail
        (with_reducible refine (K.out _).mono ?_)
        rintro e w1 ⟨rfl, rfl⟩
        go_wp2_with fail
        go_ret2
        exact ⟨rfl, S.b⟩
      · rw [if_pos rfl, if_pos rfl, if_neg (by omega), if_neg (by omega)]
        go_enter Try.func14, Try.ntmps14
        go_wp2_with fail
        (with_reducible refine (K.out _).mono ?_)
        rintro e w1 ⟨rfl, rfl⟩
        go_wp2_with fail
        go_ret2
        exact ⟨rfl, S.b⟩

set_option maxHeartbeats 4000000 in
theorem rdecode_any (l : Int) (w : World) : Calls Try.prog 16 #[.int .i64 l] w fun e w' => e = .returned (.tuple #[.agg #[.int .i64 (decK l), .int .i64 (decN l)], .int .i64 (decE l)]) ∧ Below w.heap.size w w' := by
  obtain ⟨K, hK⟩ : ∃ K, decK l = K := ⟨_, rfl⟩
  obtain ⟨N, hN⟩ : ∃ N, decN l = N := ⟨_, rfl⟩
  obtain ⟨E, hE⟩ : ∃ E, decE l = E := ⟨_, rfl⟩
  rw [hK, hN, hE]
  replace hK := Lib.hid hK
  replace hN := Lib.hid hN
  replace hE := Lib.hid hE
  have S := ((St.start w).new' #[.int .i64 0, .int .i64 0] 30 w.heap.size [.int .i64 0, .int .i64 0] rfl rfl)
  go_enter Try.func16, Try.ntmps16
  go_wp2_with fail
  go_loopw [4] (fun v4 wr => ∃ j : Nat, j ≤ 4 ∧ v4 = .int .i64 (j + 1) ∧ Hid (NoRange l j) ∧ St w wr [(w.heap.size, [.int .i64 0, .int .i64 0])] []) (fun v4 _ => 5 - (intOf v4).toNat)
  case atStart => exact ⟨0, by omega, rfl, by unfold Hid NoRange; omega, S⟩
  case round =>
    clear S
    obtain ⟨j, hj, rfl, hn, S⟩ := hrel
    have c0 := S.c 0 0 rfl rfl
    have c1 := S.c 0 1 rfl rfl
    have f0 := S.f 0 0 rfl rfl
    have f1 := S.f 0 1 rfl rfl
    rcases (show j = 0 ∨ j = 1 ∨ j = 2 ∨ j = 3 ∨ j = 4 by omega) with rfl | rfl | rfl | rfl | rfl
    · by_cases hk : 16 ≤ l ∧ l ≤ 79
      · obtain ⟨h1, h2⟩ := hk
        clear hn
        obtain rfl : K = 1 := by
          rw [← hK.out]; unfold decK; repeat' split
          all_goals omega
        obtain rfl : N = l - 16 := by
          rw [← hN.out]; unfold decN; repeat' split
          all_goals omega
        obtain rfl : E = 0 := by
          rw [← hE.out]; unfold decE; repeat' split
          all_goals omega
        go_wp2_with fail
        (with_reducible refine (ranges_any _ _).mono ?_)
        rintro e w1 ⟨rfl, rfl⟩
        simp only [rgLo, rgHi, rgBase, rgOk]
        go_wp2_with fail
        have S2 := S.set2 0 (.int .i64 1) (.int .i64 (l - 16)) rfl (Nat.le_refl _) (by simp) [_] rfl
        have e0 := S2.c 0 0 rfl rfl
        have e1 := S2.c 0 1 rfl rfl
        exact bodyPost_ret (v := .tuple #[.agg #[.int .i64 1, .int .i64 (l - 16)], .int .i64 0]) (by simp [results, Try.results16, go_sem, e0, e1]) rfl ⟨rfl, S2.b⟩
      · have hn' : Hid (NoRange l 1) := by
          have := hn.out
          unfold NoRange at this
          unfold Hid NoRange
          omega
        rcases (show l < 16 ∨ (16 ≤ l ∧ 79 < l) by omega) with h1 | ⟨h1, h2⟩
        all_goals
          clear hk
          go_wp2_with fail
          (with_reducible refine (ranges_any _ _).mono ?_)
          rintro e w1 ⟨rfl, rfl⟩
          simp only [rgLo, rgHi, rgBase, rgOk]
          go_wp2_with fail
          go_roundw
          case rel => exact ⟨1, by omega, by go_num, hn', S⟩
          case measure => simp [intOf]
    · by_cases hk : 128 ≤ l ∧ l ≤ 639
      · obtain ⟨h1, h2⟩ := hk
        clear hn
        obtain rfl : K = 2 := by
          rw [← hK.out]; unfold decK; repeat' split
          all_goals omega
        obtain rfl : N = l - 128 := by
          rw [← hN.out]; unfold decN; repeat' split
          all_goals omega
        obtain rfl : E = 0 := by
          rw [← hE.out]; unfold decE; repeat' split
          all_goals omega
        go_wp2_with fail
        (with_reducible refine (ranges_any _ _).mono ?_)
        rintro e w1 ⟨rfl, rfl⟩
        simp only [rgLo, rgHi, rgBase, rgOk]
        go_wp2_with fail
        have S2 := S.set2 0 (.int .i64 2) (.int .i64 (l - 128)) rfl (Nat.le_refl _) (by simp) [_] rfl
        have e0 := S2.c 0 0 rfl rfl
        have e1 := S2.c 0 1 rfl rfl
        exact bodyPost_ret (v := .tuple #[.agg #[.int .i64 2, .int .i64 (l - 128)], .int .i64 0]) (by simp [results, Try.results16, go_sem, e0, e1]) rfl ⟨rfl, S2.b⟩
      · have hn' : Hid (NoRange l 2) := by
          have := hn.out
          unfold NoRange at this
          unfold Hid NoRange
          omega
        rcases (show l < 128 ∨ (128 ≤ l ∧ 639 < l) by omega) with h1 | ⟨h1, h2⟩
        all_goals
          clear hk
          go_wp2_with fail
          (with_reducible refine (ranges_any _ _).mono ?_)
          rintro e w1 ⟨rfl, rfl⟩
          simp only [rgLo, rgHi, rgBase, rgOk]
          go_wp2_with fail
          go_roundw
          case rel => exact ⟨2, by omega, by go_num, hn', S⟩
          case measure => simp [intOf]
    · by_cases hk : 1025 ≤ l ∧ l ≤ 1088
      · obtain ⟨h1, h2⟩ := hk
        clear hn
        obtain rfl : K = 3 := by
          rw [← hK.out]; unfold decK; repeat' split
          all_goals omega
        obtain rfl : N = l - 1024 := by
          rw [← hN.out]; unfold decN; repeat' split
          all_goals omega
        obtain rfl : E = 0 := by
          rw [← hE.out]; unfold decE; repeat' split
          all_goals omega
        go_wp2_with fail
        (with_reducible refine (ranges_any _ _).mono ?_)
        rintro e w1 ⟨rfl, rfl⟩
        simp only [rgLo, rgHi, rgBase, rgOk]
        go_wp2_with fail
        have S2 := S.set2 0 (.int .i64 3) (.int .i64 (l - 1024)) rfl (Nat.le_refl _) (by simp) [_] rfl
        have e0 := S2.c 0 0 rfl rfl
        have e1 := S2.c 0 1 rfl rfl
        exact bodyPost_ret (v := .tuple #[.agg #[.int .i64 3, .int .i64 (l - 1024)], .int .i64 0]) (by simp [results, Try.results16, go_sem, e0, e1]) rfl ⟨rfl, S2.b⟩
      · have hn' : Hid (NoRange l 3) := by
          have := hn.out
          unfold NoRange at this
          unfold Hid NoRange
          omega
        rcases (show l < 1025 ∨ (1025 ≤ l ∧ 1088 < l) by omega) with h1 | ⟨h1, h2⟩
        all_goals
          clear hk
          go_wp2_with fail
          (with_reducible refine (ranges_any _ _).mono ?_)
          rintro e w1 ⟨rfl, rfl⟩
          simp only [rgLo, rgHi, rgBase, rgOk]
          go_wp2_with fail
          go_roundw
          case rel => exact ⟨3, by omega, by go_num, hn', S⟩
          case measure => simp [intOf]
    · by_cases hk : 2048 ≤ l ∧ l ≤ 67583
      · obtain ⟨h1, h2⟩ := hk
        clear hn
        obtain rfl : K = 4 := by
          rw [← hK.out]; unfold decK; repeat' split
          all_goals omega
        obtain rfl : N = l - 2048 := by
          rw [← hN.out]; unfold decN; repeat' split
          all_goals omega
        obtain rfl : E = 0 := by
          rw [← hE.out]; unfold decE; repeat' split
          all_goals omega
        go_wp2_with fail
        (with_reducible refine (ranges_any _ _).mono ?_)
        rintro e w1 ⟨rfl, rfl⟩
        simp only [rgLo, rgHi, rgBase, rgOk]
        go_wp2_with fail
        have S2 := S.set2 0 (.int .i64 4) (.int .i64 (l - 2048)) rfl (Nat.le_refl _) (by simp) [_] rfl
        have e0 := S2.c 0 0 rfl rfl
        have e1 := S2.c 0 1 rfl rfl
        exact bodyPost_ret (v := .tuple #[.agg #[.int .i64 4, .int .i64 (l - 2048)], .int .i64 0]) (by simp [results, Try.results16, go_sem, e0, e1]) rfl ⟨rfl, S2.b⟩
      · have hn' : Hid (NoRange l 4) := by
          have := hn.out
          unfold NoRange at this
          unfold Hid NoRange
          omega
        rcases (show l < 2048 ∨ (2048 ≤ l ∧ 67583 < l) by omega) with h1 | ⟨h1, h2⟩
        all_goals
          clear hk
          go_wp2_with fail
          (with_reducible refine (ranges_any _ _).mono ?_)
          rintro e w1 ⟨rfl, rfl⟩
          simp only [rgLo, rgHi, rgBase, rgOk]
          go_wp2_with fail
          go_roundw
          case rel => exact ⟨4, by omega, by go_num, hn', S⟩
          case measure => simp [intOf]
    · obtain rfl : K = 0 := by
        have := hn.out
        unfold NoRange at this
        rw [← hK.out]; unfold decK; repeat' split
        all_goals omega
      obtain rfl : N = 0 := by
        have := hn.out
        unfold NoRange at this
        rw [← hN.out]; unfold decN; repeat' split
        all_goals omega
      obtain rfl : E = 8 := by
        have := hn.out
        unfold NoRange at this
        rw [← hE.out]; unfold decE; repeat' split
        all_goals omega
      go_wp2_with fail
      have S2 := S.set2 0 (.int .i64 0) (.int .i64 0) rfl (Nat.le_refl _) (by simp) [_] rfl
      have e0 := S2.c 0 0 rfl rfl
      have e1 := S2.c 0 1 rfl rfl
      exact bodyPost_ret (v := .tuple #[.agg #[.int .i64 0, .int .i64 0], .int .i64 8]) (by simp [results, Try.results16, go_sem, e0, e1]) rfl ⟨rfl, S2.b⟩

theorem awake_any (w : World) : Calls Try.prog 10 #[] w fun e w' => e = .returned (.bool true) ∧ Below w.heap.size w w' := by
  have rd := Rd.lit w #[.int .i64 1, .int .i64 2, .int .i64 2, .int .i64 3] 30
  have hb0 := below_new w (.cells #[.int .i64 1, .int .i64 2, .int .i64 2, .int .i64 3] 30)
  go_enter Try.func10, Try.ntmps10
  go_wp2_with fail
  (with_reducible refine (pack_any _ 2 2 [(1, 2), (2, 3)] 1 64 _ rd rfl (by omega)).mono ?_)
  rintro e w1 ⟨v, rfl, hown, hb⟩
  have hR : packR [(1, 2), (2, 3)] 1 64 = [0, 1, 34, 64, 0, 8, 51, 64] := by decide +kernel
  have hE : packErr [(1, 2), (2, 3)] 1 64 = 0 := by decide +kernel
  rw [hR] at hown
  rw [hE]
  replace hown : w1.ownsRow _ _ 1 v 8 _ := hown
  obtain ⟨A2, c2, rfl, rd2, _, _⟩ := own_rd hown
  have cv := conv_bytes (P := Try.prog) w1 (src := 24) (dst := 9) (e := 5) Try.underlying24 Try.underlying5 Try.underlying9 (cap := c2) rd2 (n := 8) rfl
  go_wp2_with fail
  go_ret
  exact ⟨rfl, hb0.trans (hb.mono (by simp))⟩

end Go.Proofs.Ytchppfgoaeddlaa
