/-
  The walks of the statements LabelsEncode, LabelsDecode.
-/
import Derived.Test.YtchppfgoaeddlaaLabRef
import Derived.Test.YtchppfgoaeddlaaLabArgs
namespace Go.Proofs.Ytchppfgoaeddlaa
set_option linter.unusedVariables false
open Go.RowKit

theorem dec_enc (k m : Int) (h : encE k m = 0) : decK (encL k m) = k ∧ decN (encL k m) = m ∧ decE (encL k m) = 0 := by
  have hk : k = 1 ∨ k = 2 ∨ k = 3 ∨ k = 4 := by
    revert h
    unfold encE
    repeat' split
    all_goals omega
  rcases hk with rfl | rfl | rfl | rfl
  · have hm : 0 ≤ m ∧ m ≤ 63 := by
      revert h
      unfold encE
      repeat' split
      all_goals (intro _; omega)
    have hL : encL 1 m = 16 + m := by
      unfold encL
      repeat' split
      all_goals omega
    clear h
    rw [hL]
    unfold decK decN decE
    refine ⟨?_, ?_, ?_⟩
    all_goals
      repeat' split
      all_goals omega
  · have hm : 0 ≤ m ∧ m ≤ 511 := by
      revert h
      unfold encE
      repeat' split
      all_goals (intro _; omega)
    have hL : encL 2 m = 128 + m := by
      unfold encL
      repeat' split
      all_goals omega
    clear h
    rw [hL]
    unfold decK decN decE
    refine ⟨?_, ?_, ?_⟩
    all_goals
      repeat' split
      all_goals omega
  · have hm : 1 ≤ m ∧ m ≤ 64 := by
      revert h
      unfold encE
      repeat' split
      all_goals (intro _; omega)
    have hL : encL 3 m = 1024 + m := by
      unfold encL
      repeat' split
      all_goals omega
    clear h
    rw [hL]
    unfold decK decN decE
    refine ⟨?_, ?_, ?_⟩
    all_goals
      repeat' split
      all_goals omega
  · have hm : 0 ≤ m ∧ m ≤ 65535 := by
      revert h
      unfold encE
      repeat' split
      all_goals (intro _; omega)
    have hL : encL 4 m = 2048 + m := by
      unfold encL
      repeat' split
      all_goals omega
    clear h
    rw [hL]
    unfold decK decN decE
    refine ⟨?_, ?_, ?_⟩
    all_goals
      repeat' split
      all_goals omega

set_option maxHeartbeats 1600000 in
theorem encode_law (w : World) (k m : Int) : Calls Try.prog 4 #[.agg #[.int .i64 k, .int .i64 m]] w fun e w' => e = .returned (.bool true) ∧ Below w.heap.size w w' := by
  have K := fun W => encode_any k m W
  have K2 := fun W => rencode_any k m W
  obtain ⟨E, hE⟩ : ∃ x, encE k m = x := ⟨_, rfl⟩
  obtain ⟨L, hL⟩ : ∃ x, encL k m = x := ⟨_, rfl⟩
  have D := fun W => decode_any L W
  have hd : E = 0 → decK L = k ∧ decN L = m ∧ decE L = 0 := by
    subst hE hL
    exact dec_enc k m
  rw [hE, hL] at K K2
  replace K := Lib.hid K
  replace K2 := Lib.hid K2
  obtain ⟨DK, h1⟩ : ∃ x, decK L = x := ⟨_, rfl⟩
  obtain ⟨DN, h2⟩ : ∃ x, decN L = x := ⟨_, rfl⟩
  obtain ⟨DE, h3⟩ : ∃ x, decE L = x := ⟨_, rfl⟩
  rw [h1, h2, h3] at D hd
  replace D := Lib.hid D
  replace hd := Lib.hid hd
  clear hE hL h1 h2 h3
  have S := (St.start w).new' #[.int .i64 k, .int .i64 m] 30 w.heap.size [.int .i64 k, .int .i64 m] rfl rfl
  have c0 := S.c 0 0 rfl rfl
  have c1 := S.c 0 1 rfl rfl
  go_enter Try.func4, Try.ntmps4
  go_wp2_with fail
  (with_reducible refine (K.out _).mono ?_)
  rintro e w1 ⟨rfl, hb⟩
  replace S := S.call hb
  clear c0 c1 hb
  have c0 := S.c 0 0 rfl rfl
  have c1 := S.c 0 1 rfl rfl
  go_wp2_with fail
  (with_reducible refine (K2.out _).mono ?_)
  rintro e w2 ⟨rfl, hb⟩
  replace S := S.call hb
  clear c0 c1 hb
  go_wp2_with fail
  (with_reducible refine (awake_any _).mono ?_)
  rintro e w3 ⟨rfl, hb⟩
  replace S := S.call hb
  clear hb
  go_wp2_with fail
  (with_reducible refine (D.out _).mono ?_)
  rintro e w4 ⟨rfl, hb⟩
  replace S := S.call hb
  clear hb
  replace S := S.new' #[.int .i64 DK, .int .i64 DN] 30 w4.heap.size [.int .i64 DK, .int .i64 DN] rfl rfl
  by_cases hz : E = 0
  · subst hz
    obtain ⟨rfl, rfl, rfl⟩ := hd.out rfl
    have c0 := S.c 1 0 rfl rfl
    have c1 := S.c 1 1 rfl rfl
    go_wp2_with fail
    go_ret
    exact ⟨rfl, S.b⟩
  · have hz' : (E == 0) = false := by simpa using hz
    go_wp2_with fail
    go_ret
    exact ⟨rfl, S.b⟩

set_option maxHeartbeats 1600000 in
theorem decode_law (w : World) (l : Int) (_hl : (Lit.int .i64 l).wf = true) : Calls Try.prog 5 #[.int .i64 l] w fun e w' => e = .returned (.bool true) ∧ Below w.heap.size w w' := by
  have D := fun W => decode_any l W
  have D2 := fun W => rdecode_any l W
  obtain ⟨DK, h1⟩ : ∃ x, decK l = x := ⟨_, rfl⟩
  obtain ⟨DN, h2⟩ : ∃ x, decN l = x := ⟨_, rfl⟩
  obtain ⟨DE, h3⟩ : ∃ x, decE l = x := ⟨_, rfl⟩
  rw [h1, h2, h3] at D D2
  replace D := Lib.hid D
  replace D2 := Lib.hid D2
  clear h1 h2 h3
  go_enter Try.func5, Try.ntmps5
  go_wp2_with fail
  (with_reducible refine (D.out _).mono ?_)
  rintro e w1 ⟨rfl, hb⟩
  have S := ((St.start w).call hb).new' #[.int .i64 DK, .int .i64 DN] 30 w1.heap.size [.int .i64 DK, .int .i64 DN] rfl rfl
  clear hb
  go_wp2_with fail
  (with_reducible refine (D2.out _).mono ?_)
  rintro e w2 ⟨rfl, hb⟩
  replace S := (S.call hb).new' #[.int .i64 DK, .int .i64 DN] 30 w2.heap.size [.int .i64 DK, .int .i64 DN] rfl rfl
  clear hb
  have c0 := S.c 0 0 rfl rfl
  have c1 := S.c 0 1 rfl rfl
  have c2 := S.c 1 0 rfl rfl
  have c3 := S.c 1 1 rfl rfl
  go_wp2_with fail
  (with_reducible refine (awake_any _).mono ?_)
  rintro e w3 ⟨rfl, hb⟩
  replace S := S.call hb
  clear hb c0 c1 c2 c3
  have c0 := S.c 0 0 rfl rfl
  have c1 := S.c 0 1 rfl rfl
  have c2 := S.c 1 0 rfl rfl
  have c3 := S.c 1 1 rfl rfl
  go_wp2_with fail
  go_ret
  exact ⟨rfl, S.b⟩

end Go.Proofs.Ytchppfgoaeddlaa
