/-
  The contracts of package labels: segments and labels.
-/
import Derived.Test.YtchppfgoaeddlaaMem
import Derived.Test.YtchppfgoaeddlaaChecked
namespace Go.Proofs.Ytchppfgoaeddlaa
set_option linter.unusedVariables false
open Go.RowKit

/-- The array of the ranges, as a value. -/
def spansV : Value := .agg #[.int .i64 1, .int .i64 0, .int .i64 63, .int .i64 16, .int .i64 2, .int .i64 0, .int .i64 511, .int .i64 128, .int .i64 3, .int .i64 1, .int .i64 64, .int .i64 1024, .int .i64 4, .int .i64 0, .int .i64 65535, .int .i64 2048]
set_option maxHeartbeats 400000 in
theorem spans_any (w : World) : Calls Try.prog 25 #[] w fun e w' => e = .returned spansV ∧ Below w.heap.size w w' := by
  go_enter Try.func25, Try.ntmps25
  go_wp2
  exact bodyPost_ret (v := .agg #[.int .i64 1, .int .i64 0, .int .i64 63, .int .i64 16, .int .i64 2, .int .i64 0, .int .i64 511, .int .i64 128, .int .i64 3, .int .i64 1, .int .i64 64, .int .i64 1024, .int .i64 4, .int .i64 0, .int .i64 65535, .int .i64 2048]) (by simp [results, Try.results25, go_sem]) rfl ⟨rfl, below_new _ _⟩
theorem spans_ix0 (w : World) : (Instr.index 49 spansV (.int .i64 0)).run Try.prog w = .ok (.agg #[.int .i64 1, .int .i64 0, .int .i64 63, .int .i64 16]) w := by kernel_rfl
theorem spans_ix1 (w : World) : (Instr.index 49 spansV (.int .i64 1)).run Try.prog w = .ok (.agg #[.int .i64 2, .int .i64 0, .int .i64 511, .int .i64 128]) w := by kernel_rfl
theorem spans_ix2 (w : World) : (Instr.index 49 spansV (.int .i64 2)).run Try.prog w = .ok (.agg #[.int .i64 3, .int .i64 1, .int .i64 64, .int .i64 1024]) w := by kernel_rfl
theorem spans_ix3 (w : World) : (Instr.index 49 spansV (.int .i64 3)).run Try.prog w = .ok (.agg #[.int .i64 4, .int .i64 0, .int .i64 65535, .int .i64 2048]) w := by kernel_rfl

/-- The label of a segment, and the error. -/
def encL (k m : Int) : Int := if k = 1 then (if m < 0 ∨ 63 < m then 0 else 16 + m) else if k = 2 then (if m < 0 ∨ 511 < m then 0 else 128 + m) else
  if k = 3 then (if m < 1 ∨ 64 < m then 0 else 1024 + m) else if k = 4 then (if m < 0 ∨ 65535 < m then 0 else 2048 + m) else 0
def encE (k m : Int) : Int := if k = 1 then (if m < 0 ∨ 63 < m then 2 else 0) else if k = 2 then (if m < 0 ∨ 511 < m then 2 else 0) else
  if k = 3 then (if m < 1 ∨ 64 < m then 2 else 0) else if k = 4 then (if m < 0 ∨ 65535 < m then 2 else 0) else 1
/-- The segment with a label, and the error. -/
def decK (l : Int) : Int := if 16 ≤ l ∧ l ≤ 79 then 1 else if 128 ≤ l ∧ l ≤ 639 then 2 else if 1025 ≤ l ∧ l ≤ 1088 then 3 else if 2048 ≤ l ∧ l ≤ 67583 then 4 else 0
def decN (l : Int) : Int := if 16 ≤ l ∧ l ≤ 79 then l - 16 else if 128 ≤ l ∧ l ≤ 639 then l - 128 else if 1025 ≤ l ∧ l ≤ 1088 then l - 1024 else if 2048 ≤ l ∧ l ≤ 67583 then l - 2048 else 0
def decE (l : Int) : Int := if 16 ≤ l ∧ l ≤ 79 then 0 else if 128 ≤ l ∧ l ≤ 639 then 0 else if 1025 ≤ l ∧ l ≤ 1088 then 0 else if 2048 ≤ l ∧ l ≤ 67583 then 0 else 8

/-- Not among the first j kinds; not in the first j ranges. -/
def NoKind (k : Int) (j : Nat) : Prop := ¬ (1 ≤ k ∧ k ≤ j)
def NoRange (l : Int) (j : Nat) : Prop := (0 < j → ¬ (16 ≤ l ∧ l ≤ 79)) ∧ (1 < j → ¬ (128 ≤ l ∧ l ≤ 639)) ∧ (2 < j → ¬ (1025 ≤ l ∧ l ≤ 1088)) ∧ (3 < j → ¬ (2048 ≤ l ∧ l ≤ 67583))

set_option maxHeartbeats 4000000 in
theorem encode_any (k m : Int) (w : World) : Calls Try.prog 13 #[.agg #[.int .i64 k, .int .i64 m]] w fun e w' => e = .returned (.tuple #[.int .i64 (encL k m), .int .i64 (encE k m)]) ∧ Below w.heap.size w w' := by
  have i0 := spans_ix0
  have i1 := spans_ix1
  have i2 := spans_ix2
  have i3 := spans_ix3
  have eL : Hid (encL k m = encL k m) := rfl
  obtain ⟨L, hL⟩ : ∃ L, encL k m = L := ⟨_, rfl⟩
  obtain ⟨E, hE⟩ : ∃ E, encE k m = E := ⟨_, rfl⟩
  rw [hL, hE]
  replace hL := Lib.hid hL
  replace hE := Lib.hid hE
  clear eL
  generalize hS : spansV = SV at i0 i1 i2 i3
  have HS := Lib.hid hS
  clear hS
  go_enter Try.func13, Try.ntmps13
  go_wp2_with fail
  (with_reducible refine (spans_any _).mono ?_)
  rintro e w1 ⟨rfl, hb⟩
  have S := (((St.start w).new #[.int .i64 k, .int .i64 m] 30).call hb)
  clear hb
  rw [HS.out]
  go_wp2_with fail
  go_loopw [7] (fun v7 wr => ∃ j : Nat, j ≤ 4 ∧ v7 = .int .i64 j ∧ Hid (NoKind k j) ∧ St w wr [(w.heap.size, [.int .i64 k, .int .i64 m])] []) (fun v7 _ => 4 - (intOf v7).toNat)
  case atStart => exact ⟨0, by omega, rfl, by show ¬ _; omega, S⟩
  case round =>
    clear S
    obtain ⟨j, hj, rfl, hn, S⟩ := hrel
    have c0 := S.c 0 0 rfl rfl
    have c1 := S.c 0 1 rfl rfl
    have hz := S.b.size
    have hlt := (S.box 0 rfl).lt (by simp)
    have n0 : ¬ w.heap.size = wr.heap.size := by omega
    have n1 : ¬ wr.heap.size = w.heap.size := by omega
    rcases (show j = 0 ∨ j = 1 ∨ j = 2 ∨ j = 3 ∨ j = 4 by omega) with rfl | rfl | rfl | rfl | rfl
    · by_cases hk : k = 1
      · subst hk
        by_cases h1 : m < 0
        · obtain rfl : L = 0 := by
            rw [← hL.out]; unfold encL; repeat' split
            all_goals omega
          obtain rfl : E = 2 := by
            rw [← hE.out]; unfold encE; repeat' split
            all_goals omega
          go_wp2_with fail
          all_goals
            go_ret2
            exact ⟨rfl, S.b.alloc S.b.size _⟩
        · by_cases h2 : 63 < m
          · obtain rfl : L = 0 := by
              rw [← hL.out]; unfold encL; repeat' split
              all_goals omega
            obtain rfl : E = 2 := by
              rw [← hE.out]; unfold encE; repeat' split
              all_goals omega
            go_wp2_with fail
            all_goals
              go_ret2
              exact ⟨rfl, S.b.alloc S.b.size _⟩
          · obtain rfl : L = 16 + m := by
              rw [← hL.out]; unfold encL; repeat' split
              all_goals omega
            obtain rfl : E = 0 := by
              rw [← hE.out]; unfold encE; repeat' split
              all_goals omega
            go_wp2_with fail
            all_goals
              go_ret2
              exact ⟨rfl, S.b.alloc S.b.size _⟩
      · have hk' : (k != 1) = true := by simpa using hk
        have hn' : Hid (NoKind k 1) := by
          have := hn.out
          unfold NoKind at this
          show ¬ _
          omega
        clear hk
        go_wp2_with fail
        go_roundw
        case rel => exact ⟨1, by omega, by go_num, hn', S.alloc _⟩
        case measure => simp [intOf]
    · by_cases hk : k = 2
      · subst hk
        by_cases h1 : m < 0
        · obtain rfl : L = 0 := by
            rw [← hL.out]; unfold encL; repeat' split
            all_goals omega
          obtain rfl : E = 2 := by
            rw [← hE.out]; unfold encE; repeat' split
            all_goals omega
          go_wp2_with fail
          all_goals
            go_ret2
            exact ⟨rfl, S.b.alloc S.b.size _⟩
        · by_cases h2 : 511 < m
          · obtain rfl : L = 0 := by
              rw [← hL.out]; unfold encL; repeat' split
              all_goals omega
            obtain rfl : E = 2 := by
              rw [← hE.out]; unfold encE; repeat' split
              all_goals omega
            go_wp2_with fail
            all_goals
              go_ret2
              exact ⟨rfl, S.b.alloc S.b.size _⟩
          · obtain rfl : L = 128 + m := by
              rw [← hL.out]; unfold encL; repeat' split
              all_goals omega
            obtain rfl : E = 0 := by
              rw [← hE.out]; unfold encE; repeat' split
              all_goals omega
            go_wp2_with fail
            all_goals
              go_ret2
              exact ⟨rfl, S.b.alloc S.b.size _⟩
      · have hk' : (k != 2) = true := by simpa using hk
        have hn' : Hid (NoKind k 2) := by
          have := hn.out
          unfold NoKind at this
          show ¬ _
          omega
        clear hk
        go_wp2_with fail
        go_roundw
        case rel => exact ⟨2, by omega, by go_num, hn', S.alloc _⟩
        case measure => simp [intOf]
    · by_cases hk : k = 3
      · subst hk
        by_cases h1 : m < 1
        · obtain rfl : L = 0 := by
            rw [← hL.out]; unfold encL; repeat' split
            all_goals omega
          obtain rfl : E = 2 := by
            rw [← hE.out]; unfold encE; repeat' split
            all_goals omega
          go_wp2_with fail
          all_goals
            go_ret2
            exact ⟨rfl, S.b.alloc S.b.size _⟩
        · by_cases h2 : 64 < m
          · obtain rfl : L = 0 := by
              rw [← hL.out]; unfold encL; repeat' split
              all_goals omega
            obtain rfl : E = 2 := by
              rw [← hE.out]; unfold encE; repeat' split
              all_goals omega
            go_wp2_with fail
            all_goals
              go_ret2
              exact ⟨rfl, S.b.alloc S.b.size _⟩
          · obtain rfl : L = 1024 + m := by
              rw [← hL.out]; unfold encL; repeat' split
              all_goals omega
            obtain rfl : E = 0 := by
              rw [← hE.out]; unfold encE; repeat' split
              all_goals omega
            go_wp2_with fail
            all_goals
              go_ret2
              exact ⟨rfl, S.b.alloc S.b.size _⟩
      · have hk' : (k != 3) = true := by simpa using hk
        have hn' : Hid (NoKind k 3) := by
          have := hn.out
          unfold NoKind at this
          show ¬ _
          omega
        clear hk
        go_wp2_with fail
        go_roundw
        case rel => exact ⟨3, by omega, by go_num, hn', S.alloc _⟩
        case measure => simp [intOf]
    · by_cases hk : k = 4
      · subst hk
        by_cases h1 : m < 0
        · obtain rfl : L = 0 := by
            rw [← hL.out]; unfold encL; repeat' split
            all_goals omega
          obtain rfl : E = 2 := by
            rw [← hE.out]; unfold encE; repeat' split
            all_goals omega
          go_wp2_with fail
          all_goals
            go_ret2
            exact ⟨rfl, S.b.alloc S.b.size _⟩
        · by_cases h2 : 65535 < m
          · obtain rfl : L = 0 := by
              rw [← hL.out]; unfold encL; repeat' split
              all_goals omega
            obtain rfl : E = 2 := by
              rw [← hE.out]; unfold encE; repeat' split
              all_goals omega
            go_wp2_with fail
            all_goals
              go_ret2
              exact ⟨rfl, S.b.alloc S.b.size _⟩
          · obtain rfl : L = 2048 + m := by
              rw [← hL.out]; unfold encL; repeat' split
              all_goals omega
            obtain rfl : E = 0 := by
              rw [← hE.out]; unfold encE; repeat' split
              all_goals omega
            go_wp2_with fail
            all_goals
              go_ret2
              exact ⟨rfl, S.b.alloc S.b.size _⟩
      · have hk' : (k != 4) = true := by simpa using hk
        have hn' : Hid (NoKind k 4) := by
          have := hn.out
          unfold NoKind at this
          show ¬ _
          omega
        clear hk
        go_wp2_with fail
        go_roundw
        case rel => exact ⟨4, by omega, by go_num, hn', S.alloc _⟩
        case measure => simp [intOf]
    · obtain rfl : L = 0 := by
        have := hn.out
        unfold NoKind at this
        rw [← hL.out]; unfold encL; repeat' split
        all_goals omega
      obtain rfl : E = 1 := by
        have := hn.out
        unfold NoKind at this
        rw [← hE.out]; unfold encE; repeat' split
        all_goals omega
      go_wp2_with fail
      go_ret2
      exact ⟨rfl, S.b⟩

set_option maxHeartbeats 4000000 in
theorem decode_any (l : Int) (w : World) : Calls Try.prog 15 #[.int .i64 l] w fun e w' => e = .returned (.tuple #[.agg #[.int .i64 (decK l), .int .i64 (decN l)], .int .i64 (decE l)]) ∧ Below w.heap.size w w' := by
  have i0 := spans_ix0
  have i1 := spans_ix1
  have i2 := spans_ix2
  have i3 := spans_ix3
  obtain ⟨K, hK⟩ : ∃ K, decK l = K := ⟨_, rfl⟩
  obtain ⟨N, hN⟩ : ∃ N, decN l = N := ⟨_, rfl⟩
  obtain ⟨E, hE⟩ : ∃ E, decE l = E := ⟨_, rfl⟩
  rw [hK, hN, hE]
  replace hK := Lib.hid hK
  replace hN := Lib.hid hN
  replace hE := Lib.hid hE
  generalize hS : spansV = SV at i0 i1 i2 i3
  have HS := Lib.hid hS
  clear hS
  go_enter Try.func15, Try.ntmps15
  go_wp2_with fail
  (with_reducible refine (spans_any _).mono ?_)
  rintro e w1 ⟨rfl, hb⟩
  have S := (((St.start w).new #[.int .i64 0, .int .i64 0] 30).call hb)
  clear hb
  rw [HS.out]
  go_wp2_with fail
  go_loopw [7] (fun v7 wr => ∃ j : Nat, j ≤ 4 ∧ v7 = .int .i64 j ∧ Hid (NoRange l j) ∧ St w wr [(w.heap.size, [.int .i64 0, .int .i64 0])] []) (fun v7 _ => 4 - (intOf v7).toNat)
  case atStart => exact ⟨0, by omega, rfl, by unfold Hid NoRange; omega, S⟩
  case round =>
    clear S
    obtain ⟨j, hj, rfl, hn, S⟩ := hrel
    have c0 := S.c 0 0 rfl rfl
    have c1 := S.c 0 1 rfl rfl
    have f0 := S.f 0 0 rfl rfl
    have f1 := S.f 0 1 rfl rfl
    have hz := S.b.size
    have hlt := (S.box 0 rfl).lt (by simp)
    have n0 : ¬ w.heap.size = wr.heap.size := by omega
    have n1 : ¬ wr.heap.size = w.heap.size := by omega
    rcases (show j = 0 ∨ j = 1 ∨ j = 2 ∨ j = 3 ∨ j = 4 by omega) with rfl | rfl | rfl | rfl | rfl
    · by_cases hk : 16 ≤ l ∧ l ≤ 79
      · obtain ⟨h1, h2⟩ := hk
        clear hn
        obtain rfl : K = 1 := by
          rw [← hK.out]; unfold decK; repeat' split
          all_goals omega
        obtain rfl : N = l - 16 := by
          rw [← hN.out]; unfold decN; repeat' split
          all_goals omega
        obtain rfl : E = 0 := by
          rw [← hE.out]; unfold decE; repeat' split
          all_goals omega
        go_wp2_with fail
        have S2 := (S.set2 0 (.int .i64 1) (.int .i64 (l - 16)) rfl (Nat.le_refl _) (by simp) [_] rfl).alloc (.cells #[.int .i64 1, .int .i64 0, .int .i64 63, .int .i64 16] 48)
        have e0 := S2.c 0 0 rfl rfl
        have e1 := S2.c 0 1 rfl rfl
        exact bodyPost_ret (v := .tuple #[.agg #[.int .i64 1, .int .i64 (l - 16)], .int .i64 0]) (by simp [results, Try.results15, go_sem, e0, e1]) rfl ⟨rfl, S2.b⟩
      · have hn' : Hid (NoRange l 1) := by
          have := hn.out
          unfold NoRange at this
          unfold Hid NoRange
          omega
        rcases (show l < 16 ∨ (16 ≤ l ∧ 79 < l) by omega) with h1 | ⟨h1, h2⟩
        all_goals
          clear hk
          go_wp2_with fail
          go_roundw
          case rel => exact ⟨1, by omega, by go_num, hn', S.alloc _⟩
          case measure => simp [intOf]
    · by_cases hk : 128 ≤ l ∧ l ≤ 639
      · obtain ⟨h1, h2⟩ := hk
        clear hn
        obtain rfl : K = 2 := by
          rw [← hK.out]; unfold decK; repeat' split
          all_goals omega
        obtain rfl : N = l - 128 := by
          rw [← hN.out]; unfold decN; repeat' split
          all_goals omega
        obtain rfl : E = 0 := by
          rw [← hE.out]; unfold decE; repeat' split
          all_goals omega
        go_wp2_with fail
        have S2 := (S.set2 0 (.int .i64 2) (.int .i64 (l - 128)) rfl (Nat.le_refl _) (by simp) [_] rfl).alloc (.cells #[.int .i64 2, .int .i64 0, .int .i64 511, .int .i64 128] 48)
        have e0 := S2.c 0 0 rfl rfl
        have e1 := S2.c 0 1 rfl rfl
        exact bodyPost_ret (v := .tuple #[.agg #[.int .i64 2, .int .i64 (l - 128)], .int .i64 0]) (by simp [results, Try.results15, go_sem, e0, e1]) rfl ⟨rfl, S2.b⟩
      · have hn' : Hid (NoRange l 2) := by
          have := hn.out
          unfold NoRange at this
          unfold Hid NoRange
          omega
        rcases (show l < 128 ∨ (128 ≤ l ∧ 639 < l) by omega) with h1 | ⟨h1, h2⟩
        all_goals
          clear hk
          go_wp2_with fail
          go_roundw
          case rel => exact ⟨2, by omega, by go_num, hn', S.alloc _⟩
          case measure => simp [intOf]
    · by_cases hk : 1025 ≤ l ∧ l ≤ 1088
      · obtain ⟨h1, h2⟩ := hk
        clear hn
        obtain rfl : K = 3 := by
          rw [← hK.out]; unfold decK; repeat' split
          all_goals omega
        obtain rfl : N = l - 1024 := by
          rw [← hN.out]; unfold decN; repeat' split
          all_goals omega
        obtain rfl : E = 0 := by
          rw [← hE.out]; unfold decE; repeat' split
          all_goals omega
        go_wp2_with fail
        have S2 := (S.set2 0 (.int .i64 3) (.int .i64 (l - 1024)) rfl (Nat.le_refl _) (by simp) [_] rfl).alloc (.cells #[.int .i64 3, .int .i64 1, .int .i64 64, .int .i64 1024] 48)
        have e0 := S2.c 0 0 rfl rfl
        have e1 := S2.c 0 1 rfl rfl
        exact bodyPost_ret (v := .tuple #[.agg #[.int .i64 3, .int .i64 (l - 1024)], .int .i64 0]) (by simp [results, Try.results15, go_sem, e0, e1]) rfl ⟨rfl, S2.b⟩
      · have hn' : Hid (NoRange l 3) := by
          have := hn.out
          unfold NoRange at this
          unfold Hid NoRange
          omega
        rcases (show l < 1025 ∨ (1025 ≤ l ∧ 1088 < l) by omega) with h1 | ⟨h1, h2⟩
        all_goals
          clear hk
          go_wp2_with fail
          go_roundw
          case rel => exact ⟨3, by omega, by go_num, hn', S.alloc _⟩
          case measure => simp [intOf]
    · by_cases hk : 2048 ≤ l ∧ l ≤ 67583
      · obtain ⟨h1, h2⟩ := hk
        clear hn
        obtain rfl : K = 4 := by
          rw [← hK.out]; unfold decK; repeat' split
          all_goals omega
        obtain rfl : N = l - 2048 := by
          rw [← hN.out]; unfold decN; repeat' split
          all_goals omega
        obtain rfl : E = 0 := by
          rw [← hE.out]; unfold decE; repeat' split
          all_goals omega
        go_wp2_with fail
        have S2 := (S.set2 0 (.int .i64 4) (.int .i64 (l - 2048)) rfl (Nat.le_refl _) (by simp) [_] rfl).alloc (.cells #[.int .i64 4, .int .i64 0, .int .i64 65535, .int .i64 2048] 48)
        have e0 := S2.c 0 0 rfl rfl
        have e1 := S2.c 0 1 rfl rfl
        exact bodyPost_ret (v := .tuple #[.agg #[.int .i64 4, .int .i64 (l - 2048)], .int .i64 0]) (by simp [results, Try.results15, go_sem, e0, e1]) rfl ⟨rfl, S2.b⟩
      · have hn' : Hid (NoRange l 4) := by
          have := hn.out
          unfold NoRange at this
          unfold Hid NoRange
          omega
        rcases (show l < 2048 ∨ (2048 ≤ l ∧ 67583 < l) by omega) with h1 | ⟨h1, h2⟩
        all_goals
          clear hk
          go_wp2_with fail
          go_roundw
          case rel => exact ⟨4, by omega, by go_num, hn', S.alloc _⟩
          case measure => simp [intOf]
    · obtain rfl : K = 0 := by
        have := hn.out
        unfold NoRange at this
        rw [← hK.out]; unfold decK; repeat' split
        all_goals omega
      obtain rfl : N = 0 := by
        have := hn.out
        unfold NoRange at this
        rw [← hN.out]; unfold decN; repeat' split
        all_goals omega
      obtain rfl : E = 8 := by
        have := hn.out
        unfold NoRange at this
        rw [← hE.out]; unfold decE; repeat' split
        all_goals omega
      go_wp2_with fail
      exact bodyPost_ret (v := .tuple #[.agg #[.int .i64 0, .int .i64 0], .int .i64 8]) (by simp [results, Try.results15, go_sem, c0, c1]) rfl ⟨rfl, (S.b.setCell (p := ⟨w.heap.size, 0, none⟩) (Nat.le_refl _) _).setCell (p := ⟨w.heap.size, 1, none⟩) (Nat.le_refl _) _⟩

end Go.Proofs.Ytchppfgoaeddlaa
