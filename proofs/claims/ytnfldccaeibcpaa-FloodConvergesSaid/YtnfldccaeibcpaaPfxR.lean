/-
  The contract of the reference's Prefix.
-/
import Derived.Test.YtnfldccaeibcpaaPfx
namespace Go.Proofs.Ytnfldccaeibcpaa
set_option linter.unusedVariables false
open Go.RowKit

theorem and1 (a : Nat) (ha : a < 4294967296) : bits .and .u32 (a : Int) 1 = ((a % 2 : Nat) : Int) := by
  show IntKind.u32.wrap ((BitVec.ofInt 32 (a : Int) &&& BitVec.ofInt 32 1).toNat : Int) = _
  have e : (BitVec.ofInt 32 (a : Int) &&& BitVec.ofInt 32 1).toNat = a % 2 := by
    rw [BitVec.toNat_and, bv_of a 32 (by omega), show (BitVec.ofInt 32 1).toNat = 2 ^ 1 - 1 from rfl, Nat.and_two_pow_sub_one_eq_mod]
  rw [e, IntKind.wrap_u32]
  omega
theorem mod_bit (x j : Nat) : x % 2 ^ (j + 1) = x % 2 ^ j + 2 ^ j * (x / 2 ^ j % 2) := by rw [Nat.pow_succ, Nat.mod_mul]

set_option maxHeartbeats 1600000 in
theorem rprefix_any (x : Nat) (l : Int) (hx : x < 4294967296) (w : World) : Calls Try.prog 34 #[.agg #[.int .u32 x, .int .i64 l]] w fun e w' => e = .returned (.bool (pfxB x l)) ∧ Below w.heap.size w w' := by
  have hbb := below_new' w (.cells #[.int .u32 x, .int .i64 l] 108)
  have hbx := Box.new w #[.int .u32 x, .int .i64 l] 108
  have c0 := hbx.c 0 rfl
  have c1 := hbx.c 1 rfl
  clear hbx
  by_cases h1 : l < 0
  · have e : pfxB x l = false := by unfold pfxB; simp; omega
    rw [e]
    clear e
    go_enter Try.func34, Try.ntmps34
    go_wp2_with fail
    go_ret
    exact ⟨rfl, hbb⟩
  by_cases h2 : 32 < l
  · have e : pfxB x l = false := by unfold pfxB; simp; omega
    rw [e]
    clear e
    go_enter Try.func34, Try.ntmps34
    go_wp2_with fail
    go_ret
    exact ⟨rfl, hbb⟩
  obtain ⟨l, rfl⟩ : ∃ j : Nat, l = j := ⟨l.toNat, by omega⟩
  have e : pfxB x l = decide (x % 2 ^ (32 - l) = 0) := by
    unfold pfxB
    rw [Int.toNat_natCast, Bool.eq_iff_iff, decide_eq_true_iff, decide_eq_true_iff]
    omega
  rw [e]
  clear e
  obtain ⟨r, hr⟩ : ∃ r, decide (x % 2 ^ (32 - l) = 0) = r := ⟨_, rfl⟩
  rw [hr]
  replace hr := Lib.hid hr
  go_enter Try.func34, Try.ntmps34
  go_wp2_with fail
  go_loop [3] (fun v3 => ∃ i : Nat, l ≤ i ∧ i ≤ 32 ∧ v3 = .int .i64 i ∧ Hid (x % 2 ^ (32 - l) = x % 2 ^ (32 - i))) (fun v3 => 32 - (intOf v3).toNat)
  case atStart => exact ⟨l, by omega, by omega, rfl, rfl⟩
  case round =>
    obtain ⟨i, hi1, hi2, rfl, hm⟩ := hrel
    by_cases hi : i < 32
    · obtain ⟨j, hj⟩ : ∃ j, i + j = 31 := ⟨31 - i, by omega⟩
      have hji : (31 : Int) - (i : Int) = (j : Int) := by omega
      have hb := mod_bit x j
      have hd : ((x : Int) / 2 ^ j) = ((x / 2 ^ j : Nat) : Int) := by
        rw [Int.natCast_ediv, Int.natCast_pow]; rfl
      have hdl : x / 2 ^ j < 4294967296 := Nat.lt_of_le_of_lt (Nat.div_le_self _ _) hx
      have ha := and1 (x / 2 ^ j) hdl
      rw [← hd] at ha
      have hm' := hm.out
      rw [show 32 - i = j + 1 by omega, hb] at hm'
      have hpp : 0 < 2 ^ j := Nat.pow_pos (by omega)
      have h32j : j < 32 := by omega
      by_cases hbit : x / 2 ^ j % 2 = 1
      · rw [hbit] at hm' ha
        obtain rfl : r = false := by
          rw [← hr.out, hm']; simp
        clear hb hd hm hm' hbit hj
        go_wp2_with fail
        go_ret
        exact ⟨rfl, hbb⟩
      · have hbit0 : x / 2 ^ j % 2 = 0 := by omega
        rw [hbit0] at hm' ha
        have hm2 : Hid (x % 2 ^ (32 - l) = x % 2 ^ (32 - (i + 1))) := by
          show _ = _
          rw [hm', show 32 - (i + 1) = j by omega]; omega
        clear hb hd hm hm' hbit hbit0
        go_wp2_with fail
        go_round
        case rel => exact ⟨i + 1, by omega, by omega, by go_num, hm2⟩
        case measure => simp [intOf]; omega
    · obtain rfl : i = 32 := by omega
      obtain rfl : r = true := by
        rw [← hr.out, hm.out]; simp [Nat.mod_one]
      go_wp2_with fail
      go_ret
      exact ⟨rfl, hbb⟩

end Go.Proofs.Ytnfldccaeibcpaa
