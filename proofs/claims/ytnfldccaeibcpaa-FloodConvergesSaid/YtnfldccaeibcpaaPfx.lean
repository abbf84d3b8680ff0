/-
  Prefixes: the contracts of prefix.mask, prefix.Valid, of the reference's Prefix.
-/
import Derived.Test.YtnfldccaeibcpaaMem
import Derived.Test.YtnfldccaeibcpaaChecked
import Derived.IntWalk
namespace Go.Proofs.Ytnfldccaeibcpaa
set_option linter.unusedVariables false
open Go.RowKit

/-- Whether a prefix is valid. -/
def pfxB (x : Nat) (l : Int) : Bool := decide (0 ≤ l ∧ l ≤ 32 ∧ x % 2 ^ (32 - l.toNat) = 0)

theorem mask_val : ∀ k, k < 33 → IntKind.u64.wrap (4294967295 * 2 ^ k) % 4294967296 = ((4294967296 - 2 ^ k : Nat) : Int) := by decide

theorem mask_any (l k : Nat) (hk : k + l = 32) (w : World) : Calls Try.prog 58 #[.int .i64 l] w fun e w' => e = .returned (.int .u32 ((4294967296 - 2 ^ k : Nat) : Int)) ∧ w = w' := by
  have hk1 : (32 : Int) - (l : Int) = (k : Int) := by omega
  have hk2 : k ≤ 32 := by omega
  have hk3 : (0 : Int) ≤ (k : Int) := by omega
  go_enter Try.func58, Try.ntmps58
  go_wp2_with fail
  go_ret
  exact ⟨ret_int (mask_val k (by omega)), rfl⟩

theorem bv_of (a n : Nat) (h : a < 2 ^ n) : (BitVec.ofInt n (a : Int)).toNat = a := by
  rw [BitVec.ofInt_natCast, BitVec.toNat_ofNat]; exact Nat.mod_eq_of_lt h
theorem andNot_mask (x k : Nat) (hx : x < 4294967296) (hk : k ≤ 32) : bits .andNot .u32 (x : Int) ((4294967296 - 2 ^ k : Nat) : Int) = ((x % 2 ^ k : Nat) : Int) := by
  have hp : 2 ^ k ≤ 2 ^ 32 := Nat.pow_le_pow_right (by omega) hk
  have hp0 : 0 < 2 ^ k := Nat.pow_pos (by omega)
  have hlt : x % 2 ^ k < 4294967296 := Nat.lt_of_le_of_lt (Nat.mod_le _ _) hx
  show IntKind.u32.wrap ((BitVec.ofInt 32 (x : Int) &&& ~~~ BitVec.ofInt 32 ((4294967296 - 2 ^ k : Nat) : Int)).toNat : Int) = _
  have e : (BitVec.ofInt 32 (x : Int) &&& ~~~ BitVec.ofInt 32 ((4294967296 - 2 ^ k : Nat) : Int)).toNat = x % 2 ^ k := by
    rw [BitVec.toNat_and, BitVec.toNat_not, bv_of x 32 (by omega), bv_of _ 32 (by omega), show 2 ^ 32 - 1 - (4294967296 - 2 ^ k) = 2 ^ k - 1 by omega, Nat.and_two_pow_sub_one_eq_mod]
  rw [e, IntKind.wrap_u32]
  omega

set_option maxHeartbeats 1600000 in
theorem pvalid_any (x : Nat) (l : Int) (hx : x < 4294967296) (w : World) : Calls Try.prog 41 #[.agg #[.int .u32 x, .int .i64 l]] w fun e w' => e = .returned (.bool (pfxB x l)) ∧ Below w.heap.size w w' := by
  have hbb := below_new' w (.cells #[.int .u32 x, .int .i64 l] 108)
  have hbx := Box.new w #[.int .u32 x, .int .i64 l] 108
  have c0 := hbx.c 0 rfl
  have c1 := hbx.c 1 rfl
  clear hbx
  by_cases h1 : l < 0
  · have e : pfxB x l = false := by unfold pfxB; simp; omega
    rw [e]
    clear e
    have hd : decide (0 ≤ l) = false := by simpa using h1
    go_enter Try.func41, Try.ntmps41
    go_wp2_with fail
    go_quiet (fail)
    go_wp2_with fail
    go_ret
    exact ⟨rfl, below_drewN hbb nq⟩
  by_cases h2 : 32 < l
  · have e : pfxB x l = false := by unfold pfxB; simp; omega
    rw [e]
    clear e
    have hd : decide (0 ≤ l) = true := by simpa using h1
    have hd2 : decide (l ≤ 32) = false := by simpa using h2
    go_enter Try.func41, Try.ntmps41
    go_wp2_with fail
    go_quiet (fail)
    go_wp2_with fail
    go_ret
    exact ⟨rfl, below_drewN hbb nq⟩
  obtain ⟨l, rfl⟩ : ∃ j : Nat, l = j := ⟨l.toNat, by omega⟩
  obtain ⟨k, hk⟩ : ∃ k, k + l = 32 := ⟨32 - l, by omega⟩
  have e : pfxB x l = (((x % 2 ^ k : Nat) : Int) == 0) := by
    unfold pfxB
    rw [Int.toNat_natCast, show 32 - l = k by omega, Bool.eq_iff_iff, decide_eq_true_iff, beq_iff_eq]
    omega
  rw [e]
  clear e
  have ha := andNot_mask x k hx (by omega)
  have h0 : (0 : Int) ≤ (l : Int) := by omega
  have h32 : (l : Int) ≤ 32 := by omega
  have M := fun W => mask_any l k hk W
  replace M := Lib.hid M
  clear h1 h2 hk
  generalize (4294967296 - 2 ^ k) = mm at M ha
  generalize (x % 2 ^ k) = q at ha ⊢
  go_enter Try.func41, Try.ntmps41
  go_wp2_with fail
  go_quiet ((go_at_call 58; exact quietL (M.out _)))
  go_wp2_with fail
  go_ret
  exact ⟨rfl, below_drewN hbb nq⟩

end Go.Proofs.Ytnfldccaeibcpaa
