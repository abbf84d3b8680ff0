/-
  The contracts of the reference's Number and Uint.
-/
import Derived.Test.YtnfldccaeibcpaaCodN
namespace Go.Proofs.Ytnfldccaeibcpaa
set_option linter.unusedVariables false
open Go.RowKit

theorem div_pow256 (m j : Nat) : ((m / 256 ^ j : Nat) : Int) / 256 = ((m / 256 ^ (j + 1) : Nat) : Int) := by
  rw [show (256 : Int) = ((256 : Nat) : Int) from rfl, ← Int.natCast_ediv, Nat.div_div_eq_div_mul, Nat.pow_succ]

set_option maxHeartbeats 1600000 in
theorem number_any (m k : Nat) (w : World) (hm : m < 18446744073709551616) (hk : k ≤ 8) :
    Calls Try.prog 91 #[.int .u64 m, .int .i64 k] w fun e w' =>
      ∃ v, e = .returned v ∧ w'.ownsRow w.heap.size 5 1 v k ((numB m k).map u8v) ∧ Below w.heap.size w w' := by
  have hmk : (Instr.makeSlice 23 (.int .i64 (k : Int)) (.int .i64 (k : Int))).run Try.prog w = _ := run_make1 bytesT rfl .i64 .i64 k k (by omega) (by omega) (by omega) w
  have hown0 := own_made w (.int .u8 0) k 5 (by simp only [maxLen]; omega)
  have hb0 := below_new' w (.cells (zeroRow (.int .u8 0) k) 5)
  have hrep : List.replicate k (.int .u8 0) = (List.replicate k (0 : UInt8) ++ (numB m k).drop k).map u8v := by
    rw [List.drop_of_length_le (by rw [numB_len]; exact Nat.le_refl _)]; simp [u8v]
  rw [hrep] at hown0
  clear hrep
  go_enter Try.func91, Try.ntmps91
  go_wp2_with fail
  clear hmk
  go_loopw [0, 6] (fun v0 v6 wr => ∃ j i : Nat, j + i = k ∧ v6 = .int .i64 ((i : Int) - 1) ∧ v0 = .int .u64 ((m / 256 ^ j : Nat) : Int) ∧ wr.ownsRow w.heap.size 5 1 (.slice (some ⟨w.heap.size, 0, none⟩) k k) k ((List.replicate i (0 : UInt8) ++ (numB m k).drop i).map u8v) ∧ Below w.heap.size w wr) (fun _ v6 _ => (intOf v6 + 1).toNat)
  case atStart => exact ⟨0, k, by omega, rfl, by simp, hown0, hb0⟩
  case round =>
    clear hown0 hb0
    obtain ⟨j, i, hji, rfl, rfl, hown, hb⟩ := hrel
    rcases i with _ | i
    · go_wp2_with fail
      go_ret
      exact ⟨_, rfl, by simpa using hown, hb⟩
    · have hi : ((i + 1 : Nat) : Int) - 1 = i := by omega
      rw [hi]
      have hdv := div_pow256 m j
      have hlt : m / 256 ^ j < 18446744073709551616 := Nat.lt_of_le_of_lt (Nat.div_le_self _ _) hm
      have hst := hown.stored i (.int .u8 (((m / 256 ^ j : Nat) : Int) % 256))
      have hset : Hid (((List.replicate (i + 1) (0 : UInt8) ++ (numB m k).drop (i + 1)).map u8v).set i (.int .u8 (((m / 256 ^ j : Nat) : Int) % 256)) = (List.replicate i (0 : UInt8) ++ (numB m k).drop i).map u8v) := by
        show _ = _
        rw [← IntKind.wrap_u8, u8_wrap, ← List.map_set]
        congr 1
        rw [List.replicate_succ', List.append_assoc, List.set_append_right _ _ (by simp), List.length_replicate, Nat.sub_self]
        congr 1
        rw [List.drop_eq_getElem_cons (show i < (numB m k).length by rw [numB_len]; omega), numB_get, show k - 1 - i = j by omega]
        rfl
      have cc := hown.cellAt i (by omega)
      rw [List.getElem?_eq_getElem (by simp; rw [numB_len]; omega)] at cc
      have ff := hown.frozenAt i
      replace hdv := Lib.hid hdv
      generalize (m / 256 ^ j) = q at hdv hlt hst hset ⊢
      clear hi
      go_wp2_with fail
      go_roundw
      case rel =>
        refine ⟨j + 1, i, by omega, rfl, by rw [hdv.out], ?_, hb.setCell (p := ⟨w.heap.size, i, none⟩) (Nat.le_refl _) _⟩
        rw [← hset.out]; exact hst.1
      case measure => simp [intOf]

end Go.Proofs.Ytnfldccaeibcpaa
