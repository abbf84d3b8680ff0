/-
  The contract of the reference's Sum.
-/
import Derived.Test.YtnfldccaeibcpaaFle
namespace Go.Proofs.Ytnfldccaeibcpaa
set_option linter.unusedVariables false
open Go.RowKit

set_option maxHeartbeats 400000 in
theorem refSum_any (A : Option Addr) (n cap : Nat) (bs : List UInt8) (w : World) (hb : Bs w A bs) (hn : bs.length = n) (hl : n ≤ 1000000000) :
    Calls Try.prog 92 #[.slice A n cap] w fun e w' => e = .returned (.tuple #[.int .i64 (fl1 bs), .int .i64 (fl2 bs)]) ∧ w = w' := by
  subst hn
  go_enter Try.func92, Try.ntmps92
  go_wp2
  go_loop [4, 5, 6] (fun v0 v1 v16 => ∃ (k : Nat) (f s : Int), k ≤ bs.length ∧ 0 ≤ f ∧ f < 255 ∧ 0 ≤ s ∧ s < 255 ∧ v16 = .int .i64 k ∧ v0 = .int .i64 f ∧ v1 = .int .i64 s ∧
    Hid (f = sm (bs.take k) % 255) ∧ Hid (s = (wt (bs.take k) + ((bs.length : Int) - k) * sm (bs.take k)) % 255)) (fun _ _ i => bs.length - (intOf i).toNat)
  case atStart => exact ⟨0, 0, 0, Nat.zero_le _, by omega, by omega, by omega, by omega, rfl, rfl, rfl, by simp [sm, Hid], by simp [sm, wt, Hid]⟩
  case round =>
    obtain ⟨k, f, s, hk, hf0, hf1, hs0, hs1, rfl, rfl, rfl, HF, HS⟩ := hrel
    by_cases hlt : k < bs.length
    · obtain ⟨ad, rfl, hc⟩ := hb.get hlt
      have hb1 := bs[k].toNat_lt
      have b5 : 0 ≤ ((bs.length : Int) - k) % 255 ∧ ((bs.length : Int) - k) % 255 < 255 := by omega
      have b6 : 0 ≤ ((bs.length : Int) - k) % 255 * (bs[k].toNat : Int) ∧ ((bs.length : Int) - k) % 255 * (bs[k].toNat : Int) ≤ 254 * 255 :=
        ⟨Int.mul_nonneg b5.1 (by omega), Int.mul_le_mul (by omega) (by omega) (by omega) (by omega)⟩
      go_wp2
      go_round
      case rel =>
        refine ⟨k + 1, _, _, by omega, ?_, ?_, ?_, ?_, by go_num, rfl, rfl, ?_, ?_⟩
        · omega
        · omega
        · omega
        · omega
        · rw [HF.out, sm_take bs hlt]; show _ % 255 = _ % 255; omega
        · rw [HS.out, wt_take bs hlt, sm_take bs hlt]; show _ % 255 = _ % 255
          generalize sm (bs.take k) = S
          generalize wt (bs.take k) = T
          generalize (bs[k].toNat : Int) = b
          generalize hd : (bs.length : Int) - k = d
          have e : (bs.length : Int) - ((k + 1 : Nat) : Int) = d - 1 := by omega
          rw [e, Int.sub_mul, Int.mul_add, Int.add_emod, Int.emod_emod, ← Int.add_emod, Int.add_emod, Int.mul_emod, Int.emod_emod, ← Int.mul_emod, ← Int.add_emod]
          congr 1; omega
      case measure => simp [intOf]; omega
    · go_wp2
      go_ret2
      obtain rfl : k = bs.length := by omega
      rw [List.take_length] at HF HS
      refine ⟨ret2 HF.out ?_, rfl⟩
      rw [HS.out, Int.sub_self]; simp [fl2]

end Go.Proofs.Ytnfldccaeibcpaa
