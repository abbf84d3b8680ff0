/-
  The contracts of the reference for package fletcher, and of the statements' first check.
-/
import Derived.Test.YtlcjbjmpnmdbcaaFle
namespace Go.Proofs.Ytlcjbjmpnmdbcaa
open Go.RowKit

set_option maxHeartbeats 400000 in
theorem refReduced_any (n : Int) (w : World) :
    Calls Try.prog 16 #[.int .i64 n] w fun e w' => e = .returned (.int .i64 (n % 255)) ∧ w = w' := by
  obtain ⟨h1, h2⟩ := tmod_bd n
  go_enter Try.func16, Try.ntmps16
  go_wp2
  go_ret
  exact ⟨by rw [← tmod_red n]; rfl, rfl⟩

set_option maxHeartbeats 400000 in
theorem refSum_any (A : Option Addr) (n cap : Nat) (bs : List UInt8) (w : World) (hb : Bs w A bs) (hn : bs.length = n) (hl : n ≤ 1000000000) :
    Calls Try.prog 11 #[.slice A n cap] w fun e w' => e = .returned (.tuple #[.int .i64 (fl1 bs), .int .i64 (fl2 bs)]) ∧ w = w' := by
  subst hn
  go_enter Try.func11, Try.ntmps11
  go_wp2
  go_loop [4, 5, 6] (fun v0 v1 v16 => ∃ (k : Nat) (f s : Int), k ≤ bs.length ∧ 0 ≤ f ∧ f < 255 ∧ 0 ≤ s ∧ s < 255 ∧ v16 = .int .i64 k ∧ v0 = .int .i64 f ∧ v1 = .int .i64 s ∧
    Hid (f = sm (bs.take k) % 255) ∧ Hid (s = (wt (bs.take k) + ((bs.length : Int) - k) * sm (bs.take k)) % 255)) (fun _ _ i => bs.length - (intOf i).toNat)
  case atStart => exact ⟨0, 0, 0, Nat.zero_le _, by omega, by omega, by omega, by omega, rfl, rfl, rfl, by simp [sm, Hid], by simp [sm, wt, Hid]⟩
  case round =>
    obtain ⟨k, f, s, hk, hf0, hf1, hs0, hs1, rfl, rfl, rfl, HF, HS⟩ := hrel
    by_cases hlt : k < bs.length
    · obtain ⟨ad, rfl, hc⟩ := hb.get hlt
      have hb1 := bs[k].toNat_lt
      have b5 : 0 ≤ ((bs.length : Int) - k) % 255 ∧ ((bs.length : Int) - k) % 255 < 255 := by omega
      have b6 : 0 ≤ ((bs.length : Int) - k) % 255 * (bs[k].toNat : Int) ∧ ((bs.length : Int) - k) % 255 * (bs[k].toNat : Int) ≤ 254 * 255 :=
        ⟨Int.mul_nonneg b5.1 (by omega), Int.mul_le_mul (by omega) (by omega) (by omega) (by omega)⟩
      go_wp2
      go_round
      case rel =>
        refine ⟨k + 1, _, _, by omega, ?_, ?_, ?_, ?_, by go_num, rfl, rfl, ?_, ?_⟩
        · omega
        · omega
        · omega
        · omega
        · rw [HF.out, sm_take bs hlt]; show _ % 255 = _ % 255; omega
        · rw [HS.out, wt_take bs hlt, sm_take bs hlt]; show _ % 255 = _ % 255
          generalize sm (bs.take k) = S
          generalize wt (bs.take k) = T
          generalize (bs[k].toNat : Int) = b
          generalize hd : (bs.length : Int) - k = d
          have e : (bs.length : Int) - ((k + 1 : Nat) : Int) = d - 1 := by omega
          rw [e, Int.sub_mul, Int.mul_add, Int.add_emod, Int.emod_emod, ← Int.add_emod, Int.add_emod, Int.mul_emod, Int.emod_emod, ← Int.mul_emod, ← Int.add_emod]
          congr 1; omega
      case measure => simp [intOf]; omega
    · go_wp2
      go_ret2
      obtain rfl : k = bs.length := by omega
      rw [List.take_length] at HF HS
      refine ⟨ret2 HF.out ?_, rfl⟩
      rw [HS.out, Int.sub_self]; simp [fl2]

set_option maxHeartbeats 400000 in
theorem awake_any (w : World) : Calls Try.prog 9 #[] w fun e w' => e = .returned (.bool true) ∧ Below w.heap.size w w' := by
  go_enter Try.func9, Try.ntmps9
  have l1 := Bs.lit w #[.int .u8 1, .int .u8 2, .int .u8 3] 5 [1, 2, 3] _ rfl (by simp [u8v])
  have S1 := sum_any _ 3 3 [1, 2, 3] _ l1 rfl (by omega)
  rw [show fl1 [1, 2, 3] = 6 from by decide, show fl2 [1, 2, 3] = 10 from by decide] at S1
  go_wp2_with fail
  (with_reducible refine S1.mono ?_)
  rintro e w' ⟨rfl, rfl⟩
  go_wp2_with fail
  have l2 := Bs.lit (w.alloc (.cells #[.int .u8 1, .int .u8 2, .int .u8 3] 5)) #[.int .u8 1, .int .u8 2, .int .u8 0, .int .u8 0] 5 [1, 2, 0, 0] (w.heap.size + 1) (by simp) (by simp [u8v])
  have S2 := seal_any _ 4 4 2 [1, 2, 0, 0] _ l2 rfl (by omega) (by omega) 2 rfl
  rw [show sealed [1, 2, 0, 0] 2 = [1, 2, 248, 4] from by decide] at S2
  (with_reducible refine S2.mono ?_)
  rintro e w1 ⟨v, rfl, hown, hbel⟩
  have hbW : Below w.heap.size w w1 := (((Below.refl _ _).alloc (Nat.le_refl _) _).alloc (by simp) _).trans (hbel.mono (by simp; omega))
  obtain ⟨A, c, rfl, hrd, _, _⟩ := own_rd hown
  clear S1 S2 l1 l2 hown hbel
  have hc1 := conv_bytes (P := Try.prog) w1 Try.underlying22 Try.underlying5 Try.underlying9 (cap := c) hrd (n := 4) rfl
  go_wp2_with fail
  have C1 := check_any _ 4 c [1, 2, 248, 4] _ hrd rfl (by omega)
  rw [show chk [1, 2, 248, 4] = true from by decide] at C1
  (with_reducible refine C1.mono ?_)
  rintro e w' ⟨rfl, rfl⟩
  clear C1 hrd hc1
  have l3 := Bs.lit w1 #[.int .u8 1, .int .u8 2, .int .u8 0, .int .u8 0] 5 [1, 2, 0, 0] _ rfl (by simp [u8v])
  have C2 := check_any _ 4 4 [1, 2, 0, 0] _ l3 rfl (by omega)
  rw [show chk [1, 2, 0, 0] = false from by decide] at C2
  go_wp2_with fail
  (with_reducible refine C2.mono ?_)
  rintro e w' ⟨rfl, rfl⟩
  go_wp2_with fail
  go_ret
  exact ⟨rfl, hbW.alloc hbW.size _⟩

end Go.Proofs.Ytlcjbjmpnmdbcaa
