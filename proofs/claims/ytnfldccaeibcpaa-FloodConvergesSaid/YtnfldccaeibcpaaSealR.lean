/-
  The contract of the reference's Seal.
-/
import Derived.Test.YtnfldccaeibcpaaFleSum
import Derived.Deep.DeepCutAuto
namespace Go.Proofs.Ytnfldccaeibcpaa
set_option linter.unusedVariables false
open Go.RowKit

theorem seal_id (s L x y M f p q : Int) (hy : y = -f - x + 255*q) (hL : L = M + 1 - 255*p) : s + L*x + (L+254)*y = (s + x - M*f) + 255*(-p*x + (1-p)*(-f-x) + (M+255-255*p)*q) := by
  subst hy hL
  grind
/-- The reference's test: only one pair of bytes passes. -/
theorem seal_test (bs : List UInt8) (k : Nat) (x : Int) (h0 : 0 ≤ x) (h1 : x < 255) :
    (((fl2 (zeroed bs k) + ((bs.length : Int) - k) % 255 * x + (((bs.length : Int) - k) % 255 + 254) * ((510 - fl1 (zeroed bs k) - x) % 255)) % 255 == 0) = true) ↔ x = sealX bs k := by
  rw [beq_iff_eq]
  unfold sealX
  generalize fl1 (zeroed bs k) = f
  generalize fl2 (zeroed bs k) = s
  generalize hd : (bs.length : Int) - k = d
  obtain ⟨q, hq⟩ : ∃ q, (510 - f - x) % 255 = -f - x + 255 * q := ⟨2 - (510 - f - x) / 255, by omega⟩
  obtain ⟨p, hp⟩ : ∃ p, d % 255 = (d - 1) % 255 + 1 - 255 * p := ⟨((d - 1) % 255 + 1 - d % 255) / 255, by omega⟩
  rw [seal_id s (d % 255) x _ ((d - 1) % 255) f p q hq hp]
  generalize (d - 1) % 255 * f = z
  generalize -p * x + (1 - p) * (-f - x) + ((d - 1) % 255 + 255 - 255 * p) * q = u
  omega
theorem sealY_eq (bs : List UInt8) (k : Nat) : (510 - fl1 (zeroed bs k) - sealX bs k) % 255 = sealY bs k := by
  unfold sealY; omega

set_option maxRecDepth 100000 in
set_option maxHeartbeats 1600000 in
theorem rseal_any (A : Option Addr) (n cap k : Nat) (bs : List UInt8) (w : World) (hb : Bs w A bs) (hn : bs.length = n) (hl : n ≤ 1000000000) (hk : k + 2 ≤ n) (at_ : Int) (hat : at_ = k) :
    Calls Try.prog 74 #[.slice A n cap, .int .i64 at_] w fun e w' => ∃ v, e = .returned v ∧
      w'.ownsRow w.heap.size 5 1 v n ((sealed bs k).map u8v) ∧ Below w.heap.size w w' := by
  subst hn
  subst hat
  have hown0 := own_empty w 5 1
  have hba := below_new w (.cells #[] 5)
  have rd1 := hb.below hba
  go_enter Try.func74, Try.ntmps74
  go_wp2_with (at_builtin; refine wpList_app rfl bytesT (.tmp 11) (.tmp 12) rfl w.heap.size rfl hown0 (m := bs.length) rfl (by simp) rd1 (u8v_one _) (by simp only [maxLen]; omega) (by omega) hba.size bs.length (bs.map u8v) (by omega) (by simp) ?_; intro v1 w1 hown hbel0; have hbel := hba.trans hbel0; obtain ⟨g, c1, rfl, hg1, hg2, hown1⟩ := own_form hown (by omega); have hc0 := own_u8 hown1 (k := k) (by omega); have hc1 := own_u8 hown1 (k := k + 1) (by omega); have hf0 := hown1.frozenAt k; have hf1 := hown1.frozenAt (k + 1))
  have hown3 := ((hown1.stored k (.int .u8 0)).1.stored (k + 1) (.int .u8 0)).1
  have hbel3 := (hbel.setCell (p := ⟨g, k, none⟩) hg1 (.int .u8 0)).setCell (p := ⟨g, k + 1, none⟩) hg1 (.int .u8 0)
  generalize (w1.setCell ⟨g, k, none⟩ (.int .u8 0)).setCell ⟨g, k + 1, none⟩ (.int .u8 0) = w2 at hown3 hbel3 ⊢
  rw [show ((bs.map u8v).set k (.int .u8 0)).set (k + 1) (.int .u8 0) = (zeroed bs k).map u8v from by simp [zeroed, List.map_set, u8v]] at hown3
  clear hown1 hown hbel hbel0 hc0 hc1 hf0 hf1 hown0 hba rd1
  have hlz : (zeroed bs k).length = bs.length := by simp [zeroed]
  obtain ⟨A3, c3, he3, hrd, _, _⟩ := own_rd hown3
  simp only [Value.slice.injEq, true_and] at he3
  obtain ⟨rfl, rfl⟩ := he3
  have SU := refSum_any _ _ c1 (zeroed bs k) w2 hrd hlz hl
  (with_reducible refine SU.mono ?_)
  rintro e w' ⟨rfl, rfl⟩
  have b1 := fl1_bd (zeroed bs k)
  have b2 := fl2_bd (zeroed bs k)
  have b3 := sealX_bd bs k
  have b4 := sealY_bd bs k
  have hT : Hid (∀ x : Int, 0 ≤ x → x < 255 → _) := fun x h0 h1 => seal_test bs k x h0 h1
  have hY : Hid _ := sealY_eq bs k
  obtain ⟨z0, hc0⟩ : ∃ z, w2.cell? ⟨g, k, none⟩ = some z := ⟨_, own_u8 hown3 (k := k) (by omega)⟩
  obtain ⟨z1, hc1⟩ : ∃ z, w2.cell? ⟨g, k + 1, none⟩ = some z := ⟨_, own_u8 hown3 (k := k + 1) (by omega)⟩
  have hf0 := hown3.frozenAt k
  have hf1 := hown3.frozenAt (k + 1)
  have b0 : (0 : Int) ≤ (bs.length : Int) - k := by omega
  clear SU hlz hrd
  have hfin : Hid (∃ v, Value.slice (some ⟨g, 0, none⟩) bs.length c1 = v ∧ ((w2.setCell ⟨g, k, none⟩ (.int .u8 (sealX bs k))).setCell ⟨g, k + 1, none⟩ (.int .u8 (sealY bs k))).ownsRow w.heap.size 5 1 v bs.length ((sealed bs k).map u8v) ∧ Below w.heap.size w ((w2.setCell ⟨g, k, none⟩ (.int .u8 (sealX bs k))).setCell ⟨g, k + 1, none⟩ (.int .u8 (sealY bs k)))) := by
    have hown4 := ((hown3.stored k (.int .u8 (sealX bs k))).1.stored (k + 1) (.int .u8 (sealY bs k))).1
    rw [show (((zeroed bs k).map u8v).set k (.int .u8 (sealX bs k))).set (k + 1) (.int .u8 (sealY bs k)) = (sealed bs k).map u8v from by
      simp [sealed, List.map_set, u8_ofInt b3.1 (by omega : sealX bs k < 256), u8_ofInt b4.1 (by omega : sealY bs k < 256)]] at hown4
    exact ⟨_, rfl, hown4, (hbel3.setCell (p := ⟨g, k, none⟩) hg1 _).setCell (p := ⟨g, k + 1, none⟩) hg1 _⟩
  generalize fl1 (zeroed bs k) = f at *
  generalize fl2 (zeroed bs k) = s at *
  generalize sealX bs k = X at *
  generalize sealY bs k = Y at *
  have b5 : 0 ≤ ((bs.length : Int) - k) % 255 ∧ ((bs.length : Int) - k) % 255 < 255 := by omega
  go_wp2_with fail
  generalize ((bs.length : Int) - k) % 255 = L at *
  go_loop [9] (fun v9 => ∃ x : Nat, v9 = .int .i64 x ∧ (x : Int) ≤ X) (fun v9 => (X + 1 - intOf v9).toNat)
  case atStart => exact ⟨0, rfl, by omega⟩
  case round =>
    obtain ⟨x, rfl, hx⟩ := hrel
    have hx255 : (x : Int) < 255 := by omega
    have b6 : 0 ≤ L * (x : Int) ∧ L * (x : Int) ≤ 254 * 254 := ⟨Int.mul_nonneg b5.1 (by omega), Int.mul_le_mul (by omega) (by omega) (by omega) (by omega)⟩
    have b7 : 0 ≤ (510 - f - (x : Int)) % 255 ∧ (510 - f - (x : Int)) % 255 < 255 := by omega
    have b8 : 0 ≤ (L + 254) * ((510 - f - (x : Int)) % 255) ∧ (L + 254) * ((510 - f - (x : Int)) % 255) ≤ 508 * 254 := ⟨Int.mul_nonneg (by omega) b7.1, Int.mul_le_mul (by omega) (by omega) b7.1 (by omega)⟩
    have hTx := hT.out x (by omega) hx255
    by_cases hxx : (x : Int) = X
    · have ht := hTx.2 hxx
      subst hxx
      obtain rfl := hY.out
      clear hTx hT hY
      go_wp2_with fail
      obtain ⟨v, hv, hv2⟩ := hfin.out
      subst hv
      clear hfin
      go_ret
      exact ⟨_, rfl, hv2⟩
    · have ht : ¬ _ := fun h => hxx (hTx.1 h)
      rw [Bool.not_eq_true] at ht
      clear hTx
      go_wp2_with fail
      go_round
      case rel => exact ⟨x + 1, by go_num, by omega⟩
      case measure => simp [intOf]; omega

end Go.Proofs.Ytnfldccaeibcpaa
