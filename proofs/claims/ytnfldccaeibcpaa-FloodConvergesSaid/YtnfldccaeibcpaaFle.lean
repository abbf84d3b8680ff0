/-
  The contracts of package fletcher.
-/
import Derived.Test.YtnfldccaeibcpaaBytes
namespace Go.Proofs.Ytnfldccaeibcpaa
set_option linter.unusedVariables false
open Go.RowKit

/-- The sum of bytes. -/
def sm : List UInt8 → Int
  | [] => 0
  | b :: r => (b.toNat : Int) + sm r
/-- The weighted sum: the last byte counts once, the one before it twice. -/
def wt : List UInt8 → Int
  | [] => 0
  | b :: r => (r.length + 1 : Int) * (b.toNat : Int) + wt r

theorem sm_append (a b : List UInt8) : sm (a ++ b) = sm a + sm b := by
  induction a with
  | nil => simp [sm]
  | cons x a ih => simp only [List.cons_append, sm, ih]; omega
theorem wt_append (a b : List UInt8) : wt (a ++ b) = wt a + (b.length : Int) * sm a + wt b := by
  induction a with
  | nil => simp [sm, wt]
  | cons x a ih =>
    simp only [List.cons_append, sm, wt, ih, List.length_append]
    have h : ((a.length + b.length : Nat) : Int) + 1 = (a.length + 1 : Int) + (b.length : Int) := by omega
    rw [h, Int.add_mul, Int.mul_add]
    omega

theorem sm_take (bs : List UInt8) {k : Nat} (h : k < bs.length) : sm (bs.take (k + 1)) = sm (bs.take k) + (bs[k].toNat : Int) := by
  rw [List.take_succ_eq_append_getElem h, sm_append]; simp [sm]
theorem wt_take (bs : List UInt8) {k : Nat} (h : k < bs.length) : wt (bs.take (k + 1)) = wt (bs.take k) + sm (bs.take k) + (bs[k].toNat : Int) := by
  rw [List.take_succ_eq_append_getElem h, wt_append]; simp [wt]

theorem tmod_bd (n : Int) : -254 ≤ n.tmod 255 ∧ n.tmod 255 ≤ 254 := by
  rcases Int.le_total 0 n with h | h
  · rw [Int.tmod_eq_emod_of_nonneg h]; omega
  · have e : n.tmod 255 = -((-n).tmod 255) := by rw [Int.neg_tmod, Int.neg_neg]
    rw [e, Int.tmod_eq_emod_of_nonneg (by omega)]; omega
theorem tmod_red (n : Int) : (n.tmod 255 + 255) % 255 = n % 255 := by
  rcases Int.le_total 0 n with h | h
  · rw [Int.tmod_eq_emod_of_nonneg h]; omega
  · have e : n.tmod 255 = -((-n).tmod 255) := by rw [Int.neg_tmod, Int.neg_neg]
    rw [e, Int.tmod_eq_emod_of_nonneg (by omega)]; omega

set_option maxHeartbeats 400000 in
theorem reduce_any (n : Int) (w : World) :
    Calls Try.prog 90 #[.int .i64 n] w fun e w' => e = .returned (.int .i64 (n % 255)) ∧ w = w' := by
  obtain ⟨h1, h2⟩ := tmod_bd n
  go_enter Try.func90, Try.ntmps90
  go_wp2
  go_ret
  exact ⟨by rw [← tmod_red n]; rfl, rfl⟩

set_option maxHeartbeats 400000 in
theorem update_any (x y : Int) (A : Option Addr) (n cap : Nat) (bs : List UInt8) (w : World) (hb : Bs w A bs) (hn : bs.length = n) (hl : n ≤ 1000000000) :
    Calls Try.prog 98 #[.int .i64 x, .int .i64 y, .slice A n cap] w fun e w' =>
      e = .returned (.tuple #[.int .i64 ((x + sm bs) % 255), .int .i64 ((y + n * x + wt bs) % 255)]) ∧ w = w' := by
  subst hn
  go_enter Try.func98, Try.ntmps98
  go_wp2_with fail
  refine (reduce_any _ _).mono ?_
  rintro e w' ⟨rfl, rfl⟩
  go_wp2_with fail
  refine (reduce_any _ _).mono ?_
  rintro e w' ⟨rfl, rfl⟩
  go_wp2_with fail
  go_loop [0, 1, 16] (fun v0 v1 v16 => ∃ (k : Nat) (f s : Int), k ≤ bs.length ∧ 0 ≤ f ∧ f < 255 ∧ 0 ≤ s ∧ s < 255 ∧ v16 = .int .i64 k ∧ v0 = .int .i64 f ∧ v1 = .int .i64 s ∧
    Hid (f = (x + sm (bs.take k)) % 255) ∧ Hid (s = (y + k * x + wt (bs.take k)) % 255)) (fun _ _ i => bs.length - (intOf i).toNat)
  case atStart => exact ⟨0, x % 255, y % 255, Nat.zero_le _, by omega, by omega, by omega, by omega, rfl, rfl, rfl, by simp [sm, Hid], by simp [wt, Hid]⟩
  case round =>
    obtain ⟨k, f, s, hk, hf0, hf1, hs0, hs1, rfl, rfl, rfl, HF, HS⟩ := hrel
    by_cases hlt : k < bs.length
    · obtain ⟨ad, rfl, hc⟩ := hb.get hlt
      have hb1 := bs[k].toNat_lt
      go_wp2_with fail
      go_round
      case rel =>
        refine ⟨k + 1, _, _, by omega, ?_, ?_, ?_, ?_, by go_num, rfl, rfl, ?_, ?_⟩
        · omega
        · omega
        · omega
        · omega
        · rw [HF.out, sm_take bs hlt]; show _ % 255 = _ % 255; omega
        · rw [HS.out, HF.out, wt_take bs hlt]; show _ % 255 = _ % 255
          have e : ((k + 1 : Nat) : Int) * x = k * x + x := by rw [Int.natCast_add, Int.add_mul]; simp
          rw [e]; omega
      case measure => simp [intOf]; omega
    · go_wp2_with fail
      go_ret2
      obtain rfl : k = bs.length := by omega
      rw [List.take_length] at HF HS
      exact ⟨by rw [← HF.out, ← HS.out]; rfl, rfl⟩
theorem ret2 {k l : IntKind} {a a' b b' : Int} (h1 : a = a') (h2 : b = b') : Ending.returned (.tuple #[.int k a, .int l b]) = Ending.returned (.tuple #[.int k a', .int l b']) := by rw [h1, h2]

/-- Sum's and Check's answers. -/
def fl1 (bs : List UInt8) : Int := sm bs % 255
def fl2 (bs : List UInt8) : Int := wt bs % 255
def chk (bs : List UInt8) : Bool := fl1 bs == 0 && fl2 bs == 0
theorem fl1_bd (bs : List UInt8) : 0 ≤ fl1 bs ∧ fl1 bs < 255 := by unfold fl1; omega
theorem fl2_bd (bs : List UInt8) : 0 ≤ fl2 bs ∧ fl2 bs < 255 := by unfold fl2; omega

set_option maxHeartbeats 400000 in
theorem sum_any (A : Option Addr) (n cap : Nat) (bs : List UInt8) (w : World) (hb : Bs w A bs) (hn : bs.length = n) (hl : n ≤ 1000000000) :
    Calls Try.prog 89 #[.slice A n cap] w fun e w' => e = .returned (.tuple #[.int .i64 (fl1 bs), .int .i64 (fl2 bs)]) ∧ w = w' := by
  subst hn
  go_enter Try.func89, Try.ntmps89
  go_wp2_with fail
  refine (update_any _ _ A _ cap bs _ hb rfl hl).mono ?_
  rintro e w' ⟨rfl, rfl⟩
  go_wp2_with fail
  go_ret2
  exact ⟨by simp [fl1, fl2], rfl⟩

/-- The sealed bytes. -/
def zeroed (bs : List UInt8) (k : Nat) : List UInt8 := (bs.set k 0).set (k + 1) 0
def sealX (bs : List UInt8) (k : Nat) : Int := (((bs.length : Int) - k - 1) % 255 * fl1 (zeroed bs k) - fl2 (zeroed bs k)) % 255
def sealY (bs : List UInt8) (k : Nat) : Int := (-fl1 (zeroed bs k) - sealX bs k) % 255
def sealed (bs : List UInt8) (k : Nat) : List UInt8 := ((zeroed bs k).set k (UInt8.ofNat (sealX bs k).toNat)).set (k + 1) (UInt8.ofNat (sealY bs k).toNat)
theorem sealX_bd (bs : List UInt8) (k : Nat) : 0 ≤ sealX bs k ∧ sealX bs k < 255 := by unfold sealX; omega
theorem sealY_bd (bs : List UInt8) (k : Nat) : 0 ≤ sealY bs k ∧ sealY bs k < 255 := by unfold sealY; omega

set_option maxHeartbeats 400000 in
theorem seal_any (A : Option Addr) (n cap k : Nat) (bs : List UInt8) (w : World) (hb : Bs w A bs) (hn : bs.length = n) (hl : n ≤ 1000000000) (hk : k + 2 ≤ n) (at_ : Int) (hat : at_ = k) :
    Calls Try.prog 70 #[.slice A n cap, .int .i64 at_] w fun e w' => ∃ v, e = .returned (.tuple #[v, .int .i64 0]) ∧
      w'.ownsRow w.heap.size 5 1 v n ((sealed bs k).map u8v) ∧ Below w.heap.size w w' := by
  subst hn
  subst hat
  have hk1 : ¬ (k : Int) < 0 := by omega
  have hk2 : ¬ ((bs.length : Int) - 2 < k) := by omega
  go_enter Try.func70, Try.ntmps70
  go_wp2_with fail
  refine (clone_any A _ cap bs _ hb rfl (by omega)).mono ?_
  rintro e w1 ⟨v, rfl, hown, hbel⟩
  obtain ⟨g, c1, rfl, hg1, hg2, hown1⟩ := own_form hown (by omega)
  have hc0 := own_u8 hown1 (k := k) (by omega)
  have hc1 := own_u8 hown1 (k := k + 1) (by omega)
  have hf0 := hown1.frozenAt k
  have hf1 := hown1.frozenAt (k + 1)
  go_wp2_with fail
  have hown3 := ((hown1.stored k (.int .u8 0)).1.stored (k + 1) (.int .u8 0)).1
  have hbel3 := (hbel.setCell (p := ⟨g, k, none⟩) hg1 (.int .u8 0)).setCell (p := ⟨g, k + 1, none⟩) hg1 (.int .u8 0)
  generalize (w1.setCell ⟨g, k, none⟩ (.int .u8 0)).setCell ⟨g, k + 1, none⟩ (.int .u8 0) = w2 at hown3 hbel3 ⊢
  rw [show ((bs.map u8v).set k (.int .u8 0)).set (k + 1) (.int .u8 0) = (zeroed bs k).map u8v from by simp [zeroed, List.map_set, u8v]] at hown3
  clear hown1 hown hbel hc0 hc1 hf0 hf1
  have hlz : (zeroed bs k).length = bs.length := by simp [zeroed]
  obtain ⟨A3, c3, he3, hrd, _, _⟩ := own_rd hown3
  simp only [Value.slice.injEq, true_and] at he3
  obtain ⟨rfl, rfl⟩ := he3
  refine (sum_any _ _ c1 (zeroed bs k) _ hrd hlz hl).mono ?_
  rintro e w' ⟨rfl, rfl⟩
  have b1 := fl1_bd (zeroed bs k)
  have b2 := fl2_bd (zeroed bs k)
  have b3 := sealX_bd bs k
  have b4 := sealY_bd bs k
  have ex : Hid ((((bs.length : Int) - k - 1) % 255 * fl1 (zeroed bs k) - fl2 (zeroed bs k)) % 255 = sealX bs k) := rfl
  have ey : Hid ((-fl1 (zeroed bs k) - sealX bs k) % 255 = sealY bs k) := rfl
  have b5 : 0 ≤ ((bs.length : Int) - k - 1) % 255 ∧ ((bs.length : Int) - k - 1) % 255 < 255 := by omega
  have b6 : 0 ≤ ((bs.length : Int) - k - 1) % 255 * fl1 (zeroed bs k) ∧ ((bs.length : Int) - k - 1) % 255 * fl1 (zeroed bs k) ≤ 254 * 254 :=
    ⟨Int.mul_nonneg b5.1 b1.1, Int.mul_le_mul (by omega) (by omega) b1.1 (by omega)⟩
  have hc0 := own_u8 hown3 (k := k) (by omega)
  have hc1 := own_u8 hown3 (k := k + 1) (by omega)
  have hf0 := hown3.frozenAt k
  have hf1 := hown3.frozenAt (k + 1)
  go_wp2_with fail
  refine (reduce_any _ _).mono ?_
  rintro e w' ⟨rfl, rfl⟩
  go_wp2_with fail
  refine (reduce_any _ _).mono ?_
  rintro e w' ⟨rfl, rfl⟩
  rw [ex.out]
  go_wp2_with fail
  refine (reduce_any _ _).mono ?_
  rintro e w' ⟨rfl, rfl⟩
  rw [ey.out]
  go_wp2_with fail
  go_ret2
  have hown4 := ((hown3.stored k (.int .u8 (sealX bs k))).1.stored (k + 1) (.int .u8 (sealY bs k))).1
  rw [show (((zeroed bs k).map u8v).set k (.int .u8 (sealX bs k))).set (k + 1) (.int .u8 (sealY bs k)) = (sealed bs k).map u8v from by
    simp [sealed, List.map_set, u8_ofInt b3.1 (by omega : sealX bs k < 256), u8_ofInt b4.1 (by omega : sealY bs k < 256)]] at hown4
  exact ⟨_, rfl, hown4, (hbel3.setCell (p := ⟨g, k, none⟩) hg1 _).setCell (p := ⟨g, k + 1, none⟩) hg1 _⟩

end Go.Proofs.Ytnfldccaeibcpaa
