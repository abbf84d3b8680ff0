/-
  Plain laws about the sums of byte strings: no program.
-/
import Derived.Test.YtnfldccaeibcpaaFle
namespace Go.Proofs.Ytnfldccaeibcpaa

theorem sm_set (l : List UInt8) (b : UInt8) : ∀ k (hk : k < l.length), sm (l.set k b) = sm l + ((b.toNat : Int) - (l[k].toNat : Int)) := by
  induction l with
  | nil => intro k hk; simp at hk
  | cons x l ih =>
    intro k hk
    cases k with
    | zero => simp only [List.set_cons_zero, sm, List.getElem_cons_zero]; omega
    | succ k =>
      have := ih k (by simpa using hk)
      simp only [List.set_cons_succ, sm, List.getElem_cons_succ]; omega
theorem wt_set (l : List UInt8) (b : UInt8) : ∀ k (hk : k < l.length), wt (l.set k b) = wt l + ((l.length : Int) - k) * ((b.toNat : Int) - (l[k].toNat : Int)) := by
  induction l with
  | nil => intro k hk; simp at hk
  | cons x l ih =>
    intro k hk
    cases k with
    | zero =>
      simp only [List.set_cons_zero, wt, List.getElem_cons_zero, List.length_cons]
      rw [show (((l.length + 1 : Nat) : Int) - ((0 : Nat) : Int)) = (l.length : Int) + 1 from by omega, Int.mul_sub]; omega
    | succ k =>
      have := ih k (by simpa using hk)
      simp only [List.set_cons_succ, wt, List.getElem_cons_succ, List.length_cons, List.length_set]
      rw [show (((l.length + 1 : Nat) : Int) - ((k + 1 : Nat) : Int)) = (l.length : Int) - k from by omega]; omega

theorem chk_iff (l : List UInt8) : chk l = true ↔ sm l % 255 = 0 ∧ wt l % 255 = 0 := by
  simp [chk, fl1, fl2]

theorem dvd_mul_of {a b : Int} (h : a % 255 = 0) : (b * a) % 255 = 0 := by rw [Int.mul_emod, h]; simp

theorem u8_toNat_ofInt {x : Int} (h0 : 0 ≤ x) (h1 : x < 256) : ((UInt8.ofNat x.toNat).toNat : Int) = x := by
  simp only [UInt8.toNat_ofNat']
  rw [show x.toNat % 2 ^ 8 = x.toNat from Nat.mod_eq_of_lt (by omega), Int.toNat_of_nonneg h0]

theorem sealed_length (bs : List UInt8) (k : Nat) : (sealed bs k).length = bs.length := by simp [sealed, zeroed]

/-- What Seal returns is sealed. -/
theorem sealed_chk (bs : List UInt8) (k : Nat) (hk : k + 2 ≤ bs.length) : chk (sealed bs k) = true := by
  rw [chk_iff]
  have lz : (zeroed bs k).length = bs.length := by simp [zeroed]
  have z0 : (zeroed bs k)[k]'(by omega) = 0 := by simp [zeroed]
  have z1 : (zeroed bs k)[k + 1]'(by omega) = 0 := by simp [zeroed]
  have bx := sealX_bd bs k
  have by_ := sealY_bd bs k
  have e1 : sm (sealed bs k) = sm (zeroed bs k) + sealX bs k + sealY bs k := by
    unfold sealed
    rw [sm_set _ _ _ (by simp; omega), sm_set _ _ _ (by omega)]
    rw [u8_toNat_ofInt bx.1 (by omega), u8_toNat_ofInt by_.1 (by omega), z0]
    simp [z1]
  have e2 : wt (sealed bs k) = wt (zeroed bs k) + ((bs.length : Int) - k) * sealX bs k + ((bs.length : Int) - (k + 1 : Nat)) * sealY bs k := by
    unfold sealed
    rw [wt_set _ _ _ (by simp; omega), wt_set _ _ _ (by omega)]
    rw [u8_toNat_ofInt bx.1 (by omega), u8_toNat_ofInt by_.1 (by omega), z0]
    simp [z1, lz]
  rw [e1, e2]
  generalize hm : (bs.length : Int) - k - 1 = m
  have hX : (sealX bs k - (m * sm (zeroed bs k) - wt (zeroed bs k))) % 255 = 0 := by
    unfold sealX fl1 fl2
    rw [hm]
    generalize sm (zeroed bs k) = S
    generalize wt (zeroed bs k) = T
    have h1 : (m % 255 * (S % 255) - T % 255) % 255 = (m * S - T) % 255 := by
      rw [Int.sub_emod, ← Int.mul_emod, Int.emod_emod, ← Int.sub_emod]
    rw [h1]; omega
  have hY : (sealY bs k + (sm (zeroed bs k) + sealX bs k)) % 255 = 0 := by
    unfold sealY fl1; omega
  have e3 : ((bs.length : Int) - k) = m + 1 := by omega
  have e4 : ((bs.length : Int) - (k + 1 : Nat)) = m := by omega
  rw [e3, e4]
  generalize sealX bs k = X at *
  generalize sealY bs k = Y at *
  generalize sm (zeroed bs k) = S at *
  generalize wt (zeroed bs k) = T at *
  refine ⟨by omega, ?_⟩
  have h := dvd_mul_of (b := m) hY
  have e5 : m * (Y + (S + X)) = m * Y + (m * S + m * X) := by rw [Int.mul_add, Int.mul_add]
  rw [e5] at h
  have e6 : (m + 1) * X = m * X + X := by rw [Int.add_mul]; omega
  rw [e6]; omega

/-- A byte of a sealed byte string is changed. -/
theorem chk_changed (l : List UInt8) (hc : chk l = true) (k : Nat) (hk : k < l.length) (b : UInt8) :
    chk (l.set k b) = ((l[k].toNat : Int) == b.toNat || ((l[k].toNat : Int) == 0 && (b.toNat : Int) == 255) || ((l[k].toNat : Int) == 255 && (b.toNat : Int) == 0)) := by
  rw [chk_iff] at hc
  rw [Bool.eq_iff_iff, chk_iff, sm_set _ _ _ hk, wt_set _ _ _ hk]
  simp only [Bool.or_eq_true, Bool.and_eq_true, beq_iff_eq]
  have hx : 0 ≤ (l[k].toNat : Int) ∧ (l[k].toNat : Int) < 256 := by have := l[k].toNat_lt; omega
  have hy : 0 ≤ (b.toNat : Int) ∧ (b.toNat : Int) < 256 := by have := b.toNat_lt; omega
  generalize (l[k].toNat : Int) = x at *
  generalize (b.toNat : Int) = y at *
  constructor
  · rintro ⟨h, _⟩; omega
  · intro h
    have hd : (y - x) % 255 = 0 := by omega
    refine ⟨by omega, ?_⟩
    have := dvd_mul_of (b := (l.length : Int) - k) hd
    omega

theorem chg_tail {x y : Int} (h0 : ¬ x = 0) (h1 : ¬ x = 255) : ((x == y || x == 0 && y == 255 || x == 255 && y == 0) == (x == y)) = true := by
  rw [beq_eq_false_iff_ne.2 h0, beq_eq_false_iff_ne.2 h1]; simp

/-- Two neighbouring bytes of a sealed byte string are exchanged. -/
theorem chk_exchanged (l : List UInt8) (hc : chk l = true) (k : Nat) (hk : k + 1 < l.length) :
    chk ((l.set k l[k+1]).set (k + 1) l[k]) = ((l[k].toNat : Int) % 255 == (l[k+1].toNat : Int) % 255) := by
  rw [chk_iff] at hc
  have hg : (l.set k l[k+1])[k+1]'(by simpa using hk) = l[k+1] := by simp
  rw [Bool.eq_iff_iff, chk_iff, sm_set _ _ _ (by simpa using hk), wt_set _ _ _ (by simpa using hk), hg, sm_set _ _ _ (by omega), wt_set _ _ _ (by omega), beq_iff_eq, List.length_set]
  generalize (l[k].toNat : Int) = x at *
  generalize (l[k+1].toNat : Int) = y at *
  generalize hm : (l.length : Int) - k = m
  rw [show (l.length : Int) - ((k + 1 : Nat) : Int) = m - 1 from by omega]
  have e : m * (y - x) + (m - 1) * (x - y) = y - x := by
    rw [Int.sub_mul, Int.mul_sub, Int.mul_sub]; omega
  rw [Int.add_assoc (wt l), e]
  omega

theorem fl_parts (x b : List UInt8) (hc : chk x = true) : fl1 (x ++ b) = fl1 b ∧ fl2 (x ++ b) = fl2 b := by
  rw [chk_iff] at hc
  unfold fl1 fl2
  rw [sm_append, wt_append]
  have := dvd_mul_of (b := (b.length : Int)) hc.1
  omega

theorem sm_zeros (n : Nat) : sm (List.replicate n 0) = 0 := by
  induction n with
  | zero => rfl
  | succ n ih => simp [List.replicate_succ, sm, ih]
theorem wt_zeros (n : Nat) : wt (List.replicate n 0) = 0 := by
  induction n with
  | zero => rfl
  | succ n ih => simp [List.replicate_succ, wt, ih]

theorem chk_zeros (n : Nat) (x : List UInt8) : chk (List.replicate n 0 ++ x) = chk x := by
  unfold chk fl1 fl2
  rw [sm_append, wt_append, sm_zeros, wt_zeros]; simp

/-- Update continues, whatever multiples of 255 are added. -/
theorem upd1 (a b : List UInt8) (s : Int) : (fl1 a + 255 * s + sm b) % 255 = fl1 (a ++ b) := by
  unfold fl1; rw [sm_append]; omega
theorem upd2 (a b : List UInt8) (s t : Int) (m : Nat) (h : b.length = m) : (fl2 a + 255 * t + m * (fl1 a + 255 * s) + wt b) % 255 = fl2 (a ++ b) := by
  subst h
  unfold fl2 fl1; rw [wt_append]
  have e : (b.length : Int) * (sm a % 255 + 255 * s) = b.length * sm a + 255 * (b.length * s - b.length * (sm a / 255)) := by
    have h : sm a % 255 = sm a - 255 * (sm a / 255) := by omega
    rw [h, Int.mul_add, Int.mul_sub, Int.mul_sub, Int.mul_left_comm _ 255, Int.mul_left_comm _ 255]; omega
  rw [e]; omega
theorem join3 (x y f z : Int) : (x + z * f + y) % 255 = (x + z % 255 * f + y) % 255 := by
  have e : z * f = z % 255 * f + 255 * (z / 255 * f) := by
    have h : z = z % 255 + 255 * (z / 255) := by omega
    rw [← Int.mul_assoc, ← Int.add_mul, ← h]
  omega
theorem join1 (a b : List UInt8) : (fl1 a + fl1 b) % 255 = fl1 (a ++ b) := by
  unfold fl1; rw [sm_append]; omega
theorem join2 (a b : List UInt8) (n : Int) (h : (n - b.length) % 255 = 0) : (fl2 a + n * fl1 a + fl2 b) % 255 = fl2 (a ++ b) := by
  unfold fl2 fl1; rw [wt_append]
  have h1 := dvd_mul_of (b := sm a % 255) h
  have e : sm a % 255 * (n - b.length) = n * (sm a % 255) - b.length * (sm a % 255) := by rw [Int.mul_comm, Int.sub_mul]
  rw [e] at h1
  have e2 : (b.length : Int) * (sm a % 255) = b.length * sm a - 255 * (b.length * (sm a / 255)) := by
    have h : sm a % 255 = sm a - 255 * (sm a / 255) := by omega
    rw [h, Int.mul_sub, Int.mul_left_comm _ 255]
  omega

end Go.Proofs.Ytnfldccaeibcpaa
