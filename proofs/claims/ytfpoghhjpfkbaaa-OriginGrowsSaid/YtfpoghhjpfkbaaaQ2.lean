/-
  The texts FlePlain, LaD, ValW, Take, EqS, SlEq, one after the other.
-/
import Derived.Test.YtfpoghhjpfkbaaaQ1
import Derived.OpenShut
import Derived.Lib.QuietBelow
import Derived.Laws.StructEq
namespace Go.Proofs.Ytfpoghhjpfkbaaa

theorem sm_set (l : List UInt8) (b : UInt8) : ∀ k (hk : k < l.length), sm (l.set k b) = sm l + ((b.toNat : Int) - (l[k].toNat : Int)) := by
  induction l with
  | nil => intro k hk; simp at hk
  | cons x l ih =>
    intro k hk
    cases k with
    | zero => simp only [List.set_cons_zero, sm, List.getElem_cons_zero]; omega
    | succ k =>
      have := ih k (by simpa using hk)
      simp only [List.set_cons_succ, sm, List.getElem_cons_succ]; omega
theorem wt_set (l : List UInt8) (b : UInt8) : ∀ k (hk : k < l.length), wt (l.set k b) = wt l + ((l.length : Int) - k) * ((b.toNat : Int) - (l[k].toNat : Int)) := by
  induction l with
  | nil => intro k hk; simp at hk
  | cons x l ih =>
    intro k hk
    cases k with
    | zero =>
      simp only [List.set_cons_zero, wt, List.getElem_cons_zero, List.length_cons]
      rw [show (((l.length + 1 : Nat) : Int) - ((0 : Nat) : Int)) = (l.length : Int) + 1 from by omega, Int.mul_sub]; omega
    | succ k =>
      have := ih k (by simpa using hk)
      simp only [List.set_cons_succ, wt, List.getElem_cons_succ, List.length_cons, List.length_set]
      rw [show (((l.length + 1 : Nat) : Int) - ((k + 1 : Nat) : Int)) = (l.length : Int) - k from by omega]; omega

theorem chk_iff (l : List UInt8) : chk l = true ↔ sm l % 255 = 0 ∧ wt l % 255 = 0 := by
  simp [chk, fl1, fl2]

theorem dvd_mul_of {a b : Int} (h : a % 255 = 0) : (b * a) % 255 = 0 := by rw [Int.mul_emod, h]; simp

theorem u8_toNat_ofInt {x : Int} (h0 : 0 ≤ x) (h1 : x < 256) : ((UInt8.ofNat x.toNat).toNat : Int) = x := by
  simp only [UInt8.toNat_ofNat']
  rw [show x.toNat % 2 ^ 8 = x.toNat from Nat.mod_eq_of_lt (by omega), Int.toNat_of_nonneg h0]

theorem sealed_length (bs : List UInt8) (k : Nat) : (sealed bs k).length = bs.length := by simp [sealed, zeroed]

/-- What Seal returns is sealed. -/
theorem sealed_chk (bs : List UInt8) (k : Nat) (hk : k + 2 ≤ bs.length) : chk (sealed bs k) = true := by
  rw [chk_iff]
  have lz : (zeroed bs k).length = bs.length := by simp [zeroed]
  have z0 : (zeroed bs k)[k]'(by omega) = 0 := by simp [zeroed]
  have z1 : (zeroed bs k)[k + 1]'(by omega) = 0 := by simp [zeroed]
  have bx := sealX_bd bs k
  have by_ := sealY_bd bs k
  have e1 : sm (sealed bs k) = sm (zeroed bs k) + sealX bs k + sealY bs k := by
    unfold sealed
    rw [sm_set _ _ _ (by simp; omega), sm_set _ _ _ (by omega)]
    rw [u8_toNat_ofInt bx.1 (by omega), u8_toNat_ofInt by_.1 (by omega), z0]
    simp [z1]
  have e2 : wt (sealed bs k) = wt (zeroed bs k) + ((bs.length : Int) - k) * sealX bs k + ((bs.length : Int) - (k + 1 : Nat)) * sealY bs k := by
    unfold sealed
    rw [wt_set _ _ _ (by simp; omega), wt_set _ _ _ (by omega)]
    rw [u8_toNat_ofInt bx.1 (by omega), u8_toNat_ofInt by_.1 (by omega), z0]
    simp [z1, lz]
  rw [e1, e2]
  generalize hm : (bs.length : Int) - k - 1 = m
  have hX : (sealX bs k - (m * sm (zeroed bs k) - wt (zeroed bs k))) % 255 = 0 := by
    unfold sealX fl1 fl2
    rw [hm]
    generalize sm (zeroed bs k) = S
    generalize wt (zeroed bs k) = T
    have h1 : (m % 255 * (S % 255) - T % 255) % 255 = (m * S - T) % 255 := by
      rw [Int.sub_emod, ← Int.mul_emod, Int.emod_emod, ← Int.sub_emod]
    rw [h1]; omega
  have hY : (sealY bs k + (sm (zeroed bs k) + sealX bs k)) % 255 = 0 := by
    unfold sealY fl1; omega
  have e3 : ((bs.length : Int) - k) = m + 1 := by omega
  have e4 : ((bs.length : Int) - (k + 1 : Nat)) = m := by omega
  rw [e3, e4]
  generalize sealX bs k = X at *
  generalize sealY bs k = Y at *
  generalize sm (zeroed bs k) = S at *
  generalize wt (zeroed bs k) = T at *
  refine ⟨by omega, ?_⟩
  have h := dvd_mul_of (b := m) hY
  have e5 : m * (Y + (S + X)) = m * Y + (m * S + m * X) := by rw [Int.mul_add, Int.mul_add]
  rw [e5] at h
  have e6 : (m + 1) * X = m * X + X := by rw [Int.add_mul]; omega
  rw [e6]; omega

/-- A byte of a sealed byte string is changed. -/
theorem chk_changed (l : List UInt8) (hc : chk l = true) (k : Nat) (hk : k < l.length) (b : UInt8) :
    chk (l.set k b) = ((l[k].toNat : Int) == b.toNat || ((l[k].toNat : Int) == 0 && (b.toNat : Int) == 255) || ((l[k].toNat : Int) == 255 && (b.toNat : Int) == 0)) := by
  rw [chk_iff] at hc
  rw [Bool.eq_iff_iff, chk_iff, sm_set _ _ _ hk, wt_set _ _ _ hk]
  simp only [Bool.or_eq_true, Bool.and_eq_true, beq_iff_eq]
  have hx : 0 ≤ (l[k].toNat : Int) ∧ (l[k].toNat : Int) < 256 := by have := l[k].toNat_lt; omega
  have hy : 0 ≤ (b.toNat : Int) ∧ (b.toNat : Int) < 256 := by have := b.toNat_lt; omega
  generalize (l[k].toNat : Int) = x at *
  generalize (b.toNat : Int) = y at *
  constructor
  · rintro ⟨h, _⟩; omega
  · intro h
    have hd : (y - x) % 255 = 0 := by omega
    refine ⟨by omega, ?_⟩
    have := dvd_mul_of (b := (l.length : Int) - k) hd
    omega

theorem chg_tail {x y : Int} (h0 : ¬ x = 0) (h1 : ¬ x = 255) : ((x == y || x == 0 && y == 255 || x == 255 && y == 0) == (x == y)) = true := by
  rw [beq_eq_false_iff_ne.2 h0, beq_eq_false_iff_ne.2 h1]; simp

/-- Two neighbouring bytes of a sealed byte string are exchanged. -/
theorem chk_exchanged (l : List UInt8) (hc : chk l = true) (k : Nat) (hk : k + 1 < l.length) :
    chk ((l.set k l[k+1]).set (k + 1) l[k]) = ((l[k].toNat : Int) % 255 == (l[k+1].toNat : Int) % 255) := by
  rw [chk_iff] at hc
  have hg : (l.set k l[k+1])[k+1]'(by simpa using hk) = l[k+1] := by simp
  rw [Bool.eq_iff_iff, chk_iff, sm_set _ _ _ (by simpa using hk), wt_set _ _ _ (by simpa using hk), hg, sm_set _ _ _ (by omega), wt_set _ _ _ (by omega), beq_iff_eq, List.length_set]
  generalize (l[k].toNat : Int) = x at *
  generalize (l[k+1].toNat : Int) = y at *
  generalize hm : (l.length : Int) - k = m
  rw [show (l.length : Int) - ((k + 1 : Nat) : Int) = m - 1 from by omega]
  have e : m * (y - x) + (m - 1) * (x - y) = y - x := by
    rw [Int.sub_mul, Int.mul_sub, Int.mul_sub]; omega
  rw [Int.add_assoc (wt l), e]
  omega

theorem fl_parts (x b : List UInt8) (hc : chk x = true) : fl1 (x ++ b) = fl1 b ∧ fl2 (x ++ b) = fl2 b := by
  rw [chk_iff] at hc
  unfold fl1 fl2
  rw [sm_append, wt_append]
  have := dvd_mul_of (b := (b.length : Int)) hc.1
  omega

theorem sm_zeros (n : Nat) : sm (List.replicate n 0) = 0 := by
  induction n with
  | zero => rfl
  | succ n ih => simp [List.replicate_succ, sm, ih]
theorem wt_zeros (n : Nat) : wt (List.replicate n 0) = 0 := by
  induction n with
  | zero => rfl
  | succ n ih => simp [List.replicate_succ, wt, ih]

theorem chk_zeros (n : Nat) (x : List UInt8) : chk (List.replicate n 0 ++ x) = chk x := by
  unfold chk fl1 fl2
  rw [sm_append, wt_append, sm_zeros, wt_zeros]; simp

/-- Update continues, whatever multiples of 255 are added. -/
theorem upd1 (a b : List UInt8) (s : Int) : (fl1 a + 255 * s + sm b) % 255 = fl1 (a ++ b) := by
  unfold fl1; rw [sm_append]; omega
theorem upd2 (a b : List UInt8) (s t : Int) (m : Nat) (h : b.length = m) : (fl2 a + 255 * t + m * (fl1 a + 255 * s) + wt b) % 255 = fl2 (a ++ b) := by
  subst h
  unfold fl2 fl1; rw [wt_append]
  have e : (b.length : Int) * (sm a % 255 + 255 * s) = b.length * sm a + 255 * (b.length * s - b.length * (sm a / 255)) := by
    have h : sm a % 255 = sm a - 255 * (sm a / 255) := by omega
    rw [h, Int.mul_add, Int.mul_sub, Int.mul_sub, Int.mul_left_comm _ 255, Int.mul_left_comm _ 255]; omega
  rw [e]; omega
theorem join3 (x y f z : Int) : (x + z * f + y) % 255 = (x + z % 255 * f + y) % 255 := by
  have e : z * f = z % 255 * f + 255 * (z / 255 * f) := by
    have h : z = z % 255 + 255 * (z / 255) := by omega
    rw [← Int.mul_assoc, ← Int.add_mul, ← h]
  omega
theorem join1 (a b : List UInt8) : (fl1 a + fl1 b) % 255 = fl1 (a ++ b) := by
  unfold fl1; rw [sm_append]; omega
theorem join2 (a b : List UInt8) (n : Int) (h : (n - b.length) % 255 = 0) : (fl2 a + n * fl1 a + fl2 b) % 255 = fl2 (a ++ b) := by
  unfold fl2 fl1; rw [wt_append]
  have h1 := dvd_mul_of (b := sm a % 255) h
  have e : sm a % 255 * (n - b.length) = n * (sm a % 255) - b.length * (sm a % 255) := by rw [Int.mul_comm, Int.sub_mul]
  rw [e] at h1
  have e2 : (b.length : Int) * (sm a % 255) = b.length * sm a - 255 * (b.length * (sm a / 255)) := by
    have h : sm a % 255 = sm a - 255 * (sm a / 255) := by omega
    rw [h, Int.mul_sub, Int.mul_left_comm _ 255]
  omega

end Go.Proofs.Ytfpoghhjpfkbaaa

namespace Go.Proofs.Ytfpoghhjpfkbaaa
set_option linter.unusedVariables false
open Go.RowKit

def laZero : La := ⟨0, 0, 0, false, [], []⟩
/-- A valid advertisement whose addresses are those of a uint32. -/
def LaOk (x : La) : Prop := LaValid x ∧ ∀ p ∈ x.pre, p.1 < 4294967296
/-- What the program makes of a record. -/
def stepP (x : La) (r : Rec) : La :=
  if r.1 = 1 then { x with o := uiN (r.2.take 2), s := uiN ((r.2.drop 2).take 4), a := uiN (((r.2.drop 2).drop 4).take 2), ov := decide (uiN ((((r.2.drop 2).drop 4).drop 2).take 1) = 1) }
  else if r.1 = 2 then { x with adj := x.adj ++ [((uiN (r.2.take 2) : Int), (uiN ((r.2.drop 2).take 2) : Int), (uiN (((r.2.drop 2).drop 2).take 2) : Int))] }
  else if r.1 = 3 then { x with pre := x.pre ++ [(uiN (r.2.take 4), (uiN ((r.2.drop 4).take 1) : Int))] }
  else x
/-- What the reference makes of record number i. -/
def stepR (i : Nat) (x : La) (r : Rec) : La :=
  if i = 0 ∧ r.1 = 1 ∧ r.2.length = 9 then { x with o := uintB (r.2.take 2), s := uintB ((r.2.drop 2).take 4), a := uintB ((r.2.drop 6).take 2), ov := decide ((r.2.getD 8 0).toNat = 1) }
  else if r.1 = 2 ∧ r.2.length = 6 then { x with adj := x.adj ++ [((uintB (r.2.take 2) : Int), (uintB ((r.2.drop 2).take 2) : Int), (uintB ((r.2.drop 4).take 2) : Int))] }
  else if r.1 = 3 ∧ r.2.length = 5 then { x with pre := x.pre ++ [(uintB (r.2.take 4), ((r.2.getD 4 0).toNat : Int))] }
  else x
def foldP (x : La) : List Rec → La
  | [] => x
  | r :: l => foldP (stepP x r) l
def foldR (i : Nat) (x : La) : List Rec → La
  | [] => x
  | r :: l => foldR (i + 1) (stepR i x r) l
theorem foldP_snoc (l : List Rec) : ∀ (x : La) (r : Rec), foldP x (l ++ [r]) = stepP (foldP x l) r := by
  induction l with
  | nil => intro x r; rfl
  | cons a l ih => intro x r; simp only [List.cons_append, foldP, ih]
theorem foldR_snoc (l : List Rec) : ∀ (i : Nat) (x : La) (r : Rec), foldR i x (l ++ [r]) = stepR (i + l.length) (foldR i x l) r := by
  induction l with
  | nil => intro i x r; rfl
  | cons a l ih => intro i x r; simp only [List.cons_append, foldR, ih, List.length_cons]; congr 1; omega
theorem foldP_app (l m : List Rec) : ∀ (x : La), foldP x (l ++ m) = foldP (foldP x l) m := by
  induction l with
  | nil => intro x; rfl
  | cons a l ih => intro x; simp only [List.cons_append, foldP, ih]
theorem foldR_app (l m : List Rec) : ∀ (i : Nat) (x : La), foldR i x (l ++ m) = foldR (i + l.length) (foldR i x l) m := by
  induction l with
  | nil => intro i x; rfl
  | cons a l ih => intro i x; simp only [List.cons_append, foldR, ih, List.length_cons]; congr 1; omega

theorem uiN_num (n k : Nat) (h1 : 1 ≤ k) (h8 : k ≤ 8) (h : n < 256 ^ k) : uiN (numB n k) = n := by
  unfold uiN; rw [numB_len, if_pos ⟨h1, h8⟩, uint_num n k h]
theorem take_num (n k : Nat) (l : List UInt8) : (numB n k ++ l).take k = numB n k := by
  rw [List.take_append_of_le_length (by rw [numB_len]; exact Nat.le_refl _), List.take_of_length_le (by rw [numB_len]; exact Nat.le_refl _)]
theorem drop_num (n k : Nat) (l : List UInt8) : (numB n k ++ l).drop k = l := by
  rw [List.drop_append_of_le_length (by rw [numB_len]; exact Nat.le_refl _), List.drop_of_length_le (by rw [numB_len]; exact Nat.le_refl _)]; rfl

theorem numB1 (n : Nat) : numB n 1 = [UInt8.ofNat n] := by simp [numB]
section
variable {x : La}
theorem head_P (h : LaValid x) (y : La) : stepP y (headR x) = { y with o := x.o, s := x.s, a := x.a, ov := x.ov } := by
  obtain ⟨⟨h1, h2⟩, ⟨h3, h4⟩, ⟨h5, h6⟩, _⟩ := h
  unfold stepP
  rw [if_pos (show (headR x).1 = 1 from rfl)]
  simp only [headR, List.append_assoc, take_num, drop_num, uiN_num _ 2 (by omega) (by omega) (show x.o.toNat < 256 ^ 2 by omega), uiN_num _ 4 (by omega) (by omega) (show x.s.toNat < 256 ^ 4 by omega), uiN_num _ 2 (by omega) (by omega) (show x.a.toNat < 256 ^ 2 by omega)]
  have hb : bit x.ov < 256 ^ 1 := by unfold bit; split <;> omega
  rw [List.take_of_length_le (by rw [numB_len]; exact Nat.le_refl _), uiN_num _ 1 (by omega) (by omega) hb, Int.toNat_of_nonneg h1, Int.toNat_of_nonneg (by omega), Int.toNat_of_nonneg h5]
  cases x.ov <;> simp [bit]
theorem ad_P (y : La) (z : Ad) (h0 : 0 ≤ z.1 ∧ z.1 ≤ 63) (h1 : 0 ≤ z.2.1 ∧ z.2.1 ≤ 255) (h2 : 1 ≤ z.2.2 ∧ z.2.2 ≤ 65535) : stepP y (adR z) = { y with adj := y.adj ++ [z] } := by
  obtain ⟨a, b, c⟩ := z
  simp only at h0 h1 h2
  unfold stepP
  rw [if_neg (by simp [adR]), if_pos (show (adR (a, b, c)).1 = 2 from rfl)]
  simp only [adR, List.append_assoc, take_num, drop_num, uiN_num _ 2 (by omega) (by omega) (show a.toNat < 256 ^ 2 by omega), uiN_num _ 2 (by omega) (by omega) (show b.toNat < 256 ^ 2 by omega)]
  rw [List.take_of_length_le (by rw [numB_len]; exact Nat.le_refl _), uiN_num _ 2 (by omega) (by omega) (show c.toNat < 256 ^ 2 by omega), Int.toNat_of_nonneg h0.1, Int.toNat_of_nonneg h1.1, Int.toNat_of_nonneg (by omega)]
theorem pf_P (y : La) (z : Pf) (h0 : z.1 < 4294967296) (h1 : 0 ≤ z.2 ∧ z.2 ≤ 32) : stepP y (pfR z) = { y with pre := y.pre ++ [z] } := by
  obtain ⟨a, b⟩ := z
  simp only at h0 h1
  unfold stepP
  rw [if_neg (by simp [pfR]), if_neg (by simp [pfR]), if_pos (show (pfR (a, b)).1 = 3 from rfl)]
  simp only [pfR, take_num, drop_num, uiN_num _ 4 (by omega) (by omega) (show a < 256 ^ 4 by omega)]
  rw [List.take_of_length_le (by rw [numB_len]; exact Nat.le_refl _), uiN_num _ 1 (by omega) (by omega) (show b.toNat < 256 ^ 1 by omega), Int.toNat_of_nonneg h1.1]
theorem last_P (y : La) (v : List UInt8) : stepP y (4, v) = y := by simp [stepP]
theorem head_R (h : LaValid x) (y : La) : stepR 0 y (headR x) = { y with o := x.o, s := x.s, a := x.a, ov := x.ov } := by
  have hl := headR_len x
  obtain ⟨⟨h1, h2⟩, ⟨h3, h4⟩, ⟨h5, h6⟩, _⟩ := h
  unfold stepR
  rw [if_pos ⟨rfl, rfl, hl⟩]
  have e6 : ∀ l : List UInt8, l.drop 6 = (l.drop 2).drop 4 := fun l => by rw [List.drop_drop]
  have e8 : ∀ l : List UInt8, l.getD 8 0 = (((l.drop 2).drop 4).drop 2).getD 0 0 := fun l => by rw [List.drop_drop, List.drop_drop, List.getD_eq_getElem?_getD, List.getD_eq_getElem?_getD, List.getElem?_drop]
  rw [e6, e8]
  simp only [headR, List.append_assoc, take_num, drop_num, uint_num _ 2 (show x.o.toNat < 256 ^ 2 by omega), uint_num _ 4 (show x.s.toNat < 256 ^ 4 by omega), uint_num _ 2 (show x.a.toNat < 256 ^ 2 by omega), numB1]
  rw [Int.toNat_of_nonneg h1, Int.toNat_of_nonneg (by omega), Int.toNat_of_nonneg h5]
  cases x.ov <;> simp [bit]
theorem ad_R (i : Nat) (y : La) (z : Ad) (h0 : 0 ≤ z.1 ∧ z.1 ≤ 63) (h1 : 0 ≤ z.2.1 ∧ z.2.1 ≤ 255) (h2 : 1 ≤ z.2.2 ∧ z.2.2 ≤ 65535) : stepR i y (adR z) = { y with adj := y.adj ++ [z] } := by
  have hl := adR_len z
  obtain ⟨a, b, c⟩ := z
  simp only at h0 h1 h2
  unfold stepR
  rw [if_neg (by simp [adR]), if_pos ⟨rfl, hl⟩]
  have e4 : ∀ l : List UInt8, l.drop 4 = (l.drop 2).drop 2 := fun l => by rw [List.drop_drop]
  rw [e4]
  simp only [adR, List.append_assoc, take_num, drop_num, uint_num _ 2 (show a.toNat < 256 ^ 2 by omega), uint_num _ 2 (show b.toNat < 256 ^ 2 by omega)]
  rw [List.take_of_length_le (by rw [numB_len]; exact Nat.le_refl _), uint_num _ 2 (show c.toNat < 256 ^ 2 by omega), Int.toNat_of_nonneg h0.1, Int.toNat_of_nonneg h1.1, Int.toNat_of_nonneg (by omega)]
theorem pf_R (i : Nat) (y : La) (z : Pf) (h0 : z.1 < 4294967296) (h1 : 0 ≤ z.2 ∧ z.2 ≤ 32) : stepR i y (pfR z) = { y with pre := y.pre ++ [z] } := by
  have hl := pfR_len z
  obtain ⟨a, b⟩ := z
  simp only at h0 h1
  unfold stepR
  rw [if_neg (by simp [pfR]), if_neg (by simp [pfR]), if_pos ⟨rfl, hl⟩]
  have e4 : ∀ l : List UInt8, l.getD 4 0 = (l.drop 4).getD 0 0 := fun l => by rw [List.getD_eq_getElem?_getD, List.getD_eq_getElem?_getD, List.getElem?_drop]
  rw [e4]
  simp only [pfR, take_num, drop_num, uint_num _ 4 (show a < 256 ^ 4 by omega), numB1]
  simp
  omega
theorem last_R (i : Nat) (y : La) (v : List UInt8) : stepR i y (4, v) = y := by simp [stepR]

theorem good_ad (h : LaValid x) : ∀ z ∈ x.adj, (0 ≤ z.1 ∧ z.1 ≤ 63) ∧ (0 ≤ z.2.1 ∧ z.2.1 ≤ 255) ∧ (1 ≤ z.2.2 ∧ z.2.2 ≤ 65535) := by
  intro z hz
  obtain ⟨i, hi, he⟩ := List.getElem_of_mem hz
  obtain ⟨_, _, _, _, _, _, h7, _⟩ := h
  obtain ⟨a, _, b, c, _⟩ := h7 i z hi (by rw [List.getElem?_eq_getElem hi, he])
  exact ⟨b, a, c⟩
theorem good_pf (h : LaValid x) : ∀ z ∈ x.pre, 0 ≤ z.2 ∧ z.2 ≤ 32 := by
  intro z hz
  obtain ⟨i, hi, he⟩ := List.getElem_of_mem hz
  obtain ⟨_, _, _, _, _, _, _, h8⟩ := h
  have := (h8 i z hi (by rw [List.getElem?_eq_getElem hi, he])).1
  unfold pfxB at this
  rw [decide_eq_true_iff] at this
  exact ⟨this.1, this.2.1⟩
theorem adj_P (l : List Ad) (h : ∀ z ∈ l, (0 ≤ z.1 ∧ z.1 ≤ 63) ∧ (0 ≤ z.2.1 ∧ z.2.1 ≤ 255) ∧ (1 ≤ z.2.2 ∧ z.2.2 ≤ 65535)) : ∀ y : La, foldP y (l.map adR) = { y with adj := y.adj ++ l } := by
  induction l with
  | nil => intro y; simp [foldP]
  | cons z l ih =>
    intro y
    obtain ⟨a, b, c⟩ := h z (by simp)
    rw [List.map_cons, foldP, ad_P y z a b c, ih fun q hq => h q (by simp [hq])]
    simp
theorem pre_P (l : List Pf) (h : ∀ z ∈ l, z.1 < 4294967296 ∧ 0 ≤ z.2 ∧ z.2 ≤ 32) : ∀ y : La, foldP y (l.map pfR) = { y with pre := y.pre ++ l } := by
  induction l with
  | nil => intro y; simp [foldP]
  | cons z l ih =>
    intro y
    obtain ⟨a, b⟩ := h z (by simp)
    rw [List.map_cons, foldP, pf_P y z a b, ih fun q hq => h q (by simp [hq])]
    simp
theorem adj_R (l : List Ad) (h : ∀ z ∈ l, (0 ≤ z.1 ∧ z.1 ≤ 63) ∧ (0 ≤ z.2.1 ∧ z.2.1 ≤ 255) ∧ (1 ≤ z.2.2 ∧ z.2.2 ≤ 65535)) : ∀ (i : Nat) (y : La), foldR i y (l.map adR) = { y with adj := y.adj ++ l } := by
  induction l with
  | nil => intro i y; simp [foldR]
  | cons z l ih =>
    intro i y
    obtain ⟨a, b, c⟩ := h z (by simp)
    rw [List.map_cons, foldR, ad_R i y z a b c, ih fun q hq => h q (by simp [hq])]
    simp
theorem pre_R (l : List Pf) (h : ∀ z ∈ l, z.1 < 4294967296 ∧ 0 ≤ z.2 ∧ z.2 ≤ 32) : ∀ (i : Nat) (y : La), foldR i y (l.map pfR) = { y with pre := y.pre ++ l } := by
  induction l with
  | nil => intro i y; simp [foldR]
  | cons z l ih =>
    intro i y
    obtain ⟨a, b⟩ := h z (by simp)
    rw [List.map_cons, foldR, pf_R i y z a b, ih fun q hq => h q (by simp [hq])]
    simp
def laFront (x : La) : List Rec := headR x :: (x.adj.map adR ++ x.pre.map pfR)
theorem fold_P (h : LaOk x) (v : List UInt8) : foldP laZero (laFront x ++ [(4, v)]) = x := by
  have h1 := good_ad h.1
  have h2 : ∀ z ∈ x.pre, z.1 < 4294967296 ∧ 0 ≤ z.2 ∧ z.2 ≤ 32 := fun z hz => ⟨h.2 z hz, good_pf h.1 z hz⟩
  rw [foldP_snoc, last_P, laFront, foldP, head_P h.1, foldP_app, adj_P _ h1, pre_P _ h2]
  simp [laZero]
theorem fold_R (h : LaOk x) (v : List UInt8) : foldR 0 laZero (laFront x ++ [(4, v)]) = x := by
  have h1 := good_ad h.1
  have h2 : ∀ z ∈ x.pre, z.1 < 4294967296 ∧ 0 ≤ z.2 ∧ z.2 ≤ 32 := fun z hz => ⟨h.2 z hz, good_pf h.1 z hz⟩
  rw [foldR_snoc, last_R, laFront, foldR, head_R h.1, foldR_app, adj_R _ h1, pre_R _ h2]
  simp [laZero]

theorem laEnc_form (x : La) : ∃ b1 b2, laEnc x = encAll (laFront x ++ [(4, [b1, b2])]) := by
  have hp : laPlain x = (encAll (laFront x) ++ [4, 0, 2]) ++ [0, 0] := by
    unfold laPlain
    rw [show laRecs x = laFront x ++ [(4, [0, 0])] from rfl, encAll_append, List.append_assoc]
    rfl
  have hl : (laPlain x).length - 2 = (encAll (laFront x) ++ [4, 0, 2]).length := by rw [hp, List.length_append]; simp
  unfold laEnc sealed zeroed
  rw [hl]
  generalize UInt8.ofNat (sealX _ _).toNat = b1
  generalize UInt8.ofNat (sealY _ _).toNat = b2
  refine ⟨b1, b2, ?_⟩
  rw [hp, encAll_append]
  generalize encAll (laFront x) = F
  have e1 : ∀ (P : List UInt8) (u v w : UInt8), (P ++ [u, v]).set P.length w = P ++ [w, v] := fun P u v w => by rw [List.set_append_right _ _ (Nat.le_refl _)]; simp
  have e2 : ∀ (P : List UInt8) (u v w : UInt8), (P ++ [u, v]).set (P.length + 1) w = P ++ [u, w] := fun P u v w => by rw [List.set_append_right _ _ (by omega)]; simp
  rw [e1, e2, e1, e2]
  simp [encAll, enc1]
theorem laFront_E (x : La) (b1 b2 : UInt8) : encE (laFront x ++ [(4, [b1, b2])]) = 0 := by
  refine encE_all _ fun r hr => ?_
  rcases List.mem_append.1 hr with hr | hr
  · exact laRecs_ok x r (List.mem_append.2 (.inl hr))
  · obtain rfl := List.mem_singleton.1 hr
    simp
theorem laEnc_dec (x : La) : ∃ b1 b2, decO (laEnc x) = some (laFront x ++ [(4, [b1, b2])]) := by
  obtain ⟨b1, b2, h⟩ := laEnc_form x
  exact ⟨b1, b2, by rw [h]; exact decO_full _ (laFront_E x b1 b2)⟩
theorem laEnc_chk (x : La) : chk (laEnc x) = true := sealed_chk _ _ (by rw [laPlain_len]; omega)
theorem laEnc_inj {y : La} (hx : LaOk x) (hy : LaOk y) (h : laEnc x = laEnc y) : x = y := by
  obtain ⟨a1, a2, e1⟩ := laEnc_dec x
  obtain ⟨b1, b2, e2⟩ := laEnc_dec y
  rw [h, e2] at e1
  injection e1 with e1
  rw [← fold_P hx [a1, a2], ← fold_P hy [b1, b2], e1]
end

/-- What Decode returns. -/
def DecIs (bs : List UInt8) (x : La) : Prop := LaOk x ∧ laEnc x = bs
open Classical in
noncomputable def ldecE (bs : List UInt8) : Int := if chk bs = false then 5 else if ∃ x, DecIs bs x then 0 else 4
open Classical in
noncomputable def ldecV (bs : List UInt8) : La := if h : ∃ x, DecIs bs x then Classical.choose h else laZero
theorem ldecE_sum {bs : List UInt8} (h : chk bs = false) : ldecE bs = 5 := by unfold ldecE; rw [if_pos h]
theorem ldec_no {bs : List UInt8} (h : chk bs = true) (hn : ¬ ∃ x, DecIs bs x) : ldecE bs = 4 := by unfold ldecE; rw [if_neg (by rw [h]; simp), if_neg hn]
theorem ldecV_no {bs : List UInt8} (hn : ¬ ∃ x, DecIs bs x) : ldecV bs = laZero := by unfold ldecV; rw [dif_neg hn]
theorem ldec_yes {bs : List UInt8} {x : La} (h : DecIs bs x) : ldecE bs = 0 ∧ ldecV bs = x := by
  have hc : chk bs = true := by rw [← h.2]; exact laEnc_chk x
  have he : ∃ x, DecIs bs x := ⟨x, h⟩
  constructor
  · unfold ldecE; rw [if_neg (by rw [hc]; simp), if_pos he]
  · unfold ldecV
    rw [dif_pos he]
    have h2 := Classical.choose_spec he
    exact laEnc_inj h2.1 h.1 (h2.2.trans h.2.symm)
theorem ldecV_sum {bs : List UInt8} (h : chk bs = false) : ldecV bs = laZero := ldecV_no fun ⟨x, hx⟩ => by
  have := laEnc_chk x
  rw [hx.2, h] at this; cases this
theorem ldec_form {bs : List UInt8} (h : decO bs = none) : ¬ ∃ x, DecIs bs x := fun ⟨x, hx⟩ => by
  obtain ⟨b1, b2, e⟩ := laEnc_dec x
  rw [hx.2, h] at e; cases e
theorem ldec_P {bs : List UInt8} {l : List Rec} (h : decO bs = some l) (hn : ¬ DecIs bs (foldP laZero l)) : ¬ ∃ x, DecIs bs x := fun ⟨x, hx⟩ => by
  obtain ⟨b1, b2, e⟩ := laEnc_dec x
  rw [hx.2, h] at e
  injection e with e
  rw [e, fold_P hx.1] at hn
  exact hn hx
theorem ldec_R {bs : List UInt8} {l : List Rec} (h : decO bs = some l) (hn : ¬ DecIs bs (foldR 0 laZero l)) : ¬ ∃ x, DecIs bs x := fun ⟨x, hx⟩ => by
  obtain ⟨b1, b2, e⟩ := laEnc_dec x
  rw [hx.2, h] at e
  injection e with e
  rw [e, fold_R hx.1] at hn
  exact hn hx

end Go.Proofs.Ytfpoghhjpfkbaaa

namespace Go.Proofs.Ytfpoghhjpfkbaaa
set_option linter.unusedVariables false
open Go.RowKit Go.Sort

abbrev laV (o s a : Int) (ov : Bool) (A : Option Addr) (n c : Nat) (B : Option Addr) (m d : Nat) : Value := .agg #[.int .i64 o, .int .i64 s, .int .i64 a, .bool ov, .slice A n c, .slice B m d]
abbrev laB (o s a : Int) (ov : Bool) (A : Option Addr) (n c : Nat) (B : Option Addr) (m d : Nat) : Obj := .cells #[.int .i64 o, .int .i64 s, .int .i64 a, .bool ov, .slice A n c, .slice B m d] 32

set_option maxRecDepth 100000 in
set_option maxHeartbeats 3200000 in
theorem valid_any (o s a : Int) (ov : Bool) (adj : List Ad) (pre : List Pf) (A : Option Addr) (n c : Nat) (B : Option Addr) (m d : Nat) (w : World) (hn : adj.length = n) (hm : pre.length = m) (hA : Rd w A (adV adj)) (hB : Rd w B (pfV pre)) (hu : ∀ x ∈ pre, x.1 < 4294967296) :
    Calls Try.prog 20 #[laV o s a ov A n c B m d] w fun e w' => e = .returned (.bool (vB ⟨o, s, a, ov, adj, pre⟩)) ∧ Below w.heap.size w w' := by
  have hbb := below_new' w (laB o s a ov A n c B m d)
  have S := Box.new w #[.int .i64 o, .int .i64 s, .int .i64 a, .bool ov, .slice A n c, .slice B m d] 32
  have c0 := S.c 0 rfl
  have c1 := S.c 1 rfl
  have c2 := S.c 2 rfl
  have c3 := S.c 3 rfl
  have c4 := S.c 4 rfl
  have c5 := S.c 5 rfl
  replace hu := Lib.hid hu
  go_enter Try.func20, Try.ntmps20
  go_wp2_with fail
  (with_reducible refine (within_any _ _ _ _).mono ?_)
  rintro e w1 ⟨rfl, rfl⟩
  rcases hw1 : wiB o 0 63 with _ | _
  · have := wiB_f hw1
    go_wp2_with fail
    go_ret
    exact ⟨ret_bool (vB_f (fun h => by have := h.1; simp only at this; omega)).symm, hbb⟩
  replace hw1 := Lib.hid (wiB_t hw1)
  go_wp2_with fail
  (with_reducible refine (within_any _ _ _ _).mono ?_)
  rintro e w1 ⟨rfl, rfl⟩
  rcases hw2 : wiB s 1 1073741824 with _ | _
  · have := wiB_f hw2
    go_wp2_with fail
    go_ret
    exact ⟨ret_bool (vB_f (fun h => by have := h.2.1; simp only at this; omega)).symm, hbb⟩
  replace hw2 := Lib.hid (wiB_t hw2)
  go_wp2_with fail
  (with_reducible refine (within_any _ _ _ _).mono ?_)
  rintro e w1 ⟨rfl, rfl⟩
  rcases hw3 : wiB a 0 3600 with _ | _
  · have := wiB_f hw3
    go_wp2_with fail
    go_ret
    exact ⟨ret_bool (vB_f (fun h => by have := h.2.2.1; simp only at this; omega)).symm, hbb⟩
  replace hw3 := Lib.hid (wiB_t hw3)
  by_cases hl1 : 256 < n
  · go_wp2_with fail
    go_ret
    exact ⟨ret_bool (vB_f (fun h => by have := h.2.2.2.1; simp only at this; omega)).symm, hbb⟩
  by_cases hl2 : 64 < m
  · go_wp2_with fail
    go_ret
    exact ⟨ret_bool (vB_f (fun h => by have := h.2.2.2.2.1; simp only at this; omega)).symm, hbb⟩
  by_cases hb : a = 3600 ∧ (ov = true ∨ 0 < n ∨ 0 < m)
  · have hz : vB ⟨o, s, a, ov, adj, pre⟩ = false := vB_f (fun h => by
      obtain ⟨e1, e2, e3⟩ := h.2.2.2.2.2.1 hb.1
      simp only at e1 e2 e3
      subst e2 e3
      rcases hb.2 with e | e | e
      · rw [e] at e1; cases e1
      · simp at hn; omega
      · simp at hm; omega)
    obtain ⟨rfl, hb⟩ := hb
    rcases hb with rfl | hb | hb
    · go_wp2_with fail
      all_goals go_ret
      all_goals exact ⟨ret_bool hz.symm, below_new' w _⟩
    · go_wp2_with fail
      all_goals go_ret
      all_goals exact ⟨ret_bool hz.symm, below_new' w _⟩
    · go_wp2_with fail
      all_goals go_ret
      all_goals exact ⟨ret_bool hz.symm, below_new' w _⟩
  have hP : a = 3600 → ov = false ∧ adj = [] ∧ pre = [] := by
    intro e
    refine ⟨?_, ?_, ?_⟩
    · cases ov with
      | false => rfl
      | true => exact absurd ⟨e, .inl rfl⟩ hb
    · exact List.eq_nil_of_length_eq_zero ((Nat.eq_zero_or_pos n).elim (fun h => by omega) (fun h => absurd ⟨e, .inr (.inl h)⟩ hb))
    · exact List.eq_nil_of_length_eq_zero ((Nat.eq_zero_or_pos m).elim (fun h => by omega) (fun h => absurd ⟨e, .inr (.inr h)⟩ hb))
  have hL : Hid (∀ b, (b = true → AdGood o adj n ∧ PfGood pre m) → (b = false → ¬ (AdGood o adj n ∧ PfGood pre m)) → b = vB ⟨o, s, a, ov, adj, pre⟩) := by
    intro b h1 h2
    cases b with
    | true => exact (vB_t ⟨hw1.out, hw2.out, hw3.out, by simp only; omega, by simp only; omega, hP, by simp only; rw [hn]; exact (h1 rfl).1, by simp only; rw [hm]; exact (h1 rfl).2⟩).symm
    | false => exact (vB_f (fun h => h2 rfl (by
        obtain ⟨_, _, _, _, _, _, e1, e2⟩ := h
        simp only [hn, hm] at e1 e2
        exact ⟨e1, e2⟩))).symm
  replace hP := Lib.hid hP
  have hC : (a ≠ 3600) ∨ (a = 3600 ∧ ov = false ∧ n = 0 ∧ m = 0) := by
    by_cases e : a = 3600
    · obtain ⟨e1, rfl, rfl⟩ := hP.out e
      exact .inr ⟨e, e1, by simpa using hn.symm, by simpa using hm.symm⟩
    · exact .inl e
  clear hw2 hw3 hb hP hw1
  have S0 : St w (w.alloc (laB o s a ov A n c B m d)) [(w.heap.size, [.int .i64 o, .int .i64 s, .int .i64 a, .bool ov, .slice A n c, .slice B m d])] [(A, adV adj), (B, pfV pre)] := ((((St.start w).read hB).read hA).new #[.int .i64 o, .int .i64 s, .int .i64 a, .bool ov, .slice A n c, .slice B m d] 32)
  clear S hbb
  rcases hC with e36 | ⟨e36, hov, hn0, hm0⟩
  rotate_left
  · subst e36 hov hn0 hm0
    have hr : vB ⟨o, s, 3600, false, adj, pre⟩ = true := (hL.out true (fun _ => ⟨fun k x hk => absurd hk (by omega), fun k x hk => absurd hk (by omega)⟩) (fun h => by cases h)).symm
    clear hL
    go_wp2_with fail
    go_loop [55] (fun v55 => v55 = .int .i64 0) (fun v55 => 0)
    case atStart => rfl
    case round =>
      obtain rfl := hrel
      go_wp2_with fail
      go_loop [101] (fun v101 => v101 = .int .i64 0) (fun v101 => 0)
      case atStart => rfl
      case round =>
        obtain rfl := hrel
        go_wp2_with fail
        go_ret
        exact ⟨rfl, below_new' w _⟩
  go_wp2_with fail
  generalize w.alloc (.cells #[.int .i64 o, .int .i64 s, .int .i64 a, .bool ov, .slice A n c, .slice B m d] 32) = w1 at *
  clear c0 c1 c2 c3 c4 c5
  go_loopw [55] (fun v55 wr => ∃ k : Nat, v55 = .int .i64 k ∧ k ≤ n ∧ Hid (AdGood o adj k) ∧ St w wr [(w.heap.size, [.int .i64 o, .int .i64 s, .int .i64 a, .bool ov, .slice A n c, .slice B m d])] [(A, adV adj), (B, pfV pre)]) (fun v55 _ => n - (intOf v55).toNat)
  case atStart => exact ⟨0, rfl, by omega, fun k x hk => absurd hk (by omega), S0⟩
  case round =>
    obtain ⟨k, rfl, hk, hgood, S⟩ := hrel
    clear S0 hA hB
    by_cases hkn : k < n
    · obtain ⟨b, off, rfl, hcells⟩ := rd_ad (S.r 0 rfl) (by omega)
      have c4 := S.c 0 4 rfl rfl
      obtain ⟨x0, x1, x2⟩ := hcells k (by omega)
      obtain ⟨x, hx⟩ : ∃ x, adj[k]'(by omega) = x := ⟨_, rfl⟩
      rw [hx] at x0 x1 x2
      have hx' : adj[k]? = some x := by rw [List.getElem?_eq_getElem (by omega), hx]
      have hbad : Hid (¬ ((0 ≤ x.2.1 ∧ x.2.1 ≤ 255) ∧ x.1 ≠ o ∧ (0 ≤ x.1 ∧ x.1 ≤ 63) ∧ (1 ≤ x.2.2 ∧ x.2.2 ≤ 65535) ∧ (∀ y, 0 < k → adj[k - 1]? = some y → y.2.1 < x.2.1)) → false = vB ⟨o, s, a, ov, adj, pre⟩) := fun h => hL.out false (fun e => by cases e) (fun _ e => h (e.1 k x hkn hx'))
      have hgo : Hid ((0 ≤ x.2.1 ∧ x.2.1 ≤ 255) ∧ x.1 ≠ o ∧ (0 ≤ x.1 ∧ x.1 ≤ 63) ∧ (1 ≤ x.2.2 ∧ x.2.2 ≤ 65535) ∧ (∀ y, 0 < k → adj[k - 1]? = some y → y.2.1 < x.2.1) → AdGood o adj (k + 1)) := fun h => hgood.out.snoc hx' h.1 h.2.1 h.2.2.1 h.2.2.2.1 h.2.2.2.2
      clear hgood
      go_wp2_with fail
      have S2 := S.new #[.int .i64 x.1, .int .i64 x.2.1, .int .i64 x.2.2] 71
      have hbw := below_new' wr (.cells #[.int .i64 x.1, .int .i64 x.2.1, .int .i64 x.2.2] 71)
      clear c4 x0 x1 x2
      generalize wr.alloc (.cells #[.int .i64 x.1, .int .i64 x.2.1, .int .i64 x.2.2] 71) = w2 at *
      generalize hg2 : wr.heap.size = g2 at S2 ⊢
      have d0 := S2.c 0 0 rfl rfl
      have d1 := S2.c 0 1 rfl rfl
      have d2 := S2.c 0 2 rfl rfl
      have c4 := S2.c 1 4 rfl rfl
      have c0 := S2.c 1 0 rfl rfl
      have W1 : Hid (∀ W, Calls Try.prog 34 #[.int .i64 x.2.1, .int .i64 0, .int .i64 255] W fun e w' => e = .returned (.bool (wiB x.2.1 0 255)) ∧ W = w') := fun W => within_any x.2.1 0 255 W
      obtain ⟨b1, hb1⟩ : ∃ b1, wiB x.2.1 0 255 = b1 := ⟨_, rfl⟩
      rw [hb1] at W1
      rcases Nat.eq_zero_or_pos k with hk0 | hkp
      · have hd : decide ((0 : Int) < (k : Int)) = false := by simp [hk0]
        have hbef : ∀ y, 0 < k → adj[k - 1]? = some y → y.2.1 < x.2.1 := fun y h => absurd h (by omega)
        cases b1 with
        | false =>
          go_quiet ((go_at_call 34; exact quietL (W1.out _)))
          go_wp2_with fail
          go_ret
          exact ⟨ret_bool (hbad.out (fun h => by have := wiB_f hb1; omega)), below_drewN S2.b nq⟩
        | true =>
          go_quiet ((go_at_call 34; exact quietL (W1.out _)))
          have S3 := S2.drewN nq
          clear d0 d1 d2 c4 c0
          have d0 := S3.c 0 0 rfl rfl
          have d2 := S3.c 0 2 rfl rfl
          have c0 := S3.c 1 0 rfl rfl
          clear S2
          generalize w2.drewN nq = w3 at *
          replace hb1 := wiB_t hb1
          by_cases hto : x.1 = o
          · go_wp2_with fail
            go_ret
            exact ⟨ret_bool (hbad.out (fun h => h.2.1 hto)), S3.b⟩
          go_wp2_with fail
          (with_reducible refine (within_any _ _ _ _).mono ?_)
          rintro e w4 ⟨rfl, rfl⟩
          rcases hb2 : wiB x.1 0 63 with _ | _
          · have := wiB_f hb2
            go_wp2_with fail
            go_ret
            exact ⟨ret_bool (hbad.out (fun h => by have := h.2.2.1; omega)), S3.b⟩
          replace hb2 := wiB_t hb2
          go_wp2_with fail
          (with_reducible refine (within_any _ _ _ _).mono ?_)
          rintro e w4 ⟨rfl, rfl⟩
          rcases hb3 : wiB x.2.2 1 65535 with _ | _
          · have := wiB_f hb3
            go_wp2_with fail
            go_ret
            exact ⟨ret_bool (hbad.out (fun h => by have := h.2.2.2.1; omega)), S3.b⟩
          replace hb3 := wiB_t hb3
          go_wp2_with fail
          go_round
          case rel => exact ⟨k + 1, by go_num, by omega, hgo.out ⟨hb1, hto, hb2, hb3, hbef⟩, S3.keepBoxes _ (by simp)⟩
          case measure => simp [intOf]; omega
      · obtain ⟨j, hj⟩ : ∃ j, j + 1 = k := ⟨k - 1, by omega⟩
        have hd : decide ((0 : Int) < (k : Int)) = true := by simp; omega
        have hw : IntKind.i64.wrap ((k : Int) - 1) = (j : Int) := by rw [show (k : Int) - 1 = (j : Int) by omega]; rw [IntKind.wrap_i64]; omega
        have hjn : j < n := by omega
        obtain ⟨y, hy⟩ : ∃ y, adj[j]'(by omega) = y := ⟨_, rfl⟩
        have hy' : adj[k - 1]? = some y := by rw [← hj, Nat.add_sub_cancel, List.getElem?_eq_getElem (by omega), hy]
        obtain ⟨_, y1, _⟩ := hcells j (by omega)
        rw [hy] at y1
        have y1 := cell_later (show Below wr.heap.size wr w2 from hbw) y1
        by_cases hlt : y.2.1 < x.2.1
        · have hbef : ∀ y, 0 < k → adj[k - 1]? = some y → y.2.1 < x.2.1 := fun z _ h => by rw [hy'] at h; injection h with h; rw [← h]; exact hlt
          have hd2 : decide (x.2.1 ≤ y.2.1) = false := by simp; omega
          cases b1 with
          | false =>
            go_quiet ((go_at_call 34; exact quietL (W1.out _)))
            go_wp2_with fail
            go_ret
            exact ⟨ret_bool (hbad.out (fun h => by have := wiB_f hb1; omega)), below_drewN S2.b nq⟩
          | true =>
            go_quiet ((go_at_call 34; exact quietL (W1.out _)))
            have S3 := S2.drewN nq
            clear d0 d1 d2 c4 c0
            have d0 := S3.c 0 0 rfl rfl
            have d2 := S3.c 0 2 rfl rfl
            have c0 := S3.c 1 0 rfl rfl
            clear S2
            generalize w2.drewN nq = w3 at *
            replace hb1 := wiB_t hb1
            by_cases hto : x.1 = o
            · go_wp2_with fail
              go_ret
              exact ⟨ret_bool (hbad.out (fun h => h.2.1 hto)), S3.b⟩
            go_wp2_with fail
            (with_reducible refine (within_any _ _ _ _).mono ?_)
            rintro e w4 ⟨rfl, rfl⟩
            rcases hb2 : wiB x.1 0 63 with _ | _
            · have := wiB_f hb2
              go_wp2_with fail
              go_ret
              exact ⟨ret_bool (hbad.out (fun h => by have := h.2.2.1; omega)), S3.b⟩
            replace hb2 := wiB_t hb2
            go_wp2_with fail
            (with_reducible refine (within_any _ _ _ _).mono ?_)
            rintro e w4 ⟨rfl, rfl⟩
            rcases hb3 : wiB x.2.2 1 65535 with _ | _
            · have := wiB_f hb3
              go_wp2_with fail
              go_ret
              exact ⟨ret_bool (hbad.out (fun h => by have := h.2.2.2.1; omega)), S3.b⟩
            replace hb3 := wiB_t hb3
            go_wp2_with fail
            go_round
            case rel => exact ⟨k + 1, by go_num, by omega, hgo.out ⟨hb1, hto, hb2, hb3, hbef⟩, S3.keepBoxes _ (by simp)⟩
            case measure => simp [intOf]; omega
        · have hd2 : decide (x.2.1 ≤ y.2.1) = true := by simp; omega
          go_quiet ((go_at_call 34; exact quietL (W1.out _)))
          go_wp2_with fail
          go_ret
          exact ⟨ret_bool (hbad.out (fun h => by have := h.2.2.2.2 y hkp hy'; omega)), below_drewN S2.b nq⟩
    · obtain rfl : k = n := by omega
      have c5 := S.c 0 5 rfl rfl
      go_wp2_with fail
      clear c5
      go_loopw [101] (fun v101 wr => ∃ i : Nat, v101 = .int .i64 i ∧ i ≤ m ∧ Hid (PfGood pre i) ∧ St w wr [(w.heap.size, [.int .i64 o, .int .i64 s, .int .i64 a, .bool ov, .slice A k c, .slice B m d])] [(A, adV adj), (B, pfV pre)]) (fun v101 _ => m - (intOf v101).toNat)
      case atStart => exact ⟨0, rfl, by omega, fun k x hk => absurd hk (by omega), S⟩
      case round =>
        clear S
        obtain ⟨i, rfl, hi, hpg, S⟩ := hrel
        by_cases him : i < m
        · obtain ⟨b, off, rfl, hcells⟩ := rd_pf (S.r 1 rfl) (by omega)
          have c5 := S.c 0 5 rfl rfl
          obtain ⟨x0, x1⟩ := hcells i (by omega)
          obtain ⟨x, hx⟩ : ∃ x, pre[i]'(by omega) = x := ⟨_, rfl⟩
          rw [hx] at x0 x1
          have hx' : pre[i]? = some x := by rw [List.getElem?_eq_getElem (by omega), hx]
          have hxl : x.1 < 4294967296 := hu.out x (List.mem_of_getElem? hx')
          have hbad : Hid (¬ (pfxB x.1 x.2 = true ∧ (∀ y, 0 < i → pre[i - 1]? = some y → cmpP y.1 y.2 x.1 x.2 < 0)) → false = vB ⟨o, s, a, ov, adj, pre⟩) := fun h => hL.out false (fun e => by cases e) (fun _ e => h (e.2 i x him hx'))
          have hgo : Hid (pfxB x.1 x.2 = true ∧ (∀ y, 0 < i → pre[i - 1]? = some y → cmpP y.1 y.2 x.1 x.2 < 0) → PfGood pre (i + 1)) := fun h => hpg.out.snoc hx' h.1 h.2
          clear hpg
          go_wp2_with fail
          have S2 := S.new #[.int .u32 (x.1 : Int), .int .i64 x.2] 74
          have hbw := below_new' wr (.cells #[.int .u32 (x.1 : Int), .int .i64 x.2] 74)
          clear c5 x0 x1
          generalize wr.alloc (.cells #[.int .u32 (x.1 : Int), .int .i64 x.2] 74) = w2 at *
          generalize hg2 : wr.heap.size = g2 at S2 ⊢
          have d0 := cell_regrown (S2.c 0 0 rfl rfl)
          have d1 := cell_regrown (S2.c 0 1 rfl rfl)
          have c5 := cell_regrown (S2.c 1 5 rfl rfl)
          have V : Hid (∀ W, Calls Try.prog 35 #[.agg #[.int .u32 (x.1 : Int), .int .i64 x.2]] W fun e w' => e = .returned (.bool (pfxB x.1 x.2)) ∧ Below W.heap.size W w') := fun W => pvalid_any x.1 x.2 hxl W
          obtain ⟨b1, hb1⟩ : ∃ b1, pfxB x.1 x.2 = b1 := ⟨_, rfl⟩
          rw [hb1] at V
          cases b1 with
          | false =>
            refine wp_region_quiet_below (by kernel_rfl) (by kernel_rfl) ?_
            repeat (go_big_quiet_step (first
              | (go_at_call 35; with_reducible exact Calls.regrown_of (V.out _))))
            refine wpQuiet_nil ?_
            intro _ hw'
            obtain ⟨⟨dq, osq⟩, hw''⟩ := hw'
            subst hw''
            go_wp2_with fail
            go_ret
            exact ⟨ret_bool (hbad.out (fun h => by rw [hb1] at h; cases h.1)), S2.b.trans ((below_regrown _ dq osq).mono S2.b.size)⟩
          | true =>
            rcases Nat.eq_zero_or_pos i with hk0 | hkp
            · have hd : decide ((0 : Int) < (i : Int)) = false := by simp [hk0]
              have hbef : ∀ y, 0 < i → pre[i - 1]? = some y → cmpP y.1 y.2 x.1 x.2 < 0 := fun y h => absurd h (by omega)
              refine wp_region_quiet_below (by kernel_rfl) (by kernel_rfl) ?_
              repeat (go_big_quiet_step (first
                | (go_at_call 35; with_reducible exact Calls.regrown_of (V.out _))))
              refine wpQuiet_nil ?_
              intro _ hw'
              obtain ⟨⟨dq, osq⟩, hw''⟩ := hw'
              subst hw''
              go_wp2_with fail
              go_round
              case rel => exact ⟨i + 1, by go_num, by omega, hgo.out ⟨hb1, hbef⟩, (S2.call (below_regrown _ dq osq)).keepBoxes _ (by simp)⟩
              case measure => simp [intOf]; omega
            · obtain ⟨j, hj⟩ : ∃ j, j + 1 = i := ⟨i - 1, by omega⟩
              have hd : decide ((0 : Int) < (i : Int)) = true := by simp; omega
              have hw : IntKind.i64.wrap ((i : Int) - 1) = (j : Int) := by rw [show (i : Int) - 1 = (j : Int) by omega]; rw [IntKind.wrap_i64]; omega
              have hjm : j < m := by omega
              obtain ⟨y, hy⟩ : ∃ y, pre[j]'(by omega) = y := ⟨_, rfl⟩
              have hy' : pre[i - 1]? = some y := by rw [← hj, Nat.add_sub_cancel, List.getElem?_eq_getElem (by omega), hy]
              obtain ⟨y0, y1⟩ := hcells j (by omega)
              rw [hy] at y0 y1
              have y0 := cell_regrown (cell_later (show Below wr.heap.size wr w2 from hbw) y0)
              have y1 := cell_regrown (cell_later (show Below wr.heap.size wr w2 from hbw) y1)
              by_cases hlt : cmpP y.1 y.2 x.1 x.2 < 0
              · have hbef : ∀ y, 0 < i → pre[i - 1]? = some y → cmpP y.1 y.2 x.1 x.2 < 0 := fun z _ h => by rw [hy'] at h; injection h with h; rw [← h]; exact hlt
                have hd2 : decide (0 ≤ cmpP y.1 y.2 x.1 x.2) = false := by simp; omega
                refine wp_region_quiet_below (by kernel_rfl) (by kernel_rfl) ?_
                repeat (go_big_quiet_step (first
                  | (go_at_call 35; with_reducible exact Calls.regrown_of (V.out _))
                  | (go_at_call 36; with_reducible exact Calls.regrown_of (pcompare_any _ _ _ _ _))))
                refine wpQuiet_nil ?_
                intro _ hw'
                obtain ⟨⟨dq, osq⟩, hw''⟩ := hw'
                subst hw''
                go_wp2_with fail
                go_round
                case rel => exact ⟨i + 1, by go_num, by omega, hgo.out ⟨hb1, hbef⟩, (S2.call (below_regrown _ dq osq)).keepBoxes _ (by simp)⟩
                case measure => simp [intOf]; omega
              · have hd2 : decide (0 ≤ cmpP y.1 y.2 x.1 x.2) = true := by simp; omega
                refine wp_region_quiet_below (by kernel_rfl) (by kernel_rfl) ?_
                repeat (go_big_quiet_step (first
                  | (go_at_call 35; with_reducible exact Calls.regrown_of (V.out _))
                  | (go_at_call 36; with_reducible exact Calls.regrown_of (pcompare_any _ _ _ _ _))))
                refine wpQuiet_nil ?_
                intro _ hw'
                obtain ⟨⟨dq, osq⟩, hw''⟩ := hw'
                subst hw''
                go_wp2_with fail
                go_ret
                exact ⟨ret_bool (hbad.out (fun h => by have := h.2 y hkp hy'; omega)), S2.b.trans ((below_regrown _ dq osq).mono S2.b.size)⟩
        · obtain rfl : i = m := by omega
          go_wp2_with fail
          go_ret
          exact ⟨ret_bool (hL.out true (fun _ => ⟨hgood.out, hpg.out⟩) (fun e => by cases e)), S.b⟩

end Go.Proofs.Ytfpoghhjpfkbaaa

namespace Go.Proofs.Ytfpoghhjpfkbaaa
set_option linter.unusedVariables false
open Go.RowKit

theorem adT : ElemT Try.prog 29 71 (.agg #[.int .i64 0, .int .i64 0, .int .i64 0]) 3 24 := ⟨Try.underlying29, by kernel_rfl, rfl, by omega⟩
theorem pfT : ElemT Try.prog 30 74 (.agg #[.int .u32 0, .int .i64 0]) 2 16 := ⟨Try.underlying30, by kernel_rfl, rfl, by omega⟩

/-- The value is this advertisement; its slices are read where they lie. -/
def LaAt (w : World) (v : Value) (x : La) : Prop := ∃ A c B d, v = laV x.o x.s x.a x.ov A x.adj.length c B x.pre.length d ∧ Rd w A (adV x.adj) ∧ Rd w B (pfV x.pre) ∧
  x.adj.length ≤ c ∧ c ≤ maxLen ∧ x.pre.length ≤ d ∧ d ≤ maxLen ∧ ∀ p ∈ x.pre, p.1 < 4294967296
/-- .. its slices are the call's own. -/
def LaOwn (w : World) (base : Nat) (v : Value) (x : La) : Prop := ∃ A c B d, v = laV x.o x.s x.a x.ov A x.adj.length c B x.pre.length d ∧
  w.ownsRow base 71 3 (.slice A x.adj.length c) x.adj.length (adV x.adj) ∧ w.ownsRow base 74 2 (.slice B x.pre.length d) x.pre.length (pfV x.pre) ∧ ∀ p ∈ x.pre, p.1 < 4294967296
theorem LaOwn.at {w : World} {base : Nat} {v : Value} {x : La} (h : LaOwn w base v x) : LaAt w v x := by
  obtain ⟨A, c, B, d, rfl, h1, h2, h3⟩ := h
  obtain ⟨A', c', e1, r1, l1, m1⟩ := own_rd h1
  obtain ⟨B', d', e2, r2, l2, m2⟩ := own_rd h2
  simp only [Value.slice.injEq, true_and] at e1 e2
  obtain ⟨rfl, rfl⟩ := e1
  obtain ⟨rfl, rfl⟩ := e2
  exact ⟨A, c, B, d, rfl, r1, r2, l1, m1, l2, m2, h3⟩
theorem LaOwn.below {w w' : World} {base : Nat} {v : Value} {x : La} (h : LaOwn w base v x) (hb : Below w.heap.size w w') : LaOwn w' base v x := by
  obtain ⟨A, c, B, d, rfl, h1, h2, h3⟩ := h
  exact ⟨A, c, B, d, rfl, own_below h1 hb, own_below h2 hb, h3⟩
theorem LaOwn.mono {w : World} {base base' : Nat} {v : Value} {x : La} (h : LaOwn w base' v x) (hb : base ≤ base') : LaOwn w base v x := by
  obtain ⟨A, c, B, d, rfl, h1, h2, h3⟩ := h
  exact ⟨A, c, B, d, rfl, own_mono h1 hb, own_mono h2 hb, h3⟩
theorem LaAt.below {w w' : World} {v : Value} {x : La} (h : LaAt w v x) (hb : Below w.heap.size w w') : LaAt w' v x := by
  obtain ⟨A, c, B, d, rfl, h1, h2, h3⟩ := h
  exact ⟨A, c, B, d, rfl, h1.below hb, h2.below hb, h3⟩
theorem laZero_own (w : World) (base : Nat) : LaOwn w base (laV 0 0 0 false none 0 0 none 0 0) laZero :=
  ⟨none, 0, none, 0, rfl, World.ownsRow_nil _ _ _ _, World.ownsRow_nil _ _ _ _, by simp [laZero]⟩

theorem run_upto {P : Program} {t e : TypeId} {z : Value} {bytes : Nat} (hE : ElemT P t e z 1 bytes) (A : Option Addr) (n c hi : Nat) (h2 : hi ≤ c) (W : World) :
    (Instr.slice t (.slice A n c) none (some (.int .i64 (hi : Int))) none).run P W = .ok (.slice A hi c) W := by
  obtain ⟨i, hi', hz0, hz1, hz2⟩ := info_parts hE.info
  have hel : P.elem t = e := by simp [Program.elem, hE.under]
  rw [run_slice_h W t A n c (by rw [hel]; exact hE.under) .i64 hi (by omega) (by omega), hel]
  cases A <;> simp [sizeOf, typeInfo, hi', hz1, sliced, Result.andThen, Addr.add]

/-- The captured slice of bytes, in block g. -/
structure TakS (w : World) (g : Nat) (bs : List UInt8) (X : Option Addr) (m c : Nat) : Prop where
  cel : w.cell? ⟨g, 0, none⟩ = some (.slice X m c)
  frz : w.frozen? ⟨g, 0, none⟩ = false
  rd : Bs w X bs
  len : bs.length = m
  mc : m ≤ c
  cm : c ≤ 9223372036854775807
  far : ∀ ad, X = some ad → ad.block ≠ g
theorem subA_block {X : Option Addr} {lo c : Nat} {ad : Addr} (h : subA X lo c = some ad) : ∃ ad', X = some ad' ∧ ad.block = ad'.block := by
  unfold subA at h
  split at h
  · exact ⟨ad, h, rfl⟩
  · obtain ⟨a, rfl, rfl⟩ := Option.map_eq_some_iff.1 h
    exact ⟨a, rfl, addr_add_block _ _⟩
theorem Rd.setFar {w : World} {A : Option Addr} {xs : List Value} (h : Rd w A xs) {p : Addr} (u : Value) (hp : ∀ ad, A = some ad → ad.block ≠ p.block) : Rd (w.setCell p u) A xs := by
  intro hn
  obtain ⟨ad, e, hc⟩ := h hn
  refine ⟨ad, e, fun j v hv => ?_⟩
  rw [cell_far u (by intro e2; exact hp ad e (by rw [e2, addr_add_block]))]
  exact hc j v hv

theorem uiN_lt (bs : List UInt8) (h : bs.length ≤ 4) : uiN bs < 4294967296 := by
  unfold uiN
  split
  · have := uintB_lt bs
    have := Nat.pow_le_pow_right (n := 256) (by omega) h
    omega
  · omega

end Go.Proofs.Ytfpoghhjpfkbaaa

namespace Go.Proofs.Ytfpoghhjpfkbaaa
set_option linter.unusedVariables false
open Go.RowKit

theorem ad_fields : Try.prog.underlying 71 = some (.struct (Try.prog.fieldsOf 71)) := by kernel_rfl
theorem pf_fields : Try.prog.underlying 74 = some (.struct (Try.prog.fieldsOf 74)) := by kernel_rfl
theorem ad_held : Try.prog.stoodInHeld 71 = false := by kernel_rfl
theorem pf_held : Try.prog.stoodInHeld 74 = false := by kernel_rfl
theorem ad_guard : Try.prog.eqGuardType Try.prog.depth 71 = false := by kernel_rfl
theorem pf_guard : Try.prog.eqGuardType Try.prog.depth 74 = false := by kernel_rfl
abbrev adA (x : Ad) : Value := .agg #[.int .i64 x.1, .int .i64 x.2.1, .int .i64 x.2.2]
abbrev pfA (x : Pf) : Value := .agg #[.int .u32 (x.1 : Int), .int .i64 x.2]

theorem ad_fl : ((Try.prog.fieldsOf 71).toList.map fun f => (f.name != "_", f.type, f.offset)) = [(true, 3, 0), (true, 3, 1), (true, 3, 2)] := by kernel_rfl
theorem eq_ad (w : World) (x y : Ad) : (Op.equalIn 10000 71 (adA x) (adA y)).run Try.prog w = .ok (decide (x = y)) w := by
  rw [show (10000 : Nat) = 9999 + 1 from rfl, run_equalIn_agg w 9999 _ _ _ ad_fields ad_held]
  have h := ad_fl
  obtain ⟨f0, f1, f2, hf, n0, t0, o0, n1, t1, o1, n2, t2, o2⟩ : ∃ f0 f1 f2 : Field, (Try.prog.fieldsOf 71).toList = [f0, f1, f2] ∧ (f0.name != "_") = true ∧ f0.type = 3 ∧ f0.offset = 0 ∧ (f1.name != "_") = true ∧ f1.type = 3 ∧ f1.offset = 1 ∧ (f2.name != "_") = true ∧ f2.type = 3 ∧ f2.offset = 2 := by
    generalize (Try.prog.fieldsOf 71).toList = l at h
    rcases l with _ | ⟨f0, _ | ⟨f1, _ | ⟨f2, _ | ⟨f3, l⟩⟩⟩⟩
    all_goals simp at h
    obtain ⟨⟨a, b, c⟩, ⟨d, e, f⟩, g, i, j⟩ := h
    exact ⟨f0, f1, f2, rfl, by simpa using a, b, c, by simpa using d, e, f, by simpa using g, i, j⟩
  rw [hf]
  obtain ⟨x0, x1, x2⟩ := x
  obtain ⟨y0, y1, y2⟩ := y
  simp only [bne_iff_ne] at n0 n1 n2
  simp [Op.eqFields, n0, n1, n2, t0, t1, t2, o0, o1, o2, part, sizeOf]
  have E := fun (W : World) (a b : Int) => run_equalIn_int (P := Try.prog) W 9998 3 .i64 .i64 a b Try.underlying3
  simp only [show (9998 + 1 : Nat) = 9999 from rfl] at E
  simp only [E, Result.andThen_ok]
  by_cases h0 : x0 = y0 <;> by_cases h1 : x1 = y1 <;> by_cases h2 : x2 = y2 <;> simp [h0, h1, h2]
theorem pf_fl : ((Try.prog.fieldsOf 74).toList.map fun f => (f.name != "_", f.type, f.offset)) = [(true, 72, 0), (true, 3, 1)] := by kernel_rfl
theorem eq_pf (w : World) (x y : Pf) : (Op.equalIn 10000 74 (pfA x) (pfA y)).run Try.prog w = .ok (decide (x = y)) w := by
  rw [show (10000 : Nat) = 9999 + 1 from rfl, run_equalIn_agg w 9999 _ _ _ pf_fields pf_held]
  have h := pf_fl
  obtain ⟨f0, f1, hf, n0, t0, o0, n1, t1, o1⟩ : ∃ f0 f1 : Field, (Try.prog.fieldsOf 74).toList = [f0, f1] ∧ (f0.name != "_") = true ∧ f0.type = 72 ∧ f0.offset = 0 ∧ (f1.name != "_") = true ∧ f1.type = 3 ∧ f1.offset = 1 := by
    generalize (Try.prog.fieldsOf 74).toList = l at h
    rcases l with _ | ⟨f0, _ | ⟨f1, _ | ⟨f2, l⟩⟩⟩
    all_goals simp at h
    obtain ⟨⟨a, b, c⟩, d, e, f⟩ := h
    exact ⟨f0, f1, rfl, by simpa using a, b, c, by simpa using d, e, f⟩
  rw [hf]
  obtain ⟨x0, x1⟩ := x
  obtain ⟨y0, y1⟩ := y
  simp only [bne_iff_ne] at n0 n1
  simp [Op.eqFields, n0, n1, t0, t1, o0, o1, part, sizeOf]
  have E := fun (W : World) (a b : Int) => run_equalIn_int (P := Try.prog) W 9998 3 .i64 .i64 a b Try.underlying3
  have F := fun (W : World) (a b : Int) => run_equalIn_int (P := Try.prog) W 9998 72 .u32 .u32 a b Try.underlying72
  simp only [show (9998 + 1 : Nat) = 9999 from rfl] at E F
  simp only [E, F, Result.andThen_ok]
  by_cases h0 : x0 = y0 <;> by_cases h1 : x1 = y1 <;> simp [h0, h1] <;> omega
/-- '!=' and '==' as the walk runs them. -/
theorem neq_ad (w : World) (x y : Ad) : (binOp .neq 71 (adA x) (adA y)).run Try.prog w = .ok (.bool (!decide (x = y))) w := by rw [run_neq_struct, eq_ad]; rfl
theorem eql_ad (w : World) (x y : Ad) : (binOp .eql 71 (adA x) (adA y)).run Try.prog w = .ok (.bool (decide (x = y))) w := by rw [run_eql_struct, eq_ad]; rfl
theorem neq_pf (w : World) (x y : Pf) : (binOp .neq 74 (pfA x) (pfA y)).run Try.prog w = .ok (.bool (!decide (x = y))) w := by rw [run_neq_struct, eq_pf]; rfl
theorem eql_pf (w : World) (x y : Pf) : (binOp .eql 74 (pfA x) (pfA y)).run Try.prog w = .ok (.bool (decide (x = y))) w := by rw [run_eql_struct, eq_pf]; rfl

end Go.Proofs.Ytfpoghhjpfkbaaa

namespace Go.Proofs.Ytfpoghhjpfkbaaa
set_option linter.unusedVariables false
open Go.RowKit

set_option maxRecDepth 100000 in
set_option maxHeartbeats 3200000 in
theorem sleq_pf (w : World) (A B : Option Addr) (n c m d : Nat) (xs ys : List Pf) (hA : Rd w A (pfV xs)) (hB : Rd w B (pfV ys)) (hn : xs.length = n) (hm : ys.length = m) (b1 : n ≤ 9223372036854775807) :
    Calls Try.prog 44 #[.slice A n c, .slice B m d] w fun e w' => e = .returned (.bool (decide (xs = ys))) ∧ Below w.heap.size w w' := by
  obtain ⟨R, hR⟩ : ∃ R, decide (xs = ys) = R := ⟨_, rfl⟩
  rw [hR]
  have hF : xs ≠ ys → R = false := fun h => by rw [← hR]; exact decide_eq_false h
  have hT : xs = ys → R = true := fun h => by rw [← hR]; exact decide_eq_true h
  clear hR
  by_cases hnm : n = m
  rotate_left
  · obtain rfl := hF (fun h => hnm (by rw [← hn, ← hm, h]))
    have e2b : ((n : Int) != (m : Int)) = true := by simp; omega
    clear hnm hn hm hF hT
    go_enter Try.func44, Try.ntmps44
    go_wp2_with fail
    go_ret
    exact ⟨rfl, Below.refl _ _⟩
  subst hnm
  have S := ((St.start w).read hB).read hA
  clear hA hB
  replace hn := Lib.hid hn
  replace hm := Lib.hid hm
  replace hF := Lib.hid hF
  replace hT := Lib.hid hT
  go_enter Try.func44, Try.ntmps44
  go_wp2_with fail
  go_loopw [13] (fun v13 wr => ∃ i : Nat, v13 = .int .i64 i ∧ i ≤ n ∧ Hid (xs.take i = ys.take i) ∧ St w wr [] [(A, pfV xs), (B, pfV ys)]) (fun v13 _ => n - (intOf v13).toNat)
  case atStart => exact ⟨0, rfl, by omega, rfl, S⟩
  case round =>
    clear S
    obtain ⟨i, rfl, hi, htk, S⟩ := hrel
    by_cases him : i < n
    · have hkl : i < xs.length := by have := hn.out; omega
      have hkl' : i < ys.length := by have := hm.out; omega
      obtain ⟨b, off, rfl, hc⟩ := rd_pf (S.r 0 rfl) (by omega)
      obtain ⟨b', off', rfl, hc'⟩ := rd_pf (S.r 1 rfl) (by omega)
      obtain ⟨x0, x1⟩ := hc i hkl
      obtain ⟨y0, y1⟩ := hc' i hkl'
      have hs1 := List.take_succ_eq_append_getElem hkl
      have hs2 := List.take_succ_eq_append_getElem hkl'
      have hne : xs[i] ≠ ys[i] → R = false := fun h => hF.out (fun h2 => h (by subst h2; rfl))
      clear hc hc'
      generalize xs[i] = x at *
      generalize ys[i] = y at *
      obtain ⟨p0, p1⟩ := x
      obtain ⟨q0, q1⟩ := y
      simp only at x0 x1 y0 y1
      have NE := fun W => neq_pf W (p0, p1) (q0, q1)
      have hG := pf_guard
      by_cases e : (p0, p1) = (q0, q1)
      · have htk2 : Hid (xs.take (i + 1) = ys.take (i + 1)) := by show _ = _; rw [hs1, hs2, htk.out, e]
        rw [decide_eq_true e] at NE
        clear hs1 hs2 hne e
        go_wp2_with fail
        go_quiet (fail)
        go_wp2_with fail
        go_round
        case rel => exact ⟨i + 1, by go_num, by omega, htk2, S.drewN nq⟩
        case measure => simp [intOf]; omega
      · obtain rfl := hne e
        rw [decide_eq_false e] at NE
        clear hs1 hs2 hne e
        go_wp2_with fail
        go_quiet (fail)
        go_wp2_with fail
        go_ret
        exact ⟨rfl, below_drewN S.b nq⟩
    · obtain rfl : i = n := by omega
      have heq : xs = ys := by
        have := htk.out
        rwa [List.take_of_length_le (by have := hn.out; omega), List.take_of_length_le (by have := hm.out; omega)] at this
      obtain rfl := hT.out heq
      clear heq
      go_wp2_with fail
      go_ret
      exact ⟨rfl, S.b⟩

end Go.Proofs.Ytfpoghhjpfkbaaa
