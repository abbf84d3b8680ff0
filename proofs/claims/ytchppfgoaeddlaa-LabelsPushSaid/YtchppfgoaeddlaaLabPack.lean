/-
  The contracts of labels.entry, labels.Pack.
-/
import Derived.Test.YtchppfgoaeddlaaLab
import Derived.Test.YtchppfgoaeddlaaBytes
import Derived.Lib.Hide
import Derived.Laws.BitsAllLaws
import Derived.Laws.BitsLemmas
namespace Go.Proofs.Ytchppfgoaeddlaa
set_option linter.unusedVariables false
open Go.RowKit

/-- The number of a stack entry, and its bytes. -/
def entN (l c t : Nat) (last : Bool) : Nat := l * 4096 + c * 512 + t + if last then 256 else 0
def entB (n : Nat) : List UInt8 := [UInt8.ofNat (n / 16777216), UInt8.ofNat (n / 65536), UInt8.ofNat (n / 256), UInt8.ofNat n]

theorem ofInt_i64 (a : Nat) (ha : a < 9223372036854775808) : (BitVec.ofInt 64 (a : Int)).toNat = a := by
  rw [BitVec.ofInt_natCast, BitVec.toNat_ofNat]; exact Nat.mod_eq_of_lt (by omega)
theorem i64_or_nat (a b : Nat) (ha : a < 9223372036854775808) (hb : b < 9223372036854775808) : bits .or .i64 (a : Int) (b : Int) = ((a ||| b : Nat) : Int) := by
  have hx : a ||| b < 2 ^ 63 := Nat.or_lt_two_pow (by omega) (by omega)
  show IntKind.i64.wrap ((BitVec.ofInt 64 (a : Int) ||| BitVec.ofInt 64 (b : Int)).toNat : Int) = _
  rw [BitVec.toNat_or, ofInt_i64 a ha, ofInt_i64 b hb, IntKind.wrap_i64]
  omega
/-- An 'or' of parts that do not overlap is a sum. -/
theorem or_add (i a b : Nat) (x y : Int) (hx : x = ((2 ^ i * a : Nat) : Int)) (hy : y = (b : Int)) (hb : b < 2 ^ i) (h : 2 ^ i * a + b < 9223372036854775808) :
    bits .or .i64 x y = ((2 ^ i * a + b : Nat) : Int) := by
  rw [hx, hy, i64_or_nat _ _ (by omega) (by omega), Nat.two_pow_add_eq_or_of_lt hb]
theorem u8_wrap (n : Nat) : (.int .u8 (IntKind.wrap .u8 (n : Int)) : Value) = u8v (UInt8.ofNat n) := by
  unfold u8v
  rw [IntKind.wrap_u8]
  simp

/-- A new block of n bytes, all of them in the slice. -/
theorem own_lit (w : World) (cs : Array Value) (e : TypeId) (n : Nat) (L : List Value) (hn : cs.size = n) (hm : n ≤ maxLen) (hL : cs.toList = L) :
    (w.alloc (.cells cs e)).ownsRow w.heap.size e 1 (.slice (some ⟨w.heap.size, 0, none⟩) n n) n L := by
  subst hL
  have := World.ownsRow_lit (base := w.heap.size) (e := e) (size := 1) w cs n (Nat.le_refl _) hm (by omega)
  simpa using this

theorem entry_any (l c t : Nat) (last : Bool) (hl : l ≤ 67583) (hc : c ≤ 7) (ht : t ≤ 255) (w : World) :
    Calls Try.prog 24 #[.int .i64 l, .int .i64 c, .int .i64 t, .bool last] w fun e w' =>
      ∃ v, e = .returned v ∧ w'.ownsRow w.heap.size 5 1 v 4 ((entB (entN l c t last)).map u8v) ∧ Below w.heap.size w w' := by
  have e1 : bits .or .i64 ((l : Int) * 4096) ((c : Int) * 512) = (l : Int) * 4096 + c * 512 := by
    rw [or_add 12 l (c * 512) _ _ (by omega) (by omega) (by omega) (by omega)]; omega
  have e2 : bits .or .i64 ((l : Int) * 4096 + c * 512) (t : Int) = (l : Int) * 4096 + c * 512 + t := by
    rw [or_add 9 (l * 8 + c) t _ _ (by omega) (by omega) (by omega) (by omega)]; omega
  have e3 : bits .or .i64 ((l : Int) * 4096 + c * 512 + t) 256 = (l : Int) * 4096 + c * 512 + t + 256 := by
    have hor : (l * 4096 + c * 512 + t) ||| 256 = l * 4096 + c * 512 + t + 256 := by
      have h1 := Nat.two_pow_add_eq_or_of_lt (i := 9) (b := t) (by omega) (l * 8 + c)
      have h2 := Nat.two_pow_add_eq_or_of_lt (i := 8) (b := t) (by omega) 1
      have h3 := Nat.two_pow_add_eq_or_of_lt (i := 9) (b := 256 + t) (by omega) (l * 8 + c)
      have h4 : l * 4096 + c * 512 + t = 2 ^ 9 * (l * 8 + c) + t := by omega
      have h5 : (2 ^ 8 * 1 ||| t) = 256 + t := by omega
      rw [h4, h1, Nat.or_assoc, Nat.or_comm t, show (256 : Nat) = 2 ^ 8 * 1 by omega, h5, ← h3]
      omega
    have h0 : (l : Int) * 4096 + c * 512 + t = ((l * 4096 + c * 512 + t : Nat) : Int) := by omega
    rw [h0, show (256 : Int) = ((256 : Nat) : Int) by omega, i64_or_nat _ _ (by omega) (by omega), hor]
    omega
  have hent : entN l c t last = l * 4096 + c * 512 + t + (if last then 256 else 0) := rfl
  cases last
  all_goals
    go_enter Try.func24, Try.ntmps24
    go_wp2_with fail
    go_ret
    exact ⟨_, rfl, own_lit w _ _ 4 _ rfl (by simp only [maxLen]; omega) (by simp [entB, entN, u8v]; omega), below_new _ _⟩

/-! ### Lists of segments -/
/-- The address written out. -/
theorem rd_at {w : World} {A : Option Addr} {xs : List Value} (h : Rd w A xs) (hn : 0 < xs.length) : ∃ b off, A = some ⟨b, off, none⟩ ∧ ∀ (j : Nat) (u : Value), xs[j]? = some u → w.cell? ⟨b, off + j, none⟩ = some u := by
  obtain ⟨ad, e, hc⟩ := h hn
  obtain ⟨b, off, spot⟩ := ad
  have h0 := hc 0 _ (List.getElem?_eq_getElem hn)
  have hs : spot = none := by simpa [Addr.add] using World.cell?_spot h0
  subst hs
  refine ⟨b, off, e, fun j u hu => ?_⟩
  have := hc j u hu
  have hadd : (⟨b, off, none⟩ : Addr).add j = ⟨b, off + j, none⟩ := by unfold Addr.add; split <;> simp_all
  rwa [hadd] at this
/-- A list of segments, as cells. -/
def segs : List (Int × Int) → List Value
  | [] => []
  | s :: r => .int .i64 s.1 :: .int .i64 s.2 :: segs r
theorem segs_get (l : List (Int × Int)) : ∀ (k : Nat) (hk : k < l.length), (segs l)[2 * k]? = some (.int .i64 l[k].1) ∧ (segs l)[2 * k + 1]? = some (.int .i64 l[k].2) := by
  induction l with
  | nil => intro k hk; simp at hk
  | cons b r ih =>
    intro k hk
    cases k with
    | zero => exact ⟨rfl, rfl⟩
    | succ k => exact ih k (by simpa using hk)
theorem segs_len (l : List (Int × Int)) : (segs l).length = 2 * l.length := by
  induction l with
  | nil => rfl
  | cons b r ih => simp only [segs, List.length_cons, ih]; omega
theorem rd_segs {w : World} {A : Option Addr} {l : List (Int × Int)} (h : Rd w A (segs l)) {k : Nat} (hk : k < l.length) :
    ∃ b off, A = some ⟨b, off, none⟩ ∧ w.cell? ⟨b, off + k * 2, none⟩ = some (.int .i64 l[k].1) ∧ w.cell? ⟨b, off + k * 2 + 1, none⟩ = some (.int .i64 l[k].2) := by
  obtain ⟨b, off, e, hc⟩ := rd_at h (by rw [segs_len]; omega)
  obtain ⟨h1, h2⟩ := segs_get l k hk
  exact ⟨b, off, e, hc _ _ (by rw [Nat.mul_comm]; exact h1), by rw [Nat.add_assoc]; exact hc _ _ (by rw [Nat.mul_comm]; exact h2)⟩

/-- The first error of a list. -/
def firstErr : List (Int × Int) → Int
  | [] => 0
  | s :: r => if encE s.1 s.2 = 0 then firstErr r else encE s.1 s.2
/-- The bytes of the first k entries. -/
def pk (l : List (Int × Int)) (c t : Nat) : Nat → List UInt8
  | 0 => []
  | k + 1 => pk l c t k ++ entB (entN (encL (l.getD k (0, 0)).1 (l.getD k (0, 0)).2).toNat c t (k + 1 == l.length))
theorem pk_len (l : List (Int × Int)) (c t k : Nat) : (pk l c t k).length = 4 * k := by
  induction k with
  | zero => rfl
  | succ k ih => simp only [pk, List.length_append, ih, entB, List.length_cons, List.length_nil]; omega
def packErr (l : List (Int × Int)) (c t : Int) : Int := if c < 0 ∨ 7 < c ∨ t < 0 ∨ 255 < t then 2 else if 32 < l.length then 6 else firstErr l
def packR (l : List (Int × Int)) (c t : Int) : List UInt8 := if packErr l c t = 0 then pk l c.toNat t.toNat l.length else []

theorem enc_ok (k m : Int) (h : encE k m = 0) : ∃ L : Nat, encL k m = L ∧ L ≤ 67583 := by
  refine ⟨(encL k m).toNat, ?_, ?_⟩
  all_goals
    revert h
    unfold encE encL
    repeat' split
    all_goals omega

set_option maxHeartbeats 4000000 in
set_option maxRecDepth 100000 in
theorem pack_any (A : Option Addr) (n cap : Nat) (l : List (Int × Int)) (c t : Int) (w : World) (hr : Rd w A (segs l)) (hn : l.length = n) (hn2 : n ≤ 1000000) :
    Calls Try.prog 11 #[.slice A n cap, .int .i64 c, .int .i64 t] w fun e w' =>
      ∃ v, e = .returned (.tuple #[v, .int .i64 (packErr l c t)]) ∧ w'.ownsRow w.heap.size 5 1 v (packR l c t).length ((packR l c t).map u8v) ∧ Below w.heap.size w w' := by
  subst hn
  obtain ⟨E, hE⟩ : ∃ E, packErr l c t = E := ⟨_, rfl⟩
  obtain ⟨R, hR⟩ : ∃ R, packR l c t = R := ⟨_, rfl⟩
  rw [hE, hR]
  replace hE := Lib.hid hE
  replace hR := Lib.hid hR
  have hrange : (c < 0 ∨ 7 < c ∨ t < 0 ∨ 255 < t) → E = 2 ∧ R = [] := by
    intro h
    have h2 : packErr l c t = 2 := by unfold packErr; rw [if_pos h]
    refine ⟨hE.out.symm.trans h2, ?_⟩
    rw [← hR.out]; unfold packR; rw [h2]; rfl
  by_cases h1 : c < 0
  · obtain ⟨rfl, rfl⟩ := hrange (.inl h1)
    clear hE hR hrange
    go_enter Try.func11, Try.ntmps11
    go_wp2_with fail
    go_ret2
    exact ⟨_, rfl, World.ownsRow_nil _ _ _ _, Below.refl _ _⟩
  by_cases h2 : 7 < c
  · obtain ⟨rfl, rfl⟩ := hrange (.inr (.inl h2))
    clear hE hR hrange
    go_enter Try.func11, Try.ntmps11
    go_wp2_with fail
    go_ret2
    exact ⟨_, rfl, World.ownsRow_nil _ _ _ _, Below.refl _ _⟩
  by_cases h3 : t < 0
  · obtain ⟨rfl, rfl⟩ := hrange (.inr (.inr (.inl h3)))
    clear hE hR hrange
    go_enter Try.func11, Try.ntmps11
    go_wp2_with fail
    go_ret2
    exact ⟨_, rfl, World.ownsRow_nil _ _ _ _, Below.refl _ _⟩
  by_cases h4 : 255 < t
  · obtain ⟨rfl, rfl⟩ := hrange (.inr (.inr (.inr h4)))
    clear hE hR hrange
    go_enter Try.func11, Try.ntmps11
    go_wp2_with fail
    go_ret2
    exact ⟨_, rfl, World.ownsRow_nil _ _ _ _, Below.refl _ _⟩
  have hin : ¬ (c < 0 ∨ 7 < c ∨ t < 0 ∨ 255 < t) := by omega
  clear hrange
  by_cases h5 : 32 < l.length
  · have hp : packErr l c t = 6 := by unfold packErr; rw [if_neg hin, if_pos h5]
    obtain rfl : E = 6 := hE.out.symm.trans hp
    obtain rfl : R = [] := by rw [← hR.out]; unfold packR; rw [hp]; rfl
    clear hE hR hp hin
    go_enter Try.func11, Try.ntmps11
    go_wp2_with fail
    go_ret2
    exact ⟨_, rfl, World.ownsRow_nil _ _ _ _, Below.refl _ _⟩
  have hp : packErr l c t = firstErr l := by unfold packErr; rw [if_neg hin, if_neg h5]
  have hF : Hid (firstErr l = E) := hp.symm.trans hE.out
  have hR0 : Hid (E = 0 → R = pk l c.toNat t.toNat l.length) := fun h => by rw [← hR.out]; unfold packR; rw [hE.out, if_pos h]
  have hR1 : Hid (E ≠ 0 → R = []) := fun h => by rw [← hR.out]; unfold packR; rw [hE.out, if_neg h]
  clear hE hR hp hin
  obtain ⟨C, rfl⟩ : ∃ C : Nat, c = C := ⟨c.toNat, by omega⟩
  obtain ⟨T, rfl⟩ : ∃ T : Nat, t = T := ⟨t.toNat, by omega⟩
  rw [Int.toNat_natCast, Int.toNat_natCast] at hR0
  have S := (St.start w).read hr
  go_enter Try.func11, Try.ntmps11
  go_wp2_with fail
  go_loopw [8, 32] (fun v8 v32 wr => ∃ k : Nat, k ≤ l.length ∧ v32 = .int .i64 k ∧ wr.ownsRow w.heap.size 5 1 v8 (4 * k) ((pk l C T k).map u8v) ∧ Hid (firstErr (l.drop k) = E) ∧ St w wr [] [(A, segs l)]) (fun v8 v32 _ => l.length - (intOf v32).toNat)
  case atStart => exact ⟨0, by omega, rfl, World.ownsRow_nil _ _ _ _, hF, S⟩
  case round =>
    clear S
    obtain ⟨k, hk, rfl, hown, hfe, S⟩ := hrel
    by_cases hkn : k < l.length
    · obtain ⟨b, off, rfl, c0, c1⟩ := rd_segs (S.r 0 rfl) hkn
      obtain ⟨p, q, hpq⟩ : ∃ p q, l[k] = (p, q) := ⟨_, _, rfl⟩
      have hgd : l.getD k (0, 0) = (p, q) := by rw [List.getD_eq_getElem?_getD, List.getElem?_eq_getElem hkn, hpq]; rfl
      rw [hpq] at c0 c1
      have hdr : l.drop k = (p, q) :: l.drop (k + 1) := by rw [List.drop_eq_getElem_cons hkn, hpq]
      replace hgd := Lib.hid hgd
      replace hdr := Lib.hid hdr
      clear hpq
      have K := fun W => encode_any p q W
      obtain ⟨e, he⟩ : ∃ e, encE p q = e := ⟨_, rfl⟩
      obtain ⟨L, hL⟩ : ∃ L, encL p q = L := ⟨_, rfl⟩
      rw [he, hL] at K
      replace K := Lib.hid K
      have hE2 : Hid (E = if e = 0 then firstErr (l.drop (k + 1)) else e) := by rw [← hfe.out, hdr.out]; show firstErr (_ :: _) = _; rw [firstErr, he]
      have hok : Hid (e = 0 → ∃ N : Nat, L = N ∧ N ≤ 67583) := fun h => by rw [← hL]; exact enc_ok p q (he.trans h)
      have hgl : Hid (encL (l.getD k (0, 0)).1 (l.getD k (0, 0)).2 = L) := by rw [hgd.out]; exact hL
      clear he hL hfe
      go_wp2_with fail
      (with_reducible refine (K.out _).mono ?_)
      rintro e' w1 ⟨rfl, hb⟩
      replace S := (S.alloc _).call hb
      replace hown := own_below (own_below hown (below_new' _ _)) hb
      clear c0 c1 hb
      by_cases hz : e = 0
      · subst hz
        obtain ⟨N, rfl, hN⟩ := hok.out rfl
        have hE3 : Hid (firstErr (l.drop (k + 1)) = E) := hE2.out.symm
        have hbq : Hid (((k : Int) == (l.length : Int) - 1) = (k + 1 == l.length)) := by
          show _ = _
          rw [Bool.eq_iff_iff]; simp only [beq_iff_eq]; omega
        have X := entry_any N C T (k + 1 == l.length) hN (by omega) (by omega) w1
        rw [← hbq.out] at X
        replace X := Lib.hid X
        clear hE2 hok
        go_wp2_with fail
        (with_reducible refine X.out.mono ?_)
        rintro e' w2 ⟨v, rfl, hown2, hb2⟩
        clear X
        replace S := S.call hb2
        replace hown := own_below hown hb2
        obtain ⟨A2, c2, rfl, rd2, _, _⟩ := own_rd hown2
        have hsz := S.b.size
        have hpk : Hid ((pk l C T k).map u8v ++ (entB (entN N C T ((k : Int) == (l.length : Int) - 1))).map u8v = (pk l C T (k + 1)).map u8v) := by
          rw [hbq.out, ← List.map_append]; show _ = List.map u8v (pk l C T k ++ _); rw [hgl.out, Int.toNat_natCast]
        have hsz := S.b.size
        clear hb2 hown2
        go_wp2_with (at_builtin; refine wpList_app rfl bytesT (.tmp 45) (.tmp 54) rfl w.heap.size rfl hown rfl (by simp [entB]) rd2 (u8v_one _) (by simp only [maxLen]; omega) (by omega) hsz (4 * (k + 1)) ((pk l C T (k + 1)).map u8v) (by omega) hpk.out ?_; intro v3 w3 hown3 hbel3)
        replace S : St w w3 [] [(some ⟨b, off, none⟩, segs l)] := ⟨S.b.trans hbel3, by simp, S.rd⟩
        clear hown hbel3 rd2
        go_roundw
        case rel => exact ⟨k + 1, hkn, by go_num, hown3, hE3, S⟩
        case measure => simp [intOf]; omega
      · obtain rfl : E = e := by rw [hE2.out, if_neg hz]
        obtain rfl := hR1.out hz
        have hne : (E != 0) = true := by simpa using hz
        clear hE2 hok
        go_wp2_with fail
        go_ret2
        exact ⟨_, rfl, World.ownsRow_nil _ _ _ _, S.b⟩
    · obtain rfl : k = l.length := by omega
      obtain rfl : E = 0 := by rw [← hfe.out, List.drop_length]; rfl
      obtain rfl := hR0.out rfl
      go_wp2_with fail
      go_ret2
      refine ⟨_, rfl, ?_, S.b⟩
      rw [pk_len]
      exact hown

end Go.Proofs.Ytchppfgoaeddlaa
