/-
  The contracts of labels.Unpack, of bytes.Equal.
-/
import Derived.Test.YtchppfgoaeddlaaLabRPack
namespace Go.Proofs.Ytchppfgoaeddlaa
set_option linter.unusedVariables false
open Go.RowKit

theorem equal_any (A B : Option Addr) (n m cap cap2 : Nat) (xs bs : List UInt8) (w : World) (ha : Bs w A xs) (hb : Bs w B bs) (hn : xs.length = n) (hm : bs.length = m) (r : Bool) (hr : (xs == bs) = r) :
    Calls Try.prog 27 #[.slice A n cap, .slice B m cap2] w fun e w' => e = .returned (.bool r) ∧ w = w' := by
  have cv := conv_bytes (P := Try.prog) w (src := 24) (dst := 9) (e := 5) Try.underlying24 Try.underlying5 Try.underlying9 (cap := cap) ha hn
  have cv2 := conv_bytes (P := Try.prog) w (src := 24) (dst := 9) (e := 5) Try.underlying24 Try.underlying5 Try.underlying9 (cap := cap2) hb hm
  have he : ((⟨xs.toArray⟩ : ByteArray).toList == (⟨bs.toArray⟩ : ByteArray).toList) = r := by
    rw [ByteArray.toList_mk, ByteArray.toList_mk, hr]
  obtain ⟨x, hx⟩ : ∃ x : ByteArray, ⟨xs.toArray⟩ = x := ⟨_, rfl⟩
  obtain ⟨y, hy⟩ : ∃ x : ByteArray, ⟨bs.toArray⟩ = x := ⟨_, rfl⟩
  rw [hx] at cv he
  rw [hy] at cv2 he
  clear hx hy hr
  go_enter Try.func27, Try.ntmps27
  go_wp2_with fail
  go_ret
  exact ⟨rfl, rfl⟩

/-- The number of the entry at byte i, its parts. -/
def at8 (bs : List UInt8) (i : Nat) : Nat := (bs.getD i 0).toNat
def numI (bs : List UInt8) (i : Nat) : Nat := ((at8 bs i * 256 + at8 bs (i + 1)) * 256 + at8 bs (i + 2)) * 256 + at8 bs (i + 3)
def labI (bs : List UInt8) (i : Nat) : Nat := numI bs i / 4096
def clsI (bs : List UInt8) (i : Nat) : Nat := numI bs i / 512 % 8
def ttlI (bs : List UInt8) (i : Nat) : Nat := numI bs i % 256
def segI (bs : List UInt8) (i : Nat) : Int × Int := (decK (labI bs i), decN (labI bs i))
def unpL (bs : List UInt8) (k : Nat) : List (Int × Int) := (List.range k).map fun j => segI bs (4 * j)
theorem unpL_succ (bs : List UInt8) (k : Nat) : unpL bs (k + 1) = unpL bs k ++ [segI bs (4 * k)] := by simp [unpL, List.range_succ]
theorem unpL_len (bs : List UInt8) (k : Nat) : (unpL bs k).length = k := by simp [unpL]
theorem segs_append (a b : List (Int × Int)) : segs (a ++ b) = segs a ++ segs b := by
  induction a with
  | nil => rfl
  | cons x r ih => simp [segs, ih]
theorem segs_one (a : List (Int × Int)) : ∀ u ∈ segs a, u.oneCell' = true := by
  induction a with
  | nil => simp [segs]
  | cons x r ih =>
    intro u hu
    simp only [segs, List.mem_cons] at hu
    rcases hu with rfl | rfl | hu
    · rfl
    · rfl
    · exact ih u hu
/-- Every label of the first k is known. -/
def known (bs : List UInt8) (k : Nat) : Bool := (List.range k).all fun j => decE (labI bs (4 * j)) == 0
/-- Whether the bytes are the stack of a list. -/
def good (bs : List UInt8) : Bool := bs.length % 4 == 0 && decide (bs.length ≤ 128) && known bs (bs.length / 4) &&
  (bs.length == 0 || packR (unpL bs (bs.length / 4)) (clsI bs 0) (ttlI bs 0) == bs)
def unL (bs : List UInt8) : List (Int × Int) := if good bs = true then unpL bs (bs.length / 4) else []
def unC (bs : List UInt8) : Int := if good bs = true ∧ bs ≠ [] then clsI bs 0 else 0
def unT (bs : List UInt8) : Int := if good bs = true ∧ bs ≠ [] then ttlI bs 0 else 0
def unE (bs : List UInt8) : Int := if good bs = true then 0 else 4

theorem segT : ElemT Try.prog 22 30 (.agg #[.int .i64 0, .int .i64 0]) 2 16 := ⟨Try.underlying22, by kernel_rfl, rfl, by omega⟩

theorem enc_dec (l : Int) (h : decE l = 0) : encE (decK l) (decN l) = 0 ∧ encL (decK l) (decN l) = l := by
  by_cases h1 : 16 ≤ l ∧ l ≤ 79
  · rw [show decK l = 1 by simp only [decK, if_pos h1], show decN l = l - 16 by simp only [decN, if_pos h1]]
    unfold encE encL
    refine ⟨?_, ?_⟩
    all_goals (repeat' split)
    all_goals omega
  by_cases h2 : 128 ≤ l ∧ l ≤ 639
  · rw [show decK l = 2 by simp only [decK, if_neg h1, if_pos h2], show decN l = l - 128 by simp only [decN, if_neg h1, if_pos h2]]
    unfold encE encL
    refine ⟨?_, ?_⟩
    all_goals (repeat' split)
    all_goals omega
  by_cases h3 : 1025 ≤ l ∧ l ≤ 1088
  · rw [show decK l = 3 by simp only [decK, if_neg h1, if_neg h2, if_pos h3], show decN l = l - 1024 by simp only [decN, if_neg h1, if_neg h2, if_pos h3]]
    unfold encE encL
    refine ⟨?_, ?_⟩
    all_goals (repeat' split)
    all_goals omega
  by_cases h4 : 2048 ≤ l ∧ l ≤ 67583
  · rw [show decK l = 4 by simp only [decK, if_neg h1, if_neg h2, if_neg h3, if_pos h4], show decN l = l - 2048 by simp only [decN, if_neg h1, if_neg h2, if_neg h3, if_pos h4]]
    unfold encE encL
    refine ⟨?_, ?_⟩
    all_goals (repeat' split)
    all_goals omega
  exfalso
  revert h
  simp only [decE, if_neg h1, if_neg h2, if_neg h3, if_neg h4]
  omega

theorem firstErr_known (bs : List UInt8) (k : Nat) (h : known bs k = true) : firstErr (unpL bs k) = 0 := by
  have : ∀ l : List (Int × Int), (∀ s ∈ l, encE s.1 s.2 = 0) → firstErr l = 0 := by
    intro l
    induction l with
    | nil => intro _; rfl
    | cons s r ih => intro hs; rw [firstErr, if_pos (hs s (by simp))]; exact ih fun x hx => hs x (by simp [hx])
  apply this
  intro s hs
  simp only [unpL, List.mem_map, List.mem_range] at hs
  obtain ⟨j, hj, rfl⟩ := hs
  have := List.all_eq_true.1 h j (List.mem_range.2 hj)
  exact (enc_dec _ (by simpa using this)).1

/-- The cells of the entry at byte i. -/
theorem rd_entry {w : World} {A : Option Addr} {bs : List UInt8} (h : Rd w A (bs.map u8v)) {i : Nat} (hi : i + 3 < bs.length) :
    ∃ b off, A = some ⟨b, off, none⟩ ∧ w.cell? ⟨b, off + i, none⟩ = some (.int .u8 (at8 bs i)) ∧ w.cell? ⟨b, off + (i + 1), none⟩ = some (.int .u8 (at8 bs (i + 1))) ∧
      w.cell? ⟨b, off + (i + 2), none⟩ = some (.int .u8 (at8 bs (i + 2))) ∧ w.cell? ⟨b, off + (i + 3), none⟩ = some (.int .u8 (at8 bs (i + 3))) := by
  obtain ⟨b, off, e, hc⟩ := rd_at h (by rw [List.length_map]; omega)
  have g : ∀ j, j < bs.length → w.cell? ⟨b, off + j, none⟩ = some (.int .u8 (at8 bs j)) := fun j hj =>
    hc j _ (by rw [List.getElem?_map, List.getElem?_eq_getElem hj]; simp [u8v, at8, List.getD_eq_getElem?_getD, List.getElem?_eq_getElem hj])
  exact ⟨b, off, e, g _ (by omega), g _ (by omega), g _ (by omega), g _ (by omega)⟩
theorem at8_lt (bs : List UInt8) (i : Nat) : at8 bs i < 256 := UInt8.toNat_lt _
/-- The label as the code reads it. -/
theorem lab_or (a b c : Nat) (hb : b < 256) (ha : a < 256) (hc : c < 256) : bits .or .i64 ((a : Int) * 4096) ((b : Int) * 16) = (a : Int) * 4096 + b * 16 ∧
    bits .or .i64 ((a : Int) * 4096 + b * 16) ((c : Int) / 16) = (a : Int) * 4096 + b * 16 + (c : Int) / 16 := by
  refine ⟨?_, ?_⟩
  · rw [or_add 12 a (b * 16) _ _ (by omega) (by omega) (by omega) (by omega)]; omega
  · rw [or_add 4 (a * 256 + b) (c / 16) _ _ (by omega) (by omega) (by omega) (by omega)]; omega
theorem lab_eq (bs : List UInt8) (i : Nat) : ((labI bs i : Nat) : Int) = (at8 bs i : Int) * 4096 + at8 bs (i + 1) * 16 + (at8 bs (i + 2) : Int) / 16 := by
  have h1 := at8_lt bs (i + 2)
  have h2 := at8_lt bs (i + 3)
  unfold labI numI
  omega

theorem and7 (x : Nat) (h : x < 256) : bits .and .u8 ((x : Int) / 2) 7 = ((x : Int) / 2) % 8 := by
  have : ∀ y : Fin 256, bits .and .u8 ((y.val : Int) / 2) 7 = ((y.val : Int) / 2) % 8 := by decide +kernel
  exact this ⟨x, h⟩
theorem cls_eq (bs : List UInt8) : ((clsI bs 0 : Nat) : Int) = ((at8 bs 2 : Int) / 2) % 8 := by
  have h2 := at8_lt bs 3
  unfold clsI numI
  simp only [Nat.zero_add]
  omega
theorem ttl_eq (bs : List UInt8) : ((ttlI bs 0 : Nat) : Int) = (at8 bs 3 : Int) := by
  have h2 := at8_lt bs 3
  unfold ttlI numI
  simp only [Nat.zero_add]
  omega

set_option maxHeartbeats 4000000 in
set_option maxRecDepth 100000 in
theorem unpack_any (A : Option Addr) (n cap : Nat) (bs : List UInt8) (w : World) (hr : Bs w A bs) (hn : bs.length = n) (hn2 : n ≤ 1000000) :
    Calls Try.prog 17 #[.slice A n cap] w fun e w' =>
      ∃ v, e = .returned (.tuple #[v, .int .i64 (unC bs), .int .i64 (unT bs), .int .i64 (unE bs)]) ∧ w'.ownsRow w.heap.size 30 2 v (unL bs).length (segs (unL bs)) ∧ Below w.heap.size w w' := by
  have bad : good bs = false → unC bs = 0 ∧ unT bs = 0 ∧ unE bs = 4 ∧ unL bs = [] := by
    intro h; simp [unC, unT, unE, unL, h]
  obtain ⟨L, hL⟩ : ∃ x, unL bs = x := ⟨_, rfl⟩
  obtain ⟨C, hC⟩ : ∃ x, unC bs = x := ⟨_, rfl⟩
  obtain ⟨T, hT⟩ : ∃ x, unT bs = x := ⟨_, rfl⟩
  obtain ⟨E, hE⟩ : ∃ x, unE bs = x := ⟨_, rfl⟩
  rw [hL, hC, hT, hE]
  rw [hL, hC, hT, hE] at bad
  replace hn := Lib.hid hn
  replace bad := Lib.hid bad
  replace hL := Lib.hid hL
  replace hC := Lib.hid hC
  replace hT := Lib.hid hT
  replace hE := Lib.hid hE
  have S := (St.start w).read hr
  by_cases h1 : n % 4 ≠ 0
  · obtain ⟨rfl, rfl, rfl, rfl⟩ := bad.out (by unfold good; rw [hn.out, show (n % 4 == 0) = false by simpa using h1]; rfl)
    have h1' : ((n : Int) % 4 != 0) = true := by simp; omega
    clear hn bad hL hC hT hE
    go_enter Try.func17, Try.ntmps17
    go_wp2_with fail
    exact bodyPost_ret (v := .tuple #[.slice none 0 0, .int .i64 0, .int .i64 0, .int .i64 4]) (by simp [results, Try.results17, go_sem]) rfl ⟨_, rfl, World.ownsRow_nil _ _ _ _, Below.refl _ _⟩
  replace h1 : n % 4 = 0 := by omega
  have h1' : ((n : Int) % 4 != 0) = false := by simp; omega
  by_cases h2 : ¬ n ≤ 128
  · obtain ⟨rfl, rfl, rfl, rfl⟩ := bad.out (by unfold good; rw [hn.out, show decide (n ≤ 128) = false by simpa using h2]; simp)
    clear hn bad hL hC hT hE
    go_enter Try.func17, Try.ntmps17
    go_wp2_with fail
    exact bodyPost_ret (v := .tuple #[.slice none 0 0, .int .i64 0, .int .i64 0, .int .i64 4]) (by simp [results, Try.results17, go_sem]) rfl ⟨_, rfl, World.ownsRow_nil _ _ _ _, Below.refl _ _⟩
  replace h2 : n ≤ 128 := by omega
  by_cases h3 : n = 0
  · subst h3
    obtain rfl : bs = [] := List.eq_nil_of_length_eq_zero hn.out
    obtain rfl : L = [] := hL.out.symm.trans (by decide +kernel)
    obtain rfl : C = 0 := hC.out.symm.trans (by decide +kernel)
    obtain rfl : T = 0 := hT.out.symm.trans (by decide +kernel)
    obtain rfl : E = 0 := hE.out.symm.trans (by decide +kernel)
    clear hn bad hL hC hT hE
    go_enter Try.func17, Try.ntmps17
    go_wp2_with fail
    exact bodyPost_ret (v := .tuple #[.slice none 0 0, .int .i64 0, .int .i64 0, .int .i64 0]) (by simp [results, Try.results17, go_sem]) rfl ⟨_, rfl, World.ownsRow_nil _ _ _ _, Below.refl _ _⟩
  have h3' : ((n : Int) == 0) = false := by simp; omega
  clear hr
  go_enter Try.func17, Try.ntmps17
  go_wp2_with fail
  go_loopw [6, 7] (fun v6 v7 wr => ∃ k i : Nat, i ≤ n ∧ v7 = .int .i64 i ∧ Hid (i = 4 * k) ∧ wr.ownsRow w.heap.size 30 2 v6 k (segs (unpL bs k)) ∧ Hid (known bs k = true) ∧ St w wr [] [(A, bs.map u8v)]) (fun v6 v7 _ => n - (intOf v7).toNat)
  case atStart => exact ⟨0, 0, by omega, rfl, rfl, World.ownsRow_nil _ _ _ _, rfl, S⟩
  case round =>
    clear S
    obtain ⟨k, i, hi, rfl, hk, hown, hkn, S⟩ := hrel
    by_cases hin : i < n
    · have hi3 : i + 3 < bs.length := by have := hk.out; have := hn.out; omega
      obtain ⟨b, off, rfl, c0, c1, c2, c3⟩ := rd_entry (S.r 0 rfl) hi3
      clear c3
      have l1 := lab_eq bs i
      have l0 := at8_lt bs i
      have l2 := at8_lt bs (i + 1)
      have l3 := at8_lt bs (i + 2)
      rw [hn.out] at hi3
      obtain ⟨x0, e0⟩ : ∃ x, at8 bs i = x := ⟨_, rfl⟩
      obtain ⟨x1, e1⟩ : ∃ x, at8 bs (i + 1) = x := ⟨_, rfl⟩
      obtain ⟨x2, e2⟩ : ∃ x, at8 bs (i + 2) = x := ⟨_, rfl⟩
      rw [e0] at c0 l0 l1
      rw [e1] at c1 l2 l1
      rw [e2] at c2 l3 l1
      clear e0 e1 e2
      obtain ⟨o1, o2⟩ := lab_or x0 x1 x2 l2 l0 l3
      replace l1 := Lib.hid l1
      go_wp2_with fail
      go_region
      clear c0 c1 c2 o1 o2
      rw [← l1.out]
      clear l1 l0 l2 l3
      replace S := S.drew
      replace hown : wr.drew.ownsRow w.heap.size 30 2 u6 k (segs (unpL bs k)) := hown
      obtain ⟨lb, hlb⟩ : ∃ x, labI bs i = x := ⟨_, rfl⟩
      have D := fun W => decode_any lb W
      obtain ⟨p, hp⟩ : ∃ x, decK lb = x := ⟨_, rfl⟩
      obtain ⟨q, hq⟩ : ∃ x, decN lb = x := ⟨_, rfl⟩
      obtain ⟨e, he⟩ : ∃ x, decE lb = x := ⟨_, rfl⟩
      rw [hp, hq, he] at D
      rw [hlb]
      have hL1 : Hid (unpL bs (k + 1) = unpL bs k ++ [(p, q)]) := by
        show _ = _
        rw [unpL_succ, ← hk.out]; simp only [segI, hlb, hp, hq]
      have hK1 : Hid (known bs (k + 1) = (e == 0)) := by
        show _ = _
        have := hkn.out
        unfold known at this ⊢
        rw [List.range_succ, List.all_append, this]
        simp only [Bool.true_and, List.all_cons, List.all_nil, Bool.and_true]
        rw [← hk.out, hlb, he]
      have hK2 : Hid (e ≠ 0 → good bs = false) := by
        intro hne
        have hkn1 : known bs (n / 4) = false := by
          unfold known
          rw [List.all_eq_false]
          refine ⟨k, List.mem_range.2 (by have := hk.out; omega), ?_⟩
          rw [← hk.out, hlb, he]
          simpa using hne
        unfold good
        rw [hn.out, hkn1]; simp
      replace D := Lib.hid D
      clear hp hq he hlb hkn
      go_wp2_with fail
      (with_reducible refine (D.out _).mono ?_)
      rintro e' w1 ⟨rfl, hb⟩
      replace S := (S.call hb).new' #[.int .i64 p, .int .i64 q] 30 w1.heap.size [.int .i64 p, .int .i64 q] rfl rfl
      replace hown := own_below (own_below hown hb) (below_new' w1 (.cells #[.int .i64 p, .int .i64 q] 30))
      clear hb D
      by_cases hz : e = 0
      · subst hz
        have g0 := S.c 0 0 rfl rfl
        have g1 := S.c 0 1 rfl rfl
        have hsz := S.b.size
        have hX := (own_below hown (below_new' _ (.cells #[.int .i64 p, .int .i64 q] 30)))
        have hY : Rd ((w1.alloc (.cells #[.int .i64 p, .int .i64 q] 30)).alloc (.cells #[.int .i64 p, .int .i64 q] 30)) (some ⟨w1.heap.size + 1, 0, none⟩) [.int .i64 p, .int .i64 q] := by
          have := Rd.lit (w1.alloc (.cells #[.int .i64 p, .int .i64 q] 30)) #[.int .i64 p, .int .i64 q] 30
          simpa using this
        have hk32 : k + 1 ≤ 33 := by have := hk.out; omega
        have hsz2 := (S.b.alloc S.b.size (.cells #[.int .i64 p, .int .i64 q] 30)).size
        go_wp2_with (at_builtin; refine wpList_app rfl segT (.tmp 62) (.tmp 64) rfl w.heap.size rfl hX rfl (m := 1) (news := [.int .i64 p, .int .i64 q]) rfl hY (segs_one [(p, q)]) (by simp only [maxLen]; omega) (by omega) hsz2 (k + 1) (segs (unpL bs (k + 1))) rfl (by rw [hL1.out, segs_append]; rfl) ?_; intro v3 w3 hown3 hbel3)
        replace S : St w w3 [] [(some ⟨b, off, none⟩, bs.map u8v)] := ⟨(S.b.alloc S.b.size _).trans hbel3, by simp, S.rd⟩
        clear hown hbel3 g0 g1 hX hY hsz2
        go_roundw
        case rel => exact ⟨k + 1, i + 4, by have := hk.out; omega, by go_num, by show _ = _; rw [hk.out]; omega, hown3, hK1.out.trans rfl, S⟩
        case measure => simp [intOf]; omega
      · obtain ⟨rfl, rfl, rfl, rfl⟩ := bad.out (hK2.out hz)
        have hz' : (e != 0) = true := by simpa using hz
        go_wp2_with fail
        exact bodyPost_ret (v := .tuple #[.slice none 0 0, .int .i64 0, .int .i64 0, .int .i64 4]) (by simp [results, Try.results17, go_sem]) rfl ⟨_, rfl, World.ownsRow_nil _ _ _ _, S.b⟩
    · obtain rfl : i = n := by omega
      have hk4 : Hid (i / 4 = k) := by have := hk.out; show _ = _; omega
      have hi3 : 0 + 3 < bs.length := by have := hn.out; omega
      obtain ⟨b, off, rfl, c0, c1, c2, c3⟩ := rd_entry (S.r 0 rfl) hi3
      clear c0 c1 hi3
      replace c2 : wr.cell? ⟨b, off + 2, none⟩ = some (.int .u8 (at8 bs 2)) := c2
      replace c3 : wr.cell? ⟨b, off + 3, none⟩ = some (.int .u8 (at8 bs 3)) := c3
      have a1 := and7 (at8 bs 2) (at8_lt bs 2)
      have a2 := cls_eq bs
      have a3 := ttl_eq bs
      have l2 := at8_lt bs 2
      have l3 := at8_lt bs 3
      obtain ⟨x2, e2⟩ : ∃ x, at8 bs 2 = x := ⟨_, rfl⟩
      obtain ⟨x3, e3⟩ : ∃ x, at8 bs 3 = x := ⟨_, rfl⟩
      rw [e2] at c2 a1 a2 l2
      rw [e3] at c3 a3 l3
      clear e2 e3
      have hkz : 0 < k := by have := hk.out; omega
      have hk32 : k ≤ 32 := by have := hk.out; omega
      obtain ⟨g6, c6, rfl, hg6, hg6b, hown6⟩ := own_form hown hkz
      obtain ⟨A', c', hA', rd6, _, _⟩ := own_rd hown6
      obtain ⟨rfl, rfl⟩ : some ⟨g6, 0, none⟩ = A' ∧ c6 = c' := by simpa using hA'
      clear hA' hown
      have cl7 : clsI bs 0 < 8 := Nat.mod_lt _ (by omega)
      have tl7 : ttlI bs 0 < 256 := Nat.mod_lt _ (by omega)
      have hpe : packErr (unpL bs k) (clsI bs 0) (ttlI bs 0) = 0 := by
        unfold packErr
        rw [if_neg (by omega), if_neg (by rw [unpL_len]; omega)]
        exact firstErr_known bs k hkn.out
      have P := fun W hR => pack_any (some ⟨g6, 0, none⟩) k c6 (unpL bs k) (clsI bs 0) (ttlI bs 0) W hR (unpL_len bs k) (by omega)
      rw [hpe] at P
      obtain ⟨R, hR⟩ : ∃ x, packR (unpL bs k) (clsI bs 0) (ttlI bs 0) = x := ⟨_, rfl⟩
      obtain ⟨m, hm⟩ : ∃ m, R.length = m := ⟨_, rfl⟩
      rw [hR, hm] at P
      obtain ⟨r, hr⟩ : ∃ r, (R == bs) = r := ⟨_, rfl⟩
      have hgood : good bs = r := by
        unfold good
        rw [hn.out, hk4.out, hkn.out, hR, hr, show (i % 4 == 0) = true by simpa using h1, show decide (i ≤ 128) = true by simpa using h2, show (i == 0) = false by simpa using h3]
        rfl
      have hLL : Hid (r = true → L = unpL bs k ∧ C = clsI bs 0 ∧ T = ttlI bs 0 ∧ E = 0) := by
        intro h
        have hne : bs ≠ [] := by rintro rfl; have := hn.out; simp at this; omega
        have hg : good bs = true := hgood.trans h
        refine ⟨?_, ?_, ?_, ?_⟩
        · rw [← hL.out]; unfold unL; rw [if_pos hg, hn.out, hk4.out]
        · rw [← hC.out]; unfold unC; rw [if_pos ⟨hg, hne⟩]
        · rw [← hT.out]; unfold unT; rw [if_pos ⟨hg, hne⟩]
        · rw [← hE.out]; unfold unE; rw [if_pos hg]
      rw [hgood] at bad
      replace bad := Lib.hid bad
      have EQ := fun A' B' cap2 W => equal_any A' B' m i cap2 cap R bs W
      replace EQ := Lib.hid EQ
      replace P := Lib.hid P
      replace hm := Lib.hid hm
      replace hr := Lib.hid hr
      have UL := Lib.hid (unpL_len bs k)
      obtain ⟨c, hc⟩ : ∃ x, clsI bs 0 = x := ⟨_, rfl⟩
      obtain ⟨t, ht⟩ : ∃ x, ttlI bs 0 = x := ⟨_, rfl⟩
      rw [hc] at a2 P cl7 hLL
      rw [ht] at a3 P tl7 hLL
      clear hpe hgood hL hC hT hE hc ht hkn hR
      replace a2 := Lib.hid a2
      replace a3 := Lib.hid a3
      clear cl7 tl7
      go_wp2_with fail
      go_region
      rw [← a2.out, ← a3.out]
      clear c2 c3 a1 l2 l3 a2 a3
      replace S := S.drew
      replace hown6 : wr.drew.ownsRow w.heap.size 30 2 (.slice (some ⟨g6, 0, none⟩) k c6) k (segs (unpL bs k)) := hown6
      replace rd6 : Rd wr.drew (some ⟨g6, 0, none⟩) (segs (unpL bs k)) := rd6
      go_wp2_with fail
      (with_reducible refine (P.out _ rd6).mono ?_)
      rintro e w1 ⟨v, rfl, hown7, hb⟩
      replace S := S.call hb
      replace hown6 := own_below hown6 hb
      clear hb P rd6
      obtain ⟨A7, c7, rfl, rd7, _, _⟩ := own_rd hown7
      go_wp2_with fail
      (with_reducible refine (EQ.out _ _ _ _ rd7 (S.r 0 rfl) hm.out hn.out r hr.out).mono ?_)
      rintro e w2 ⟨rfl, rfl⟩
      clear EQ
      cases r
      · obtain ⟨rfl, rfl, rfl, rfl⟩ := bad.out rfl
        go_wp2_with fail
        exact bodyPost_ret (v := .tuple #[.slice none 0 0, .int .i64 0, .int .i64 0, .int .i64 4]) (by simp [results, Try.results17, go_sem]) rfl ⟨_, rfl, World.ownsRow_nil _ _ _ _, S.b⟩
      · obtain ⟨rfl, rfl, rfl, rfl⟩ := hLL.out rfl
        go_wp2_with fail
        exact bodyPost_ret (v := .tuple #[.slice (some ⟨g6, 0, none⟩) k c6, .int .i64 c, .int .i64 t, .int .i64 0]) (by simp [results, Try.results17, go_sem]) rfl ⟨_, rfl, by rw [UL.out]; exact hown6, S.b⟩

end Go.Proofs.Ytchppfgoaeddlaa
