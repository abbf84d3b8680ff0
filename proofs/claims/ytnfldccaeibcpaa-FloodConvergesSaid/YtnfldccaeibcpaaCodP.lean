/-
  Plain: numbers as bytes; lists of records and their encoding; no program is named.
-/
import Derived.Test.YtnfldccaeibcpaaMem
namespace Go.Proofs.Ytnfldccaeibcpaa
set_option linter.unusedVariables false
open Go.RowKit

/-! ### Numbers -/
/-- The last k bytes of a number, the greatest first. -/
def numB (n : Nat) : Nat → List UInt8
  | 0 => []
  | k + 1 => UInt8.ofNat (n / 256 ^ k) :: numB n k
theorem numB_len (n k : Nat) : (numB n k).length = k := by
  induction k with
  | zero => rfl
  | succ k ih => rw [numB, List.length_cons, ih]
theorem numB_get (n k : Nat) : ∀ j (h : j < (numB n k).length), (numB n k)[j] = UInt8.ofNat (n / 256 ^ (k - 1 - j)) := by
  induction k with
  | zero => intro j h; simp [numB] at h
  | succ k ih =>
    intro j h
    cases j with
    | zero => simp [numB]
    | succ j => simp only [numB, List.getElem_cons_succ]; rw [ih]; congr 3; omega
theorem numB_take (n k j : Nat) (h : j < k) : (numB n k).take (j + 1) = (numB n k).take j ++ [UInt8.ofNat (n / 256 ^ (k - 1 - j))] := by
  rw [List.take_succ_eq_append_getElem (by rw [numB_len]; exact h), numB_get]
/-- The number that bytes are. -/
def uintB (bs : List UInt8) : Nat := bs.foldl (fun a b => a * 256 + b.toNat) 0
theorem uintB_snoc (bs : List UInt8) (b : UInt8) : uintB (bs ++ [b]) = uintB bs * 256 + b.toNat := by simp [uintB]
theorem uintB_lt (bs : List UInt8) : uintB bs < 256 ^ bs.length := by
  have h : ∀ k, k ≤ bs.length → uintB (bs.take k) < 256 ^ k := by
    intro k
    induction k with
    | zero => intro _; simp [uintB]
    | succ k ih =>
      intro hk
      have := ih (by omega)
      rw [List.take_succ_eq_append_getElem (by omega), uintB_snoc, Nat.pow_succ]
      have hb := UInt8.toNat_lt bs[k]
      omega
  have := h bs.length (Nat.le_refl _)
  rwa [List.take_length] at this
theorem foldl_numB (n k a : Nat) : (numB n k).foldl (fun a b => a * 256 + b.toNat) a = a * 256 ^ k + n % 256 ^ k := by
  induction k generalizing a with
  | zero => simp [numB, Nat.mod_one]
  | succ k ih =>
    rw [numB, List.foldl_cons, ih, UInt8.toNat_ofNat', show (2 : Nat) ^ 8 = 256 from rfl, Nat.pow_succ, Nat.mod_mul, Nat.add_mul]
    rw [show n / 256 ^ k % 256 * 256 ^ k = 256 ^ k * (n / 256 ^ k % 256) from Nat.mul_comm _ _, Nat.mul_assoc, Nat.mul_comm 256 (256 ^ k)]
    omega
theorem uint_num (n k : Nat) (h : n < 256 ^ k) : uintB (numB n k) = n := by
  unfold uintB
  rw [foldl_numB, Nat.mod_eq_of_lt h]; omega
theorem numB_mod (n k : Nat) : numB (n % 256 ^ k) k = numB n k := by
  have h : ∀ j, j ≤ k → numB (n % 256 ^ k) j = numB n j := by
    intro j
    induction j with
    | zero => intro _; rfl
    | succ j ih =>
      intro hj
      rw [numB, numB, ih (by omega)]
      congr 1
      have e : 256 ^ k = 256 ^ (j + 1) * 256 ^ (k - (j + 1)) := by rw [← Nat.pow_add]; congr 1; omega
      have : n % 256 ^ k / 256 ^ j % 256 = n / 256 ^ j % 256 := by
        rw [e, Nat.pow_succ, Nat.mul_assoc, Nat.mod_mul_right_div_self, Nat.mod_mul_right_mod]
      apply UInt8.toNat_inj.1
      rw [UInt8.toNat_ofNat', UInt8.toNat_ofNat']
      exact this
  exact h k (Nat.le_refl _)
theorem num_uint (bs : List UInt8) : numB (uintB bs) bs.length = bs := by
  have h : ∀ k, k ≤ bs.length → numB (uintB bs) k = bs.drop (bs.length - k) := by
    intro k
    induction k with
    | zero => intro _; simp [numB]
    | succ k ih =>
      intro hk
      rw [numB, ih (by omega), show bs.length - k = bs.length - (k + 1) + 1 by omega, ← List.getElem_cons_drop (show bs.length - (k + 1) < bs.length by omega)]
      congr 1
      have hs : bs = bs.take (bs.length - k) ++ bs.drop (bs.length - k) := (List.take_append_drop _ _).symm
      have hu : uintB bs = uintB (bs.take (bs.length - k)) * 256 ^ k + uintB (bs.drop (bs.length - k)) := by
        have gen : ∀ (x : List UInt8) (c : Nat), x.foldl (fun a b => a * 256 + b.toNat) c = c * 256 ^ x.length + uintB x := by
          intro x
          induction x with
          | nil => intro c; simp [uintB]
          | cons y x ihx =>
            intro c
            unfold uintB
            rw [List.foldl_cons, List.foldl_cons, ihx, ihx (0 * 256 + y.toNat), List.length_cons, Nat.pow_succ, Nat.add_mul, Nat.zero_mul, Nat.zero_add, Nat.mul_assoc, Nat.mul_comm 256]
            omega
        conv => lhs; rw [hs]
        unfold uintB
        rw [List.foldl_append, gen (bs.drop (bs.length - k)), List.length_drop, show bs.length - (bs.length - k) = k by omega]
        rfl
      have hl := uintB_lt (bs.drop (bs.length - k))
      rw [List.length_drop, show bs.length - (bs.length - k) = k by omega] at hl
      have hd : uintB bs / 256 ^ k = uintB (bs.take (bs.length - k)) := by
        rw [hu, Nat.mul_comm, Nat.mul_add_div (Nat.pow_pos (by omega)), Nat.div_eq_of_lt hl]; omega
      rw [hd, show bs.length - k = bs.length - (k + 1) + 1 by omega, List.take_succ_eq_append_getElem (by omega), uintB_snoc]
      apply UInt8.toNat_inj.1
      rw [UInt8.toNat_ofNat', show (2 : Nat) ^ 8 = 256 from rfl]
      have := UInt8.toNat_lt bs[bs.length - (k + 1)]
      omega
  have := h bs.length (Nat.le_refl _)
  rwa [Nat.sub_self, List.drop_zero] at this

theorem u8_wrap (n : Nat) : (.int .u8 (IntKind.wrap .u8 (n : Int)) : Value) = u8v (UInt8.ofNat n) := by
  unfold u8v
  rw [IntKind.wrap_u8]
  simp

theorem own_lit (w : World) (cs : Array Value) (e : TypeId) (n : Nat) (L : List Value) (hn : cs.size = n) (hm : n ≤ maxLen) (hL : cs.toList = L) :
    (w.alloc (.cells cs e)).ownsRow w.heap.size e 1 (.slice (some ⟨w.heap.size, 0, none⟩) n n) n L := by
  subst hL
  have := World.ownsRow_lit (base := w.heap.size) (e := e) (size := 1) w cs n (Nat.le_refl _) hm (by omega)
  simpa using this

theorem rd_at {w : World} {A : Option Addr} {xs : List Value} (h : Rd w A xs) (hn : 0 < xs.length) : ∃ b off, A = some ⟨b, off, none⟩ ∧ ∀ (j : Nat) (u : Value), xs[j]? = some u → w.cell? ⟨b, off + j, none⟩ = some u := by
  obtain ⟨ad, e, hc⟩ := h hn
  obtain ⟨b, off, spot⟩ := ad
  have h0 := hc 0 _ (List.getElem?_eq_getElem hn)
  have hs : spot = none := by simpa [Addr.add] using World.cell?_spot h0
  subst hs
  refine ⟨b, off, e, fun j u hu => ?_⟩
  have := hc j u hu
  have hadd : (⟨b, off, none⟩ : Addr).add j = ⟨b, off + j, none⟩ := by unfold Addr.add; split <;> simp_all
  rwa [hadd] at this

/-- A part of a slice: where it begins. -/
def subA (A : Option Addr) (lo c : Nat) : Option Addr := if c = lo then A else A.map (·.add lo)
theorem Rd.sub {w : World} {A : Option Addr} {xs : List Value} (h : Rd w A xs) (lo c : Nat) (hc : xs.length ≤ c) : Rd w (subA A lo c) (xs.drop lo) := by
  unfold subA
  split
  · rw [List.drop_eq_nil_of_le (by omega)]; exact Rd.nil _ _
  · exact h.drop lo
theorem run_sub {P : Program} {t e : TypeId} {z : Value} {bytes : Nat} (hE : ElemT P t e z 1 bytes) (A : Option Addr) (n c lo hi : Nat) (h1 : lo ≤ hi) (h2 : hi ≤ c) (W : World) :
    (Instr.slice t (.slice A n c) (some (.int .i64 (lo : Int))) (some (.int .i64 (hi : Int))) none).run P W = .ok (.slice (subA A lo c) (hi - lo) (c - lo)) W := by
  obtain ⟨i, hi', hz0, hz1, hz2⟩ := info_parts hE.info
  have hel : P.elem t = e := by simp [Program.elem, hE.under]
  rw [run_slice_lh W t A n c (by rw [hel]; exact hE.under) .i64 .i64 lo hi (by omega) (by omega) (by omega), hel]
  simp [sizeOf, typeInfo, hi', hz1, sliced, subA, Result.andThen]
theorem run_from {P : Program} {t e : TypeId} {z : Value} {bytes : Nat} (hE : ElemT P t e z 1 bytes) (A : Option Addr) (n c lo : Nat) (h1 : lo ≤ n) (W : World) :
    (Instr.slice t (.slice A n c) (some (.int .i64 (lo : Int))) none none).run P W = .ok (.slice (subA A lo c) (n - lo) (c - lo)) W := by
  obtain ⟨i, hi', hz0, hz1, hz2⟩ := info_parts hE.info
  have hel : P.elem t = e := by simp [Program.elem, hE.under]
  rw [run_slice_l W t A n c (by rw [hel]; exact hE.under) .i64 lo (by omega) (by omega), hel]
  simp [sizeOf, typeInfo, hi', hz1, sliced, subA, Result.andThen]

/-! ### Records -/
/-- A record as it lies in memory, and its bytes. -/
structure Rc where
  t : Int
  A : Option Addr
  n : Nat
  c : Nat
  bs : List UInt8
/-- The cells of a list of records. -/
def recV : List Rc → List Value
  | [] => []
  | r :: l => .int .i64 r.t :: .slice r.A r.n r.c :: recV l
theorem recV_len (l : List Rc) : (recV l).length = l.length * 2 := by
  induction l with
  | nil => rfl
  | cons r l ih => simp only [recV, List.length_cons, ih]; omega
theorem recV_append (a b : List Rc) : recV (a ++ b) = recV a ++ recV b := by
  induction a with
  | nil => rfl
  | cons r a ih => simp only [List.cons_append, recV, ih]
theorem recV_one (a : List Rc) : ∀ u ∈ recV a, u.oneCell' = true := by
  induction a with
  | nil => simp [recV]
  | cons r a ih =>
    intro u hu
    simp only [recV, List.mem_cons] at hu
    rcases hu with rfl | rfl | hu
    · rfl
    · rfl
    · exact ih u hu
theorem recV_get (l : List Rc) : ∀ (k : Nat) (hk : k < l.length), (recV l)[2 * k]? = some (.int .i64 l[k].t) ∧ (recV l)[2 * k + 1]? = some (.slice l[k].A l[k].n l[k].c) := by
  induction l with
  | nil => intro k hk; simp at hk
  | cons r l ih =>
    intro k hk
    cases k with
    | zero => exact ⟨rfl, rfl⟩
    | succ k =>
      obtain ⟨h1, h2⟩ := ih k (by simpa using hk)
      rw [show 2 * (k + 1) = 2 * k + 1 + 1 by omega]
      exact ⟨by simpa [recV] using h1, by simpa [recV] using h2⟩
theorem rd_recs {w : World} {A : Option Addr} {l : List Rc} (h : Rd w A (recV l)) {k : Nat} (hk : k < l.length) :
    ∃ b off, A = some ⟨b, off, none⟩ ∧ w.cell? ⟨b, off + k * 2, none⟩ = some (.int .i64 l[k].t) ∧ w.cell? ⟨b, off + k * 2 + 1, none⟩ = some (.slice l[k].A l[k].n l[k].c) := by
  obtain ⟨b, off, e, hc⟩ := rd_at h (by rw [recV_len]; omega)
  obtain ⟨h1, h2⟩ := recV_get l k hk
  exact ⟨b, off, e, hc _ _ (by rw [Nat.mul_comm]; exact h1), by rw [Nat.add_assoc]; exact hc _ _ (by rw [Nat.mul_comm]; exact h2)⟩
/-- The record's bytes lie where it says. -/
structure RcOk (w : World) (r : Rc) : Prop where
  rd : Bs w r.A r.bs
  len : r.bs.length = r.n
  nc : r.n ≤ r.c
  cm : r.c ≤ 9223372036854775807
theorem RcOk.below {w w' : World} {r : Rc} (h : RcOk w r) (hb : Below w.heap.size w w') : RcOk w' r := ⟨h.rd.below hb, h.len, h.nc, h.cm⟩
/-- The record's bytes lie in a block of the call's own. -/
def RcOwn (w : World) (base : Nat) (e : TypeId) (r : Rc) : Prop := w.ownsRow base e 1 (.slice r.A r.n r.c) r.n (r.bs.map u8v)
theorem RcOwn.ok {w : World} {base : Nat} {e : TypeId} {r : Rc} (h : RcOwn w base e r) : RcOk w r := by
  obtain ⟨A, c, hv, rd, h1, h2⟩ := own_rd h
  have hl := h.1
  rw [List.length_map, Nat.mul_one] at hl
  simp only [Value.slice.injEq, true_and] at hv
  obtain ⟨rfl, rfl⟩ := hv
  exact ⟨rd, hl, h1, h2⟩
theorem RcOwn.below {w w' : World} {base : Nat} {e : TypeId} {r : Rc} (h : RcOwn w base e r) (hb : Below w.heap.size w w') : RcOwn w' base e r := own_below h hb
theorem RcOwn.drewN {w : World} {base : Nat} {e : TypeId} {r : Rc} (h : RcOwn w base e r) (n : Nat) : RcOwn (w.drewN n) base e r := h
theorem RcOwn.mono {w : World} {base base' : Nat} {e : TypeId} {r : Rc} (h : RcOwn w base e r) (hb : base' ≤ base) : RcOwn w base' e r := own_mono h hb
theorem RcOwn.grown {w w' : World} {base : Nat} {e : TypeId} {r : Rc} (h : RcOwn w base e r) {b2 : Nat} {e2 : TypeId} {s2 : Nat} {v2 : Value} {n2 : Nat} {x2 : List Value} (h2 : w.ownsRow b2 e2 s2 v2 n2 x2) (hne : e ≠ e2) (hg : w.grownBy w' v2.ownBlock) : RcOwn w' base e r :=
  World.ownsRow.kept h hg (own_ne h h2 hne)
theorem RcOwn.set {w : World} {base : Nat} {e : TypeId} {r : Rc} (h : RcOwn w base e r) {a : Addr} (ha : a.block < base) (u : Value) : RcOwn (w.setCell a u) base e r := ownsRow_setCell_below h ha u
/-- What a record says. -/
abbrev Rec := Int × List UInt8
def dat (r : Rc) : Rec := (r.t, r.bs)

/-- The error of a list of records. -/
def encE : List Rec → Int
  | [] => 0
  | r :: l => if r.1 < 1 ∨ 255 < r.1 then 1 else if 65535 < r.2.length then 6 else encE l
/-- The bytes of one record; of all. -/
def enc1 (r : Rec) : List UInt8 := [UInt8.ofNat r.1.toNat, UInt8.ofNat (r.2.length / 256), UInt8.ofNat r.2.length] ++ r.2
def encAll : List Rec → List UInt8
  | [] => []
  | r :: l => enc1 r ++ encAll l
def encR (l : List Rec) : List UInt8 := if encE l = 0 then encAll l else []
theorem encAll_append (a b : List Rec) : encAll (a ++ b) = encAll a ++ encAll b := by
  induction a with
  | nil => rfl
  | cons r a ih => simp only [List.cons_append, encAll, ih, List.append_assoc]
theorem enc1_len (r : Rec) : (enc1 r).length = 3 + r.2.length := by simp [enc1]; omega
theorem encE_append (a b : List Rec) (h : encE a = 0) : encE (a ++ b) = encE b := by
  induction a with
  | nil => rfl
  | cons r a ih =>
    rw [List.cons_append, encE]
    rw [encE] at h
    split at h
    · omega
    · split at h
      · omega
      · rw [if_neg ‹_›, if_neg ‹_›]; exact ih h
theorem encE_mem (l : List Rec) (h : encE l = 0) : ∀ r ∈ l, 1 ≤ r.1 ∧ r.1 ≤ 255 ∧ r.2.length ≤ 65535 := by
  induction l with
  | nil => simp
  | cons r l ih =>
    rw [encE] at h
    split at h
    · omega
    · split at h
      · omega
      · intro x hx
        rcases List.mem_cons.1 hx with rfl | hx
        · omega
        · exact ih h x hx

theorem encE_drop (l : List Rc) (k : Nat) (hk : k < l.length) : encE ((l.drop k).map dat) =
    if l[k].t < 1 ∨ 255 < l[k].t then 1 else if 65535 < l[k].bs.length then 6 else encE ((l.drop (k + 1)).map dat) := by
  rw [List.drop_eq_getElem_cons hk]; rfl
theorem encAll_take (l : List Rc) (k : Nat) (hk : k < l.length) : encAll ((l.take (k + 1)).map dat) = encAll ((l.take k).map dat) ++ enc1 (dat l[k]) := by
  rw [List.take_succ_eq_append_getElem hk, List.map_append, encAll_append]
  simp [encAll]

/-! ### Reading records -/
/-- The length that the head of an encoding states. -/
def hdN (bs : List UInt8) : Nat := (bs.getD 1 0).toNat * 256 + (bs.getD 2 0).toNat
def hdBad (bs : List UInt8) : Bool := bs.getD 0 0 == 0 || decide (bs.length < 3) || decide (bs.length < 3 + hdN bs)
def hdRec (bs : List UInt8) : Rec := (((bs.getD 0 0).toNat : Int), (bs.drop 3).take (hdN bs))
def decO (bs : List UInt8) : Option (List Rec) :=
  if h : bs = [] then some []
  else if hdBad bs = true then none
  else (decO (bs.drop (3 + hdN bs))).map (hdRec bs :: ·)
termination_by bs.length
decreasing_by
  have := List.length_pos_iff.2 h
  rw [List.length_drop]; omega
theorem decO_nil : decO [] = some [] := by rw [decO]; rfl
theorem decO_bad (bs : List UInt8) (h : bs ≠ []) (hb : hdBad bs = true) : decO bs = none := by rw [decO, dif_neg h, if_pos hb]
theorem decO_step (bs : List UInt8) (h : bs ≠ []) (hb : hdBad bs = false) : decO bs = (decO (bs.drop (3 + hdN bs))).map (hdRec bs :: ·) := by rw [decO, dif_neg h, if_neg (by rw [hb]; simp)]
def decE (bs : List UInt8) : Int := if (decO bs).isSome then 0 else 4
def decL (bs : List UInt8) : List Rec := (decO bs).getD []

theorem enc1_hd (bs : List UInt8) (h3 : 3 ≤ bs.length) (hN : 3 + hdN bs ≤ bs.length) : enc1 (hdRec bs) ++ bs.drop (3 + hdN bs) = bs := by
  obtain ⟨a, b, c, r, rfl⟩ : ∃ a b c r, bs = a :: b :: c :: r := by
    rcases bs with _ | ⟨a, _ | ⟨b, _ | ⟨c, r⟩⟩⟩
    · simp at h3
    · simp at h3
    · simp at h3
    · exact ⟨a, b, c, r, rfl⟩
  have hh : hdN (a :: b :: c :: r) = b.toNat * 256 + c.toNat := rfl
  rw [hh] at hN ⊢
  have hc := UInt8.toNat_lt c
  have hbb : UInt8.ofNat ((b.toNat * 256 + c.toNat) / 256) = b := by
    rw [show (b.toNat * 256 + c.toNat) / 256 = b.toNat by omega]; simp
  have hcc : UInt8.ofNat (b.toNat * 256 + c.toNat) = c := by
    apply UInt8.toNat_inj.1
    rw [UInt8.toNat_ofNat']
    omega
  have ha : UInt8.ofNat a.toNat = a := by simp
  have hr : hdRec (a :: b :: c :: r) = ((a.toNat : Int), r.take (b.toNat * 256 + c.toNat)) := rfl
  rw [hr]
  generalize hM : b.toNat * 256 + c.toNat = M at hN hbb hcc ⊢
  have hlen : (r.take M).length = M := by rw [List.length_take]; simp at hN; omega
  unfold enc1
  simp only [hlen, Int.toNat_natCast]
  rw [ha, hbb, hcc, Nat.add_comm 3 M]
  simp

theorem decO_all (k : Nat) : ∀ bs : List UInt8, bs.length ≤ k → ∀ l, decO bs = some l → encE l = 0 ∧ encAll l = bs ∧ l.length ≤ bs.length := by
  induction k with
  | zero =>
    intro bs hk l h
    obtain rfl := List.eq_nil_of_length_eq_zero (Nat.le_zero.1 hk)
    rw [decO_nil] at h
    injection h with h
    subst h
    exact ⟨rfl, rfl, by simp⟩
  | succ k ih =>
    intro bs hk l h
    by_cases hne : bs = []
    · subst hne
      rw [decO_nil] at h
      injection h with h
      subst h
      exact ⟨rfl, rfl, by simp⟩
    by_cases hb : hdBad bs = true
    · rw [decO_bad bs hne hb] at h; cases h
    have hb' : hdBad bs = false := by simpa using hb
    rw [decO_step bs hne hb'] at h
    obtain ⟨l', hl', rfl⟩ := Option.map_eq_some_iff.1 h
    have hd := hb'
    unfold hdBad at hd
    simp only [Bool.or_eq_false_iff, decide_eq_false_iff_not, Nat.not_lt, beq_eq_false_iff_ne] at hd
    obtain ⟨⟨h0, h3⟩, hN⟩ := hd
    obtain ⟨e1, e2, e3⟩ := ih (bs.drop (3 + hdN bs)) (by rw [List.length_drop]; omega) l' hl'
    rw [List.length_drop] at e3
    have l1 := UInt8.toNat_lt (bs.getD 1 0)
    have l2 := UInt8.toNat_lt (bs.getD 2 0)
    have l0 := UInt8.toNat_lt (bs.getD 0 0)
    have hz : (bs.getD 0 0).toNat ≠ 0 := fun e => h0 (UInt8.toNat_inj.1 e)
    have hlen : ((bs.drop 3).take (hdN bs)).length = hdN bs := by rw [List.length_take, List.length_drop]; omega
    have hN2 : hdN bs ≤ 65535 := by unfold hdN; omega
    refine ⟨?_, ?_, by rw [List.length_cons]; omega⟩
    · rw [encE]
      rw [if_neg (by unfold hdRec; simp only; omega), if_neg (by unfold hdRec; simp only; omega)]
      exact e1
    · rw [encAll, e2]
      exact enc1_hd bs h3 hN
theorem enc1_head (r : Rec) (h1 : 1 ≤ r.1) (h2 : r.1 ≤ 255) (h3 : r.2.length ≤ 65535) (rest : List UInt8) :
    hdN (enc1 r ++ rest) = r.2.length ∧ (enc1 r ++ rest).getD 0 0 ≠ 0 ∧ (((enc1 r ++ rest).getD 0 0).toNat : Int) = r.1 ∧ (enc1 r ++ rest).drop 3 = r.2 ++ rest ∧ (enc1 r ++ rest).drop (3 + r.2.length) = rest := by
  have e : enc1 r ++ rest = UInt8.ofNat r.1.toNat :: UInt8.ofNat (r.2.length / 256) :: UInt8.ofNat r.2.length :: (r.2 ++ rest) := by simp [enc1]
  have t0 : (UInt8.ofNat r.1.toNat).toNat = r.1.toNat := by rw [UInt8.toNat_ofNat']; exact Nat.mod_eq_of_lt (by omega)
  have t1 : (UInt8.ofNat (r.2.length / 256)).toNat = r.2.length / 256 := by rw [UInt8.toNat_ofNat']; exact Nat.mod_eq_of_lt (by omega)
  have t2 : (UInt8.ofNat r.2.length).toNat = r.2.length % 256 := by rw [UInt8.toNat_ofNat']
  rw [e]
  refine ⟨?_, ?_, ?_, rfl, ?_⟩
  · show (UInt8.ofNat (r.2.length / 256)).toNat * 256 + (UInt8.ofNat r.2.length).toNat = _
    rw [t1, t2]; omega
  · intro h
    have := congrArg UInt8.toNat h
    change (UInt8.ofNat r.1.toNat).toNat = 0 at this
    omega
  · show ((UInt8.ofNat r.1.toNat).toNat : Int) = _
    rw [t0]; omega
  · rw [Nat.add_comm 3]; simp
theorem decO_enc1 (r : Rec) (h1 : 1 ≤ r.1) (h2 : r.1 ≤ 255) (h3 : r.2.length ≤ 65535) (rest : List UInt8) : decO (enc1 r ++ rest) = (decO rest).map (r :: ·) := by
  obtain ⟨a1, a2, a3, a4, a5⟩ := enc1_head r h1 h2 h3 rest
  have hne : enc1 r ++ rest ≠ [] := by simp [enc1]
  have hl : (enc1 r ++ rest).length = 3 + r.2.length + rest.length := by rw [List.length_append, enc1_len]
  have hb : hdBad (enc1 r ++ rest) = false := by
    unfold hdBad
    rw [a1, hl]
    simp only [Bool.or_eq_false_iff, decide_eq_false_iff_not, beq_eq_false_iff_ne]
    exact ⟨⟨a2, by omega⟩, by omega⟩
  rw [decO_step _ hne hb, a1, a5]
  have : hdRec (enc1 r ++ rest) = r := by
    unfold hdRec
    rw [a1, a3, a4]
    simp
  rw [this]
theorem decO_enc (l : List Rec) (h : encE l = 0) (rest : List UInt8) : decO (encAll l ++ rest) = (decO rest).map (l ++ ·) := by
  induction l with
  | nil => simp [encAll]
  | cons r l ih =>
    have hm := encE_mem (r :: l) h r (by simp)
    have hl : encE l = 0 := by
      rw [encE] at h
      split at h
      · omega
      · split at h
        · omega
        · exact h
    rw [encAll, List.append_assoc, decO_enc1 r hm.1 hm.2.1 hm.2.2, ih hl, Option.map_map]
    congr 1
theorem decO_full (l : List Rec) (h : encE l = 0) : decO (encAll l) = some l := by
  have := decO_enc l h []
  rw [List.append_nil, decO_nil] at this
  simpa using this
/-- A part of a record is no encoding. -/
theorem decO_part (r : Rec) (h1 : 1 ≤ r.1) (h2 : r.1 ≤ 255) (h3 : r.2.length ≤ 65535) (k : Nat) (hk0 : 0 < k) (hk : k < 3 + r.2.length) : decO ((enc1 r).take k) = none := by
  have hl : ((enc1 r).take k).length = k := by rw [List.length_take, enc1_len]; omega
  refine decO_bad _ (by intro h; rw [h] at hl; simp at hl; omega) ?_
  unfold hdBad
  rw [hl]
  by_cases hk3 : k < 3
  · simp [hk3]
  · have : hdN ((enc1 r).take k) = r.2.length := by
      have := (enc1_head r h1 h2 h3 []).1
      rw [List.append_nil] at this
      rw [← this]
      unfold hdN
      rw [List.getD_eq_getElem?_getD, List.getD_eq_getElem?_getD, List.getElem?_take_of_lt (by omega), List.getElem?_take_of_lt (by omega)]
      rfl
    rw [this]
    simp only [Bool.or_eq_true, decide_eq_true_eq]
    right; exact hk
theorem encAll_cut (l : List Rec) (n k : Nat) (hn : n < l.length) (hk : (encAll (l.take n)).length ≤ k) (hk2 : k ≤ (encAll (l.take (n + 1))).length) :
    (encAll l).take k = encAll (l.take n) ++ (enc1 l[n]).take (k - (encAll (l.take n)).length) := by
  have e : encAll l = encAll (l.take n) ++ (enc1 l[n] ++ encAll (l.drop (n + 1))) := by
    conv => lhs; rw [← List.take_append_drop n l, encAll_append, List.drop_eq_getElem_cons hn, encAll]
  have e2 : encAll (l.take (n + 1)) = encAll (l.take n) ++ enc1 l[n] := by
    rw [List.take_succ_eq_append_getElem hn, encAll_append]; simp [encAll]
  rw [e2, List.length_append] at hk2
  rw [e, List.take_append, List.take_of_length_le hk, List.take_append_of_le_length (by omega)]

theorem decL_len (bs : List UInt8) : (decL bs).length ≤ bs.length := by
  unfold decL
  cases h : decO bs with
  | none => simp
  | some l => exact (decO_all _ bs (Nat.le_refl _) l h).2.2

/-- What reading records leaves behind: T: the records' type; U: the bytes'. -/
def DecPost (T U : TypeId) (W : World) (bs : List UInt8) (e : Ending) (w' : World) : Prop :=
  ∃ v rs, e = .returned (.tuple #[v, .int .i64 (decE bs)]) ∧ w'.ownsRow W.heap.size T 2 v rs.length (recV rs) ∧ (∀ r ∈ rs, RcOwn w' W.heap.size U r) ∧ rs.map dat = decL bs ∧ Below W.heap.size W w'
/-- .. the same, the result under a name. -/
def DecPostD (T U : TypeId) (W : World) (D : Option (List Rec)) (e : Ending) (w' : World) : Prop :=
  ∃ v rs, e = .returned (.tuple #[v, .int .i64 (if D.isSome then 0 else 4)]) ∧ w'.ownsRow W.heap.size T 2 v rs.length (recV rs) ∧ (∀ r ∈ rs, RcOwn w' W.heap.size U r) ∧ rs.map dat = D.getD [] ∧ Below W.heap.size W w'

end Go.Proofs.Ytnfldccaeibcpaa
