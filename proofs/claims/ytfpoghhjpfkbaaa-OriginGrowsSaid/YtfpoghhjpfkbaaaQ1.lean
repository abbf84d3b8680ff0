/-
  The texts CodP, Val, Bytes, Fle, LaP, CodN, one after the other.
-/
import Derived.Test.YtfpoghhjpfkbaaaQ0
import Derived.Test.YtfpoghhjpfkbaaaChecked
import Derived.Laws.CopyOwn
namespace Go.Proofs.Ytfpoghhjpfkbaaa
set_option linter.unusedVariables false
open Go.RowKit

/-! ### Numbers -/
/-- The last k bytes of a number, the greatest first. -/
def numB (n : Nat) : Nat → List UInt8
  | 0 => []
  | k + 1 => UInt8.ofNat (n / 256 ^ k) :: numB n k
theorem numB_len (n k : Nat) : (numB n k).length = k := by
  induction k with
  | zero => rfl
  | succ k ih => rw [numB, List.length_cons, ih]
theorem numB_get (n k : Nat) : ∀ j (h : j < (numB n k).length), (numB n k)[j] = UInt8.ofNat (n / 256 ^ (k - 1 - j)) := by
  induction k with
  | zero => intro j h; simp [numB] at h
  | succ k ih =>
    intro j h
    cases j with
    | zero => simp [numB]
    | succ j => simp only [numB, List.getElem_cons_succ]; rw [ih]; congr 3; omega
theorem numB_take (n k j : Nat) (h : j < k) : (numB n k).take (j + 1) = (numB n k).take j ++ [UInt8.ofNat (n / 256 ^ (k - 1 - j))] := by
  rw [List.take_succ_eq_append_getElem (by rw [numB_len]; exact h), numB_get]
/-- The number that bytes are. -/
def uintB (bs : List UInt8) : Nat := bs.foldl (fun a b => a * 256 + b.toNat) 0
theorem uintB_snoc (bs : List UInt8) (b : UInt8) : uintB (bs ++ [b]) = uintB bs * 256 + b.toNat := by simp [uintB]
theorem uintB_lt (bs : List UInt8) : uintB bs < 256 ^ bs.length := by
  have h : ∀ k, k ≤ bs.length → uintB (bs.take k) < 256 ^ k := by
    intro k
    induction k with
    | zero => intro _; simp [uintB]
    | succ k ih =>
      intro hk
      have := ih (by omega)
      rw [List.take_succ_eq_append_getElem (by omega), uintB_snoc, Nat.pow_succ]
      have hb := UInt8.toNat_lt bs[k]
      omega
  have := h bs.length (Nat.le_refl _)
  rwa [List.take_length] at this
theorem foldl_numB (n k a : Nat) : (numB n k).foldl (fun a b => a * 256 + b.toNat) a = a * 256 ^ k + n % 256 ^ k := by
  induction k generalizing a with
  | zero => simp [numB, Nat.mod_one]
  | succ k ih =>
    rw [numB, List.foldl_cons, ih, UInt8.toNat_ofNat', show (2 : Nat) ^ 8 = 256 from rfl, Nat.pow_succ, Nat.mod_mul, Nat.add_mul]
    rw [show n / 256 ^ k % 256 * 256 ^ k = 256 ^ k * (n / 256 ^ k % 256) from Nat.mul_comm _ _, Nat.mul_assoc, Nat.mul_comm 256 (256 ^ k)]
    omega
theorem uint_num (n k : Nat) (h : n < 256 ^ k) : uintB (numB n k) = n := by
  unfold uintB
  rw [foldl_numB, Nat.mod_eq_of_lt h]; omega
theorem numB_mod (n k : Nat) : numB (n % 256 ^ k) k = numB n k := by
  have h : ∀ j, j ≤ k → numB (n % 256 ^ k) j = numB n j := by
    intro j
    induction j with
    | zero => intro _; rfl
    | succ j ih =>
      intro hj
      rw [numB, numB, ih (by omega)]
      congr 1
      have e : 256 ^ k = 256 ^ (j + 1) * 256 ^ (k - (j + 1)) := by rw [← Nat.pow_add]; congr 1; omega
      have : n % 256 ^ k / 256 ^ j % 256 = n / 256 ^ j % 256 := by
        rw [e, Nat.pow_succ, Nat.mul_assoc, Nat.mod_mul_right_div_self, Nat.mod_mul_right_mod]
      apply UInt8.toNat_inj.1
      rw [UInt8.toNat_ofNat', UInt8.toNat_ofNat']
      exact this
  exact h k (Nat.le_refl _)
theorem num_uint (bs : List UInt8) : numB (uintB bs) bs.length = bs := by
  have h : ∀ k, k ≤ bs.length → numB (uintB bs) k = bs.drop (bs.length - k) := by
    intro k
    induction k with
    | zero => intro _; simp [numB]
    | succ k ih =>
      intro hk
      rw [numB, ih (by omega), show bs.length - k = bs.length - (k + 1) + 1 by omega, ← List.getElem_cons_drop (show bs.length - (k + 1) < bs.length by omega)]
      congr 1
      have hs : bs = bs.take (bs.length - k) ++ bs.drop (bs.length - k) := (List.take_append_drop _ _).symm
      have hu : uintB bs = uintB (bs.take (bs.length - k)) * 256 ^ k + uintB (bs.drop (bs.length - k)) := by
        have gen : ∀ (x : List UInt8) (c : Nat), x.foldl (fun a b => a * 256 + b.toNat) c = c * 256 ^ x.length + uintB x := by
          intro x
          induction x with
          | nil => intro c; simp [uintB]
          | cons y x ihx =>
            intro c
            unfold uintB
            rw [List.foldl_cons, List.foldl_cons, ihx, ihx (0 * 256 + y.toNat), List.length_cons, Nat.pow_succ, Nat.add_mul, Nat.zero_mul, Nat.zero_add, Nat.mul_assoc, Nat.mul_comm 256]
            omega
        conv => lhs; rw [hs]
        unfold uintB
        rw [List.foldl_append, gen (bs.drop (bs.length - k)), List.length_drop, show bs.length - (bs.length - k) = k by omega]
        rfl
      have hl := uintB_lt (bs.drop (bs.length - k))
      rw [List.length_drop, show bs.length - (bs.length - k) = k by omega] at hl
      have hd : uintB bs / 256 ^ k = uintB (bs.take (bs.length - k)) := by
        rw [hu, Nat.mul_comm, Nat.mul_add_div (Nat.pow_pos (by omega)), Nat.div_eq_of_lt hl]; omega
      rw [hd, show bs.length - k = bs.length - (k + 1) + 1 by omega, List.take_succ_eq_append_getElem (by omega), uintB_snoc]
      apply UInt8.toNat_inj.1
      rw [UInt8.toNat_ofNat', show (2 : Nat) ^ 8 = 256 from rfl]
      have := UInt8.toNat_lt bs[bs.length - (k + 1)]
      omega
  have := h bs.length (Nat.le_refl _)
  rwa [Nat.sub_self, List.drop_zero] at this

theorem u8_wrap (n : Nat) : (.int .u8 (IntKind.wrap .u8 (n : Int)) : Value) = u8v (UInt8.ofNat n) := by
  unfold u8v
  rw [IntKind.wrap_u8]
  simp

theorem own_lit (w : World) (cs : Array Value) (e : TypeId) (n : Nat) (L : List Value) (hn : cs.size = n) (hm : n ≤ maxLen) (hL : cs.toList = L) :
    (w.alloc (.cells cs e)).ownsRow w.heap.size e 1 (.slice (some ⟨w.heap.size, 0, none⟩) n n) n L := by
  subst hL
  have := World.ownsRow_lit (base := w.heap.size) (e := e) (size := 1) w cs n (Nat.le_refl _) hm (by omega)
  simpa using this

theorem rd_at {w : World} {A : Option Addr} {xs : List Value} (h : Rd w A xs) (hn : 0 < xs.length) : ∃ b off, A = some ⟨b, off, none⟩ ∧ ∀ (j : Nat) (u : Value), xs[j]? = some u → w.cell? ⟨b, off + j, none⟩ = some u := by
  obtain ⟨ad, e, hc⟩ := h hn
  obtain ⟨b, off, spot⟩ := ad
  have h0 := hc 0 _ (List.getElem?_eq_getElem hn)
  have hs : spot = none := by simpa [Addr.add] using World.cell?_spot h0
  subst hs
  refine ⟨b, off, e, fun j u hu => ?_⟩
  have := hc j u hu
  have hadd : (⟨b, off, none⟩ : Addr).add j = ⟨b, off + j, none⟩ := by unfold Addr.add; split <;> simp_all
  rwa [hadd] at this

/-- A part of a slice: where it begins. -/
def subA (A : Option Addr) (lo c : Nat) : Option Addr := if c = lo then A else A.map (·.add lo)
theorem Rd.sub {w : World} {A : Option Addr} {xs : List Value} (h : Rd w A xs) (lo c : Nat) (hc : xs.length ≤ c) : Rd w (subA A lo c) (xs.drop lo) := by
  unfold subA
  split
  · rw [List.drop_eq_nil_of_le (by omega)]; exact Rd.nil _ _
  · exact h.drop lo
theorem run_sub {P : Program} {t e : TypeId} {z : Value} {bytes : Nat} (hE : ElemT P t e z 1 bytes) (A : Option Addr) (n c lo hi : Nat) (h1 : lo ≤ hi) (h2 : hi ≤ c) (W : World) :
    (Instr.slice t (.slice A n c) (some (.int .i64 (lo : Int))) (some (.int .i64 (hi : Int))) none).run P W = .ok (.slice (subA A lo c) (hi - lo) (c - lo)) W := by
  obtain ⟨i, hi', hz0, hz1, hz2⟩ := info_parts hE.info
  have hel : P.elem t = e := by simp [Program.elem, hE.under]
  rw [run_slice_lh W t A n c (by rw [hel]; exact hE.under) .i64 .i64 lo hi (by omega) (by omega) (by omega), hel]
  simp [sizeOf, typeInfo, hi', hz1, sliced, subA, Result.andThen]
theorem run_from {P : Program} {t e : TypeId} {z : Value} {bytes : Nat} (hE : ElemT P t e z 1 bytes) (A : Option Addr) (n c lo : Nat) (h1 : lo ≤ n) (W : World) :
    (Instr.slice t (.slice A n c) (some (.int .i64 (lo : Int))) none none).run P W = .ok (.slice (subA A lo c) (n - lo) (c - lo)) W := by
  obtain ⟨i, hi', hz0, hz1, hz2⟩ := info_parts hE.info
  have hel : P.elem t = e := by simp [Program.elem, hE.under]
  rw [run_slice_l W t A n c (by rw [hel]; exact hE.under) .i64 lo (by omega) (by omega), hel]
  simp [sizeOf, typeInfo, hi', hz1, sliced, subA, Result.andThen]

/-! ### Records -/
/-- A record as it lies in memory, and its bytes. -/
structure Rc where
  t : Int
  A : Option Addr
  n : Nat
  c : Nat
  bs : List UInt8
/-- The cells of a list of records. -/
def recV : List Rc → List Value
  | [] => []
  | r :: l => .int .i64 r.t :: .slice r.A r.n r.c :: recV l
theorem recV_len (l : List Rc) : (recV l).length = l.length * 2 := by
  induction l with
  | nil => rfl
  | cons r l ih => simp only [recV, List.length_cons, ih]; omega
theorem recV_append (a b : List Rc) : recV (a ++ b) = recV a ++ recV b := by
  induction a with
  | nil => rfl
  | cons r a ih => simp only [List.cons_append, recV, ih]
theorem recV_one (a : List Rc) : ∀ u ∈ recV a, u.oneCell' = true := by
  induction a with
  | nil => simp [recV]
  | cons r a ih =>
    intro u hu
    simp only [recV, List.mem_cons] at hu
    rcases hu with rfl | rfl | hu
    · rfl
    · rfl
    · exact ih u hu
theorem recV_get (l : List Rc) : ∀ (k : Nat) (hk : k < l.length), (recV l)[2 * k]? = some (.int .i64 l[k].t) ∧ (recV l)[2 * k + 1]? = some (.slice l[k].A l[k].n l[k].c) := by
  induction l with
  | nil => intro k hk; simp at hk
  | cons r l ih =>
    intro k hk
    cases k with
    | zero => exact ⟨rfl, rfl⟩
    | succ k =>
      obtain ⟨h1, h2⟩ := ih k (by simpa using hk)
      rw [show 2 * (k + 1) = 2 * k + 1 + 1 by omega]
      exact ⟨by simpa [recV] using h1, by simpa [recV] using h2⟩
theorem rd_recs {w : World} {A : Option Addr} {l : List Rc} (h : Rd w A (recV l)) {k : Nat} (hk : k < l.length) :
    ∃ b off, A = some ⟨b, off, none⟩ ∧ w.cell? ⟨b, off + k * 2, none⟩ = some (.int .i64 l[k].t) ∧ w.cell? ⟨b, off + k * 2 + 1, none⟩ = some (.slice l[k].A l[k].n l[k].c) := by
  obtain ⟨b, off, e, hc⟩ := rd_at h (by rw [recV_len]; omega)
  obtain ⟨h1, h2⟩ := recV_get l k hk
  exact ⟨b, off, e, hc _ _ (by rw [Nat.mul_comm]; exact h1), by rw [Nat.add_assoc]; exact hc _ _ (by rw [Nat.mul_comm]; exact h2)⟩
/-- The record's bytes lie where it says. -/
structure RcOk (w : World) (r : Rc) : Prop where
  rd : Bs w r.A r.bs
  len : r.bs.length = r.n
  nc : r.n ≤ r.c
  cm : r.c ≤ 9223372036854775807
theorem RcOk.below {w w' : World} {r : Rc} (h : RcOk w r) (hb : Below w.heap.size w w') : RcOk w' r := ⟨h.rd.below hb, h.len, h.nc, h.cm⟩
/-- The record's bytes lie in a block of the call's own. -/
def RcOwn (w : World) (base : Nat) (e : TypeId) (r : Rc) : Prop := w.ownsRow base e 1 (.slice r.A r.n r.c) r.n (r.bs.map u8v)
theorem RcOwn.ok {w : World} {base : Nat} {e : TypeId} {r : Rc} (h : RcOwn w base e r) : RcOk w r := by
  obtain ⟨A, c, hv, rd, h1, h2⟩ := own_rd h
  have hl := h.1
  rw [List.length_map, Nat.mul_one] at hl
  simp only [Value.slice.injEq, true_and] at hv
  obtain ⟨rfl, rfl⟩ := hv
  exact ⟨rd, hl, h1, h2⟩
theorem RcOwn.below {w w' : World} {base : Nat} {e : TypeId} {r : Rc} (h : RcOwn w base e r) (hb : Below w.heap.size w w') : RcOwn w' base e r := own_below h hb
theorem RcOwn.drewN {w : World} {base : Nat} {e : TypeId} {r : Rc} (h : RcOwn w base e r) (n : Nat) : RcOwn (w.drewN n) base e r := h
theorem RcOwn.mono {w : World} {base base' : Nat} {e : TypeId} {r : Rc} (h : RcOwn w base e r) (hb : base' ≤ base) : RcOwn w base' e r := own_mono h hb
theorem RcOwn.grown {w w' : World} {base : Nat} {e : TypeId} {r : Rc} (h : RcOwn w base e r) {b2 : Nat} {e2 : TypeId} {s2 : Nat} {v2 : Value} {n2 : Nat} {x2 : List Value} (h2 : w.ownsRow b2 e2 s2 v2 n2 x2) (hne : e ≠ e2) (hg : w.grownBy w' v2.ownBlock) : RcOwn w' base e r :=
  World.ownsRow.kept h hg (own_ne h h2 hne)
theorem RcOwn.set {w : World} {base : Nat} {e : TypeId} {r : Rc} (h : RcOwn w base e r) {a : Addr} (ha : a.block < base) (u : Value) : RcOwn (w.setCell a u) base e r := ownsRow_setCell_below h ha u
/-- What a record says. -/
abbrev Rec := Int × List UInt8
def dat (r : Rc) : Rec := (r.t, r.bs)

/-- The error of a list of records. -/
def encE : List Rec → Int
  | [] => 0
  | r :: l => if r.1 < 1 ∨ 255 < r.1 then 1 else if 65535 < r.2.length then 6 else encE l
/-- The bytes of one record; of all. -/
def enc1 (r : Rec) : List UInt8 := [UInt8.ofNat r.1.toNat, UInt8.ofNat (r.2.length / 256), UInt8.ofNat r.2.length] ++ r.2
def encAll : List Rec → List UInt8
  | [] => []
  | r :: l => enc1 r ++ encAll l
def encR (l : List Rec) : List UInt8 := if encE l = 0 then encAll l else []
theorem encAll_append (a b : List Rec) : encAll (a ++ b) = encAll a ++ encAll b := by
  induction a with
  | nil => rfl
  | cons r a ih => simp only [List.cons_append, encAll, ih, List.append_assoc]
theorem enc1_len (r : Rec) : (enc1 r).length = 3 + r.2.length := by simp [enc1]; omega
theorem encE_append (a b : List Rec) (h : encE a = 0) : encE (a ++ b) = encE b := by
  induction a with
  | nil => rfl
  | cons r a ih =>
    rw [List.cons_append, encE]
    rw [encE] at h
    split at h
    · omega
    · split at h
      · omega
      · rw [if_neg ‹_›, if_neg ‹_›]; exact ih h
theorem encE_mem (l : List Rec) (h : encE l = 0) : ∀ r ∈ l, 1 ≤ r.1 ∧ r.1 ≤ 255 ∧ r.2.length ≤ 65535 := by
  induction l with
  | nil => simp
  | cons r l ih =>
    rw [encE] at h
    split at h
    · omega
    · split at h
      · omega
      · intro x hx
        rcases List.mem_cons.1 hx with rfl | hx
        · omega
        · exact ih h x hx

theorem encE_drop (l : List Rc) (k : Nat) (hk : k < l.length) : encE ((l.drop k).map dat) =
    if l[k].t < 1 ∨ 255 < l[k].t then 1 else if 65535 < l[k].bs.length then 6 else encE ((l.drop (k + 1)).map dat) := by
  rw [List.drop_eq_getElem_cons hk]; rfl
theorem encAll_take (l : List Rc) (k : Nat) (hk : k < l.length) : encAll ((l.take (k + 1)).map dat) = encAll ((l.take k).map dat) ++ enc1 (dat l[k]) := by
  rw [List.take_succ_eq_append_getElem hk, List.map_append, encAll_append]
  simp [encAll]

/-! ### Reading records -/
/-- The length that the head of an encoding states. -/
def hdN (bs : List UInt8) : Nat := (bs.getD 1 0).toNat * 256 + (bs.getD 2 0).toNat
def hdBad (bs : List UInt8) : Bool := bs.getD 0 0 == 0 || decide (bs.length < 3) || decide (bs.length < 3 + hdN bs)
def hdRec (bs : List UInt8) : Rec := (((bs.getD 0 0).toNat : Int), (bs.drop 3).take (hdN bs))
def decO (bs : List UInt8) : Option (List Rec) :=
  if h : bs = [] then some []
  else if hdBad bs = true then none
  else (decO (bs.drop (3 + hdN bs))).map (hdRec bs :: ·)
termination_by bs.length
decreasing_by
  have := List.length_pos_iff.2 h
  rw [List.length_drop]; omega
theorem decO_nil : decO [] = some [] := by rw [decO]; rfl
theorem decO_bad (bs : List UInt8) (h : bs ≠ []) (hb : hdBad bs = true) : decO bs = none := by rw [decO, dif_neg h, if_pos hb]
theorem decO_step (bs : List UInt8) (h : bs ≠ []) (hb : hdBad bs = false) : decO bs = (decO (bs.drop (3 + hdN bs))).map (hdRec bs :: ·) := by rw [decO, dif_neg h, if_neg (by rw [hb]; simp)]
def decE (bs : List UInt8) : Int := if (decO bs).isSome then 0 else 4
def decL (bs : List UInt8) : List Rec := (decO bs).getD []

theorem enc1_hd (bs : List UInt8) (h3 : 3 ≤ bs.length) (hN : 3 + hdN bs ≤ bs.length) : enc1 (hdRec bs) ++ bs.drop (3 + hdN bs) = bs := by
  obtain ⟨a, b, c, r, rfl⟩ : ∃ a b c r, bs = a :: b :: c :: r := by
    rcases bs with _ | ⟨a, _ | ⟨b, _ | ⟨c, r⟩⟩⟩
    · simp at h3
    · simp at h3
    · simp at h3
    · exact ⟨a, b, c, r, rfl⟩
  have hh : hdN (a :: b :: c :: r) = b.toNat * 256 + c.toNat := rfl
  rw [hh] at hN ⊢
  have hc := UInt8.toNat_lt c
  have hbb : UInt8.ofNat ((b.toNat * 256 + c.toNat) / 256) = b := by
    rw [show (b.toNat * 256 + c.toNat) / 256 = b.toNat by omega]; simp
  have hcc : UInt8.ofNat (b.toNat * 256 + c.toNat) = c := by
    apply UInt8.toNat_inj.1
    rw [UInt8.toNat_ofNat']
    omega
  have ha : UInt8.ofNat a.toNat = a := by simp
  have hr : hdRec (a :: b :: c :: r) = ((a.toNat : Int), r.take (b.toNat * 256 + c.toNat)) := rfl
  rw [hr]
  generalize hM : b.toNat * 256 + c.toNat = M at hN hbb hcc ⊢
  have hlen : (r.take M).length = M := by rw [List.length_take]; simp at hN; omega
  unfold enc1
  simp only [hlen, Int.toNat_natCast]
  rw [ha, hbb, hcc, Nat.add_comm 3 M]
  simp

theorem decO_all (k : Nat) : ∀ bs : List UInt8, bs.length ≤ k → ∀ l, decO bs = some l → encE l = 0 ∧ encAll l = bs ∧ l.length ≤ bs.length := by
  induction k with
  | zero =>
    intro bs hk l h
    obtain rfl := List.eq_nil_of_length_eq_zero (Nat.le_zero.1 hk)
    rw [decO_nil] at h
    injection h with h
    subst h
    exact ⟨rfl, rfl, by simp⟩
  | succ k ih =>
    intro bs hk l h
    by_cases hne : bs = []
    · subst hne
      rw [decO_nil] at h
      injection h with h
      subst h
      exact ⟨rfl, rfl, by simp⟩
    by_cases hb : hdBad bs = true
    · rw [decO_bad bs hne hb] at h; cases h
    have hb' : hdBad bs = false := by simpa using hb
    rw [decO_step bs hne hb'] at h
    obtain ⟨l', hl', rfl⟩ := Option.map_eq_some_iff.1 h
    have hd := hb'
    unfold hdBad at hd
    simp only [Bool.or_eq_false_iff, decide_eq_false_iff_not, Nat.not_lt, beq_eq_false_iff_ne] at hd
    obtain ⟨⟨h0, h3⟩, hN⟩ := hd
    obtain ⟨e1, e2, e3⟩ := ih (bs.drop (3 + hdN bs)) (by rw [List.length_drop]; omega) l' hl'
    rw [List.length_drop] at e3
    have l1 := UInt8.toNat_lt (bs.getD 1 0)
    have l2 := UInt8.toNat_lt (bs.getD 2 0)
    have l0 := UInt8.toNat_lt (bs.getD 0 0)
    have hz : (bs.getD 0 0).toNat ≠ 0 := fun e => h0 (UInt8.toNat_inj.1 e)
    have hlen : ((bs.drop 3).take (hdN bs)).length = hdN bs := by rw [List.length_take, List.length_drop]; omega
    have hN2 : hdN bs ≤ 65535 := by unfold hdN; omega
    refine ⟨?_, ?_, by rw [List.length_cons]; omega⟩
    · rw [encE]
      rw [if_neg (by unfold hdRec; simp only; omega), if_neg (by unfold hdRec; simp only; omega)]
      exact e1
    · rw [encAll, e2]
      exact enc1_hd bs h3 hN
theorem enc1_head (r : Rec) (h1 : 1 ≤ r.1) (h2 : r.1 ≤ 255) (h3 : r.2.length ≤ 65535) (rest : List UInt8) :
    hdN (enc1 r ++ rest) = r.2.length ∧ (enc1 r ++ rest).getD 0 0 ≠ 0 ∧ (((enc1 r ++ rest).getD 0 0).toNat : Int) = r.1 ∧ (enc1 r ++ rest).drop 3 = r.2 ++ rest ∧ (enc1 r ++ rest).drop (3 + r.2.length) = rest := by
  have e : enc1 r ++ rest = UInt8.ofNat r.1.toNat :: UInt8.ofNat (r.2.length / 256) :: UInt8.ofNat r.2.length :: (r.2 ++ rest) := by simp [enc1]
  have t0 : (UInt8.ofNat r.1.toNat).toNat = r.1.toNat := by rw [UInt8.toNat_ofNat']; exact Nat.mod_eq_of_lt (by omega)
  have t1 : (UInt8.ofNat (r.2.length / 256)).toNat = r.2.length / 256 := by rw [UInt8.toNat_ofNat']; exact Nat.mod_eq_of_lt (by omega)
  have t2 : (UInt8.ofNat r.2.length).toNat = r.2.length % 256 := by rw [UInt8.toNat_ofNat']
  rw [e]
  refine ⟨?_, ?_, ?_, rfl, ?_⟩
  · show (UInt8.ofNat (r.2.length / 256)).toNat * 256 + (UInt8.ofNat r.2.length).toNat = _
    rw [t1, t2]; omega
  · intro h
    have := congrArg UInt8.toNat h
    change (UInt8.ofNat r.1.toNat).toNat = 0 at this
    omega
  · show ((UInt8.ofNat r.1.toNat).toNat : Int) = _
    rw [t0]; omega
  · rw [Nat.add_comm 3]; simp
theorem decO_enc1 (r : Rec) (h1 : 1 ≤ r.1) (h2 : r.1 ≤ 255) (h3 : r.2.length ≤ 65535) (rest : List UInt8) : decO (enc1 r ++ rest) = (decO rest).map (r :: ·) := by
  obtain ⟨a1, a2, a3, a4, a5⟩ := enc1_head r h1 h2 h3 rest
  have hne : enc1 r ++ rest ≠ [] := by simp [enc1]
  have hl : (enc1 r ++ rest).length = 3 + r.2.length + rest.length := by rw [List.length_append, enc1_len]
  have hb : hdBad (enc1 r ++ rest) = false := by
    unfold hdBad
    rw [a1, hl]
    simp only [Bool.or_eq_false_iff, decide_eq_false_iff_not, beq_eq_false_iff_ne]
    exact ⟨⟨a2, by omega⟩, by omega⟩
  rw [decO_step _ hne hb, a1, a5]
  have : hdRec (enc1 r ++ rest) = r := by
    unfold hdRec
    rw [a1, a3, a4]
    simp
  rw [this]
theorem decO_enc (l : List Rec) (h : encE l = 0) (rest : List UInt8) : decO (encAll l ++ rest) = (decO rest).map (l ++ ·) := by
  induction l with
  | nil => simp [encAll]
  | cons r l ih =>
    have hm := encE_mem (r :: l) h r (by simp)
    have hl : encE l = 0 := by
      rw [encE] at h
      split at h
      · omega
      · split at h
        · omega
        · exact h
    rw [encAll, List.append_assoc, decO_enc1 r hm.1 hm.2.1 hm.2.2, ih hl, Option.map_map]
    congr 1
theorem decO_full (l : List Rec) (h : encE l = 0) : decO (encAll l) = some l := by
  have := decO_enc l h []
  rw [List.append_nil, decO_nil] at this
  simpa using this
/-- A part of a record is no encoding. -/
theorem decO_part (r : Rec) (h1 : 1 ≤ r.1) (h2 : r.1 ≤ 255) (h3 : r.2.length ≤ 65535) (k : Nat) (hk0 : 0 < k) (hk : k < 3 + r.2.length) : decO ((enc1 r).take k) = none := by
  have hl : ((enc1 r).take k).length = k := by rw [List.length_take, enc1_len]; omega
  refine decO_bad _ (by intro h; rw [h] at hl; simp at hl; omega) ?_
  unfold hdBad
  rw [hl]
  by_cases hk3 : k < 3
  · simp [hk3]
  · have : hdN ((enc1 r).take k) = r.2.length := by
      have := (enc1_head r h1 h2 h3 []).1
      rw [List.append_nil] at this
      rw [← this]
      unfold hdN
      rw [List.getD_eq_getElem?_getD, List.getD_eq_getElem?_getD, List.getElem?_take_of_lt (by omega), List.getElem?_take_of_lt (by omega)]
      rfl
    rw [this]
    simp only [Bool.or_eq_true, decide_eq_true_eq]
    right; exact hk
theorem encAll_cut (l : List Rec) (n k : Nat) (hn : n < l.length) (hk : (encAll (l.take n)).length ≤ k) (hk2 : k ≤ (encAll (l.take (n + 1))).length) :
    (encAll l).take k = encAll (l.take n) ++ (enc1 l[n]).take (k - (encAll (l.take n)).length) := by
  have e : encAll l = encAll (l.take n) ++ (enc1 l[n] ++ encAll (l.drop (n + 1))) := by
    conv => lhs; rw [← List.take_append_drop n l, encAll_append, List.drop_eq_getElem_cons hn, encAll]
  have e2 : encAll (l.take (n + 1)) = encAll (l.take n) ++ enc1 l[n] := by
    rw [List.take_succ_eq_append_getElem hn, encAll_append]; simp [encAll]
  rw [e2, List.length_append] at hk2
  rw [e, List.take_append, List.take_of_length_le hk, List.take_append_of_le_length (by omega)]

theorem decL_len (bs : List UInt8) : (decL bs).length ≤ bs.length := by
  unfold decL
  cases h : decO bs with
  | none => simp
  | some l => exact (decO_all _ bs (Nat.le_refl _) l h).2.2

/-- What reading records leaves behind: T: the records' type; U: the bytes'. -/
def DecPost (T U : TypeId) (W : World) (bs : List UInt8) (e : Ending) (w' : World) : Prop :=
  ∃ v rs, e = .returned (.tuple #[v, .int .i64 (decE bs)]) ∧ w'.ownsRow W.heap.size T 2 v rs.length (recV rs) ∧ (∀ r ∈ rs, RcOwn w' W.heap.size U r) ∧ rs.map dat = decL bs ∧ Below W.heap.size W w'
/-- .. the same, the result under a name. -/
def DecPostD (T U : TypeId) (W : World) (D : Option (List Rec)) (e : Ending) (w' : World) : Prop :=
  ∃ v rs, e = .returned (.tuple #[v, .int .i64 (if D.isSome then 0 else 4)]) ∧ w'.ownsRow W.heap.size T 2 v rs.length (recV rs) ∧ (∀ r ∈ rs, RcOwn w' W.heap.size U r) ∧ rs.map dat = D.getD [] ∧ Below W.heap.size W w'

end Go.Proofs.Ytfpoghhjpfkbaaa

namespace Go.Proofs.Ytfpoghhjpfkbaaa
set_option linter.unusedVariables false
open Go.RowKit

/-! ### Advertisements -/
abbrev Ad := Int × Int × Int
abbrev Pf := Nat × Int
/-- An advertisement. -/
structure La where
  o : Int
  s : Int
  a : Int
  ov : Bool
  adj : List Ad
  pre : List Pf
def adV : List Ad → List Value
  | [] => []
  | x :: l => .int .i64 x.1 :: .int .i64 x.2.1 :: .int .i64 x.2.2 :: adV l
def pfV : List Pf → List Value
  | [] => []
  | x :: l => .int .u32 (x.1 : Int) :: .int .i64 x.2 :: pfV l
theorem adV_len (l : List Ad) : (adV l).length = l.length * 3 := by
  induction l with
  | nil => rfl
  | cons r l ih => simp only [adV, List.length_cons, ih]; omega
theorem pfV_len (l : List Pf) : (pfV l).length = l.length * 2 := by
  induction l with
  | nil => rfl
  | cons r l ih => simp only [pfV, List.length_cons, ih]; omega
theorem adV_append (a b : List Ad) : adV (a ++ b) = adV a ++ adV b := by
  induction a with
  | nil => rfl
  | cons r a ih => simp only [List.cons_append, adV, ih]
theorem pfV_append (a b : List Pf) : pfV (a ++ b) = pfV a ++ pfV b := by
  induction a with
  | nil => rfl
  | cons r a ih => simp only [List.cons_append, pfV, ih]
theorem adV_one (a : List Ad) : ∀ u ∈ adV a, u.oneCell' = true := by
  induction a with
  | nil => simp [adV]
  | cons r a ih =>
    intro u hu
    simp only [adV, List.mem_cons] at hu
    rcases hu with rfl | rfl | rfl | hu
    · rfl
    · rfl
    · rfl
    · exact ih u hu
theorem pfV_one (a : List Pf) : ∀ u ∈ pfV a, u.oneCell' = true := by
  induction a with
  | nil => simp [pfV]
  | cons r a ih =>
    intro u hu
    simp only [pfV, List.mem_cons] at hu
    rcases hu with rfl | rfl | hu
    · rfl
    · rfl
    · exact ih u hu
theorem adV_get (l : List Ad) : ∀ (k : Nat) (hk : k < l.length), (adV l)[3 * k]? = some (.int .i64 l[k].1) ∧ (adV l)[3 * k + 1]? = some (.int .i64 l[k].2.1) ∧ (adV l)[3 * k + 2]? = some (.int .i64 l[k].2.2) := by
  induction l with
  | nil => intro k hk; simp at hk
  | cons r l ih =>
    intro k hk
    cases k with
    | zero => exact ⟨rfl, rfl, rfl⟩
    | succ k =>
      obtain ⟨h1, h2, h3⟩ := ih k (by simpa using hk)
      rw [show 3 * (k + 1) = 3 * k + 1 + 1 + 1 by omega]
      exact ⟨by simpa [adV] using h1, by simpa [adV] using h2, by simpa [adV] using h3⟩
theorem pfV_get (l : List Pf) : ∀ (k : Nat) (hk : k < l.length), (pfV l)[2 * k]? = some (.int .u32 (l[k].1 : Int)) ∧ (pfV l)[2 * k + 1]? = some (.int .i64 l[k].2) := by
  induction l with
  | nil => intro k hk; simp at hk
  | cons r l ih =>
    intro k hk
    cases k with
    | zero => exact ⟨rfl, rfl⟩
    | succ k =>
      obtain ⟨h1, h2⟩ := ih k (by simpa using hk)
      rw [show 2 * (k + 1) = 2 * k + 1 + 1 by omega]
      exact ⟨by simpa [pfV] using h1, by simpa [pfV] using h2⟩
theorem rd_ad {w : World} {A : Option Addr} {l : List Ad} (h : Rd w A (adV l)) (hn : 0 < l.length) :
    ∃ b off, A = some ⟨b, off, none⟩ ∧ ∀ k (hk : k < l.length), w.cell? ⟨b, off + k * 3, none⟩ = some (.int .i64 l[k].1) ∧ w.cell? ⟨b, off + k * 3 + 1, none⟩ = some (.int .i64 l[k].2.1) ∧ w.cell? ⟨b, off + k * 3 + 2, none⟩ = some (.int .i64 l[k].2.2) := by
  obtain ⟨b, off, e, hc⟩ := rd_at h (by rw [adV_len]; omega)
  refine ⟨b, off, e, fun k hk => ?_⟩
  obtain ⟨h1, h2, h3⟩ := adV_get l k hk
  exact ⟨hc _ _ (by rw [Nat.mul_comm]; exact h1), by rw [Nat.add_assoc]; exact hc _ _ (by rw [Nat.mul_comm]; exact h2), by rw [Nat.add_assoc]; exact hc _ _ (by rw [Nat.mul_comm]; exact h3)⟩
theorem rd_pf {w : World} {A : Option Addr} {l : List Pf} (h : Rd w A (pfV l)) (hn : 0 < l.length) :
    ∃ b off, A = some ⟨b, off, none⟩ ∧ ∀ k (hk : k < l.length), w.cell? ⟨b, off + k * 2, none⟩ = some (.int .u32 (l[k].1 : Int)) ∧ w.cell? ⟨b, off + k * 2 + 1, none⟩ = some (.int .i64 l[k].2) := by
  obtain ⟨b, off, e, hc⟩ := rd_at h (by rw [pfV_len]; omega)
  refine ⟨b, off, e, fun k hk => ?_⟩
  obtain ⟨h1, h2⟩ := pfV_get l k hk
  exact ⟨hc _ _ (by rw [Nat.mul_comm]; exact h1), by rw [Nat.add_assoc]; exact hc _ _ (by rw [Nat.mul_comm]; exact h2)⟩

/-- The number lies in the range. -/
def wiB (n l m : Int) : Bool := decide (l ≤ n) && decide (n ≤ m)
theorem wiB_t {n l m : Int} (h : wiB n l m = true) : l ≤ n ∧ n ≤ m := by simpa [wiB] using h
theorem wiB_f {n l m : Int} (h : wiB n l m = false) : n < l ∨ m < n := by
  rcases Int.lt_or_le n l with h1 | h1
  · exact .inl h1
  · rcases Int.lt_or_le m n with h2 | h2
    · exact .inr h2
    · rw [wiB, decide_eq_true h1, decide_eq_true h2] at h; cases h

set_option maxHeartbeats 800000 in
theorem within_any (n l m : Int) (w : World) : Calls Try.prog 34 #[.int .i64 n, .int .i64 l, .int .i64 m] w fun e w' => e = .returned (.bool (wiB n l m)) ∧ w = w' := by
  by_cases h1 : l ≤ n
  · have e : wiB n l m = decide (n ≤ m) := by simp [wiB, h1]
    rw [e]; clear e
    go_enter Try.func34, Try.ntmps34
    go_wp2_with fail
    all_goals (first | done | go_ret)
    all_goals exact ⟨rfl, rfl⟩
  · have e : wiB n l m = false := by simp [wiB, h1]
    rw [e]; clear e
    go_enter Try.func34, Try.ntmps34
    go_wp2_with fail
    all_goals (first | done | go_ret)
    all_goals exact ⟨rfl, rfl⟩

/-! ### Which advertisements are valid -/
def AdGood (o : Int) (l : List Ad) (n : Nat) : Prop := ∀ k x, k < n → l[k]? = some x → (0 ≤ x.2.1 ∧ x.2.1 ≤ 255) ∧ x.1 ≠ o ∧ (0 ≤ x.1 ∧ x.1 ≤ 63) ∧ (1 ≤ x.2.2 ∧ x.2.2 ≤ 65535) ∧ (∀ y, 0 < k → l[k - 1]? = some y → y.2.1 < x.2.1)
def PfGood (l : List Pf) (n : Nat) : Prop := ∀ k x, k < n → l[k]? = some x → pfxB x.1 x.2 = true ∧ (∀ y, 0 < k → l[k - 1]? = some y → cmpP y.1 y.2 x.1 x.2 < 0)
def LaValid (x : La) : Prop := (0 ≤ x.o ∧ x.o ≤ 63) ∧ (1 ≤ x.s ∧ x.s ≤ 1073741824) ∧ (0 ≤ x.a ∧ x.a ≤ 3600) ∧ x.adj.length ≤ 256 ∧ x.pre.length ≤ 64 ∧ (x.a = 3600 → x.ov = false ∧ x.adj = [] ∧ x.pre = []) ∧ AdGood x.o x.adj x.adj.length ∧ PfGood x.pre x.pre.length
open Classical in
noncomputable def vB (x : La) : Bool := decide (LaValid x)
theorem vB_f {x : La} (h : ¬ LaValid x) : vB x = false := by classical exact decide_eq_false h
theorem vB_t {x : La} (h : LaValid x) : vB x = true := by classical exact decide_eq_true h
theorem vB_iff {x : La} : vB x = true ↔ LaValid x := by classical exact decide_eq_true_iff
theorem AdGood.snoc {o : Int} {l : List Ad} {k : Nat} (h : AdGood o l k) {x : Ad} (hx : l[k]? = some x) (h1 : 0 ≤ x.2.1 ∧ x.2.1 ≤ 255) (h2 : x.1 ≠ o) (h3 : 0 ≤ x.1 ∧ x.1 ≤ 63) (h4 : 1 ≤ x.2.2 ∧ x.2.2 ≤ 65535) (h5 : ∀ y, 0 < k → l[k - 1]? = some y → y.2.1 < x.2.1) : AdGood o l (k + 1) := by
  intro j y hj hy
  rcases Nat.lt_or_ge j k with hlt | hge
  · exact h j y hlt hy
  · obtain rfl : j = k := by omega
    rw [hx] at hy; injection hy with hy; subst hy
    exact ⟨h1, h2, h3, h4, h5⟩
theorem PfGood.snoc {l : List Pf} {k : Nat} (h : PfGood l k) {x : Pf} (hx : l[k]? = some x) (h1 : pfxB x.1 x.2 = true) (h5 : ∀ y, 0 < k → l[k - 1]? = some y → cmpP y.1 y.2 x.1 x.2 < 0) : PfGood l (k + 1) := by
  intro j y hj hy
  rcases Nat.lt_or_ge j k with hlt | hge
  · exact h j y hlt hy
  · obtain rfl : j = k := by omega
    rw [hx] at hy; injection hy with hy; subst hy
    exact ⟨h1, h5⟩

end Go.Proofs.Ytfpoghhjpfkbaaa

namespace Go.Proofs.Ytfpoghhjpfkbaaa
set_option linter.unusedVariables false
open Go.RowKit

theorem bytesT : ElemT Try.prog 78 5 (.int .u8 0) 1 1 := ⟨Try.underlying78, by kernel_rfl, rfl, by omega⟩

set_option maxHeartbeats 400000 in
theorem clone_any (A : Option Addr) (n cap : Nat) (bs : List UInt8) (w : World) (hb : Bs w A bs) (hn : bs.length = n) (hl : n ≤ 140737488355328) :
    Calls Try.prog 61 #[.slice A n cap] w fun e w' => ∃ v, e = .returned v ∧ w'.ownsRow w.heap.size 5 1 v n (bs.map u8v) ∧ Below w.heap.size w w' := by
  subst hn
  have heq := Lib.run_eql_slice_nil (P := Try.prog) w 78 5 A bs.length cap 0 0 Try.underlying78
  rcases A with _ | ad
  · have hn := Rd.nil_len hb
    go_enter Try.func61, Try.ntmps61
    go_wp2_with fail
    go_ret
    have hn' : bs = [] := by simpa using hn
    subst hn'
    exact ⟨_, rfl, by simpa using World.ownsRow_nil _ _ _ _, Below.refl _ _⟩
  · have hown := own_empty w 5 1
    have hba := below_new w (.cells #[] 5)
    have hb1 := hb.below hba
    go_enter Try.func61, Try.ntmps61
    go_wp2_with (at_builtin; refine wpList_app rfl bytesT _ _ rfl w.heap.size rfl hown (A := some ad) (m := bs.length) rfl (by simp) hb1 (u8v_one _) (by simp only [maxLen]; omega) (by omega) hba.size bs.length (bs.map u8v) (by omega) (by simp) ?_; intro v1 w1 hown1 hbel1)
    go_ret
    exact ⟨_, rfl, hown1, hba.trans hbel1⟩

end Go.Proofs.Ytfpoghhjpfkbaaa

namespace Go.Proofs.Ytfpoghhjpfkbaaa
set_option linter.unusedVariables false
open Go.RowKit

/-- The sum of bytes. -/
def sm : List UInt8 → Int
  | [] => 0
  | b :: r => (b.toNat : Int) + sm r
/-- The weighted sum: the last byte counts once, the one before it twice. -/
def wt : List UInt8 → Int
  | [] => 0
  | b :: r => (r.length + 1 : Int) * (b.toNat : Int) + wt r

theorem sm_append (a b : List UInt8) : sm (a ++ b) = sm a + sm b := by
  induction a with
  | nil => simp [sm]
  | cons x a ih => simp only [List.cons_append, sm, ih]; omega
theorem wt_append (a b : List UInt8) : wt (a ++ b) = wt a + (b.length : Int) * sm a + wt b := by
  induction a with
  | nil => simp [sm, wt]
  | cons x a ih =>
    simp only [List.cons_append, sm, wt, ih, List.length_append]
    have h : ((a.length + b.length : Nat) : Int) + 1 = (a.length + 1 : Int) + (b.length : Int) := by omega
    rw [h, Int.add_mul, Int.mul_add]
    omega

theorem sm_take (bs : List UInt8) {k : Nat} (h : k < bs.length) : sm (bs.take (k + 1)) = sm (bs.take k) + (bs[k].toNat : Int) := by
  rw [List.take_succ_eq_append_getElem h, sm_append]; simp [sm]
theorem wt_take (bs : List UInt8) {k : Nat} (h : k < bs.length) : wt (bs.take (k + 1)) = wt (bs.take k) + sm (bs.take k) + (bs[k].toNat : Int) := by
  rw [List.take_succ_eq_append_getElem h, wt_append]; simp [wt]

theorem tmod_bd (n : Int) : -254 ≤ n.tmod 255 ∧ n.tmod 255 ≤ 254 := by
  rcases Int.le_total 0 n with h | h
  · rw [Int.tmod_eq_emod_of_nonneg h]; omega
  · have e : n.tmod 255 = -((-n).tmod 255) := by rw [Int.neg_tmod, Int.neg_neg]
    rw [e, Int.tmod_eq_emod_of_nonneg (by omega)]; omega
theorem tmod_red (n : Int) : (n.tmod 255 + 255) % 255 = n % 255 := by
  rcases Int.le_total 0 n with h | h
  · rw [Int.tmod_eq_emod_of_nonneg h]; omega
  · have e : n.tmod 255 = -((-n).tmod 255) := by rw [Int.neg_tmod, Int.neg_neg]
    rw [e, Int.tmod_eq_emod_of_nonneg (by omega)]; omega

set_option maxHeartbeats 400000 in
theorem reduce_any (n : Int) (w : World) :
    Calls Try.prog 63 #[.int .i64 n] w fun e w' => e = .returned (.int .i64 (n % 255)) ∧ w = w' := by
  obtain ⟨h1, h2⟩ := tmod_bd n
  go_enter Try.func63, Try.ntmps63
  go_wp2
  go_ret
  exact ⟨by rw [← tmod_red n]; rfl, rfl⟩

set_option maxHeartbeats 400000 in
theorem update_any (x y : Int) (A : Option Addr) (n cap : Nat) (bs : List UInt8) (w : World) (hb : Bs w A bs) (hn : bs.length = n) (hl : n ≤ 1000000000) :
    Calls Try.prog 67 #[.int .i64 x, .int .i64 y, .slice A n cap] w fun e w' =>
      e = .returned (.tuple #[.int .i64 ((x + sm bs) % 255), .int .i64 ((y + n * x + wt bs) % 255)]) ∧ w = w' := by
  subst hn
  go_enter Try.func67, Try.ntmps67
  go_wp2_with fail
  refine (reduce_any _ _).mono ?_
  rintro e w' ⟨rfl, rfl⟩
  go_wp2_with fail
  refine (reduce_any _ _).mono ?_
  rintro e w' ⟨rfl, rfl⟩
  go_wp2_with fail
  go_loop [0, 1, 16] (fun v0 v1 v16 => ∃ (k : Nat) (f s : Int), k ≤ bs.length ∧ 0 ≤ f ∧ f < 255 ∧ 0 ≤ s ∧ s < 255 ∧ v16 = .int .i64 k ∧ v0 = .int .i64 f ∧ v1 = .int .i64 s ∧
    Hid (f = (x + sm (bs.take k)) % 255) ∧ Hid (s = (y + k * x + wt (bs.take k)) % 255)) (fun _ _ i => bs.length - (intOf i).toNat)
  case atStart => exact ⟨0, x % 255, y % 255, Nat.zero_le _, by omega, by omega, by omega, by omega, rfl, rfl, rfl, by simp [sm, Hid], by simp [wt, Hid]⟩
  case round =>
    obtain ⟨k, f, s, hk, hf0, hf1, hs0, hs1, rfl, rfl, rfl, HF, HS⟩ := hrel
    by_cases hlt : k < bs.length
    · obtain ⟨ad, rfl, hc⟩ := hb.get hlt
      have hb1 := bs[k].toNat_lt
      go_wp2_with fail
      go_round
      case rel =>
        refine ⟨k + 1, _, _, by omega, ?_, ?_, ?_, ?_, by go_num, rfl, rfl, ?_, ?_⟩
        · omega
        · omega
        · omega
        · omega
        · rw [HF.out, sm_take bs hlt]; show _ % 255 = _ % 255; omega
        · rw [HS.out, HF.out, wt_take bs hlt]; show _ % 255 = _ % 255
          have e : ((k + 1 : Nat) : Int) * x = k * x + x := by rw [Int.natCast_add, Int.add_mul]; simp
          rw [e]; omega
      case measure => simp [intOf]; omega
    · go_wp2_with fail
      go_ret2
      obtain rfl : k = bs.length := by omega
      rw [List.take_length] at HF HS
      exact ⟨by rw [← HF.out, ← HS.out]; rfl, rfl⟩
theorem ret2 {k l : IntKind} {a a' b b' : Int} (h1 : a = a') (h2 : b = b') : Ending.returned (.tuple #[.int k a, .int l b]) = Ending.returned (.tuple #[.int k a', .int l b']) := by rw [h1, h2]

/-- Sum's and Check's answers. -/
def fl1 (bs : List UInt8) : Int := sm bs % 255
def fl2 (bs : List UInt8) : Int := wt bs % 255
def chk (bs : List UInt8) : Bool := fl1 bs == 0 && fl2 bs == 0
theorem fl1_bd (bs : List UInt8) : 0 ≤ fl1 bs ∧ fl1 bs < 255 := by unfold fl1; omega
theorem fl2_bd (bs : List UInt8) : 0 ≤ fl2 bs ∧ fl2 bs < 255 := by unfold fl2; omega

set_option maxHeartbeats 400000 in
theorem sum_any (A : Option Addr) (n cap : Nat) (bs : List UInt8) (w : World) (hb : Bs w A bs) (hn : bs.length = n) (hl : n ≤ 1000000000) :
    Calls Try.prog 62 #[.slice A n cap] w fun e w' => e = .returned (.tuple #[.int .i64 (fl1 bs), .int .i64 (fl2 bs)]) ∧ w = w' := by
  subst hn
  go_enter Try.func62, Try.ntmps62
  go_wp2_with fail
  refine (update_any _ _ A _ cap bs _ hb rfl hl).mono ?_
  rintro e w' ⟨rfl, rfl⟩
  go_wp2_with fail
  go_ret2
  exact ⟨by simp [fl1, fl2], rfl⟩

/-- The sealed bytes. -/
def zeroed (bs : List UInt8) (k : Nat) : List UInt8 := (bs.set k 0).set (k + 1) 0
def sealX (bs : List UInt8) (k : Nat) : Int := (((bs.length : Int) - k - 1) % 255 * fl1 (zeroed bs k) - fl2 (zeroed bs k)) % 255
def sealY (bs : List UInt8) (k : Nat) : Int := (-fl1 (zeroed bs k) - sealX bs k) % 255
def sealed (bs : List UInt8) (k : Nat) : List UInt8 := ((zeroed bs k).set k (UInt8.ofNat (sealX bs k).toNat)).set (k + 1) (UInt8.ofNat (sealY bs k).toNat)
theorem sealX_bd (bs : List UInt8) (k : Nat) : 0 ≤ sealX bs k ∧ sealX bs k < 255 := by unfold sealX; omega
theorem sealY_bd (bs : List UInt8) (k : Nat) : 0 ≤ sealY bs k ∧ sealY bs k < 255 := by unfold sealY; omega

set_option maxHeartbeats 400000 in
theorem seal_any (A : Option Addr) (n cap k : Nat) (bs : List UInt8) (w : World) (hb : Bs w A bs) (hn : bs.length = n) (hl : n ≤ 1000000000) (hk : k + 2 ≤ n) (at_ : Int) (hat : at_ = k) :
    Calls Try.prog 56 #[.slice A n cap, .int .i64 at_] w fun e w' => ∃ v, e = .returned (.tuple #[v, .int .i64 0]) ∧
      w'.ownsRow w.heap.size 5 1 v n ((sealed bs k).map u8v) ∧ Below w.heap.size w w' := by
  subst hn
  subst hat
  have hk1 : ¬ (k : Int) < 0 := by omega
  have hk2 : ¬ ((bs.length : Int) - 2 < k) := by omega
  go_enter Try.func56, Try.ntmps56
  go_wp2_with fail
  refine (clone_any A _ cap bs _ hb rfl (by omega)).mono ?_
  rintro e w1 ⟨v, rfl, hown, hbel⟩
  obtain ⟨g, c1, rfl, hg1, hg2, hown1⟩ := own_form hown (by omega)
  have hc0 := own_u8 hown1 (k := k) (by omega)
  have hc1 := own_u8 hown1 (k := k + 1) (by omega)
  have hf0 := hown1.frozenAt k
  have hf1 := hown1.frozenAt (k + 1)
  go_wp2_with fail
  have hown3 := ((hown1.stored k (.int .u8 0)).1.stored (k + 1) (.int .u8 0)).1
  have hbel3 := (hbel.setCell (p := ⟨g, k, none⟩) hg1 (.int .u8 0)).setCell (p := ⟨g, k + 1, none⟩) hg1 (.int .u8 0)
  generalize (w1.setCell ⟨g, k, none⟩ (.int .u8 0)).setCell ⟨g, k + 1, none⟩ (.int .u8 0) = w2 at hown3 hbel3 ⊢
  rw [show ((bs.map u8v).set k (.int .u8 0)).set (k + 1) (.int .u8 0) = (zeroed bs k).map u8v from by simp [zeroed, List.map_set, u8v]] at hown3
  clear hown1 hown hbel hc0 hc1 hf0 hf1
  have hlz : (zeroed bs k).length = bs.length := by simp [zeroed]
  obtain ⟨A3, c3, he3, hrd, _, _⟩ := own_rd hown3
  simp only [Value.slice.injEq, true_and] at he3
  obtain ⟨rfl, rfl⟩ := he3
  refine (sum_any _ _ c1 (zeroed bs k) _ hrd hlz hl).mono ?_
  rintro e w' ⟨rfl, rfl⟩
  have b1 := fl1_bd (zeroed bs k)
  have b2 := fl2_bd (zeroed bs k)
  have b3 := sealX_bd bs k
  have b4 := sealY_bd bs k
  have ex : Hid ((((bs.length : Int) - k - 1) % 255 * fl1 (zeroed bs k) - fl2 (zeroed bs k)) % 255 = sealX bs k) := rfl
  have ey : Hid ((-fl1 (zeroed bs k) - sealX bs k) % 255 = sealY bs k) := rfl
  have b5 : 0 ≤ ((bs.length : Int) - k - 1) % 255 ∧ ((bs.length : Int) - k - 1) % 255 < 255 := by omega
  have b6 : 0 ≤ ((bs.length : Int) - k - 1) % 255 * fl1 (zeroed bs k) ∧ ((bs.length : Int) - k - 1) % 255 * fl1 (zeroed bs k) ≤ 254 * 254 :=
    ⟨Int.mul_nonneg b5.1 b1.1, Int.mul_le_mul (by omega) (by omega) b1.1 (by omega)⟩
  have hc0 := own_u8 hown3 (k := k) (by omega)
  have hc1 := own_u8 hown3 (k := k + 1) (by omega)
  have hf0 := hown3.frozenAt k
  have hf1 := hown3.frozenAt (k + 1)
  go_wp2_with fail
  refine (reduce_any _ _).mono ?_
  rintro e w' ⟨rfl, rfl⟩
  go_wp2_with fail
  refine (reduce_any _ _).mono ?_
  rintro e w' ⟨rfl, rfl⟩
  rw [ex.out]
  go_wp2_with fail
  refine (reduce_any _ _).mono ?_
  rintro e w' ⟨rfl, rfl⟩
  rw [ey.out]
  go_wp2_with fail
  go_ret2
  have hown4 := ((hown3.stored k (.int .u8 (sealX bs k))).1.stored (k + 1) (.int .u8 (sealY bs k))).1
  rw [show (((zeroed bs k).map u8v).set k (.int .u8 (sealX bs k))).set (k + 1) (.int .u8 (sealY bs k)) = (sealed bs k).map u8v from by
    simp [sealed, List.map_set, u8_ofInt b3.1 (by omega : sealX bs k < 256), u8_ofInt b4.1 (by omega : sealY bs k < 256)]] at hown4
  exact ⟨_, rfl, hown4, (hbel3.setCell (p := ⟨g, k, none⟩) hg1 _).setCell (p := ⟨g, k + 1, none⟩) hg1 _⟩

end Go.Proofs.Ytfpoghhjpfkbaaa

namespace Go.Proofs.Ytfpoghhjpfkbaaa
set_option linter.unusedVariables false
open Go.RowKit

def bit (b : Bool) : Nat := if b = true then 1 else 0
def headR (x : La) : Rec := (1, numB x.o.toNat 2 ++ numB x.s.toNat 4 ++ numB x.a.toNat 2 ++ numB (bit x.ov) 1)
def adR (x : Ad) : Rec := (2, numB x.1.toNat 2 ++ numB x.2.1.toNat 2 ++ numB x.2.2.toNat 2)
def pfR (x : Pf) : Rec := (3, numB x.1 4 ++ numB x.2.toNat 1)
def laRecs (x : La) : List Rec := headR x :: (x.adj.map adR ++ x.pre.map pfR) ++ [(4, [0, 0])]
def laPlain (x : La) : List UInt8 := encAll (laRecs x)
/-- The encoding of a valid advertisement. -/
def laEnc (x : La) : List UInt8 := sealed (laPlain x) ((laPlain x).length - 2)

theorem headR_len (x : La) : (headR x).2.length = 9 := by simp [headR, numB_len]
theorem adR_len (x : Ad) : (adR x).2.length = 6 := by simp [adR, numB_len]
theorem pfR_len (x : Pf) : (pfR x).2.length = 5 := by simp [pfR, numB_len]
theorem encE_all (l : List Rec) (h : ∀ r ∈ l, 1 ≤ r.1 ∧ r.1 ≤ 255 ∧ r.2.length ≤ 65535) : encE l = 0 := by
  induction l with
  | nil => rfl
  | cons r l ih =>
    have := h r (by simp)
    rw [encE, if_neg (by omega), if_neg (by omega)]
    exact ih fun q hq => h q (by simp [hq])
theorem laRecs_ok (x : La) : ∀ r ∈ laRecs x, 1 ≤ r.1 ∧ r.1 ≤ 255 ∧ r.2.length ≤ 65535 := by
  intro r hr
  simp only [laRecs, List.mem_append, List.mem_cons, List.mem_map, List.not_mem_nil, or_false] at hr
  rcases hr with (rfl | ⟨y, _, rfl⟩ | ⟨y, _, rfl⟩) | rfl
  · rw [headR_len]; simp [headR]
  · rw [adR_len]; simp [adR]
  · rw [pfR_len]; simp [pfR]
  · simp
theorem laRecs_E (x : La) : encE (laRecs x) = 0 := encE_all _ (laRecs_ok x)
theorem laRecs_R (x : La) : encR (laRecs x) = laPlain x := by unfold encR; rw [laRecs_E, if_pos rfl]; rfl
theorem encAll_len (l : List Rec) (k : Nat) (h : ∀ r ∈ l, r.2.length = k) : (encAll l).length = l.length * (3 + k) := by
  induction l with
  | nil => simp [encAll]
  | cons r l ih =>
    rw [encAll, List.length_append, enc1_len, h r (by simp), ih fun q hq => h q (by simp [hq]), List.length_cons, Nat.add_mul]; omega
theorem laPlain_len (x : La) : (laPlain x).length = 17 + x.adj.length * 9 + x.pre.length * 8 := by
  have h1 := encAll_len (x.adj.map adR) 6 (fun r hr => by obtain ⟨y, _, rfl⟩ := List.mem_map.1 hr; exact adR_len y)
  have h2 := encAll_len (x.pre.map pfR) 5 (fun r hr => by obtain ⟨y, _, rfl⟩ := List.mem_map.1 hr; exact pfR_len y)
  rw [List.length_map] at h1 h2
  simp only [laPlain, laRecs, List.cons_append, encAll, encAll_append, List.length_append, enc1_len, headR_len, h1, h2]
  simp
  omega
theorem laEnc_len (x : La) : (laEnc x).length = 17 + x.adj.length * 9 + x.pre.length * 8 := by
  rw [laEnc, ← laPlain_len]; simp [sealed, zeroed]
/-- What Encode returns. -/
noncomputable def lencE (x : La) : Int := if vB x = true then 0 else 1
noncomputable def lencB (x : La) : List UInt8 := if vB x = true then laEnc x else []

theorem adR_take (x : La) (k : Nat) (h : k < x.adj.length) : headR x :: (x.adj.take (k + 1)).map adR = (headR x :: (x.adj.take k).map adR) ++ [adR x.adj[k]] := by
  rw [List.take_succ_eq_append_getElem h, List.map_append]; rfl
theorem pfR_take (x : La) (k : Nat) (h : k < x.pre.length) : headR x :: (x.adj.map adR ++ (x.pre.take (k + 1)).map pfR) = (headR x :: (x.adj.map adR ++ (x.pre.take k).map pfR)) ++ [pfR x.pre[k]] := by
  rw [List.take_succ_eq_append_getElem h, List.map_append, List.cons_append, List.append_assoc]; rfl

end Go.Proofs.Ytfpoghhjpfkbaaa

namespace Go.Proofs.Ytfpoghhjpfkbaaa
set_option linter.unusedVariables false
open Go.RowKit

def auE (m : Nat) (z : Int) : Int := if z < 1 ∨ 8 < z then 1 else if m < 256 ^ z.toNat then 0 else 2
def auR (bs : List UInt8) (m : Nat) (z : Int) : List UInt8 := if auE m z = 0 then bs ++ numB m z.toNat else []
def uiE (bs : List UInt8) : Int := if 1 ≤ bs.length ∧ bs.length ≤ 8 then 0 else 4
def uiN (bs : List UInt8) : Nat := if 1 ≤ bs.length ∧ bs.length ≤ 8 then uintB bs else 0

theorem ofInt_u64 (a : Nat) (ha : a < 18446744073709551616) : (BitVec.ofInt 64 (a : Int)).toNat = a := by
  rw [BitVec.toNat_ofInt]; omega
theorem u64_or_nat (a b : Nat) (ha : a < 18446744073709551616) (hb : b < 18446744073709551616) : bits .or .u64 (a : Int) (b : Int) = ((a ||| b : Nat) : Int) := by
  have hx : a ||| b < 2 ^ 64 := Nat.or_lt_two_pow (by omega) (by omega)
  show IntKind.u64.wrap ((BitVec.ofInt 64 (a : Int) ||| BitVec.ofInt 64 (b : Int)).toNat : Int) = _
  rw [BitVec.toNat_or, ofInt_u64 a ha, ofInt_u64 b hb, IntKind.wrap_u64]
  omega
theorem uintB_take (bs : List UInt8) (k : Nat) (hk : k < bs.length) : uintB (bs.take (k + 1)) = uintB (bs.take k) * 256 + bs[k].toNat := by
  rw [List.take_succ_eq_append_getElem hk, uintB_snoc]
theorem or8 (a b : Nat) (ha : a < 72057594037927936) (hb : b < 256) : bits .or .u64 ((a : Int) * 256) (b : Int) = ((a * 256 + b : Nat) : Int) := by
  have h := Nat.two_pow_add_eq_or_of_lt (i := 8) (b := b) (by omega) a
  have e : (a : Int) * 256 = ((2 ^ 8 * a : Nat) : Int) := by omega
  rw [e, u64_or_nat _ _ (by omega) (by omega), ← h]
  omega

/-- copy into a slice of the call's own that is as long as the source. -/
theorem wpList_copy_all {P : Program} {w : World} {ops : Array Oper} {rest : List Oper} {o : Oper} {a : Act} {Q : Exit → Act → World → Prop} (hgd : o.guard = none) {t e : TypeId} {z : Value} {bytes : Nat} (hE : ElemT P t e z 1 bytes) (d s : Operand)
    (ho : o.op = .call { callee := .builtin .copy, args := #[d, s], argTypes := #[t, t] }) (base : Nat) {v : Value} {n : Nat} {xs : List Value} (hd : a.eval d = v) (hown : w.ownsRow base e 1 v n xs)
    {A : Option Addr} {c : Nat} {src : List Value} (hs : a.eval s = .slice A n c) (hr : Rd w A src) (hl : src.length = n) (h1 : ∀ u ∈ src, u.oneCell' = true) (hbase : base ≤ w.heap.size)
    (h : ∀ w', w'.ownsRow base e 1 v n src → Below base w w' → wpList P ops Q rest (a.put o.dst (goInt n)) w') : wpList P ops Q (o :: rest) a w := by
  obtain ⟨i, hi, hz0, hz1, hz2⟩ := info_parts hE.info
  have hsz : (P.info? e).map (·.size) = some 1 := by rw [hi, Option.map_some, hz1]
  rcases hown.2 with ⟨rfl, rfl⟩ | ⟨g, cap, cur, rfl, hg, hh, hnc, hcm, hcs, htk⟩
  · obtain rfl : src = [] := List.eq_nil_of_length_eq_zero hl
    exact wpList_copy_nothing hgd d s t t ho e hE.under hsz none A 0 0 0 c hd hs rfl (h w (World.ownsRow_nil _ _ _ _) (Below.refl _ _))
  · refine wpList_copy_splice hgd d s t t ho e hE.under hsz _ _ n cap n c hd hs g 0 cur.toList e (by simpa using hh) src (by simp [hl]) (fun hp => ⟨rfl, ?_⟩) (by simp; omega) h1 base w (Below.refl _ _) hg ?_
    · exact hr hp
    · intro w' hh' hb'
      rw [hl]
      refine h w' ⟨by omega, .inr ⟨g, cap, _, rfl, hg, hh'.out, hnc, hcm, ?_, ?_⟩⟩ hb'
      · simp [splice]; omega
      · simp [splice, hl]

/-- 'make([]T, n, c)', T of one cell. -/
theorem own_made2 (w : World) (z : Value) (n c : Nat) (e : TypeId) (hn : n ≤ c) (hm : c ≤ maxLen) : (w.alloc (.cells (zeroRow z c) e)).ownsRow w.heap.size e 1 (.slice (some ⟨w.heap.size, 0, none⟩) n c) n (List.replicate n z) := by
  refine ⟨by simp, .inr ⟨w.heap.size, c, zeroRow z c, rfl, Nat.le_refl _, heap_alloc_new w _, hn, hm, by simp [zeroRow], ?_⟩⟩
  simp [zeroRow, hn, Nat.min_eq_left]

set_option maxRecDepth 100000 in
set_option maxHeartbeats 1600000 in
theorem append_any (A : Option Addr) (n cap : Nat) (bs : List UInt8) (m : Nat) (z : Int) (w : World) (hr : Bs w A bs) (hn : bs.length = n) (hn2 : n ≤ 1000000) (hm : m < 18446744073709551616) :
    Calls Try.prog 52 #[.slice A n cap, .int .u64 m, .int .i64 z] w fun e w' =>
      ∃ v, e = .returned (.tuple #[v, .int .i64 (auE m z)]) ∧ w'.ownsRow w.heap.size 5 1 v (auR bs m z).length ((auR bs m z).map u8v) ∧ Below w.heap.size w w' := by
  by_cases h1 : z < 1 ∨ 8 < z
  · have e1 : auE m z = 1 := by unfold auE; rw [if_pos h1]
    have e2 : auR bs m z = [] := by unfold auR; rw [e1]; rfl
    rw [e1, e2]
    clear e1 e2
    by_cases h2 : z < 1
    · clear h1
      go_enter Try.func52, Try.ntmps52
      go_wp2_with fail
      go_ret2
      exact ⟨_, rfl, World.ownsRow_nil _ _ _ _, Below.refl _ _⟩
    · have h3 : 8 < z := by omega
      clear h1
      go_enter Try.func52, Try.ntmps52
      go_wp2_with fail
      go_ret2
      exact ⟨_, rfl, World.ownsRow_nil _ _ _ _, Below.refl _ _⟩
  obtain ⟨k, rfl⟩ : ∃ k : Nat, z = k := ⟨z.toNat, by omega⟩
  have hk1 : 1 ≤ k := by omega
  have hk8 : k ≤ 8 := by omega
  clear h1
  subst hn
  have hd : ((m : Int) / 2 ^ (8 * k)) = ((m / 256 ^ k : Nat) : Int) := by
    rw [Int.natCast_ediv, Int.natCast_pow, Int.pow_mul]; rfl
  by_cases hf : m < 256 ^ k
  · have e1 : auE m k = 0 := by unfold auE; rw [if_neg (by omega), Int.toNat_natCast, if_pos hf]
    have e2 : auR bs m k = bs ++ numB m k := by unfold auR; rw [e1, if_pos rfl, Int.toNat_natCast]
    rw [e1, e2]
    clear e1 e2
    have hd2 : ((m : Int) / 2 ^ (8 * k) != 0) = false := by rw [hd, Nat.div_eq_of_lt hf]; rfl
    clear hd hf
    have S := (St.start w).read hr
    have hmk : (Instr.makeSlice 78 (.int .i64 (bs.length : Int)) (.int .i64 ((bs.length : Int) + k))).run Try.prog w = _ := run_make1 bytesT rfl .i64 .i64 bs.length (bs.length + k) (by omega) (by omega) (by omega) w
    have hown0 := own_made2 w (.int .u8 0) bs.length (bs.length + k) 5 (by omega) (by simp only [maxLen]; omega)
    have hb0 := below_new' w (.cells (zeroRow (.int .u8 0) (bs.length + k)) 5)
    have rd1 := hr.below hb0
    go_enter Try.func52, Try.ntmps52
    by_cases h8 : k < 8
    all_goals
      go_wp2_with (refine wpList_copy_all (v := .slice (some ⟨w.heap.size, 0, none⟩) bs.length (bs.length + k)) (o := ⟨some 34, _, _, _, _, _⟩) rfl bytesT (.tmp 32) (.tmp 33) rfl w.heap.size rfl hown0 rfl rd1 (by simp) (u8v_one _) hb0.size ?_; intro w1 hown1 hb1)
      replace hb1 := hb0.trans hb1
      clear hmk rd1 hown0 hd2
      go_loopw [8, 9] (fun v8 v9 wr => ∃ j i : Nat, j + i = k ∧ v9 = .int .i64 ((i : Int) - 1) ∧ wr.ownsRow w.heap.size 5 1 v8 (bs.length + j) ((bs ++ (numB m k).take j).map u8v) ∧ Below w.heap.size w wr) (fun _ v9 _ => (intOf v9 + 1).toNat)
      case atStart => exact ⟨0, k, by omega, rfl, by simpa using hown1, hb1⟩
      case round =>
        clear hown1 hb1
        obtain ⟨j, i, hji, rfl, hown, hb⟩ := hrel
        rcases i with _ | i
        · obtain rfl : j = k := by omega
          rw [List.take_of_length_le (by rw [numB_len]; exact Nat.le_refl _)] at hown
          go_wp2_with fail
          go_ret2
          refine ⟨_, rfl, ?_, hb⟩
          rw [List.length_append, numB_len]
          exact hown
        · have hi : ((i + 1 : Nat) : Int) - 1 = i := by omega
          rw [hi]
          have hdi : ((m : Int) / 2 ^ (8 * i)) = ((m / 256 ^ i : Nat) : Int) := by
            rw [Int.natCast_ediv, Int.natCast_pow, Int.pow_mul]; rfl
          have hki : k - 1 - j = i := by omega
          have htk : Hid ((bs ++ (numB m k).take j).map u8v ++ [.int .u8 ((m : Int) / 2 ^ (8 * i) % 256)] = (bs ++ (numB m k).take (j + 1)).map u8v) := by
            show _ = _
            rw [numB_take m k j (by omega), hki, hdi, ← IntKind.wrap_u8, u8_wrap]; simp
          have hown0 := hown.alloc (.cells #[.int .u8 ((m : Int) / 2 ^ (8 * i) % 256)] 5)
          have hb0 := below_new' wr (.cells #[.int .u8 ((m : Int) / 2 ^ (8 * i) % 256)] 5)
          have rd0 := Rd.lit wr #[.int .u8 ((m : Int) / 2 ^ (8 * i) % 256)] 5
          have hsz := hb.size
          have hsz2 := hb0.size
          clear hdi hi hki hown
          go_wp2_with (at_builtin; refine wpList_app rfl bytesT (.tmp 41) (.tmp 47) rfl w.heap.size rfl hown0 (m := 1) rfl (by simp) rd0 (by simp [Value.oneCell']) (by simp only [maxLen]; omega) (by omega) (by omega) (bs.length + (j + 1)) ((bs ++ (numB m k).take (j + 1)).map u8v) (by omega) htk.out ?_; intro v3 w3 hown3 hbel3)
          go_roundw
          case rel => exact ⟨j + 1, i, by omega, rfl, hown3, (hb.trans (hb0.mono hsz)).trans hbel3⟩
          case measure => simp [intOf]
  · have h8 : k < 8 := by
      by_cases h8 : k < 8
      · exact h8
      · obtain rfl : k = 8 := by omega
        exact absurd hm (by omega)
    have e1 : auE m k = 2 := by unfold auE; rw [if_neg (by omega), Int.toNat_natCast, if_neg hf]
    have e2 : auR bs m k = [] := by unfold auR; rw [e1]; rfl
    rw [e1, e2]
    clear e1 e2
    have hd2 : ((m : Int) / 2 ^ (8 * k) != 0) = true := by
      rw [hd]
      have := Nat.div_pos (Nat.le_of_not_lt hf) (Nat.pow_pos (n := k) (show 0 < 256 by omega))
      simp only [bne_iff_ne, ne_eq]; omega
    clear hd hf
    go_enter Try.func52, Try.ntmps52
    go_wp2_with fail
    go_ret2
    exact ⟨_, rfl, World.ownsRow_nil _ _ _ _, Below.refl _ _⟩

end Go.Proofs.Ytfpoghhjpfkbaaa
