/-
  Plain facts for the laws of chapter 32; the contracts at valid and at other advertisements.
-/
import Derived.Test.YtpcbgmnldpbamaaLaC
namespace Go.Proofs.Ytpcbgmnldpbamaa
set_option linter.unusedVariables false
open Go.RowKit

theorem St.lt {W w : World} {bs : List (Nat × List Value)} {rs : List (Option Addr × List Value)} (S : St W w bs rs) (i : Nat) {g : Nat} {cs : List Value} (hi : bs[i]? = some (g, cs)) (hn : 0 < cs.length) : g < w.heap.size := (S.box i hi).lt hn
/-- The numbers were stored anew. -/
theorem LaAt.renum {w : World} {o s a : Int} {ov : Bool} {A : Option Addr} {n c : Nat} {B : Option Addr} {m d : Nat} {x : La} (h : LaAt w (laV o s a ov A n c B m d) x) (o' s' a' : Int) (ov' : Bool) :
    LaAt w (laV o' s' a' ov' A n c B m d) ⟨o', s', a', ov', x.adj, x.pre⟩ := by
  obtain ⟨A9, c9, B9, d9, e9, r1, r2, l1, l2, l3, l4, hu⟩ := h
  simp only [laV, Value.agg.injEq, Array.mk.injEq, List.cons.injEq, Value.slice.injEq, and_true] at e9
  obtain ⟨_, _, _, _, ⟨rfl, rfl, rfl⟩, rfl, rfl, rfl⟩ := e9
  exact ⟨_, _, _, _, rfl, r1, r2, l1, l2, l3, l4, hu⟩
theorem lencE_t {x : La} (h : LaValid x) : lencE x = 0 := by unfold lencE; rw [vB_t h]; rfl
theorem lencE_f {x : La} (h : ¬ LaValid x) : lencE x = 1 := by unfold lencE; rw [vB_f h]; rfl
theorem lencB_t {x : La} (h : LaValid x) : lencB x = laEnc x := by unfold lencB; rw [vB_t h]; rfl
theorem lencB_f {x : La} (h : ¬ LaValid x) : lencB x = [] := by unfold lencB; rw [vB_f h]; rfl
theorem purge_valid {x : La} (h : LaValid x) : LaValid (purgeX x) := by
  obtain ⟨h1, h2, h3, h4, h5, h6, h7, h8⟩ := h
  refine ⟨h1, h2, by simp [purgeX], by simp [purgeX], by simp [purgeX], fun _ => ⟨rfl, rfl, rfl⟩, fun k x hk _ => ?_, fun k x hk _ => ?_⟩
  · simp [purgeX] at hk
  · simp [purgeX] at hk
theorem equB_refl (x : La) : equB x x = true := by simp [equB, sameB, conB]
theorem equB_iff {x y : La} : equB x y = true ↔ x = y := by
  obtain ⟨o, s, a, ov, adj, pre⟩ := x
  obtain ⟨o', s', a', ov', adj', pre'⟩ := y
  simp only [equB, sameB, conB, La.mk.injEq, Bool.and_eq_true, beq_iff_eq, decide_eq_true_iff]
  constructor
  · rintro ⟨⟨rfl, rfl, _, rfl, rfl, rfl⟩, rfl⟩; simp
  · rintro ⟨rfl, rfl, rfl, rfl, rfl, rfl⟩; simp
theorem fewB_t {x : La} (h : fewB x = true) : x.adj.length ≤ 300 ∧ x.pre.length ≤ 100 := by simpa [fewB] using h

def EncT (w : World) (x : La) (e : Ending) (w' : World) : Prop :=
  ∃ A c, e = .returned (.tuple #[.slice A (laEnc x).length c, .int .i64 0]) ∧ w'.ownsRow w.heap.size 5 1 (.slice A (laEnc x).length c) (laEnc x).length ((laEnc x).map u8v) ∧ (laEnc x).length ≤ c ∧ c ≤ 9223372036854775807 ∧ Below w.heap.size w w'
theorem enc_t (w : World) (v : Value) (x : La) (h : LaAt w v x) (hv : LaValid x) : Calls Try.prog 12 #[v] w (EncT w x) := by
  refine (enc_at w v x h).mono ?_
  rintro e w' ⟨A, c, he, hown, hb⟩
  rw [lencE_t hv, lencB_t hv] at he
  rw [lencB_t hv] at hown
  obtain ⟨A', c', e', r, l, m⟩ := own_rd hown
  simp only [Value.slice.injEq, true_and] at e'
  obtain ⟨rfl, rfl⟩ := e'
  exact ⟨A, c, he, hown, l, m, hb⟩
def EncF (w : World) (e : Ending) (w' : World) : Prop := ∃ A c, e = .returned (.tuple #[.slice A 0 c, .int .i64 1]) ∧ Below w.heap.size w w'
theorem enc_f (w : World) (v : Value) (x : La) (h : LaAt w v x) (hv : ¬ LaValid x) : Calls Try.prog 12 #[v] w (EncF w) := by
  refine (enc_at w v x h).mono ?_
  rintro e w' ⟨A, c, he, hown, hb⟩
  rw [lencE_f hv, lencB_f hv] at he
  exact ⟨A, c, he, hb⟩
def PurT (w : World) (x : La) (e : Ending) (w' : World) : Prop :=
  ∃ A c B d, e = .returned (.tuple #[laV x.o x.s 3600 false A 0 c B 0 d, .int .i64 0]) ∧ Hid (∀ W', Below w'.heap.size w' W' → LaAt W' (laV x.o x.s 3600 false A 0 c B 0 d) (purgeX x)) ∧ Below w.heap.size w w'
theorem pur_t (w : World) (v : Value) (x : La) (h : LaAt w v x) (hv : LaValid x) : Calls Try.prog 13 #[v] w (PurT w x) := by
  refine (lpurge_any w v x h).mono ?_
  rintro e w' ⟨v, he, hown, hb⟩
  rw [show purgeE x = 0 by unfold purgeE; rw [vB_t hv]; rfl] at he
  rw [show purgeV x = purgeX x by unfold purgeV; rw [vB_t hv]; rfl] at hown
  obtain ⟨A', c', B', d', rfl, hl⟩ := hown.open
  exact ⟨A', c', B', d', he, hl, hb⟩
def PurF (w : World) (e : Ending) (w' : World) : Prop :=
  ∃ A c B d, e = .returned (.tuple #[laV 0 0 0 false A 0 c B 0 d, .int .i64 1]) ∧ Hid (∀ W', Below w'.heap.size w' W' → LaAt W' (laV 0 0 0 false A 0 c B 0 d) laZero) ∧ Below w.heap.size w w'
theorem pur_f (w : World) (v : Value) (x : La) (h : LaAt w v x) (hv : ¬ LaValid x) : Calls Try.prog 13 #[v] w (PurF w) := by
  refine (lpurge_any w v x h).mono ?_
  rintro e w' ⟨v, he, hown, hb⟩
  rw [show purgeE x = 1 by unfold purgeE; rw [vB_f hv]; rfl] at he
  rw [show purgeV x = laZero by unfold purgeV; rw [vB_f hv]; rfl] at hown
  obtain ⟨A', c', B', d', rfl, hl⟩ := hown.open
  exact ⟨A', c', B', d', he, hl, hb⟩
def DecV (w : World) (E : Int) (V : La) (e : Ending) (w' : World) : Prop :=
  ∃ A c B d, e = .returned (.tuple #[laV V.o V.s V.a V.ov A V.adj.length c B V.pre.length d, .int .i64 E]) ∧ Hid (∀ W', Below w'.heap.size w' W' → LaAt W' (laV V.o V.s V.a V.ov A V.adj.length c B V.pre.length d) V) ∧ Below w.heap.size w w'
theorem dec_v {f : FuncId} {args : Array Value} {w : World} {bs : List UInt8} {E : Int} {V : La} (hE : ldecE bs = E) (hV : ldecV bs = V) (h : Calls Try.prog f args w (LdecPost w bs)) : Calls Try.prog f args w (DecV w E V) := by
  subst hE hV
  refine h.mono ?_
  rintro e w' ⟨v, he, hown, hb⟩
  obtain ⟨A', c', B', d', rfl, hl⟩ := hown.open
  exact ⟨A', c', B', d', he, hl, hb⟩
theorem dec_at (w : World) (A : Option Addr) (n cap : Nat) (bs : List UInt8) (E : Int) (V : La) (hE : ldecE bs = E) (hV : ldecV bs = V) (hr : Bs w A bs) (hn : bs.length = n) (hcap : n ≤ cap) (hm : cap ≤ 9223372036854775807) (hn2 : n ≤ 100000) :
    Calls Try.prog 19 #[.slice A n cap] w (DecV w E V) := dec_v hE hV (ldecode_any A n cap bs w hr hn hcap hm hn2)
theorem rdec_at (w : World) (A : Option Addr) (n cap : Nat) (bs : List UInt8) (E : Int) (V : La) (hE : ldecE bs = E) (hV : ldecV bs = V) (hr : Bs w A bs) (hn : bs.length = n) (hcap : n ≤ cap) (hm : cap ≤ 9223372036854775807) (hn2 : n ≤ 100000) :
    Calls Try.prog 20 #[.slice A n cap] w (DecV w E V) := dec_v hE hV (rldecode_any A n cap bs w hr hn hcap hm hn2)
/-- A decoding is good, or an error. -/
theorem ldec_cases (bs : List UInt8) : (∃ x, DecIs bs x ∧ ldecE bs = 0 ∧ ldecV bs = x) ∨ (ldecE bs ≠ 0 ∧ ldecV bs = laZero) := by
  by_cases h : ∃ x, DecIs bs x
  · obtain ⟨x, hx⟩ := h
    obtain ⟨h1, h2⟩ := ldec_yes hx
    exact .inl ⟨x, hx, h1, h2⟩
  · refine .inr ⟨?_, ldecV_no h⟩
    unfold ldecE
    split
    · omega
    · first | omega | (rw [if_neg h]; omega)
theorem ldec_cut {x : La} (hx : LaOk x) (k : Nat) (hk : k < (laEnc x).length) : ldecE ((laEnc x).take k) ≠ 0 := by
  rcases ldec_cases ((laEnc x).take k) with ⟨y, hy, _, _⟩ | ⟨h, _⟩
  · exfalso
    obtain ⟨b1, b2, e1⟩ := laEnc_form y
    obtain ⟨a1, a2, e2⟩ := laEnc_dec x
    rw [hy.2] at e1
    have h1 := List.take_append_drop k (laEnc x)
    rw [e1] at h1
    rw [← h1, decO_enc _ (laFront_E y b1 b2)] at e2
    obtain ⟨l3, h3, e3⟩ := Option.map_eq_some_iff.1 e2
    obtain ⟨_, h4, _⟩ := decO_all _ _ (Nat.le_refl _) _ h3
    have hne : l3 ≠ [] := by
      rintro rfl
      have := congrArg List.length h4
      simp only [encAll, List.length_drop, List.length_nil] at this
      omega
    have h5 := congrArg List.dropLast e3
    rw [List.dropLast_concat, List.dropLast_append_of_ne_nil hne] at h5
    have hm : (4, [b1, b2]) ∈ laFront x := by rw [← h5]; simp
    simp only [laFront, List.mem_cons, List.mem_append, List.mem_map] at hm
    rcases hm with h | ⟨y, _, h⟩ | ⟨y, _, h⟩
    · have := congrArg Prod.fst h; simp [headR] at this
    · have := congrArg Prod.fst h; simp [adR] at this
    · have := congrArg Prod.fst h; simp [pfR] at this
  · exact h

/-! ### Newer -/
theorem cmpI_neg (a b : Int) : cmpI b a = - cmpI a b := by unfold cmpI; split <;> split <;> (try split) <;> omega
theorem cmpI_bd (a b : Int) : cmpI a b = -1 ∧ a < b ∨ cmpI a b = 0 ∧ a = b ∨ cmpI a b = 1 ∧ b < a := by unfold cmpI; split <;> (try split) <;> omega
theorem cmpB_neg : ∀ (a b : List UInt8), Lib.compareBytes b a = - Lib.compareBytes a b
  | [], [] => rfl
  | [], _ :: _ => rfl
  | _ :: _, [] => rfl
  | x :: a, y :: b => by
    unfold Lib.compareBytes
    by_cases h1 : x < y
    · have h2 : ¬ y < x := fun h => absurd (UInt8.lt_trans h1 h) (UInt8.lt_irrefl _)
      simp [h1, h2]
    · by_cases h2 : y < x
      · simp [h1, h2]
      · simp [h1, h2, cmpB_neg a b]
theorem cmpB_trans : ∀ (a b c : List UInt8), 0 ≤ Lib.compareBytes a b → 0 ≤ Lib.compareBytes b c → 0 ≤ Lib.compareBytes a c
  | [], [], [] => by simp [Lib.compareBytes]
  | [], [], _ :: _ => by simp [Lib.compareBytes]
  | [], _ :: _, _ => by simp [Lib.compareBytes]
  | _ :: _, _, [] => by simp [Lib.compareBytes]
  | _ :: _, [], _ :: _ => by simp [Lib.compareBytes]
  | x :: a, y :: b, z :: c => by
    have ih := cmpB_trans a b c
    intro h1 h2
    unfold Lib.compareBytes at h1 h2 ⊢
    by_cases e1 : x < y
    · simp [e1] at h1
    · by_cases e2 : y < z
      · simp [e2] at h2
      · have e3 : ¬ x < z := fun h => by
          rw [UInt8.lt_iff_toNat_lt] at *; omega
        by_cases e4 : z < x
        · simp [e3, e4]
        · have e5 : ¬ y < x := fun h => by rw [UInt8.lt_iff_toNat_lt] at *; omega
          have e6 : ¬ z < y := fun h => by rw [UInt8.lt_iff_toNat_lt] at *; omega
          simp only [e1, e2, e3, e4, e5, e6, if_false] at h1 h2 ⊢
          exact ih h1 h2
theorem newI_v {x y : La} (hx : LaValid x) (hy : LaValid y) : newI x y = if x.s = y.s then (if (x.a == 3600) = (y.a == 3600) then Lib.compareBytes (laEnc (age0 x)) (laEnc (age0 y)) else if (x.a == 3600) = true then 1 else -1) else cmpI x.s y.s := by
  unfold newI
  rw [vB_t hx, vB_t hy]
  exact if_pos ⟨rfl, rfl⟩
/-- The number, whether it is a purge, the bytes. -/
def KeyGe (x y : La) : Prop := y.s < x.s ∨ x.s = y.s ∧ (x.a = 3600 ∧ y.a ≠ 3600 ∨ ((x.a == 3600) = (y.a == 3600)) ∧ 0 ≤ Lib.compareBytes (laEnc (age0 x)) (laEnc (age0 y)))
theorem newI_neg {x y : La} (hx : LaValid x) (hy : LaValid y) : newI y x = - newI x y := by
  rw [newI_v hx hy, newI_v hy hx]
  by_cases h : x.s = y.s
  · rw [if_pos h, if_pos h.symm]
    by_cases h2 : (x.a == 3600) = (y.a == 3600)
    · rw [if_pos h2, if_pos h2.symm]; exact cmpB_neg _ _
    · rw [if_neg h2, if_neg (fun e => h2 e.symm)]
      rcases e1 : (x.a == 3600) with _ | _ <;> rcases e2 : (y.a == 3600) with _ | _
      · rw [e1, e2] at h2; exact absurd rfl h2
      · simp
      · simp
      · rw [e1, e2] at h2; exact absurd rfl h2
  · rw [if_neg h, if_neg (fun e => h e.symm)]; exact cmpI_neg _ _
theorem newI_bd {x y : La} (hx : LaValid x) (hy : LaValid y) : -1 ≤ newI x y ∧ newI x y ≤ 1 := by
  unfold newI
  rw [vB_t hx, vB_t hy, if_pos ⟨rfl, rfl⟩]
  have h1 := cmp_bd (laEnc (age0 x)) (laEnc (age0 y))
  have h2 := cmpI_bd x.s y.s
  split
  · split
    · omega
    · split <;> omega
  · omega
theorem newI_ge {x y : La} (hx : LaValid x) (hy : LaValid y) : 0 ≤ newI x y ↔ KeyGe x y := by
  unfold newI KeyGe
  rw [vB_t hx, vB_t hy, if_pos ⟨rfl, rfl⟩]
  by_cases h : x.s = y.s
  · rw [if_pos h]
    by_cases h2 : (x.a == 3600) = (y.a == 3600)
    · rw [if_pos h2]
      constructor
      · intro h3; exact .inr ⟨h, .inr ⟨h2, h3⟩⟩
      · rintro (h3 | ⟨_, ⟨h3, h4⟩ | ⟨_, h3⟩⟩)
        · omega
        · rw [h3] at h2; simp at h2; exact absurd h2 h4
        · exact h3
    · rw [if_neg h2]
      rcases e1 : (x.a == 3600) with _ | _ <;> rcases e2 : (y.a == 3600) with _ | _
      · rw [e1, e2] at h2; exact absurd rfl h2
      · simp only [beq_eq_false_iff_ne, beq_iff_eq] at e1 e2
        constructor
        · intro h3; simp at h3
        · rintro (h3 | ⟨_, ⟨h3, h4⟩ | ⟨h3, _⟩⟩)
          · omega
          · exact absurd h3 e1
          · cases h3
      · simp only [beq_eq_false_iff_ne, beq_iff_eq] at e1 e2
        constructor
        · intro _; exact .inr ⟨h, .inl ⟨e1, e2⟩⟩
        · intro _; simp
      · rw [e1, e2] at h2; exact absurd rfl h2
  · rw [if_neg h]
    have := cmpI_bd x.s y.s
    constructor
    · intro h3; left; omega
    · rintro (h3 | ⟨h3, _⟩)
      · omega
      · exact absurd h3 h
theorem KeyGe.trans {x y z : La} (h1 : KeyGe x y) (h2 : KeyGe y z) : KeyGe x z := by
  unfold KeyGe at *
  rcases h1 with h1 | ⟨e1, h1⟩
  · rcases h2 with h2 | ⟨e2, _⟩
    · left; omega
    · left; omega
  · rcases h2 with h2 | ⟨e2, h2⟩
    · left; omega
    · right
      refine ⟨by omega, ?_⟩
      rcases h1 with ⟨a1, b1⟩ | ⟨a1, b1⟩
      · rcases h2 with ⟨a2, b2⟩ | ⟨a2, b2⟩
        · exact absurd a2 b1
        · left
          refine ⟨a1, fun h => b1 ?_⟩
          rw [h] at a2; simpa using a2
      · rcases h2 with ⟨a2, b2⟩ | ⟨a2, b2⟩
        · left
          refine ⟨?_, b2⟩
          rw [a2] at a1; simpa using a1
        · right
          exact ⟨a1.trans a2, cmpB_trans _ _ _ b1 b2⟩
/-- 0 exactly for advertisements of the same contents. -/
theorem newI_zero {x y : La} (hx : LaOk x) (hy : LaOk y) : (newI x y == 0) = sameB x y := by
  have hz : newI x y = 0 ↔ sameB x y = true := by
    unfold newI
    rw [vB_t hx.1, vB_t hy.1, if_pos ⟨rfl, rfl⟩]
    have hinj : laEnc (age0 x) = laEnc (age0 y) ↔ age0 x = age0 y := ⟨fun h => laEnc_inj ⟨age0_valid hx.1, hx.2⟩ ⟨age0_valid hy.1, hy.2⟩ h, fun h => by rw [h]⟩
    have hs := cmpI_bd x.s y.s
    simp only [sameB, conB, Bool.and_eq_true, beq_iff_eq, decide_eq_true_iff]
    by_cases h : x.s = y.s
    · rw [if_pos h]
      by_cases h2 : (x.a == 3600) = (y.a == 3600)
      · rw [if_pos h2, cmp_eq0, hinj]
        obtain ⟨o, s, a, ov, adj, pre⟩ := x
        obtain ⟨o', s', a', ov', adj', pre'⟩ := y
        simp only [age0, La.mk.injEq, true_and]
        constructor
        · rintro ⟨rfl, rfl, rfl, rfl, rfl⟩; exact ⟨rfl, rfl, h2, rfl, rfl, rfl⟩
        · rintro ⟨rfl, rfl, _, rfl, rfl, rfl⟩; exact ⟨rfl, rfl, rfl, rfl, rfl⟩
      · rw [if_neg h2]
        constructor
        · intro h3; split at h3 <;> omega
        · rintro ⟨_, _, h3, _⟩; exact absurd h3 h2
    · rw [if_neg h]
      constructor
      · intro h3; omega
      · rintro ⟨_, h3, _⟩; exact absurd h3 h
  rw [Bool.eq_iff_iff, beq_iff_eq]; exact hz
/-- Transitivity, as the law says it. -/
theorem newI_tr {x y z : La} (hx : LaValid x) (hy : LaValid y) (hz : LaValid z) (h1 : 0 ≤ newI x y) (h2 : 0 ≤ newI y z) : 0 ≤ newI x z ∧ (newI x y + newI y z = 0 ↔ newI x z = 0) := by
  have h3 := (newI_ge hx hz).2 (((newI_ge hx hy).1 h1).trans ((newI_ge hy hz).1 h2))
  refine ⟨h3, fun h => ?_, fun h => ?_⟩
  · have e1 : newI y x = 0 := by rw [newI_neg hx hy]; omega
    have e2 : newI z y = 0 := by rw [newI_neg hy hz]; omega
    have h4 := (newI_ge hz hx).2 (((newI_ge hz hy).1 (by omega)).trans ((newI_ge hy hx).1 (by omega)))
    rw [newI_neg hx hz] at h4
    omega
  · have e3 : newI z x = 0 := by rw [newI_neg hx hz]; omega
    have a1 := (newI_ge hz hy).2 (((newI_ge hz hx).1 (by omega)).trans ((newI_ge hx hy).1 h1))
    have a2 := (newI_ge hy hx).2 (((newI_ge hy hz).1 h2).trans ((newI_ge hz hx).1 (by omega)))
    rw [newI_neg hy hz] at a1
    rw [newI_neg hx hy] at a2
    omega
theorem newI_tr2 {x y z : La} (hx : LaValid x) (hy : LaValid y) (hz : LaValid z) (h1 : newI x y ≤ 0) (h2 : newI y z ≤ 0) (h : newI x y < 0 ∨ newI y z < 0) : newI x z < 0 := by
  have e1 := newI_neg hx hy
  have e2 := newI_neg hy hz
  have e3 := newI_neg hx hz
  obtain ⟨h3, h4⟩ := newI_tr hz hy hx (by omega) (by omega)
  have : ¬ newI z x = 0 := fun e => by have := h4.2 e; omega
  omega
/-- A purge against another one of its number. -/
theorem newI_purge {x y : La} (hx : LaValid x) (hy : LaValid y) (ho : y.o = x.o) : newI (purgeX x) y = if y.s = x.s ∧ y.a = 3600 then 0 else if x.s < y.s then -1 else 1 := by
  have e1 : (purgeX x).s = x.s := rfl
  have e2 : ((purgeX x).a == 3600) = true := rfl
  rw [newI_v (purge_valid hx) hy, e1, e2]
  by_cases h : x.s = y.s
  · rw [if_pos h]
    by_cases h2 : y.a = 3600
    · rw [if_pos (by rw [h2]; rfl), if_pos ⟨h.symm, h2⟩]
      obtain ⟨a, b, c⟩ := hy.2.2.2.2.2.1 h2
      rw [cmp_eq0]
      congr 1
      obtain ⟨o', s', a', ov', adj', pre'⟩ := y
      simp only at a b c h ho
      simp [age0, purgeX, a, b, c, h, ho]
    · rw [if_neg (by simp [h2]), if_pos rfl, if_neg (by simp [h2]), if_neg (by omega)]
  · have := cmpI_bd x.s y.s
    rw [if_neg h, if_neg (by omega)]
    split <;> omega
/-- The other one with this one's origin. -/
theorem valid_org {y : La} (hy : LaValid y) (o : Int) (h0 : 0 ≤ o ∧ o ≤ 63) (h : ∀ z ∈ y.adj, z.1 ≠ o) : LaValid { y with o := o } := by
  obtain ⟨h1, h2, h3, h4, h5, h6, h7, h8⟩ := hy
  refine ⟨h0, h2, h3, h4, h5, h6, fun k x hk hx => ?_, h8⟩
  obtain ⟨a, b, c⟩ := h7 k x hk hx
  exact ⟨a, h x (List.mem_of_getElem? hx), c⟩

end Go.Proofs.Ytpcbgmnldpbamaa
