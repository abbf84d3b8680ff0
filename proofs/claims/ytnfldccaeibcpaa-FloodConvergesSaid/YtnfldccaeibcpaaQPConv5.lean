/-
  The texts Fc1, Fc2, Fc3, Fc4, Fc5, Fb1, Fc6, one after the other.
-/
import Derived.Test.YtnfldccaeibcpaaQPConv1
import Derived.Test.YtnfldccaeibcpaaQPConv4
import Derived.Test.YtnfldccaeibcpaaQPConv3
import Derived.Test.YtnfldccaeibcpaaQPConv2
namespace Go.Proofs.Ytnfldccaeibcpaa
set_option linter.unusedVariables false
open Go.RowKit

/-- A message on its way. -/
structure Msg where
  link : Nat
  tgt : Nat
  ack : Bool
  a : La
/-- The databases, the flooders, the messages. -/
structure Ns where
  db : Nat → Db
  fl : Nat → Fd.Fn
  way : List Msg
abbrev Lks := List (Nat × Nat)
def oth (ls : Lks) (l i : Nat) : Nat := match ls[l]? with | some p => p.1 + p.2 - i | none => 0
/-- Link l has an end at node i, and another node at its other end. -/
def Inc (ls : Lks) (l i : Nat) : Prop := ∃ p, ls[l]? = some p ∧ p.1 ≠ p.2 ∧ (i = p.1 ∨ i = p.2)
section
variable {ls : Lks} {l i : Nat}
theorem Inc.oth (h : Inc ls l i) : Inc ls l (oth ls l i) := by
  obtain ⟨p, hp, h1, h2⟩ := h
  refine ⟨p, hp, h1, ?_⟩
  unfold Go.Proofs.Ytnfldccaeibcpaa.oth
  rw [hp]
  simp only
  omega
theorem Inc.back (h : Inc ls l i) : Go.Proofs.Ytnfldccaeibcpaa.oth ls l (Go.Proofs.Ytnfldccaeibcpaa.oth ls l i) = i := by
  obtain ⟨p, hp, h1, h2⟩ := h
  unfold Go.Proofs.Ytnfldccaeibcpaa.oth
  rw [hp]
  simp only
  omega
theorem Inc.ne (h : Inc ls l i) : Go.Proofs.Ytnfldccaeibcpaa.oth ls l i ≠ i := by
  obtain ⟨p, hp, h1, h2⟩ := h
  unfold Go.Proofs.Ytnfldccaeibcpaa.oth
  rw [hp]
  simp only
  omega
theorem Inc.lt (h : Inc ls l i) : l < ls.length := by
  obtain ⟨p, hp, _⟩ := h
  exact (List.getElem?_eq_some_iff.1 hp).1
end
def upd {α : Type} (f : Nat → α) (i : Nat) (x : α) : Nat → α := fun j => if j = i then x else f j
theorem upd_same {α : Type} (f : Nat → α) (i : Nat) (x : α) : upd f i x i = x := by unfold upd; rw [if_pos rfl]
theorem upd_ne {α : Type} {f : Nat → α} {i j : Nat} {x : α} (h : j ≠ i) : upd f i x j = f j := by unfold upd; rw [if_neg h]
noncomputable def ackF (F : Fd.Fn) (l : Nat) (a : La) : Fd.Fn := match F l with | some D => Fd.setN F l (Fd.ackD D a) | none => F
noncomputable def offF (F : Fd.Fn) (l : Nat) (a : La) : Fd.Fn := match F l with | some D => Fd.setN F l (Fd.offD D a) | none => F
/-- A node receives a message. -/
noncomputable def dlv (ls : Lks) (S : Ns) (m : Msg) : Ns :=
  if m.ack = true then ⟨S.db, upd S.fl m.tgt (ackF (S.fl m.tgt) m.link m.a), S.way⟩
  else if instR (S.db m.tgt) m.a = 1 then ⟨upd S.db m.tgt (instN (S.db m.tgt) m.a), upd S.fl m.tgt (Fd.sprN (S.fl m.tgt) m.a m.link), S.way ++ [⟨m.link, oth ls m.link m.tgt, true, m.a⟩]⟩
  else if instR (S.db m.tgt) m.a = 2 then ⟨S.db, upd S.fl m.tgt (ackF (S.fl m.tgt) m.link m.a), S.way ++ [⟨m.link, oth ls m.link m.tgt, true, m.a⟩]⟩
  else ⟨S.db, upd S.fl m.tgt (offF (S.fl m.tgt) m.link (getX (getO (S.db m.tgt) m.a.o))), S.way⟩
/-- What is pending at node i for link l and origin o. -/
def pdA (F : Fd.Fn) (l o : Nat) : Option Fd.Hd := (F l).bind fun D => D o
theorem pdA_some {F : Fd.Fn} {l o : Nat} {h : Fd.Hd} : pdA F l o = some h ↔ ∃ D, F l = some D ∧ D o = some h := by
  unfold pdA
  cases F l <;> simp
theorem pdA_set {F : Fd.Fn} {l : Nat} {D : Fd.Db} {q o : Nat} : pdA (Fd.setN F l D) q o = if q = l then D o else pdA F q o := by
  unfold pdA Fd.setN
  by_cases h : q = l
  · simp [h]
  · simp [h]

/-! ### What the operations leave pending -/
section
variable {D : Fd.Db} {a : La} {o : Nat}
theorem offD_at : Fd.offD D a o = if o = a.o.toNat ∧ Fd.offW D a = true then some ⟨a, 0⟩ else D o := by
  unfold Fd.offD
  by_cases h : Fd.offW D a = true
  · rw [if_pos h]
    by_cases h2 : o = a.o.toNat
    · rw [if_pos h2, if_pos ⟨h2, h⟩]
    · rw [if_neg h2, if_neg (fun e => h2 e.1)]
  · rw [if_neg h, if_neg (fun e => h e.2)]
theorem rmD_at : Fd.rmD D a o = if o = a.o.toNat ∧ Fd.rmB D a = true then none else D o := by
  unfold Fd.rmD
  by_cases h : Fd.rmB D a = true
  · rw [if_pos h]
    by_cases h2 : o = a.o.toNat
    · rw [if_pos h2, if_pos ⟨h2, h⟩]
    · rw [if_neg h2, if_neg (fun e => h2 e.1)]
  · rw [if_neg h, if_neg (fun e => h e.2)]
theorem ackD_at : Fd.ackD D a o = if o = a.o.toNat ∧ Fd.ackB D a = true then none else D o := by
  unfold Fd.ackD
  by_cases h : Fd.ackB D a = true
  · rw [if_pos h]
    by_cases h2 : o = a.o.toNat
    · rw [if_pos h2, if_pos ⟨h2, h⟩]
    · rw [if_neg h2, if_neg (fun e => h2 e.1)]
  · rw [if_neg h, if_neg (fun e => h e.2)]
end
section
variable {F : Fd.Fn} {a : La} {l q o : Nat}
theorem pdA_ack : pdA (ackF F l a) q o = if q = l ∧ o = a.o.toNat ∧ (∃ D, F l = some D ∧ Fd.ackB D a = true) then none else pdA F q o := by
  unfold ackF
  cases hF : F l with
  | none => simp
  | some D =>
    simp only
    rw [pdA_set]
    by_cases h : q = l
    · subst h
      rw [if_pos rfl, ackD_at]
      unfold pdA
      rw [hF]
      simp
    · rw [if_neg h, if_neg (fun e => h e.1)]
theorem pdA_off : pdA (offF F l a) q o = if q = l ∧ o = a.o.toNat ∧ (∃ D, F l = some D ∧ Fd.offW D a = true) then some ⟨a, 0⟩ else pdA F q o := by
  unfold offF
  cases hF : F l with
  | none => simp
  | some D =>
    simp only
    rw [pdA_set]
    by_cases h : q = l
    · subst h
      rw [if_pos rfl, offD_at]
      unfold pdA
      rw [hF]
      simp
    · rw [if_neg h, if_neg (fun e => h e.1)]
theorem pdA_spr : pdA (Fd.sprN F a (l : Int)) q o = if o = a.o.toNat ∧ q ≠ l ∧ (∃ D, F q = some D ∧ Fd.offW D a = true) then some ⟨a, 0⟩ else if o = a.o.toNat ∧ q = l ∧ (∃ D, F q = some D ∧ Fd.rmB D a = true) then none else pdA F q o := by
  unfold pdA Fd.sprN
  cases hF : F q with
  | none => simp
  | some D =>
    simp only [Option.map_some, Option.bind_some, Option.some.injEq, exists_eq_left']
    unfold Fd.sprD
    by_cases h : q = l
    · subst h
      simp only [bne_self_eq_false, Bool.false_eq_true, if_false, ne_eq, not_true_eq_false, false_and, and_false, true_and]
      rw [rmD_at]
    · have h2 : ((q : Int) != (l : Int)) = true := by simp; omega
      rw [if_pos h2, offD_at]
      simp [h]
end
theorem isS_ack {F : Fd.Fn} {l : Nat} {a : La} (q : Nat) : (ackF F l a q).isSome = (F q).isSome := by
  unfold ackF
  cases hF : F l with
  | none => rfl
  | some D =>
    unfold Fd.setN
    by_cases h : q = l
    · simp [h, hF]
    · simp [h]
theorem isS_off {F : Fd.Fn} {l : Nat} {a : La} (q : Nat) : (offF F l a q).isSome = (F q).isSome := by
  unfold offF
  cases hF : F l with
  | none => rfl
  | some D =>
    unfold Fd.setN
    by_cases h : q = l
    · simp [h, hF]
    · simp [h]
theorem isS_spr {F : Fd.Fn} {a : La} {ex : Int} (q : Nat) : (Fd.sprN F a ex q).isSome = (F q).isSome := by
  unfold Fd.sprN
  simp

/-! ### What a database does -/
section
variable {N : Db} {a : La}
theorem instR_cases (ha : LaValid a) : (instR N a = 1 ∧ ∀ h, N a.o.toNat = some h → newI a h.x ≠ 0 ∧ newI a h.x ≠ -1) ∨ (instR N a = 2 ∧ ∃ h, N a.o.toNat = some h ∧ newI a h.x = 0) ∨ (instR N a = 3 ∧ ∃ h, N a.o.toNat = some h ∧ newI a h.x = -1) := by
  unfold instR
  rw [vB_t ha, if_pos rfl]
  cases hN : N a.o.toNat with
  | none => left; simp
  | some h =>
    simp only
    by_cases h1 : newI a h.x = 0
    · right; left; simp [h1]
    · by_cases h2 : newI a h.x = -1
      · right; right; simp [h2]
      · left; simp [h1, h2]
theorem instN_at (ha : LaValid a) (h1 : instR N a = 1) (o : Nat) : instN N a o = if o = a.o.toNat then some ⟨a, 60⟩ else N o := by
  unfold instN
  rw [if_pos ⟨vB_t ha, h1⟩]
end

/-! ### What holds at all times -/
/-- Bs: the advertisements and where they began. G a i: a began at a node that is connected with i. -/
structure Inv (n : Nat) (ls : Lks) (G : La → Nat → Prop) (bs : List (La × Nat)) (S : Ns) : Prop where
  db : ∀ i o h, i < n → S.db i o = some h → G h.x i ∧ h.x.o = (o : Int) ∧ h.l = 60
  inc : ∀ i l, i < n → ((S.fl i l).isSome = true ↔ Inc ls l i)
  J : ∀ i l o h, i < n → pdA (S.fl i) l o = some h → (∃ hd, S.db i o = some hd ∧ hd.x = h.x) ∧ 0 ≤ h.l ∧ h.l ≤ 4
  K : ∀ i l o hd, i < n → Inc ls l i → S.db i o = some hd → (∃ h2, S.db (oth ls l i) o = some h2 ∧ newI hd.x h2.x ≤ 0) ∨ (pdA (S.fl i) l o).isSome = true
  M : ∀ m ∈ S.way, Inc ls m.link m.tgt ∧ m.tgt < n ∧ G m.a m.tgt ∧ ∃ h, S.db (oth ls m.link m.tgt) m.a.o.toNat = some h ∧ newI m.a h.x ≤ 0
  B : ∀ b ∈ bs, ∃ h, S.db b.2 b.1.o.toNat = some h ∧ newI b.1 h.x ≤ 0
/-- What a database holds grows. -/
def Ge (N N' : Db) : Prop := ∀ o h, N o = some h → ∃ h', N' o = some h' ∧ newI h.x h'.x ≤ 0
theorem newI_le {x y z : La} (hx : LaValid x) (hy : LaValid y) (hz : LaValid z) (h1 : newI x y ≤ 0) (h2 : newI y z ≤ 0) : newI x z ≤ 0 := by
  have e1 := newI_neg hx hy
  have e2 := newI_neg hy hz
  have e3 := newI_neg hx hz
  have := (newI_tr hz hy hx (by omega) (by omega)).1
  omega
theorem sameB_0 {x y : La} (hx : LaOk x) (hy : LaOk y) : sameB x y = true ↔ newI x y = 0 := by
  rw [← newI_zero hx hy, beq_iff_eq]
/-- The advertisements that are about. -/
structure GOk (ls : Lks) (G : La → Nat → Prop) : Prop where
  ok : ∀ {a i}, G a i → LaOk a
  cl : ∀ {a i l}, G a i → Inc ls l i → G a (oth ls l i)
section
variable {n : Nat} {ls : Lks} {G : La → Nat → Prop} {bs : List (La × Nat)} {S : Ns}
theorem GOk.v (hG : GOk ls G) {a : La} {i : Nat} (h : G a i) : LaValid a := (hG.ok h).1
theorem Inv.lt (H : Inv n ls G bs S) (hG : GOk ls G) {i o : Nat} {h : Hd} (hi : i < n) (e : S.db i o = some h) : o < 64 := by
  obtain ⟨h1, h2, _⟩ := H.db i o h hi e
  have := (hG.v h1).1
  omega
/-- One node turns. -/
theorem Inv.node (H : Inv n ls G bs S) (hG : GOk ls G) (hls : ∀ l i, Inc ls l i → i < n) (hbs : ∀ b ∈ bs, LaValid b.1 ∧ b.2 < n) {i0 : Nat} (hi0 : i0 < n) (N' : Db) (F' : Fd.Fn) (way' : List Msg)
    (hge : Ge (S.db i0) N') (hdb : ∀ o h, N' o = some h → G h.x i0 ∧ h.x.o = (o : Int) ∧ h.l = 60)
    (hinc : ∀ l, (F' l).isSome = (S.fl i0 l).isSome)
    (hJ : ∀ l o h, pdA F' l o = some h → (∃ hd, N' o = some hd ∧ hd.x = h.x) ∧ 0 ≤ h.l ∧ h.l ≤ 4)
    (hK : ∀ l o hd, Inc ls l i0 → N' o = some hd → (∃ h2, S.db (oth ls l i0) o = some h2 ∧ newI hd.x h2.x ≤ 0) ∨ (pdA F' l o).isSome = true)
    (hM : ∀ m ∈ way', m ∈ S.way ∨ (Inc ls m.link m.tgt ∧ m.tgt < n ∧ G m.a m.tgt ∧ oth ls m.link m.tgt = i0 ∧ ∃ h, N' m.a.o.toNat = some h ∧ newI m.a h.x ≤ 0)) :
    Inv n ls G bs ⟨upd S.db i0 N', upd S.fl i0 F', way'⟩ := by
  have grow : ∀ {i o h a}, i < n → LaValid a → S.db i o = some h → newI a h.x ≤ 0 → ∃ h', upd S.db i0 N' i o = some h' ∧ newI a h'.x ≤ 0 := by
    intro i o h a hi ha e1 e2
    by_cases e : i = i0
    · subst e
      rw [upd_same]
      obtain ⟨h', e3, e4⟩ := hge o h e1
      exact ⟨h', e3, newI_le ha (hG.v (H.db i o h hi e1).1) (hG.v (hdb o h' e3).1) e2 e4⟩
    · rw [upd_ne e]; exact ⟨h, e1, e2⟩
  refine ⟨fun i o h hi e => ?_, fun i l hi => ?_, fun i l o h hi e => ?_, fun i l o hd hi hl e => ?_, fun m hm => ?_, fun b hb => ?_⟩
  · simp only at e
    by_cases e2 : i = i0
    · subst e2; rw [upd_same] at e; exact hdb o h e
    · rw [upd_ne e2] at e; exact H.db i o h hi e
  · simp only
    by_cases e2 : i = i0
    · subst e2; rw [upd_same, hinc]; exact H.inc i l hi
    · rw [upd_ne e2]; exact H.inc i l hi
  · simp only at e ⊢
    by_cases e2 : i = i0
    · subst e2; rw [upd_same] at e ⊢; exact hJ l o h e
    · rw [upd_ne e2] at e ⊢; exact H.J i l o h hi e
  · simp only at e ⊢
    by_cases e2 : i = i0
    · subst e2
      rw [upd_same] at e ⊢
      rw [upd_ne hl.ne]
      exact hK l o hd hl e
    · rw [upd_ne e2] at e ⊢
      rcases H.K i l o hd hi hl e with ⟨h2, e3, e4⟩ | h3
      · left
        exact grow (hls l _ hl.oth) (hG.v (H.db i o hd hi e).1) e3 e4
      · right; exact h3
  · rcases hM m hm with h1 | ⟨h1, h2, h3, h4, h, h5, h6⟩
    · obtain ⟨h1, h2, h3, h, h5, h6⟩ := H.M m h1
      exact ⟨h1, h2, h3, grow (hls _ _ h1.oth) (hG.v h3) h5 h6⟩
    · refine ⟨h1, h2, h3, h, ?_, h6⟩
      simp only
      rw [h4, upd_same]; exact h5
  · obtain ⟨h, e1, e2⟩ := H.B b hb
    exact grow (hbs b hb).2 (hbs b hb).1 e1 e2
theorem ge_refl {N : Db} (hN : ∀ o h, N o = some h → LaValid h.x) : Ge N N := fun o h e => ⟨h, e, by rw [newI_self (hN o h e)]; omega⟩
/-- What a message on its way says. -/
structure MsgOk (n : Nat) (ls : Lks) (G : La → Nat → Prop) (S : Ns) (m : Msg) : Prop where
  inc : Inc ls m.link m.tgt
  lt : m.tgt < n
  g : G m.a m.tgt
  from' : ∃ h, S.db (oth ls m.link m.tgt) m.a.o.toNat = some h ∧ newI m.a h.x ≤ 0
theorem Inv.dlv (H : Inv n ls G bs S) (hG : GOk ls G) (hls : ∀ l i, Inc ls l i → i < n) (hbs : ∀ b ∈ bs, LaValid b.1 ∧ b.2 < n) {m : Msg} (hm : MsgOk n ls G S m) : Inv n ls G bs (dlv ls S m) := by
  obtain ⟨link, tgt, ack, a⟩ := m
  obtain ⟨hi, ht, hga, hfr⟩ := hm
  simp only at hi ht hga hfr
  have hva := hG.v hga
  have hoa : a.o.toNat < 64 := by have := hva.1; omega
  have hdb := H.db tgt
  have hvdb : ∀ o h, S.db tgt o = some h → LaValid h.x := fun o h e => hG.v (hdb o h ht e).1
  have hS : (⟨S.db, S.fl, S.way⟩ : Ns) = S := rfl
  -- an acknowledgement's effect
  have hackb : ∀ D, S.fl tgt link = some D → Fd.ackB D a = true → ∃ h, pdA (S.fl tgt) link a.o.toNat = some h ∧ sameB h.x a = true := by
    intro D hD hb
    unfold Fd.ackB Fd.dO at hb
    rw [if_pos (by have := hva.1; omega)] at hb
    cases e : D a.o.toNat with
    | none => rw [e] at hb; cases hb
    | some h => rw [e] at hb; exact ⟨h, pdA_some.2 ⟨D, hD, e⟩, hb⟩
  have hackJ : ∀ l o h, pdA (ackF (S.fl tgt) link a) l o = some h → (∃ hd, S.db tgt o = some hd ∧ hd.x = h.x) ∧ 0 ≤ h.l ∧ h.l ≤ 4 := by
    intro l o h e
    rw [pdA_ack] at e
    split at e
    · cases e
    · exact H.J tgt l o h ht e
  have hackK : ∀ l o hd, Inc ls l tgt → S.db tgt o = some hd → (∃ h2, S.db (oth ls l tgt) o = some h2 ∧ newI hd.x h2.x ≤ 0) ∨ (pdA (ackF (S.fl tgt) link a) l o).isSome = true := by
    intro l o hd hl e
    rw [pdA_ack]
    by_cases hc : l = link ∧ o = a.o.toNat ∧ (∃ D, S.fl tgt link = some D ∧ Fd.ackB D a = true)
    · left
      obtain ⟨rfl, rfl, D, hD, hb⟩ := hc
      obtain ⟨h, e1, e2⟩ := hackb D hD hb
      obtain ⟨⟨hd', e3, e4⟩, _⟩ := H.J tgt l _ h ht e1
      rw [e] at e3
      injection e3 with e3
      subst e3
      obtain ⟨h2, e5, e6⟩ := hfr
      have hok := hG.ok (hdb _ _ ht e).1
      refine ⟨h2, e5, newI_le hok.1 hva (hG.v (H.db _ _ _ (hls _ _ hi.oth) e5).1) ?_ e6⟩
      rw [(sameB_0 hok (hG.ok hga)).1 (by rw [e4]; exact e2)]
      omega
    · rw [if_neg hc]; exact H.K tgt l o hd ht hl e
  unfold Go.Proofs.Ytnfldccaeibcpaa.dlv
  simp only
  have updd : upd S.db tgt (S.db tgt) = S.db := by funext j; unfold upd; split <;> simp_all
  by_cases hk : ack = true
  · rw [if_pos hk]
    have := H.node hG hls hbs ht (S.db tgt) (ackF (S.fl tgt) link a) S.way (ge_refl hvdb) (fun o h e => hdb o h ht e) (fun l => isS_ack l) hackJ hackK (fun m hm => .inl hm)
    rwa [updd] at this
  · rw [if_neg hk]
    rcases instR_cases (N := S.db tgt) hva with ⟨hr, h1⟩ | ⟨hr, h, h1, h2⟩ | ⟨hr, h, h1, h2⟩
    · rw [if_pos hr]
      have hN := instN_at hva hr
      have h11 : ∀ h, S.db tgt a.o.toNat = some h → newI a h.x = 1 ∧ newI h.x a = -1 := fun h e => by
        have b1 := newI_bd hva (hvdb _ _ e)
        have b2 := h1 h e
        have b3 := newI_neg hva (hvdb _ _ e)
        have : newI a h.x = 1 := by omega
        exact ⟨this, by omega⟩
      refine H.node hG hls hbs ht _ _ _ (fun o h e => ?_) (fun o h e => ?_) (fun l => isS_spr l) (fun l o h e => ?_) (fun l o hd hl e => ?_) (fun m hm => ?_)
      · rw [hN]
        by_cases ho : o = a.o.toNat
        · subst ho
          rw [if_pos rfl]
          exact ⟨_, rfl, by have := (h11 h e).2; simp only; omega⟩
        · rw [if_neg ho]
          exact ⟨h, e, by rw [newI_self (hvdb o h e)]; omega⟩
      · rw [hN] at e
        by_cases ho : o = a.o.toNat
        · rw [if_pos ho] at e
          injection e with e
          subst e
          exact ⟨hga, by simp only; have := hva.1; omega, rfl⟩
        · rw [if_neg ho] at e; exact hdb o h ht e
      · rw [pdA_spr] at e
        rw [hN]
        by_cases ho : o = a.o.toNat
        · rw [if_pos ho]
          by_cases c1 : o = a.o.toNat ∧ l ≠ link ∧ (∃ D, S.fl tgt l = some D ∧ Fd.offW D a = true)
          · rw [if_pos c1] at e
            injection e with e
            subst e
            exact ⟨⟨_, rfl, rfl⟩, by simp⟩
          · rw [if_neg c1] at e
            by_cases c2 : o = a.o.toNat ∧ l = link ∧ (∃ D, S.fl tgt l = some D ∧ Fd.rmB D a = true)
            · rw [if_pos c2] at e; cases e
            · rw [if_neg c2] at e
              exfalso
              obtain ⟨D, hD, hDo⟩ := pdA_some.1 e
              obtain ⟨⟨hd, e3, e4⟩, _⟩ := H.J tgt l o h ht e
              rw [ho] at e3 hDo
              obtain ⟨q1, q2⟩ := h11 hd e3
              rw [e4] at q1 q2
              by_cases hlk : l = link
              · refine c2 ⟨ho, hlk, D, hD, ?_⟩
                unfold Fd.rmB
                rw [hDo]
                simp only [decide_eq_true_eq]
                omega
              · refine c1 ⟨ho, hlk, D, hD, ?_⟩
                unfold Fd.offW
                rw [hDo]
                simp only [decide_eq_true_eq]
                omega
        · rw [if_neg ho]
          rw [if_neg (fun c => ho c.1), if_neg (fun c => ho c.1)] at e
          exact H.J tgt l o h ht e
      · rw [hN] at e
        rw [pdA_spr]
        by_cases ho : o = a.o.toNat
        · rw [if_pos ho] at e
          injection e with e
          subst e
          by_cases hlk : l = link
          · subst hlk
            left
            rw [ho]
            exact hfr
          · right
            by_cases c1 : o = a.o.toNat ∧ l ≠ link ∧ (∃ D, S.fl tgt l = some D ∧ Fd.offW D a = true)
            · rw [if_pos c1]; rfl
            · rw [if_neg c1, if_neg (fun c => hlk c.2.1)]
              obtain ⟨D, hD⟩ := Option.isSome_iff_exists.1 ((H.inc tgt l ht).2 hl)
              have hw : ¬ Fd.offW D a = true := fun hw => c1 ⟨ho, hlk, D, hD, hw⟩
              unfold Fd.offW at hw
              cases hDo : D a.o.toNat with
              | none => rw [hDo] at hw; exact absurd rfl hw
              | some h =>
                unfold pdA
                rw [hD, ho]
                simp [hDo]
        · rw [if_neg ho] at e
          rw [if_neg (fun c => ho c.1), if_neg (fun c => ho c.1)]
          exact H.K tgt l o hd ht hl e
      · rcases List.mem_append.1 hm with hm | hm
        · exact .inl hm
        · right
          rw [List.mem_singleton.1 hm]
          refine ⟨hi.oth, hls _ _ hi.oth, hG.cl hga hi, hi.back, ?_⟩
          simp only
          rw [hN, if_pos rfl]
          exact ⟨_, rfl, by rw [newI_self hva]; omega⟩
    · rw [if_neg (by omega), if_pos hr]
      have := H.node hG hls hbs ht (S.db tgt) (ackF (S.fl tgt) link a) (S.way ++ [⟨link, oth ls link tgt, true, a⟩]) (ge_refl hvdb) (fun o h e => hdb o h ht e) (fun l => isS_ack l) hackJ hackK (fun m hm => by
        rcases List.mem_append.1 hm with hm | hm
        · exact .inl hm
        · right
          rw [List.mem_singleton.1 hm]
          exact ⟨hi.oth, hls _ _ hi.oth, hG.cl hga hi, hi.back, h, h1, by simp only; omega⟩)
      rwa [updd] at this
    · rw [if_neg (by omega), if_neg (by omega)]
      have hget : getX (getO (S.db tgt) a.o) = h.x := by
        unfold getO
        rw [if_pos (by have := hva.1; omega), h1]
        rfl
      have hho : h.x.o.toNat = a.o.toNat := by have := (hdb _ _ ht h1).2.1; omega
      have := H.node hG hls hbs ht (S.db tgt) (offF (S.fl tgt) link (getX (getO (S.db tgt) a.o))) S.way (ge_refl hvdb) (fun o h e => hdb o h ht e) (fun l => isS_off l) (fun l o h' e => by
        rw [pdA_off, hget, hho] at e
        split at e
        · rename_i hc
          injection e with e
          subst e
          exact ⟨⟨h, by rw [hc.2.1]; exact h1, rfl⟩, by simp⟩
        · exact H.J tgt l o h' ht e) (fun l o hd hl e => by
        rw [pdA_off]
        split
        · right; rfl
        · exact H.K tgt l o hd ht hl e) (fun m hm => .inl hm)
      rwa [updd] at this
theorem Inv.msg (H : Inv n ls G bs S) {m : Msg} (hm : m ∈ S.way) : MsgOk n ls G S m := by
  obtain ⟨h1, h2, h3, h4⟩ := H.M m hm
  exact ⟨h1, h2, h3, h4⟩
theorem Inv.sub (H : Inv n ls G bs S) (way' : List Msg) (h : ∀ m ∈ way', m ∈ S.way) : Inv n ls G bs ⟨S.db, S.fl, way'⟩ :=
  ⟨H.db, H.inc, H.J, H.K, fun m hm => H.M m (h m hm), H.B⟩
/-- All nodes' times turn; what is sent is on its way. -/
theorem Inv.time (H : Inv n ls G bs S) (hG : GOk ls G) (hls : ∀ l i, Inc ls l i → i < n) (fl' : Nat → Fd.Fn) (way' : List Msg) (t : Fd.Hd → Fd.Hd)
    (hp : ∀ i l o, i < n → pdA (fl' i) l o = (pdA (S.fl i) l o).map t) (hs : ∀ i l, i < n → (fl' i l).isSome = (S.fl i l).isSome)
    (ht : ∀ h, 0 ≤ h.l → h.l ≤ 4 → (t h).x = h.x ∧ 0 ≤ (t h).l ∧ (t h).l ≤ 4)
    (hw : ∀ m ∈ way', m ∈ S.way ∨ ∃ i l o h, i < n ∧ pdA (S.fl i) l o = some h ∧ m = ⟨l, oth ls l i, false, h.x⟩) : Inv n ls G bs ⟨S.db, fl', way'⟩ := by
  refine ⟨H.db, fun i l hi => by simp only; rw [hs i l hi]; exact H.inc i l hi, fun i l o h hi e => ?_, fun i l o hd hi hl e => ?_, fun m hm => ?_, H.B⟩
  · simp only at e
    rw [hp i l o hi, Option.map_eq_some_iff] at e
    obtain ⟨h', e1, rfl⟩ := e
    obtain ⟨⟨hd, e2, e3⟩, e4, e5⟩ := H.J i l o h' hi e1
    obtain ⟨t1, t2, t3⟩ := ht h' e4 e5
    exact ⟨⟨hd, e2, by rw [t1]; exact e3⟩, t2, t3⟩
  · simp only
    rw [hp i l o hi, Option.isSome_map]
    exact H.K i l o hd hi hl e
  · rcases hw m hm with h1 | ⟨i, l, o, h, hi, e, rfl⟩
    · exact H.M m h1
    · obtain ⟨⟨hd, e2, e3⟩, _⟩ := H.J i l o h hi e
      obtain ⟨D, hD, _⟩ := pdA_some.1 e
      have hl := (H.inc i l hi).1 (by rw [hD]; rfl)
      obtain ⟨g1, g2, _⟩ := H.db i o hd hi e2
      have hv := hG.v g1
      refine ⟨hl.oth, hls _ _ hl.oth, ?_, ?_⟩
      · simp only; rw [← e3]; exact hG.cl g1 hl
      · simp only
        rw [hl.back, ← e3, show hd.x.o.toNat = o by omega]
        exact ⟨hd, e2, by rw [newI_self hv]; omega⟩
end

end Go.Proofs.Ytnfldccaeibcpaa

namespace Go.Proofs.Ytnfldccaeibcpaa
set_option linter.unusedVariables false
open Go.RowKit

/-! ### Sums -/
def Sm {α : Type} (l : List α) (f : α → Nat) : Nat := (l.map f).sum
section
variable {α β : Type}
theorem Sm_nil (f : α → Nat) : Sm [] f = 0 := rfl
theorem Sm_cons (a : α) (l : List α) (f : α → Nat) : Sm (a :: l) f = f a + Sm l f := by simp [Sm]
theorem Sm_append (l m : List α) (f : α → Nat) : Sm (l ++ m) f = Sm l f + Sm m f := by simp [Sm]
theorem Sm_le {f g : α → Nat} : ∀ {l : List α}, (∀ x ∈ l, f x ≤ g x) → Sm l f ≤ Sm l g
  | [], _ => Nat.le_refl _
  | a :: l, h => by
    rw [Sm_cons, Sm_cons]
    have := Sm_le (l := l) fun x hx => h x (List.mem_cons_of_mem _ hx)
    have := h a (by simp)
    omega
theorem Sm_lt {f g : α → Nat} : ∀ {l : List α}, (∀ x ∈ l, f x ≤ g x) → (∃ x ∈ l, f x < g x) → Sm l f < Sm l g
  | [], _, ⟨x, hx, _⟩ => by cases hx
  | a :: l, h, ⟨x, hx, hlt⟩ => by
    rw [Sm_cons, Sm_cons]
    have h1 := h a (by simp)
    rcases List.mem_cons.1 hx with rfl | hx
    · have := Sm_le (l := l) fun y hy => h y (List.mem_cons_of_mem _ hy)
      omega
    · have := Sm_lt (l := l) (fun y hy => h y (List.mem_cons_of_mem _ hy)) ⟨x, hx, hlt⟩
      omega
theorem Sm_add (l : List α) (f g : α → Nat) : Sm l (fun x => f x + g x) = Sm l f + Sm l g := by
  induction l with
  | nil => rfl
  | cons a l ih => rw [Sm_cons, Sm_cons, Sm_cons, ih]; omega
theorem Sm_zero (l : List α) : Sm l (fun _ => 0) = 0 := by
  induction l with
  | nil => rfl
  | cons a l ih => rw [Sm_cons, ih]
theorem Sm_const (l : List α) (c : Nat) : Sm l (fun _ => c) = l.length * c := by
  induction l with
  | nil => simp [Sm]
  | cons a l ih => rw [Sm_cons, ih, List.length_cons, Nat.succ_mul]; omega
theorem Sm_eq {f g : α → Nat} {l : List α} (h : ∀ x ∈ l, f x = g x) : Sm l f = Sm l g :=
  Nat.le_antisymm (Sm_le fun x hx => by rw [h x hx]; exact Nat.le_refl _) (Sm_le fun x hx => by rw [h x hx]; exact Nat.le_refl _)
theorem Sm_swap (l : List α) (m : List β) (f : α → β → Nat) : Sm l (fun x => Sm m fun y => f x y) = Sm m fun y => Sm l fun x => f x y := by
  induction l with
  | nil => simp only [Sm_nil, Sm_zero]
  | cons a l ih => simp only [Sm_cons]; rw [ih, Sm_add]
theorem Sm_mul (l : List α) (f : α → Nat) (c : Nat) : Sm l (fun x => c * f x) = c * Sm l f := by
  induction l with
  | nil => simp [Sm]
  | cons a l ih => rw [Sm_cons, Sm_cons, ih, Nat.mul_add]
end
def ind (b : Bool) : Nat := if b = true then 1 else 0
theorem ind_le (b : Bool) : ind b ≤ 1 := by unfold ind; split <;> omega
theorem ind_mono {a b : Bool} (h : a = true → b = true) : ind a ≤ ind b := by
  unfold ind
  by_cases e : a = true
  · rw [if_pos e, if_pos (h e)]; exact Nat.le_refl _
  · rw [if_neg e]; exact Nat.zero_le _
/-- A number occurs once at most among 0, 1, .. -/
theorem Sm_one (n j : Nat) : Sm (List.range n) (fun i => ind (decide (i = j))) ≤ 1 := by
  have : ∀ k, Sm (List.range k) (fun i => ind (decide (i = j))) ≤ if j < k then 1 else 0 := by
    intro k
    induction k with
    | zero => simp [Sm]
    | succ k ih =>
      have hk : ind (decide (k = j)) = if k = j then 1 else 0 := by
        unfold ind
        by_cases h : k = j
        · rw [if_pos h, if_pos (by simpa using h)]
        · rw [if_neg h, if_neg (by simpa using h)]
      rw [List.range_succ, Sm_append, Sm_cons, Sm_nil, hk]
      generalize Sm (List.range k) (fun i => ind (decide (i = j))) = s at ih ⊢
      split at ih <;> split <;> split <;> omega
  have := this n
  split at this <;> omega

/-! ### What the nodes do not hold yet -/
noncomputable def hasB (N : Db) (a : La) : Bool := match N a.o.toNat with | some h => decide (newI a h.x ≤ 0) | none => false
theorem hasB_iff {N : Db} {a : La} : hasB N a = true ↔ ∃ h, N a.o.toNat = some h ∧ newI a h.x ≤ 0 := by
  unfold hasB
  cases N a.o.toNat <;> simp
noncomputable def rank (n : Nat) (bs : List (La × Nat)) (S : Ns) : Nat := Sm (List.range n) fun i => Sm bs fun b => ind (!hasB (S.db i) b.1)
theorem rank_le (n : Nat) (bs : List (La × Nat)) (S : Ns) : rank n bs S ≤ n * bs.length := by
  unfold rank
  have : Sm (List.range n) (fun i => Sm bs fun b => ind (!hasB (S.db i) b.1)) ≤ Sm (List.range n) fun _ => bs.length := Sm_le fun i _ => by
    have h : Sm bs (fun b => ind (!hasB (S.db i) b.1)) ≤ Sm bs fun _ => 1 := Sm_le fun b _ => ind_le _
    rw [Sm_const] at h
    omega
  rw [Sm_const, List.length_range] at this
  exact this
section
variable {n : Nat} {ls : Lks} {G : La → Nat → Prop} {bs : List (La × Nat)} {S : Ns}
theorem dlv_db (ls : Lks) (S : Ns) (m : Msg) : (m.ack = false ∧ instR (S.db m.tgt) m.a = 1 ∧ (dlv ls S m).db = upd S.db m.tgt (instN (S.db m.tgt) m.a)) ∨ ((m.ack = true ∨ instR (S.db m.tgt) m.a ≠ 1) ∧ (dlv ls S m).db = S.db) := by
  unfold dlv
  by_cases h : m.ack = true
  · rw [if_pos h]; exact .inr ⟨.inl h, rfl⟩
  · rw [if_neg h]
    by_cases h1 : instR (S.db m.tgt) m.a = 1
    · rw [if_pos h1]; exact .inl ⟨by simpa using h, h1, rfl⟩
    · rw [if_neg h1]
      split
      · exact .inr ⟨.inr h1, rfl⟩
      · exact .inr ⟨.inr h1, rfl⟩
/-- The rank does not grow, and shrinks where something is installed. -/
theorem rank_dlv (H : Inv n ls G bs S) (hG : GOk ls G) (hGm : ∀ a i, G a i → ∃ b ∈ bs, b.1 = a) (hbs : ∀ b ∈ bs, LaValid b.1 ∧ b.2 < n) {m : Msg} (hm : MsgOk n ls G S m) :
    rank n bs (dlv ls S m) ≤ rank n bs S ∧ (m.ack = false → instR (S.db m.tgt) m.a = 1 → rank n bs (dlv ls S m) < rank n bs S) := by
  rcases dlv_db ls S m with ⟨hk, hr, e⟩ | ⟨hr, e⟩
  · have hva := hG.v hm.g
    have hN := instN_at hva hr
    have hle : ∀ i ∈ List.range n, ∀ b ∈ bs, ind (!hasB ((dlv ls S m).db i) b.1) ≤ ind (!hasB (S.db i) b.1) := by
      intro i hi b hb
      refine ind_mono fun h => ?_
      rw [Bool.not_eq_true'] at h ⊢
      rw [Bool.eq_false_iff] at h ⊢
      intro h2
      refine h ?_
      rw [e]
      by_cases hit : i = m.tgt
      · subst hit
        rw [upd_same]
        obtain ⟨x, hx, hle⟩ := hasB_iff.1 h2
        rw [hasB_iff, hN]
        by_cases ho : b.1.o.toNat = m.a.o.toNat
        · rw [if_pos ho]
          refine ⟨_, rfl, ?_⟩
          have hvx := hG.v (H.db _ _ _ hm.lt hx).1
          rcases instR_cases (N := S.db m.tgt) hva with ⟨_, h1⟩ | ⟨h1, _⟩ | ⟨h1, _⟩
          · have b1 := newI_bd hva hvx
            have b2 := h1 x (by rw [← ho]; exact hx)
            have b3 := newI_neg hva hvx
            exact newI_le (hbs b hb).1 hvx hva hle (show newI x.x m.a ≤ 0 by omega)
          · omega
          · omega
        · rw [if_neg ho]; exact ⟨x, hx, hle⟩
      · rw [upd_ne hit]; exact h2
    have hlt : rank n bs (dlv ls S m) < rank n bs S := by
      unfold rank
      refine Sm_lt (fun i hi => Sm_le fun b hb => hle i hi b hb) ⟨m.tgt, List.mem_range.2 hm.lt, ?_⟩
      obtain ⟨b, hb, hba⟩ := hGm _ _ hm.g
      refine Sm_lt (fun b hb => hle _ (List.mem_range.2 hm.lt) b hb) ⟨b, hb, ?_⟩
      have q1 : hasB ((dlv ls S m).db m.tgt) b.1 = true := by
        rw [e, upd_same, hasB_iff, hba, hN, if_pos rfl]
        exact ⟨_, rfl, by rw [newI_self hva]; omega⟩
      have q2 : hasB (S.db m.tgt) b.1 = false := by
        rw [Bool.eq_false_iff]
        intro h2
        obtain ⟨x, hx, hle⟩ := hasB_iff.1 h2
        rw [hba] at hx hle
        rcases instR_cases (N := S.db m.tgt) hva with ⟨_, h1⟩ | ⟨h1, _⟩ | ⟨h1, _⟩
        · have b1 := newI_bd hva (hG.v (H.db _ _ _ hm.lt hx).1)
          have b2 := h1 x hx
          omega
        · omega
        · omega
      rw [q1, q2]
      simp [ind]
    exact ⟨Nat.le_of_lt hlt, fun _ _ => hlt⟩
  · have : rank n bs (dlv ls S m) = rank n bs S := by unfold rank; rw [e]
    refine ⟨by omega, fun h1 h2 => ?_⟩
    rcases hr with h | h
    · rw [h] at h1; cases h1
    · exact absurd h2 h

/-! ### A round in which nothing is lost -/
/-- Exactly what is pending is on its way. -/
structure Full (n : Nat) (ls : Lks) (S : Ns) : Prop where
  of : ∀ m ∈ S.way, ∃ i l o h, i < n ∧ pdA (S.fl i) l o = some h ∧ m = ⟨l, oth ls l i, false, h.x⟩
  all : ∀ i l o h, i < n → o < 64 → pdA (S.fl i) l o = some h → (⟨l, oth ls l i, false, h.x⟩ : Msg) ∈ S.way
theorem Inv.pd64 (H : Inv n ls G bs S) (hG : GOk ls G) {i l o : Nat} {h : Fd.Hd} (hi : i < n) (e : pdA (S.fl i) l o = some h) : o < 64 ∧ h.x.o = (o : Int) ∧ Inc ls l i ∧ G h.x i := by
  obtain ⟨⟨hd, e2, e3⟩, _⟩ := H.J i l o h hi e
  obtain ⟨D, hD, _⟩ := pdA_some.1 e
  obtain ⟨g1, g2, _⟩ := H.db i o hd hi e2
  exact ⟨H.lt hG hi e2, by rw [← e3]; exact g2, (H.inc i l hi).1 (by rw [hD]; rfl), by rw [← e3]; exact g1⟩
theorem full_cases (H : Inv n ls G bs S) (hG : GOk ls G) (hls : ∀ l i, Inc ls l i → i < n) (hF : Full n ls S) :
    (∃ m ∈ S.way, m.ack = false ∧ instR (S.db m.tgt) m.a = 1) ∨ (∀ m ∈ S.way, m.ack = false → instR (S.db m.tgt) m.a = 2) := by
  by_cases hc : ∃ m ∈ S.way, m.ack = false ∧ instR (S.db m.tgt) m.a = 1
  · exact .inl hc
  · right
    intro m hm hk
    have hmo := H.msg hm
    have hva := hG.v hmo.g
    rcases instR_cases (N := S.db m.tgt) hva with ⟨h1, _⟩ | ⟨h1, _⟩ | ⟨h1, h, h2, h3⟩
    · exact absurd ⟨m, hm, hk, h1⟩ hc
    · exact h1
    · exfalso
      obtain ⟨i, l, o, hp, hi, e, rfl⟩ := hF.of m hm
      simp only at hk hmo hva h1 h2 h3
      obtain ⟨o64, ho, hl, hg⟩ := H.pd64 hG hi e
      obtain ⟨⟨hd, e2, e3⟩, _⟩ := H.J i l o hp hi e
      have hj := hls _ _ hl.oth
      have hoo : hp.x.o.toNat = o := by omega
      rw [hoo] at h2
      have hvh := hG.v (H.db _ _ _ hj h2).1
      rcases H.K (oth ls l i) l o h hj hl.oth h2 with ⟨x, e4, e5⟩ | h5
      · rw [hl.back] at e4
        rw [e2] at e4
        injection e4 with e4
        subst e4
        rw [e3, newI_neg hva hvh] at e5
        omega
      · obtain ⟨hq, hq2⟩ := Option.isSome_iff_exists.1 h5
        have hmem := hF.all _ l o hq hj o64 hq2
        obtain ⟨⟨hd2, e6, e7⟩, _⟩ := H.J _ l o hq hj hq2
        rw [h2] at e6
        injection e6 with e6
        subst e6
        refine hc ⟨_, hmem, rfl, ?_⟩
        simp only
        rw [hl.back, ← e7]
        have hxo : h.x.o.toNat = o := by have := (H.db _ _ _ hj h2).2.1; omega
        rcases instR_cases (N := S.db i) hvh with ⟨h1, _⟩ | ⟨_, y, y1, y2⟩ | ⟨_, y, y1, y2⟩
        · exact h1
        · rw [hxo, e2] at y1
          injection y1 with y1
          subst y1
          rw [e3, newI_neg hva hvh] at y2
          omega
        · rw [hxo, e2] at y1
          injection y1 with y1
          subst y1
          rw [e3, newI_neg hva hvh] at y2
          omega
/-- Nothing will be installed any more in this round. -/
structure Quiet (n : Nat) (ls : Lks) (S : Ns) : Prop where
  same : ∀ m ∈ S.way, m.ack = false → instR (S.db m.tgt) m.a = 2
  pend : ∀ i l o h, i < n → pdA (S.fl i) l o = some h → (⟨l, oth ls l i, false, h.x⟩ : Msg) ∈ S.way ∨ (⟨l, i, true, h.x⟩ : Msg) ∈ S.way
/-- Within a round: something was installed, or will be, or all is acknowledged. -/
def Rnd (n : Nat) (ls : Lks) (bs : List (La × Nat)) (r : Nat) (S : Ns) : Prop :=
  rank n bs S < r ∨ (rank n bs S ≤ r ∧ ((∃ m ∈ S.way, m.ack = false ∧ instR (S.db m.tgt) m.a = 1) ∨ Quiet n ls S))
theorem Full.rnd (H : Inv n ls G bs S) (hG : GOk ls G) (hls : ∀ l i, Inc ls l i → i < n) (hF : Full n ls S) : Rnd n ls bs (rank n bs S) S := by
  right
  refine ⟨Nat.le_refl _, ?_⟩
  rcases full_cases H hG hls hF with h | h
  · exact .inl h
  · exact .inr ⟨h, fun i l o hd hi e => .inl (hF.all i l o hd hi (H.pd64 hG hi e).1 e)⟩
theorem Rnd.step {m : Msg} {rest : List Msg} (H : Inv n ls G bs S) (hG : GOk ls G) (hls : ∀ l i, Inc ls l i → i < n) (hGm : ∀ a i, G a i → ∃ b ∈ bs, b.1 = a) (hbs : ∀ b ∈ bs, LaValid b.1 ∧ b.2 < n) {r : Nat} (hw : S.way = m :: rest) (h : Rnd n ls bs r S) :
    Rnd n ls bs r (dlv ls ⟨S.db, S.fl, rest⟩ m) := by
  have hm : MsgOk n ls G S m := H.msg (by rw [hw]; simp)
  have H' : Inv n ls G bs ⟨S.db, S.fl, rest⟩ := H.sub rest (fun x hx => by rw [hw]; exact List.mem_cons_of_mem _ hx)
  have hm' : MsgOk n ls G ⟨S.db, S.fl, rest⟩ m := ⟨hm.inc, hm.lt, hm.g, hm.from'⟩
  obtain ⟨r1, r2⟩ := rank_dlv H' hG hGm hbs hm'
  have hrk : rank n bs ⟨S.db, S.fl, rest⟩ = rank n bs S := rfl
  rw [hrk] at r1 r2
  rcases h with h | ⟨h, hc⟩
  · left; omega
  · by_cases hi : m.ack = false ∧ instR (S.db m.tgt) m.a = 1
    · left
      have := r2 hi.1 hi.2
      omega
    · right
      refine ⟨by omega, ?_⟩
      have hdb : (dlv ls ⟨S.db, S.fl, rest⟩ m).db = S.db := by
        rcases dlv_db ls ⟨S.db, S.fl, rest⟩ m with ⟨a1, a2, _⟩ | ⟨_, e⟩
        · exact absurd ⟨a1, a2⟩ hi
        · exact e
      have hway : ∀ x ∈ rest, x ∈ (dlv ls ⟨S.db, S.fl, rest⟩ m).way := fun x hx => by
        unfold dlv
        repeat' split
        all_goals simp [hx]
      rcases hc with ⟨x, hx, x1, x2⟩ | hq
      · left
        rw [hw] at hx
        rcases List.mem_cons.1 hx with rfl | hx
        · exact absurd ⟨x1, x2⟩ hi
        · exact ⟨x, hway x hx, x1, by rw [hdb]; exact x2⟩
      · right
        have hva := hG.v hm.g
        by_cases hk : m.ack = true
        · have e : dlv ls ⟨S.db, S.fl, rest⟩ m = ⟨S.db, upd S.fl m.tgt (ackF (S.fl m.tgt) m.link m.a), rest⟩ := by unfold dlv; rw [if_pos hk]
          rw [e]
          refine ⟨fun x hx hxk => hq.same x (by rw [hw]; exact List.mem_cons_of_mem _ hx) hxk, fun i l o hd hi2 e2 => ?_⟩
          simp only at e2 ⊢
          have key : pdA (S.fl i) l o = some hd ∧ ¬ (i = m.tgt ∧ l = m.link ∧ o = m.a.o.toNat ∧ ∃ D, S.fl m.tgt m.link = some D ∧ Fd.ackB D m.a = true) := by
            by_cases hit : i = m.tgt
            · subst hit
              rw [upd_same, pdA_ack] at e2
              split at e2
              · cases e2
              · rename_i hn
                exact ⟨e2, fun c => hn ⟨c.2.1, c.2.2.1, c.2.2.2⟩⟩
            · rw [upd_ne hit] at e2; exact ⟨e2, fun c => hit c.1⟩
          obtain ⟨e3, e4⟩ := key
          rcases hq.pend i l o hd hi2 e3 with h5 | h5
          · rw [hw] at h5
            rcases List.mem_cons.1 h5 with h5 | h5
            · rw [← h5] at hk; cases hk
            · exact .inl h5
          · rw [hw] at h5
            rcases List.mem_cons.1 h5 with h5 | h5
            · exfalso
              obtain ⟨o64, ho, hl, hg⟩ := H.pd64 hG hi2 e3
              rw [← h5] at e4
              obtain ⟨D, hD, hDo⟩ := pdA_some.1 e3
              have hxo : hd.x.o.toNat = o := by omega
              refine e4 ⟨rfl, rfl, hxo.symm, D, hD, ?_⟩
              simp only
              unfold Fd.ackB Fd.dO
              rw [if_pos (by omega), hxo, hDo]
              exact sameB_refl _
            · exact .inr h5
        · have hk' : m.ack = false := by simpa using hk
          have h2 : instR (S.db m.tgt) m.a = 2 := hq.same m (by rw [hw]; simp) hk'
          have e : dlv ls ⟨S.db, S.fl, rest⟩ m = ⟨S.db, upd S.fl m.tgt (ackF (S.fl m.tgt) m.link m.a), rest ++ [⟨m.link, oth ls m.link m.tgt, true, m.a⟩]⟩ := by
            unfold dlv
            rw [if_neg hk, if_neg (by simp only; omega), if_pos h2]
          rw [e]
          refine ⟨fun x hx hxk => ?_, fun i l o hd hi2 e2 => ?_⟩
          · rcases List.mem_append.1 hx with hx | hx
            · exact hq.same x (by rw [hw]; exact List.mem_cons_of_mem _ hx) hxk
            · rw [List.mem_singleton.1 hx] at hxk; cases hxk
          · simp only at e2 ⊢
            have e3 : pdA (S.fl i) l o = some hd := by
              by_cases hit : i = m.tgt
              · subst hit
                rw [upd_same, pdA_ack] at e2
                split at e2
                · cases e2
                · exact e2
              · rw [upd_ne hit] at e2; exact e2
            obtain ⟨o64, ho, hl, hg⟩ := H.pd64 hG hi2 e3
            rcases hq.pend i l o hd hi2 e3 with h5 | h5
            · rw [hw] at h5
              rcases List.mem_cons.1 h5 with h5 | h5
              · right
                rw [← h5]
                simp only
                rw [hl.back]
                simp
              · exact .inl (List.mem_append_left _ h5)
            · rw [hw] at h5
              rcases List.mem_cons.1 h5 with h5 | h5
              · rw [← h5] at hk'; cases hk'
              · exact .inr (List.mem_append_left _ h5)
/-- At the end of a round: something was installed, or nothing is pending. -/
theorem Rnd.fin {r : Nat} (hw : S.way = []) (h : Rnd n ls bs r S) : rank n bs S < r ∨ (rank n bs S ≤ r ∧ ∀ i l o, i < n → pdA (S.fl i) l o = none) := by
  rcases h with h | ⟨h, ⟨m, hm, _⟩ | hq⟩
  · exact .inl h
  · rw [hw] at hm; cases hm
  · right
    refine ⟨h, fun i l o hi => ?_⟩
    cases e : pdA (S.fl i) l o with
    | none => rfl
    | some hd =>
      have := hq.pend i l o hd hi e
      rw [hw] at this
      rcases this with h | h <;> cases h
/-- Neighbours' databases, where nothing is pending. -/
theorem Inv.still (H : Inv n ls G bs S) (hp : ∀ i l o, i < n → pdA (S.fl i) l o = none) {i l : Nat} (hi : i < n) (hl : Inc ls l i) : Ge (S.db i) (S.db (oth ls l i)) := fun o h e => by
  rcases H.K i l o h hi hl e with h1 | h1
  · exact h1
  · rw [hp i l o hi] at h1; cases h1
end
/-- Connected nodes. -/
inductive Conn (ls : Lks) : Nat → Nat → Prop where
  | refl (i : Nat) : Conn ls i i
  | step {i j l : Nat} : Conn ls i j → Inc ls l j → Conn ls i (oth ls l j)
section
variable {ls : Lks} {i j k : Nat}
theorem Conn.trans (h : Conn ls i j) (h2 : Conn ls j k) : Conn ls i k := by
  induction h2 with
  | refl => exact h
  | step _ hl ih => exact .step ih hl
theorem Conn.symm (h : Conn ls i j) : Conn ls j i := by
  induction h with
  | refl => exact .refl _
  | step _ hl ih =>
    have := Conn.step (.refl _) hl.oth
    rw [hl.back] at this
    exact this.trans ih
end
/-- What is about at node i: what began at a node that is connected with it. -/
def Gd (ls : Lks) (bs : List (La × Nat)) (a : La) (i : Nat) : Prop := ∃ b ∈ bs, b.1 = a ∧ Conn ls b.2 i
theorem gd_ok {ls : Lks} {bs : List (La × Nat)} (h : ∀ b ∈ bs, LaOk b.1) : GOk ls (Gd ls bs) := by
  refine ⟨fun {a i} h2 => ?_, fun {a i l} h2 hl => ?_⟩
  · obtain ⟨b, hb, rfl, _⟩ := h2; exact h b hb
  · obtain ⟨b, hb, rfl, hc⟩ := h2; exact ⟨b, hb, rfl, .step hc hl⟩
theorem Inv.gec {n : Nat} {ls : Lks} {G : La → Nat → Prop} {bs : List (La × Nat)} {S : Ns} (H : Inv n ls G bs S) (hG : GOk ls G) (hls : ∀ l i, Inc ls l i → i < n) (hp : ∀ i l o, i < n → pdA (S.fl i) l o = none) {i j : Nat} (hc : Conn ls i j) (hi : i < n) : j < n ∧ Ge (S.db i) (S.db j) := by
  induction hc with
  | refl => exact ⟨hi, ge_refl fun o h e => hG.v (H.db _ o h hi e).1⟩
  | step hc hl ih =>
    obtain ⟨hj, g⟩ := ih
    have hk := hls _ _ hl.oth
    refine ⟨hk, fun o h e => ?_⟩
    obtain ⟨h1, e1, l1⟩ := g o h e
    obtain ⟨h2, e2, l2⟩ := H.still hp hj hl o h1 e1
    exact ⟨h2, e2, newI_le (hG.v (H.db _ _ _ hi e).1) (hG.v (H.db _ _ _ hj e1).1) (hG.v (H.db _ _ _ hk e2).1) l1 l2⟩
/-- In the end a node holds the newest of what is about. -/
theorem Inv.newest {n : Nat} {ls : Lks} {bs : List (La × Nat)} {S : Ns} (H : Inv n ls (Gd ls bs) bs S) (hok : ∀ b ∈ bs, LaOk b.1 ∧ b.2 < n) (hls : ∀ l i, Inc ls l i → i < n) (hp : ∀ i l o, i < n → pdA (S.fl i) l o = none)
    {i : Nat} (hi : i < n) (l : List La) (hl : ∀ a, a ∈ l ↔ Gd ls bs a i) (o : Nat) : NwAt l (S.db i) o := by
  have hG := gd_ok (ls := ls) fun b hb => (hok b hb).1
  have key : ∀ a ∈ l, ∃ h, S.db i a.o.toNat = some h ∧ newI a h.x ≤ 0 := by
    intro a ha
    obtain ⟨b, hb, rfl, hc⟩ := (hl a).1 ha
    obtain ⟨h, e, hle⟩ := H.B b hb
    obtain ⟨_, g⟩ := H.gec hG hls hp hc (hok b hb).2
    obtain ⟨h1, e1, l1⟩ := g _ h e
    exact ⟨h1, e1, newI_le (hok b hb).1.1 (hG.v (H.db _ _ _ (hok b hb).2 e).1) (hG.v (H.db _ _ _ hi e1).1) hle l1⟩
  unfold NwAt
  cases e : S.db i o with
  | none =>
    simp only
    intro a ha ho
    obtain ⟨h, e1, _⟩ := key a ha
    rw [ho, e] at e1
    cases e1
  | some h =>
    simp only
    obtain ⟨g1, g2, g3⟩ := H.db i o h hi e
    refine ⟨(hl _).2 g1, by omega, g3, fun a ha ho => ?_⟩
    obtain ⟨h1, e1, l1⟩ := key a ha
    rw [ho, e] at e1
    injection e1 with e1
    subst e1
    exact l1
/-- Two that hold the newest of the same list hold the same. -/
theorem nw_same {l : List La} (hl : ∀ a ∈ l, LaOk a) {N N' : Db} {o : Nat} (h : NwAt l N o) (h' : NwAt l N' o) : (N o = none ∧ N' o = none) ∨ ∃ x y, N o = some x ∧ N' o = some y ∧ sameB x.x y.x = true := by
  unfold NwAt at h h'
  cases e : N o with
  | none =>
    rw [e] at h
    cases e' : N' o with
    | none => exact .inl ⟨rfl, rfl⟩
    | some y =>
      rw [e'] at h'
      exact absurd h'.2.1 (h _ h'.1)
  | some x =>
    rw [e] at h
    cases e' : N' o with
    | none =>
      rw [e'] at h'
      exact absurd h.2.1 (h' _ h.1)
    | some y =>
      rw [e'] at h'
      right
      refine ⟨x, y, rfl, rfl, ?_⟩
      have hx := hl _ h.1
      have hy := hl _ h'.1
      have l1 := h.2.2.2 _ h'.1 h'.2.1
      have l2 := h'.2.2.2 _ h.1 h.2.1
      have l3 := newI_neg hx.1 hy.1
      rw [sameB_0 hx hy]
      omega

end Go.Proofs.Ytnfldccaeibcpaa

namespace Go.Proofs.Ytnfldccaeibcpaa
set_option linter.unusedVariables false
open Go.RowKit

/-! ### Counting -/
/-- For how many nodes, links and origins something holds. -/
def cnt (n L : Nat) (p : Nat → Nat → Nat → Bool) : Nat := Sm (List.range 64) fun o => Sm (List.range L) fun l => Sm (List.range n) fun i => ind (p i l o)
section
variable {n L : Nat} {p q r : Nat → Nat → Nat → Bool}
theorem cnt_mono (h : ∀ i l o, i < n → l < L → o < 64 → p i l o = true → q i l o = true) : cnt n L p ≤ cnt n L q :=
  Sm_le fun o ho => Sm_le fun l hl => Sm_le fun i hi => ind_mono (h i l o (List.mem_range.1 hi) (List.mem_range.1 hl) (List.mem_range.1 ho))
theorem cnt_add (h : ∀ i l o, i < n → ¬ (p i l o = true ∧ q i l o = true)) (h1 : ∀ i l o, i < n → p i l o = true → r i l o = true) (h2 : ∀ i l o, i < n → q i l o = true → r i l o = true) : cnt n L p + cnt n L q ≤ cnt n L r := by
  unfold cnt
  rw [← Sm_add]
  refine Sm_le fun o ho => ?_
  rw [← Sm_add]
  refine Sm_le fun l hl => ?_
  rw [← Sm_add]
  refine Sm_le fun i hi => ?_
  have hi := List.mem_range.1 hi
  unfold ind
  by_cases e1 : p i l o = true
  · have e2 : ¬ q i l o = true := fun e => h i l o hi ⟨e1, e⟩
    rw [if_pos e1, if_neg e2, if_pos (h1 i l o hi e1)]; exact Nat.le_refl _
  · rw [if_neg e1]
    by_cases e2 : q i l o = true
    · rw [if_pos e2, if_pos (h2 i l o hi e2)]; exact Nat.le_refl _
    · rw [if_neg e2]; exact Nat.zero_le _
/-- One node and one origin turn. -/
theorem cnt_one (i0 o0 : Nat) (h : ∀ i l o, i < n → p i l o = true → q i l o = true ∨ (i = i0 ∧ o = o0)) : cnt n L p ≤ cnt n L q + L := by
  have h1 : cnt n L p ≤ cnt n L q + Sm (List.range 64) fun o => Sm (List.range L) fun l => Sm (List.range n) fun i => ind (decide (o = o0)) * ind (decide (i = i0)) := by
    unfold cnt
    rw [← Sm_add]
    refine Sm_le fun o ho => ?_
    rw [← Sm_add]
    refine Sm_le fun l hl => ?_
    rw [← Sm_add]
    refine Sm_le fun i hi => ?_
    have hi := List.mem_range.1 hi
    unfold ind
    by_cases e1 : p i l o = true
    · rw [if_pos e1]
      rcases h i l o hi e1 with e2 | ⟨rfl, rfl⟩
      · rw [if_pos e2]; omega
      · simp
    · rw [if_neg e1]; exact Nat.zero_le _
  have h2 : (Sm (List.range 64) fun o => Sm (List.range L) fun l => Sm (List.range n) fun i => ind (decide (o = o0)) * ind (decide (i = i0))) ≤ L := by
    have e : (Sm (List.range 64) fun o => Sm (List.range L) fun l => Sm (List.range n) fun i => ind (decide (o = o0)) * ind (decide (i = i0))) = Sm (List.range 64) fun o => (L * Sm (List.range n) fun i => ind (decide (i = i0))) * ind (decide (o = o0)) := by
      refine Sm_eq fun o _ => ?_
      rw [Sm_const, List.length_range, Sm_mul, Nat.mul_comm (ind _), ← Nat.mul_assoc]
    rw [e, Sm_mul]
    have a1 := Sm_one n i0
    have a2 := Sm_one 64 o0
    calc L * Sm (List.range n) (fun i => ind (decide (i = i0))) * Sm (List.range 64) (fun o => ind (decide (o = o0))) ≤ L * 1 * 1 := Nat.mul_le_mul (Nat.mul_le_mul (Nat.le_refl _) a1) a2
      _ = L := by omega
  omega
end
theorem Sm_cut (f : Nat → Nat) (L : Nat) (h : ∀ l, L ≤ l → f l = 0) : ∀ k, Sm (List.range (L + k)) f = Sm (List.range L) f
  | 0 => rfl
  | k + 1 => by
    rw [← Nat.add_assoc, List.range_succ, Sm_append, Sm_cons, Sm_nil, Sm_cut f L h k, h (L + k) (by omega)]; rfl
theorem len_flat {α β γ : Type} (c : α → β) (P : β → Bool) (g : β → List γ) : ∀ l : List α, (((l.map c).filter P).flatMap g).length = Sm l fun x => if P (c x) = true then (g (c x)).length else 0
  | [] => rfl
  | a :: l => by
    rw [Sm_cons, ← len_flat c P g l, List.map_cons, List.filter_cons]
    split
    · rw [List.flatMap_cons, List.length_append]
    · omega
theorem len_fm {α β γ : Type} (c : α → β) (P : β → Bool) (g : β → Option γ) : ∀ l : List α, (((l.map c).filter P).filterMap g).length = Sm l fun x => ind (P (c x) && (g (c x)).isSome)
  | [] => rfl
  | a :: l => by
    rw [Sm_cons, ← len_fm c P g l, List.map_cons, List.filter_cons]
    by_cases h : P (c a) = true
    · rw [if_pos h, h, List.filterMap_cons]
      cases g (c a) with
      | none => simp [ind]
      | some x => simp [ind]; omega
    · rw [if_neg h]
      have : P (c a) = false := by simpa using h
      rw [this]
      simp [ind]
/-- What is due. -/
def dueB (F : Fd.Fn) (l o : Nat) : Bool := match pdA F l o with | some h => decide (h.l ≤ 0) | none => false
theorem dueB_iff {F : Fd.Fn} {l o : Nat} : dueB F l o = true ↔ ∃ h, pdA F l o = some h ∧ h.l ≤ 0 := by
  unfold dueB
  cases pdA F l o <;> simp
theorem due_at {F : Fd.Fn} {D : Fd.Db} {l o : Nat} (hD : F l = some D) : ((D o).isSome && (Fd.due D (o : Int)).isSome) = dueB F l o := by
  unfold dueB pdA Fd.due
  rw [hD, Int.toNat_natCast]
  simp only [Option.bind_some]
  cases D o with
  | none => rfl
  | some h =>
    simp only [Option.isSome_some, Bool.true_and]
    by_cases e : 0 < h.l
    · rw [if_pos e]
      have : ¬ h.l ≤ 0 := by omega
      simp [this]
    · rw [if_neg e]
      have : h.l ≤ 0 := by omega
      simp [this]
/-- How much a flooder sends. -/
theorem snd_len (F : Fd.Fn) : (Fd.sndK F (Fd.lks F)).length = Sm (List.range 256) fun l => Sm (List.range 64) fun o => ind (dueB F l o) := by
  unfold Fd.sndK Fd.lks
  rw [len_flat]
  refine Sm_eq fun l _ => ?_
  rw [Int.toNat_natCast]
  cases hD : F l with
  | none =>
    simp only [Option.isSome_none, Bool.false_eq_true, if_false]
    rw [← Sm_zero (List.range 64)]
    refine Sm_eq fun o _ => ?_
    unfold dueB pdA
    rw [hD]
    rfl
  | some D =>
    simp only [Option.isSome_some, if_true]
    unfold Fd.sndJ Fd.orgs
    rw [len_fm]
    refine Sm_eq fun o _ => ?_
    rw [Int.toNat_natCast, Option.isSome_map, due_at hD]
theorem snd_cnt {n L : Nat} {fl : Nat → Fd.Fn} (hL : L ≤ 256) (h : ∀ i l, i < n → L ≤ l → fl i l = none) : (Sm (List.range n) fun i => (Fd.sndK (fl i) (Fd.lks (fl i))).length) = cnt n L fun i l o => dueB (fl i) l o := by
  have e1 : (Sm (List.range n) fun i => (Fd.sndK (fl i) (Fd.lks (fl i))).length) = Sm (List.range n) fun i => Sm (List.range 64) fun o => Sm (List.range L) fun l => ind (dueB (fl i) l o) := by
    refine Sm_eq fun i hi => ?_
    have hi := List.mem_range.1 hi
    rw [snd_len, show (256 : Nat) = L + (256 - L) by omega, Sm_cut _ L _ _, Sm_swap]
    intro l hl
    rw [← Sm_zero (List.range 64)]
    refine Sm_eq fun o _ => ?_
    unfold dueB pdA
    rw [h i l hi hl]
    rfl
  rw [e1, Sm_swap]
  unfold cnt
  exact Sm_eq fun o _ => Sm_swap _ _ _

/-! ### How much is pending -/
def pndB (S : Ns) (i l o : Nat) : Bool := (pdA (S.fl i) l o).isSome
def fulB (S : Ns) (i l o : Nat) : Bool := match pdA (S.fl i) l o with | some h => decide (h.l = 4) | none => false
theorem fulB_iff {S : Ns} {i l o : Nat} : fulB S i l o = true ↔ ∃ h, pdA (S.fl i) l o = some h ∧ h.l = 4 := by
  unfold fulB
  cases pdA (S.fl i) l o <;> simp
/-- How many origins there are. -/
def dist (bs : List (La × Nat)) : Nat := Sm (List.range 64) fun o => ind (bs.any fun b => b.1.o.toNat == o)
theorem dist_cons (b : La × Nat) (bs : List (La × Nat)) : dist (b :: bs) ≤ 1 + dist bs := by
  have h1 := Sm_one 64 b.1.o.toNat
  have h2 : dist (b :: bs) ≤ (Sm (List.range 64) fun o => ind (decide (o = b.1.o.toNat))) + dist bs := by
    unfold dist
    rw [← Sm_add]
    refine Sm_le fun o _ => ?_
    simp only [List.any_cons]
    by_cases e : o = b.1.o.toNat
    · subst e
      have := ind_le ((b.1.o.toNat == b.1.o.toNat) || bs.any fun c => c.1.o.toNat == b.1.o.toNat)
      simp [ind] at this ⊢
    · have e2 : (b.1.o.toNat == o) = false := by simpa using fun h => e h.symm
      rw [e2, Bool.false_or]
      omega
  omega
theorem dist_le : ∀ bs : List (La × Nat), dist bs ≤ bs.length
  | [] => by
    unfold dist
    simp [ind, Sm_zero]
  | b :: bs => by
    have := dist_cons b bs
    have := dist_le bs
    rw [List.length_cons]; omega
theorem dist_dup : ∀ bs : List (La × Nat), ¬ (bs.map fun b => b.1.o.toNat).Nodup → dist bs + 1 ≤ bs.length
  | [], h => absurd (by simp) h
  | b :: bs, h => by
    rw [List.map_cons, List.nodup_cons] at h
    by_cases h1 : b.1.o.toNat ∈ bs.map fun b => b.1.o.toNat
    · have e : dist (b :: bs) = dist bs := by
        unfold dist
        refine Sm_eq fun o _ => ?_
        rw [List.any_cons]
        by_cases e : o = b.1.o.toNat
        · subst e
          obtain ⟨c, hc, hco⟩ := List.mem_map.1 h1
          have : (bs.any fun c => c.1.o.toNat == b.1.o.toNat) = true := List.any_eq_true.2 ⟨c, hc, by simpa using hco⟩
          rw [this, Bool.or_true]
        · have e2 : (b.1.o.toNat == o) = false := by simpa using fun h => e h.symm
          rw [e2, Bool.false_or]
      have := dist_le bs
      rw [e, List.length_cons]; omega
    · have h2 : ¬ (bs.map fun b => b.1.o.toNat).Nodup := fun h2 => h ⟨h1, h2⟩
      have := dist_dup bs h2
      have := dist_cons b bs
      rw [List.length_cons]; omega
/-- Where all origins differ: the node where an advertisement began has it alone, or some end of a link will never send it. -/
def Uq (n : Nat) (ls : Lks) (bs : List (La × Nat)) (S : Ns) : Prop :=
  ∀ b ∈ bs, (∀ i l, i < n → pndB S i l b.1.o.toNat = true → i = b.2) ∨ ∃ i l, i < n ∧ Inc ls l i ∧ pndB S i l b.1.o.toNat = false ∧ (S.db i b.1.o.toNat).isSome = true
section
variable {n : Nat} {ls : Lks} {bs : List (La × Nat)} {S : Ns}
theorem Inv.ends {G : La → Nat → Prop} (H : Inv n ls G bs S) {i l o : Nat} (hi : i < n) (h : pndB S i l o = true) : ∃ p, ls[l]? = some p ∧ p.1 ≠ p.2 ∧ (i = p.1 ∨ i = p.2) := by
  obtain ⟨x, hx⟩ := Option.isSome_iff_exists.1 h
  obtain ⟨D, hD, _⟩ := pdA_some.1 hx
  exact (H.inc i l hi).1 (by rw [hD]; rfl)
/-- What is pending for one origin at the ends of one link. -/
theorem Inv.two {G : La → Nat → Prop} (H : Inv n ls G bs S) (l o : Nat) : (Sm (List.range n) fun i => ind (pndB S i l o)) ≤ 2 := by
  cases hp : ls[l]? with
  | none =>
    have : (Sm (List.range n) fun i => ind (pndB S i l o)) ≤ Sm (List.range n) fun _ => 0 := Sm_le fun i hi => by
      unfold ind
      rw [if_neg]
      · exact Nat.le_refl _
      · intro h
        obtain ⟨p, e, _⟩ := H.ends (List.mem_range.1 hi) h
        rw [hp] at e; cases e
    rw [Sm_zero] at this; omega
  | some p =>
    have : (Sm (List.range n) fun i => ind (pndB S i l o)) ≤ (Sm (List.range n) fun i => ind (decide (i = p.1))) + Sm (List.range n) fun i => ind (decide (i = p.2)) := by
      rw [← Sm_add]
      refine Sm_le fun i hi => ?_
      by_cases h : pndB S i l o = true
      · obtain ⟨p', e, _, e2⟩ := H.ends (List.mem_range.1 hi) h
        rw [hp] at e
        injection e with e
        subst e
        rw [h]
        rcases e2 with rfl | rfl <;> simp [ind]
      · unfold ind; rw [if_neg h]; exact Nat.zero_le _
    have a1 := Sm_one n p.1
    have a2 := Sm_one n p.2
    omega
theorem Inv.one {G : La → Nat → Prop} (H : Inv n ls G bs S) {l o i0 : Nat} (hl : Inc ls l i0) (h0 : pndB S i0 l o = false) : (Sm (List.range n) fun i => ind (pndB S i l o)) ≤ 1 := by
  have : (Sm (List.range n) fun i => ind (pndB S i l o)) ≤ Sm (List.range n) fun i => ind (decide (i = oth ls l i0)) := by
    refine Sm_le fun i hi => ?_
    refine ind_mono fun h => ?_
    obtain ⟨p, e, e1, e2⟩ := H.ends (List.mem_range.1 hi) h
    obtain ⟨p', e3, e4, e5⟩ := hl
    rw [e] at e3
    injection e3 with e3
    subst e3
    have hne : i ≠ i0 := fun e => by rw [e, h0] at h; cases h
    unfold oth
    rw [e]
    simp only [decide_eq_true_eq]
    omega
  have a1 := Sm_one n (oth ls l i0)
  omega
theorem Inv.h16 {G : La → Nat → Prop} (H : Inv n ls G bs S) (hL : ls.length ≤ 8) (o : Nat) : (Sm (List.range ls.length) fun l => Sm (List.range n) fun i => ind (pndB S i l o)) ≤ 16 := by
  have := Sm_le (l := List.range ls.length) (f := fun l => Sm (List.range n) fun i => ind (pndB S i l o)) (g := fun _ => 2) fun l _ => H.two l o
  rw [Sm_const, List.length_range] at this
  omega
theorem Inv.key {G : La → Nat → Prop} (H : Inv n ls G bs S) (hG : GOk ls G) (hGm : ∀ a i, G a i → ∃ b ∈ bs, b.1 = a) (c : Nat) (hc : ∀ o, (bs.any fun b => b.1.o.toNat == o) = true → (Sm (List.range ls.length) fun l => Sm (List.range n) fun i => ind (pndB S i l o)) ≤ c) : cnt n ls.length (pndB S) ≤ c * dist bs := by
  have hzero : ∀ o, (bs.any fun b => b.1.o.toNat == o) = false → ∀ i l, i < n → pndB S i l o = false := by
    intro o ho i l hi
    rw [Bool.eq_false_iff]
    intro h
    obtain ⟨x, hx⟩ := Option.isSome_iff_exists.1 h
    obtain ⟨o64, h1, h2, h3⟩ := H.pd64 hG hi hx
    obtain ⟨b, hb, hba⟩ := hGm _ _ h3
    have : (bs.any fun b => b.1.o.toNat == o) = true := List.any_eq_true.2 ⟨b, hb, by rw [hba]; simp; omega⟩
    rw [ho] at this; cases this
  have hz : ∀ o, (bs.any fun b => b.1.o.toNat == o) = false → (Sm (List.range ls.length) fun l => Sm (List.range n) fun i => ind (pndB S i l o)) = 0 := by
    intro o ho
    have e : ∀ l ∈ List.range ls.length, (Sm (List.range n) fun i => ind (pndB S i l o)) = 0 := by
      intro l _
      rw [← Sm_zero (List.range n)]
      exact Sm_eq fun i hi => by rw [hzero o ho i l (List.mem_range.1 hi)]; rfl
    rw [Sm_eq e, Sm_zero]
  unfold cnt dist
  rw [← Sm_mul]
  refine Sm_le fun o _ => ?_
  cases ho : bs.any fun b => b.1.o.toNat == o with
  | false => rw [hz o ho]; exact Nat.zero_le _
  | true => have := hc o ho; rw [show ind true = 1 from rfl]; omega
theorem Inv.pnd96 {G : La → Nat → Prop} (H : Inv n ls G bs S) (hG : GOk ls G) (hGm : ∀ a i, G a i → ∃ b ∈ bs, b.1 = a) (hL : ls.length ≤ 8) (hb : bs.length ≤ 6) : cnt n ls.length (pndB S) ≤ 96 := by
  have h1 := H.key hG hGm 16 fun o _ => H.h16 hL o
  have h2 := dist_le bs
  have : 16 * dist bs ≤ 16 * 6 := Nat.mul_le_mul (Nat.le_refl _) (by omega)
  omega
/-- At most 90 are pending. -/
theorem Inv.pnd90 {G : La → Nat → Prop} (H : Inv n ls G bs S) (hG : GOk ls G) (hGm : ∀ a i, G a i → ∃ b ∈ bs, b.1 = a) (hL : ls.length ≤ 8) (hb : bs.length ≤ 6) (hU : (bs.map fun b => b.1.o.toNat).Nodup → Uq n ls bs S) : cnt n ls.length (pndB S) ≤ 90 := by
  have key := H.key hG hGm
  have h16 := H.h16 hL
  by_cases hnd : (bs.map fun b => b.1.o.toNat).Nodup
  · have hq := hU hnd
    have h15 := key 15 fun o ho => by
      obtain ⟨b, hb, hbo⟩ := List.any_eq_true.1 ho
      rw [beq_iff_eq] at hbo
      rcases hq b hb with h | ⟨i, l, hi, hl, h1, h2⟩
      · rw [hbo] at h
        have := Sm_le (l := List.range ls.length) (f := fun l => Sm (List.range n) fun i => ind (pndB S i l o)) (g := fun _ => 1) fun l _ => by
          have h2 : (Sm (List.range n) fun i => ind (pndB S i l o)) ≤ Sm (List.range n) fun i => ind (decide (i = b.2)) := Sm_le fun i hi => ind_mono fun h3 => by
            have := h i l (List.mem_range.1 hi) h3
            simpa using this
          have := Sm_one n b.2
          omega
        rw [Sm_const, List.length_range] at this
        omega
      · rw [hbo] at h1
        have h3 : (Sm (List.range ls.length) fun l => Sm (List.range n) fun i => ind (pndB S i l o)) < Sm (List.range ls.length) fun _ => 2 :=
          Sm_lt (fun l _ => H.two l o) ⟨l, List.mem_range.2 hl.lt, by have := H.one hl h1; omega⟩
        rw [Sm_const, List.length_range] at h3
        omega
    have := dist_le bs
    have : 15 * dist bs ≤ 15 * 6 := Nat.mul_le_mul (Nat.le_refl _) (by omega)
    omega
  · have h1 := key 16 fun o _ => h16 o
    have h2 := dist_dup bs hnd
    have : 16 * dist bs ≤ 16 * 5 := Nat.mul_le_mul (Nat.le_refl _) (by omega)
    omega

/-! ### Where a delivery turns something -/
theorem dlv_fl (ls : Lks) (S : Ns) (m : Msg) {i : Nat} (hi : i ≠ m.tgt) : (dlv ls S m).fl i = S.fl i := by
  unfold dlv
  repeat' split
  all_goals simp only [upd_ne hi]
theorem dlv_pd {G : La → Nat → Prop} (H : Inv n ls G bs S) (hG : GOk ls G) {m : Msg} (hm : MsgOk n ls G S m) {l o : Nat} (ho : o ≠ m.a.o.toNat) : pdA ((dlv ls S m).fl m.tgt) l o = pdA (S.fl m.tgt) l o := by
  unfold dlv
  split
  · simp only [upd_same]; rw [pdA_ack, if_neg (fun c => ho c.2.1)]
  · split
    · simp only [upd_same]; rw [pdA_spr, if_neg (fun c => ho c.1), if_neg (fun c => ho c.1)]
    · split
      · simp only [upd_same]; rw [pdA_ack, if_neg (fun c => ho c.2.1)]
      · simp only [upd_same]
        rename_i h1 h2 h3
        have hva := hG.v hm.g
        rcases instR_cases (N := S.db m.tgt) hva with ⟨e, _⟩ | ⟨e, _⟩ | ⟨e, h, e2, _⟩
        · exact absurd e h2
        · exact absurd e h3
        · have hget : getX (getO (S.db m.tgt) m.a.o) = h.x := by
            unfold getO
            rw [if_pos (by have := hva.1; omega), e2]
            rfl
          have hho : h.x.o.toNat = m.a.o.toNat := by have := (H.db _ _ _ hm.lt e2).2.1; omega
          rw [pdA_off, if_neg]
          rw [hget, hho]
          exact fun c => ho c.2.1
theorem dlv_way (ls : Lks) (S : Ns) (m : Msg) : (dlv ls S m).way = S.way ∨ (m.ack = false ∧ (dlv ls S m).way = S.way ++ [⟨m.link, oth ls m.link m.tgt, true, m.a⟩]) := by
  unfold dlv
  by_cases h : m.ack = true
  · rw [if_pos h]; exact .inl rfl
  · rw [if_neg h]
    repeat' split
    · exact .inr ⟨by simpa using h, rfl⟩
    · exact .inr ⟨by simpa using h, rfl⟩
    · exact .inl rfl
/-- What is counted changes by at most 8 with a delivery. -/
theorem dlv_cnt {G : La → Nat → Prop} (H : Inv n ls G bs S) (hG : GOk ls G) {m : Msg} (hm : MsgOk n ls G S m) (t : Option Fd.Hd → Bool) :
    cnt n ls.length (fun i l o => t (pdA ((dlv ls S m).fl i) l o)) ≤ cnt n ls.length (fun i l o => t (pdA (S.fl i) l o)) + ls.length ∧ cnt n ls.length (fun i l o => t (pdA (S.fl i) l o)) ≤ cnt n ls.length (fun i l o => t (pdA ((dlv ls S m).fl i) l o)) + ls.length := by
  have key : ∀ i l o, ¬ (i = m.tgt ∧ o = m.a.o.toNat) → pdA ((dlv ls S m).fl i) l o = pdA (S.fl i) l o := by
    intro i l o hn
    by_cases hi : i = m.tgt
    · subst hi
      exact dlv_pd H hG hm (fun e => hn ⟨rfl, e⟩)
    · rw [dlv_fl ls S m hi]
  constructor
  · refine cnt_one m.tgt m.a.o.toNat fun i l o hi h => ?_
    by_cases hn : i = m.tgt ∧ o = m.a.o.toNat
    · exact .inr hn
    · left; rwa [key i l o hn] at h
  · refine cnt_one m.tgt m.a.o.toNat fun i l o hi h => ?_
    by_cases hn : i = m.tgt ∧ o = m.a.o.toNat
    · exact .inr hn
    · left; rwa [key i l o hn]
theorem Uq.dlv {G : La → Nat → Prop} (H : Inv n ls G bs S) (hG : GOk ls G) (hGm : ∀ a i, G a i → ∃ b ∈ bs, b.1 = a) (hnd : (bs.map fun b => b.1.o.toNat).Nodup) (hU : Uq n ls bs S) {m : Msg} (hm : MsgOk n ls G S m) : Uq n ls bs (dlv ls S m) := by
  have hva := hG.v hm.g
  have huniq : ∀ b ∈ bs, ∀ c ∈ bs, b.1.o.toNat = c.1.o.toNat → b = c := by
    intro b hb c hc e
    clear hU hGm H hm hva
    induction bs with
    | nil => cases hb
    | cons x t ih =>
      rw [List.map_cons, List.nodup_cons] at hnd
      rcases List.mem_cons.1 hb with hb2 | hb2
      · rcases List.mem_cons.1 hc with hc2 | hc2
        · rw [hb2, hc2]
        · exact absurd (List.mem_map.2 ⟨c, hc2, by rw [← e, hb2]⟩) hnd.1
      · rcases List.mem_cons.1 hc with hc2 | hc2
        · exact absurd (List.mem_map.2 ⟨b, hb2, by rw [e, hc2]⟩) hnd.1
        · exact ih hnd.2 hb2 hc2
  intro b hb
  by_cases ho : b.1.o.toNat = m.a.o.toNat
  · obtain ⟨c, hc, hca⟩ := hGm _ _ hm.g
    have hcb := huniq c hc b hb (by rw [hca]; exact ho.symm)
    subst hcb
    rw [hca]
    have hbc := hU c hc
    rw [hca] at hbc
    -- a node that has the origin has this very advertisement
    have hone : ∀ i h, i < n → S.db i m.a.o.toNat = some h → h.x = m.a := by
      intro i h hi e
      obtain ⟨g1, g2, _⟩ := H.db i _ h hi e
      obtain ⟨c', hc', hca'⟩ := hGm _ _ g1
      have := huniq c' hc' c hc (by rw [hca', hca]; omega)
      rw [← hca', this, hca]
    have hshrink : (∀ l, pndB (Go.Proofs.Ytnfldccaeibcpaa.dlv ls S m) m.tgt l m.a.o.toNat = true → pndB S m.tgt l m.a.o.toNat = true) → (∀ i, (S.db i m.a.o.toNat).isSome = true → ((Go.Proofs.Ytnfldccaeibcpaa.dlv ls S m).db i m.a.o.toNat).isSome = true) → ((∀ i l, i < n → pndB (Go.Proofs.Ytnfldccaeibcpaa.dlv ls S m) i l m.a.o.toNat = true → i = c.2) ∨ ∃ i l, i < n ∧ Inc ls l i ∧ pndB (Go.Proofs.Ytnfldccaeibcpaa.dlv ls S m) i l m.a.o.toNat = false ∧ ((Go.Proofs.Ytnfldccaeibcpaa.dlv ls S m).db i m.a.o.toNat).isSome = true) := by
      intro hs hd
      have hs' : ∀ i l, pndB (Go.Proofs.Ytnfldccaeibcpaa.dlv ls S m) i l m.a.o.toNat = true → pndB S i l m.a.o.toNat = true := by
        intro i l h
        by_cases e : i = m.tgt
        · subst e; exact hs l h
        · unfold pndB at h ⊢; rwa [dlv_fl ls S m e] at h
      rcases hbc with h | ⟨i, l, hi, hl, h1, h2⟩
      · exact .inl fun i l hi h3 => h i l hi (hs' i l h3)
      · refine .inr ⟨i, l, hi, hl, ?_, hd i h2⟩
        rw [Bool.eq_false_iff] at h1 ⊢
        exact fun h => h1 (hs' i l h)
    have hacks : ∀ l, pndB ⟨S.db, upd S.fl m.tgt (ackF (S.fl m.tgt) m.link m.a), S.way⟩ m.tgt l m.a.o.toNat = true → pndB S m.tgt l m.a.o.toNat = true := by
      intro l h
      unfold pndB at h ⊢
      simp only [upd_same] at h
      rw [pdA_ack] at h
      split at h
      · cases h
      · exact h
    by_cases hk : m.ack = true
    · refine hshrink (fun l h => hacks l ?_) (fun i h => ?_)
      · unfold Go.Proofs.Ytnfldccaeibcpaa.dlv at h
        rwa [if_pos hk] at h
      · unfold Go.Proofs.Ytnfldccaeibcpaa.dlv
        rwa [if_pos hk]
    · rcases instR_cases (N := S.db m.tgt) hva with ⟨e, e1⟩ | ⟨e, h, e1, e2⟩ | ⟨e, h, e1, e2⟩
      · right
        have hno : S.db m.tgt m.a.o.toNat = none := by
          cases e2 : S.db m.tgt m.a.o.toNat with
          | none => rfl
          | some h =>
            have h3 := hone _ h hm.lt e2
            have h4 := (e1 h e2).1
            rw [h3, newI_self hva] at h4
            exact absurd rfl h4
        refine ⟨m.tgt, m.link, hm.lt, hm.inc, ?_, ?_⟩
        · unfold Go.Proofs.Ytnfldccaeibcpaa.dlv pndB
          rw [if_neg hk, if_pos e]
          simp only [upd_same]
          rw [pdA_spr, if_neg (fun c => c.2.1 rfl)]
          split
          · rfl
          · cases e3 : pdA (S.fl m.tgt) m.link m.a.o.toNat with
            | none => rfl
            | some x =>
              obtain ⟨⟨hd, e4, _⟩, _⟩ := H.J _ _ _ _ hm.lt e3
              rw [hno] at e4; cases e4
        · unfold Go.Proofs.Ytnfldccaeibcpaa.dlv
          rw [if_neg hk, if_pos e]
          simp only [upd_same]
          rw [instN_at hva e, if_pos rfl]
          rfl
      · refine hshrink (fun l h => hacks l ?_) (fun i h => ?_)
        · unfold Go.Proofs.Ytnfldccaeibcpaa.dlv at h
          rw [if_neg hk, if_neg (by omega), if_pos e] at h
          exact h
        · unfold Go.Proofs.Ytnfldccaeibcpaa.dlv
          rwa [if_neg hk, if_neg (by omega), if_pos e]
      · have h3 := hone _ h hm.lt e1
        rw [h3, newI_self hva] at e2
        exact absurd e2 (by omega)
  · have hd : ∀ i, (Go.Proofs.Ytnfldccaeibcpaa.dlv ls S m).db i b.1.o.toNat = S.db i b.1.o.toNat := by
      intro i
      rcases dlv_db ls S m with ⟨_, e, e2⟩ | ⟨_, e2⟩
      · rw [e2]
        by_cases hi : i = m.tgt
        · subst hi; rw [upd_same, instN_at hva e, if_neg ho]
        · rw [upd_ne hi]
      · rw [e2]
    have hp : ∀ i l, pndB (Go.Proofs.Ytnfldccaeibcpaa.dlv ls S m) i l b.1.o.toNat = pndB S i l b.1.o.toNat := by
      intro i l
      unfold pndB
      by_cases hi : i = m.tgt
      · subst hi; rw [dlv_pd H hG hm ho]
      · rw [dlv_fl ls S m hi]
    rcases hU b hb with h | ⟨i, l, hi, hl, h1, h2⟩
    · exact .inl fun i l hi h3 => h i l hi (by rw [← hp]; exact h3)
    · exact .inr ⟨i, l, hi, hl, by rw [hp]; exact h1, by rw [hd]; exact h2⟩
end

end Go.Proofs.Ytnfldccaeibcpaa

namespace Go.Proofs.Ytnfldccaeibcpaa
set_option linter.unusedVariables false
open Go.RowKit

theorem pdA_tik {k : Int} {F : Fd.Fn} {l o : Nat} : pdA (Fd.tikN k F) l o = (pdA F l o).map (Fd.tikH k) := by
  unfold pdA Fd.tikN Fd.tikD
  cases F l <;> rfl
theorem pdA_pol {iv : Int} {F : Fd.Fn} {l o : Nat} : pdA (Fd.polN iv F) l o = (pdA F l o).map (Fd.polH iv) := by
  unfold pdA Fd.polN Fd.polD
  cases F l <;> rfl
theorem snd_mem {F : Fd.Fn} {q : Int} {x : La} : (q, x) ∈ Fd.sndK F (Fd.lks F) ↔ ∃ l o : Nat, ∃ h, l < 256 ∧ o < 64 ∧ pdA F l o = some h ∧ h.l ≤ 0 ∧ q = (l : Int) ∧ x = h.x := by
  unfold Fd.sndK
  rw [List.mem_flatMap]
  constructor
  · rintro ⟨z, hz, h⟩
    obtain ⟨hz1, hz2⟩ := (Fd.lks_mem z).1 hz
    obtain ⟨l, rfl⟩ := Int.eq_ofNat_of_zero_le hz1.1
    rw [Int.toNat_natCast] at h hz2
    obtain ⟨D, hD⟩ := Option.isSome_iff_exists.1 hz2
    rw [hD] at h
    unfold Fd.sndJ at h
    obtain ⟨y, hy, h⟩ := List.mem_filterMap.1 h
    obtain ⟨hy1, hy2⟩ := (Fd.orgs_mem y).1 hy
    obtain ⟨o, rfl⟩ := Int.eq_ofNat_of_zero_le hy1.1
    rw [Int.toNat_natCast] at hy2
    obtain ⟨hd, hDo⟩ := Option.isSome_iff_exists.1 hy2
    unfold Fd.due at h
    rw [Int.toNat_natCast, hDo] at h
    simp only at h
    split at h
    · cases h
    · rename_i hn
      injection h with h
      injection h with h1 h2
      exact ⟨l, o, hd, by omega, by omega, pdA_some.2 ⟨D, hD, hDo⟩, by omega, h1.symm, h2.symm⟩
  · rintro ⟨l, o, hd, hl, ho, h, hle, rfl, rfl⟩
    obtain ⟨D, hD, hDo⟩ := pdA_some.1 h
    refine ⟨(l : Int), (Fd.lks_mem _).2 ⟨⟨by omega, by omega⟩, by rw [Int.toNat_natCast, hD]; rfl⟩, ?_⟩
    rw [Int.toNat_natCast, hD]
    unfold Fd.sndJ
    refine List.mem_filterMap.2 ⟨(o : Int), (Fd.orgs_mem _).2 ⟨⟨by omega, by omega⟩, by rw [Int.toNat_natCast, hDo]; rfl⟩, ?_⟩
    unfold Fd.due
    rw [Int.toNat_natCast, hDo]
    simp only
    rw [if_neg (by omega)]
    rfl
/-- What node i sends. -/
def sndM (ls : Lks) (F : Fd.Fn) (i : Nat) : List Msg := (Fd.sndK F (Fd.lks F)).map fun qx => ⟨qx.1.toNat, oth ls qx.1.toNat i, false, qx.2⟩
def tikS (k : Int) (S : Ns) : Ns := ⟨S.db, fun i => Fd.tikN k (S.fl i), S.way⟩
def polS (n : Nat) (ls : Lks) (S : Ns) : Ns := ⟨S.db, fun i => Fd.polN 4 (S.fl i), S.way ++ (List.range n).flatMap fun i => sndM ls (S.fl i) i⟩
/-- Time passes, and all send what is due. -/
def tps (n : Nat) (ls : Lks) (k : Int) (S : Ns) : Ns := polS n ls (tikS k S)
def tpH (k : Int) (h : Fd.Hd) : Fd.Hd := Fd.polH 4 (Fd.tikH k h)
theorem tpH_x (k : Int) (h : Fd.Hd) : (tpH k h).x = h.x := by unfold tpH Fd.polH Fd.tikH; split <;> rfl
theorem tpH_l (k : Int) (h : Fd.Hd) : (tpH k h).l = if 0 < h.l - min k h.l then h.l - min k h.l else 4 := by
  unfold tpH Fd.polH Fd.tikH
  simp only
  split <;> rfl
theorem tps_pd (n : Nat) (ls : Lks) (k : Int) (S : Ns) (i l o : Nat) : pdA ((tps n ls k S).fl i) l o = (pdA (S.fl i) l o).map (tpH k) := by
  unfold tps polS tikS
  simp only
  rw [pdA_pol, pdA_tik, Option.map_map]
  rfl
theorem isS_tik {k : Int} {F : Fd.Fn} (q : Nat) : (Fd.tikN k F q).isSome = (F q).isSome := by unfold Fd.tikN; simp
theorem isS_pol {k : Int} {F : Fd.Fn} (q : Nat) : (Fd.polN k F q).isSome = (F q).isSome := by unfold Fd.polN; simp
theorem tps_way {n : Nat} {ls : Lks} {k : Int} {S : Ns} {m : Msg} : m ∈ (tps n ls k S).way ↔ m ∈ S.way ∨ ∃ i l o h, i < n ∧ l < 256 ∧ o < 64 ∧ pdA (S.fl i) l o = some h ∧ h.l - min k h.l ≤ 0 ∧ m = ⟨l, oth ls l i, false, h.x⟩ := by
  unfold tps polS tikS
  simp only
  rw [List.mem_append, List.mem_flatMap]
  refine or_congr_right ?_
  constructor
  · rintro ⟨i, hi, h⟩
    unfold sndM at h
    obtain ⟨⟨q, x⟩, hq, rfl⟩ := List.mem_map.1 h
    obtain ⟨l, o, hd, hl, ho, e, hle, rfl, rfl⟩ := snd_mem.1 hq
    rw [pdA_tik, Option.map_eq_some_iff] at e
    obtain ⟨h', e, rfl⟩ := e
    refine ⟨i, l, o, h', List.mem_range.1 hi, hl, ho, e, hle, ?_⟩
    simp only [Int.toNat_natCast]
    rfl
  · rintro ⟨i, l, o, h, hi, hl, ho, e, hle, rfl⟩
    refine ⟨i, List.mem_range.2 hi, ?_⟩
    unfold sndM
    refine List.mem_map.2 ⟨((l : Int), h.x), snd_mem.2 ⟨l, o, Fd.tikH k h, hl, ho, ?_, hle, rfl, rfl⟩, ?_⟩
    · rw [pdA_tik, e]; rfl
    · simp only [Int.toNat_natCast]
section
variable {n : Nat} {ls : Lks} {G : La → Nat → Prop} {bs : List (La × Nat)} {S : Ns}
theorem Inv.tps (H : Inv n ls G bs S) (hG : GOk ls G) (hls : ∀ l i, Inc ls l i → i < n) {k : Int} (hk : 1 ≤ k) : Inv n ls G bs (tps n ls k S) := by
  refine H.time hG hls _ _ (tpH k) (fun i l o hi => ?_) (fun i l hi => ?_) (fun h h0 h4 => ⟨tpH_x k h, ?_⟩) (fun m hm => ?_)
  · exact tps_pd n ls k S i l o
  · show (Fd.polN 4 (Fd.tikN k (S.fl i)) l).isSome = _
    rw [isS_pol, isS_tik]
  · rw [tpH_l]
    split <;> omega
  · rcases tps_way.1 hm with h | ⟨i, l, o, h, hi, _, _, e, _, rfl⟩
    · exact .inl h
    · exact .inr ⟨i, l, o, h, hi, e, rfl⟩
theorem tps_rank (k : Int) : rank n bs (tps n ls k S) = rank n bs S := rfl
/-- After a full interval all that is pending is on its way. -/
theorem Inv.full (H : Inv n ls G bs S) (hG : GOk ls G) (hL : ls.length ≤ 256) (hw : S.way = []) : Full n ls (Go.Proofs.Ytnfldccaeibcpaa.tps n ls 4 S) := by
  refine ⟨fun m hm => ?_, fun i l o h hi ho e => ?_⟩
  · rcases tps_way.1 hm with h | ⟨i, l, o, h, hi, _, _, e, _, rfl⟩
    · rw [hw] at h; cases h
    · exact ⟨i, l, o, tpH 4 h, hi, by rw [tps_pd, e]; rfl, by rw [tpH_x]⟩
  · rw [tps_pd, Option.map_eq_some_iff] at e
    obtain ⟨h', e, rfl⟩ := e
    have hl := (H.pd64 hG hi e).2.2.1.lt
    have h4 := (H.J i l o h' hi e).2
    refine tps_way.2 (.inr ⟨i, l, o, h', hi, by omega, ho, e, by omega, ?_⟩)
    rw [tpH_x]
theorem Full.none (H : Inv n ls G bs S) (hG : GOk ls G) (hF : Full n ls S) (hw : S.way = []) : ∀ i l o, i < n → pdA (S.fl i) l o = none := by
  intro i l o hi
  cases e : pdA (S.fl i) l o with
  | none => rfl
  | some h =>
    have := hF.all i l o h hi (H.pd64 hG hi e).1 e
    rw [hw] at this; cases this

/-! ### The messages -/
def mu (way : List Msg) : Nat := Sm way fun m => if m.ack = true then 1 else 2
theorem mu_append (a b : List Msg) : mu (a ++ b) = mu a + mu b := Sm_append _ _ _
theorem mu_cons (m : Msg) (l : List Msg) : mu (m :: l) = (if m.ack = true then 1 else 2) + mu l := Sm_cons _ _ _
theorem mu_pos {m : Msg} {l : List Msg} : 1 ≤ mu (m :: l) := by rw [mu_cons]; split <;> omega
theorem mu_drop (l : List Msg) (k : Nat) : mu (l.take k ++ l.drop (k + 1)) ≤ mu l := by
  conv => rhs; rw [← List.take_append_drop k l]
  rw [mu_append, mu_append]
  have : mu (l.drop (k + 1)) ≤ mu (l.drop k) := by
    by_cases h : k < l.length
    · rw [List.drop_eq_getElem_cons h, mu_cons]; omega
    · rw [List.drop_of_length_le (by omega), List.drop_of_length_le (by omega)]; exact Nat.le_refl _
  omega
theorem Sm_flat {α β : Type} (l : List α) (f : α → List β) (g : β → Nat) : Sm (l.flatMap f) g = Sm l fun x => Sm (f x) g := by
  induction l with
  | nil => rfl
  | cons a l ih => rw [List.flatMap_cons, Sm_append, Sm_cons, ih]
theorem mu_snd (ls : Lks) (F : Fd.Fn) (i : Nat) : mu (sndM ls F i) = 2 * (Fd.sndK F (Fd.lks F)).length := by
  unfold sndM mu
  induction Fd.sndK F (Fd.lks F) with
  | nil => rfl
  | cons a l ih => rw [List.map_cons, Sm_cons, ih, List.length_cons, if_neg (by simp)]; omega
/-- What is due after k ticks. -/
def duB (k : Int) (S : Ns) (i l o : Nat) : Bool := match pdA (S.fl i) l o with | some h => decide (h.l - min k h.l ≤ 0) | none => false
theorem duB_iff {k : Int} {S : Ns} {i l o : Nat} : duB k S i l o = true ↔ ∃ h, pdA (S.fl i) l o = some h ∧ h.l - min k h.l ≤ 0 := by
  unfold duB
  cases pdA (S.fl i) l o <;> simp
theorem mu_tps (H : Inv n ls G bs S) (hL : ls.length ≤ 8) (k : Int) : mu (tps n ls k S).way = mu S.way + 2 * cnt n ls.length (duB k S) := by
  unfold tps polS
  simp only
  rw [mu_append]
  have e1 : mu ((List.range n).flatMap fun i => sndM ls ((tikS k S).fl i) i) = 2 * Sm (List.range n) fun i => (Fd.sndK ((tikS k S).fl i) (Fd.lks ((tikS k S).fl i))).length := by
    unfold mu
    rw [Sm_flat, ← Sm_mul]
    exact Sm_eq fun i _ => mu_snd _ _ _
  have e2 : (fun i l o => dueB ((tikS k S).fl i) l o) = duB k S := by
    funext i l o
    unfold dueB duB tikS
    simp only
    rw [pdA_tik]
    cases pdA (S.fl i) l o <;> rfl
  rw [e1, snd_cnt (L := ls.length) (by omega), e2]
  · rfl
  · intro i l hi hl
    cases e : (tikS k S).fl i l with
    | none => rfl
    | some D =>
      have h1 : (S.fl i l).isSome = true := by
        have : ((tikS k S).fl i l).isSome = true := by rw [e]; rfl
        unfold tikS at this
        rwa [isS_tik] at this
      have := ((H.inc i l hi).1 h1).lt
      omega
/-- Where the script stands: T times have passed, D messages were received. -/
structure Tal (n : Nat) (ls : Lks) (bs : List (La × Nat)) (S : Ns) (T D : Nat) : Prop where
  e : cnt n ls.length (pndB S) ≤ 48 + 8 * D
  u : (bs.map fun b => b.1.o.toNat).Nodup → Uq n ls bs S
  c : (T = 0 ∧ D = 0 ∧ S.way = []) ∨ (1 ≤ T ∧ mu S.way ≤ cnt n ls.length (fulB S) + 48 + (T - 1) * min 90 (48 + 8 * D) + 9 * D)
theorem ful_pnd : cnt n ls.length (fulB S) ≤ cnt n ls.length (pndB S) := cnt_mono fun i l o _ _ _ h => by
  obtain ⟨x, hx, _⟩ := fulB_iff.1 h
  unfold pndB
  rw [hx]; rfl
theorem Tal.sub {T D : Nat} (h : Tal n ls bs S T D) (way' : List Msg) (hw : mu way' ≤ mu S.way) (h0 : S.way = [] → way' = []) : Tal n ls bs ⟨S.db, S.fl, way'⟩ T D := by
  refine ⟨h.e, h.u, ?_⟩
  rcases h.c with ⟨h1, h2, h3⟩ | ⟨h1, h2⟩
  · exact .inl ⟨h1, h2, h0 h3⟩
  · exact .inr ⟨h1, Nat.le_trans hw h2⟩
theorem Tal.dlv {T D : Nat} (h : Tal n ls bs S T D) (H : Inv n ls G bs S) (hG : GOk ls G) (hGm : ∀ a i, G a i → ∃ b ∈ bs, b.1 = a) (hL : ls.length ≤ 8) {m : Msg} (hm : MsgOk n ls G S m) (hT : 1 ≤ T) : Tal n ls bs (dlv ls S m) T (D + 1) := by
  have c1 := dlv_cnt H hG hm Option.isSome
  have c2 := dlv_cnt H hG hm fun x => match x with | some h => decide (h.l = 4) | none => false
  refine ⟨?_, fun hnd => Uq.dlv H hG hGm hnd (h.u hnd) hm, .inr ⟨hT, ?_⟩⟩
  · have := h.e
    have e1 : cnt n ls.length (pndB (Go.Proofs.Ytnfldccaeibcpaa.dlv ls S m)) = cnt n ls.length (fun i l o => (pdA ((Go.Proofs.Ytnfldccaeibcpaa.dlv ls S m).fl i) l o).isSome) := rfl
    have e2 : cnt n ls.length (pndB S) = cnt n ls.length (fun i l o => (pdA (S.fl i) l o).isSome) := rfl
    omega
  · have e1 : cnt n ls.length (fulB (Go.Proofs.Ytnfldccaeibcpaa.dlv ls S m)) = cnt n ls.length (fun i l o => match pdA ((Go.Proofs.Ytnfldccaeibcpaa.dlv ls S m).fl i) l o with | some h => decide (h.l = 4) | none => false) := rfl
    have e2 : cnt n ls.length (fulB S) = cnt n ls.length (fun i l o => match pdA (S.fl i) l o with | some h => decide (h.l = 4) | none => false) := rfl
    have hmu : mu (Go.Proofs.Ytnfldccaeibcpaa.dlv ls S m).way ≤ mu S.way + 1 := by
      rcases dlv_way ls S m with e | ⟨_, e⟩
      · rw [e]; omega
      · rw [e, mu_append, mu_cons]
        simp [mu, Sm]
    have hmul : (T - 1) * min 90 (48 + 8 * D) ≤ (T - 1) * min 90 (48 + 8 * (D + 1)) := Nat.mul_le_mul (Nat.le_refl _) (by omega)
    rcases h.c with ⟨h1, _⟩ | ⟨_, h2⟩
    · omega
    · have h3 := c2.2
      rw [← e1, ← e2] at h3
      omega
theorem Tal.tps {T D : Nat} (h : Tal n ls bs S T D) (H : Inv n ls G bs S) (hG : GOk ls G) (hGm : ∀ a i, G a i → ∃ b ∈ bs, b.1 = a) (hL : ls.length ≤ 8) (hb : bs.length ≤ 6) {k : Int} (hk : 1 ≤ k) (hk3 : k ≤ 3) : Tal n ls bs (tps n ls k S) (T + 1) D := by
  have hp : ∀ i l o, pndB (Go.Proofs.Ytnfldccaeibcpaa.tps n ls k S) i l o = pndB S i l o := fun i l o => by unfold pndB; rw [tps_pd, Option.isSome_map]
  have h90 := H.pnd90 hG hGm hL hb h.u
  have he := h.e
  have hs : cnt n ls.length (duB k S) + cnt n ls.length (fulB S) ≤ cnt n ls.length (pndB S) := by
    refine cnt_add (fun i l o hi h => ?_) (fun i l o hi h => ?_) (fun i l o hi h => ?_)
    · obtain ⟨x, hx, h1⟩ := duB_iff.1 h.1
      obtain ⟨y, hy, h2⟩ := fulB_iff.1 h.2
      rw [hx] at hy
      injection hy with hy
      subst hy
      omega
    · obtain ⟨x, hx, h1⟩ := duB_iff.1 h
      unfold pndB; rw [hx]; rfl
    · obtain ⟨x, hx, h1⟩ := fulB_iff.1 h
      unfold pndB; rw [hx]; rfl
  have hf : cnt n ls.length (duB k S) ≤ cnt n ls.length (fulB (Go.Proofs.Ytnfldccaeibcpaa.tps n ls k S)) := cnt_mono fun i l o _ _ _ h => by
    obtain ⟨x, hx, h1⟩ := duB_iff.1 h
    rw [fulB_iff]
    refine ⟨tpH k x, by rw [tps_pd, hx]; rfl, ?_⟩
    rw [tpH_l, if_neg (by omega)]
  have hm := mu_tps H hL k
  refine ⟨?_, fun hnd b hb => ?_, .inr ⟨by omega, ?_⟩⟩
  · have : cnt n ls.length (pndB (Go.Proofs.Ytnfldccaeibcpaa.tps n ls k S)) ≤ cnt n ls.length (pndB S) := cnt_mono fun i l o _ _ _ h => by rwa [hp] at h
    omega
  · rcases h.u hnd b hb with h1 | ⟨i, l, hi, hl, h1, h2⟩
    · exact .inl fun i l hi h2 => h1 i l hi (by rw [← hp]; exact h2)
    · exact .inr ⟨i, l, hi, hl, by rw [hp]; exact h1, h2⟩
  · have hM : cnt n ls.length (pndB S) ≤ min 90 (48 + 8 * D) := by omega
    have hc := h.c
    clear h
    generalize min 90 (48 + 8 * D) = M at *
    rcases hc with ⟨h1, h2, h3⟩ | ⟨h1, h2⟩
    · rw [h3] at hm
      have : mu [] = 0 := rfl
      subst h1 h2
      simp only [Nat.zero_add, Nat.sub_self, Nat.zero_mul]
      omega
    · have e : (T + 1 - 1) * M = (T - 1) * M + M := by
        rw [show T + 1 - 1 = (T - 1) + 1 by omega, Nat.succ_mul]
      rw [e]
      omega
theorem Tal.fin {T D : Nat} (h : Tal n ls bs S T D) (H : Inv n ls G bs S) (hG : GOk ls G) (hGm : ∀ a i, G a i → ∃ b ∈ bs, b.1 = a) (hL : ls.length ≤ 8) (hb : bs.length ≤ 6) (h60 : T + D ≤ 60) : mu S.way ≤ 5000 := by
  have h90 := H.pnd90 hG hGm hL hb h.u
  have he := h.e
  have hf := ful_pnd (n := n) (ls := ls) (S := S)
  rcases h.c with ⟨h1, h2, h3⟩ | ⟨h1, h2⟩
  · rw [h3]; exact Nat.zero_le _
  · have hM : cnt n ls.length (fulB S) ≤ min 90 (48 + 8 * D) := by omega
    have hd : ∀ D, D < 61 → (60 - D) * min 90 (48 + 8 * D) + 48 + 9 * D ≤ 5000 := by decide
    have h4 := hd D (by omega)
    have h5 : T * min 90 (48 + 8 * D) ≤ (60 - D) * min 90 (48 + 8 * D) := Nat.mul_le_mul (by omega) (Nat.le_refl _)
    have h6 : T * min 90 (48 + 8 * D) = (T - 1) * min 90 (48 + 8 * D) + min 90 (48 + 8 * D) := by
      conv => lhs; rw [show T = (T - 1) + 1 by omega, Nat.succ_mul]
    omega
/-- A round's messages, where only what is pending is on its way. -/
theorem Inv.mu4 (H : Inv n ls G bs S) (hG : GOk ls G) (hGm : ∀ a i, G a i → ∃ b ∈ bs, b.1 = a) (hL : ls.length ≤ 8) (hw : S.way = []) (hb : bs.length ≤ 6) : mu (Go.Proofs.Ytnfldccaeibcpaa.tps n ls 4 S).way ≤ 5000 := by
  rw [mu_tps H hL, hw]
  have h0 : mu [] = 0 := rfl
  have h1 := H.pnd96 hG hGm hL hb
  have h2 : cnt n ls.length (duB 4 S) ≤ cnt n ls.length (pndB S) := cnt_mono fun i l o _ _ _ h => by
    obtain ⟨x, hx, _⟩ := duB_iff.1 h
    unfold pndB; rw [hx]; rfl
  omega
end

end Go.Proofs.Ytnfldccaeibcpaa

namespace Go.Proofs.Ytnfldccaeibcpaa
set_option linter.unusedVariables false
open Go.RowKit

/-! ### The groups -/
def gStep (f : Nat → Nat) (p : Nat × Nat) : Nat → Nat := fun i => if i = p.1 ∨ i = p.2 then min (f p.1) (f p.2) else f i
def gRound (ls : Lks) (f : Nat → Nat) : Nat → Nat := ls.foldl gStep f
def gAll (ls : Lks) : Nat → Nat → Nat
  | 0 => id
  | k + 1 => gRound ls (gAll ls k)
/-- The least node that is connected with a node. -/
noncomputable def mn (ls : Lks) (i : Nat) : Nat := Classical.choose (show ∃ j, Conn ls i j ∧ ∀ k, Conn ls i k → j ≤ k from by
  have : ∀ N, (∃ j, j ≤ N ∧ Conn ls i j) → ∃ j, Conn ls i j ∧ ∀ k, Conn ls i k → j ≤ k := by
    intro N
    induction N with
    | zero => rintro ⟨j, hj, hc⟩; exact ⟨j, hc, fun k _ => by omega⟩
    | succ N ih =>
      rintro ⟨j, hj, hc⟩
      by_cases h : ∃ k, k ≤ N ∧ Conn ls i k
      · exact ih h
      · exact ⟨j, hc, fun k hk => by
          by_cases h2 : k ≤ N
          · exact absurd ⟨k, h2, hk⟩ h
          · omega⟩
  exact this i ⟨i, Nat.le_refl _, .refl _⟩)
section
variable {ls : Lks} {i j : Nat}
theorem mn_conn : Conn ls i (mn ls i) := (Classical.choose_spec (p := fun j => Conn ls i j ∧ ∀ k, Conn ls i k → j ≤ k) _).1
theorem mn_le {k : Nat} (h : Conn ls i k) : mn ls i ≤ k := (Classical.choose_spec (p := fun j => Conn ls i j ∧ ∀ k, Conn ls i k → j ≤ k) _).2 k h
theorem mn_eq (h : Conn ls i j) : mn ls i = mn ls j := Nat.le_antisymm (mn_le (h.trans mn_conn)) (mn_le (h.symm.trans mn_conn))
theorem mn_mn : mn ls (mn ls i) = mn ls i := (mn_eq mn_conn).symm
end
/-- Each is connected with its mark; what has the least mark keeps it. -/
structure GOn (ls : Lks) (f : Nat → Nat) : Prop where
  c : ∀ i, Conn ls i (f i)
  m : ∀ i, f (mn ls i) = mn ls i
theorem GOn.ge {ls : Lks} {f : Nat → Nat} (h : GOn ls f) (i : Nat) : mn ls i ≤ f i := mn_le (h.c i)
theorem gon_id (ls : Lks) : GOn ls id := ⟨fun i => .refl _, fun i => rfl⟩
theorem conn_of {ls : Lks} {p : Nat × Nat} (hp : p ∈ ls) : Conn ls p.1 p.2 := by
  by_cases e : p.1 = p.2
  · rw [e]; exact .refl _
  · obtain ⟨l, hl⟩ := List.mem_iff_getElem?.1 hp
    have h : Inc ls l p.1 := ⟨p, hl, e, .inl rfl⟩
    have := Conn.step (.refl _) h
    have e2 : oth ls l p.1 = p.2 := by unfold oth; rw [hl]; simp only; omega
    rwa [e2] at this
theorem gStep_at {f : Nat → Nat} {p : Nat × Nat} {i : Nat} (h : i = p.1 ∨ i = p.2) : gStep f p i = min (f p.1) (f p.2) := by unfold gStep; rw [if_pos h]
theorem gStep_ne {f : Nat → Nat} {p : Nat × Nat} {i : Nat} (h : ¬ (i = p.1 ∨ i = p.2)) : gStep f p i = f i := by unfold gStep; rw [if_neg h]
theorem GOn.step {ls : Lks} {f : Nat → Nat} (h : GOn ls f) {p : Nat × Nat} (hp : p ∈ ls) : GOn ls (gStep f p) ∧ ∀ i, f i = mn ls i → gStep f p i = mn ls i := by
  have hc := conn_of hp
  have c : ∀ i, Conn ls i (gStep f p i) := by
    intro i
    by_cases e : i = p.1 ∨ i = p.2
    · rw [gStep_at e]
      have h1 : Conn ls i p.1 := by
        rcases e with rfl | rfl
        · exact .refl _
        · exact hc.symm
      have h2 : Conn ls i p.2 := h1.trans hc
      rcases Nat.le_total (f p.1) (f p.2) with hle | hle
      · rw [Nat.min_eq_left hle]; exact h1.trans (h.c _)
      · rw [Nat.min_eq_right hle]; exact h2.trans (h.c _)
    · rw [gStep_ne e]; exact h.c i
  have k : ∀ i, f i = mn ls i → gStep f p i = mn ls i := by
    intro i hi
    have hge := mn_le (c i)
    by_cases e : i = p.1 ∨ i = p.2
    · rw [gStep_at e] at hge ⊢
      rcases e with rfl | rfl <;> omega
    · rw [gStep_ne e]; exact hi
  exact ⟨⟨c, fun i => by
    have := k (mn ls i) (by rw [h.m, mn_mn])
    rw [this, mn_mn]⟩, k⟩
theorem GOn.fold {ls : Lks} : ∀ (l : Lks) {f : Nat → Nat}, GOn ls f → (∀ p ∈ l, p ∈ ls) → GOn ls (l.foldl gStep f) ∧ ∀ i, f i = mn ls i → l.foldl gStep f i = mn ls i
  | [], f, h, _ => ⟨h, fun i hi => hi⟩
  | p :: l, f, h, hl => by
    obtain ⟨h1, h2⟩ := h.step (hl p (by simp))
    obtain ⟨h3, h4⟩ := GOn.fold l h1 fun q hq => hl q (List.mem_cons_of_mem _ hq)
    exact ⟨h3, fun i hi => h4 i (h2 i hi)⟩
theorem GOn.round {ls : Lks} {f : Nat → Nat} (h : GOn ls f) : GOn ls (gRound ls f) ∧ ∀ i, f i = mn ls i → gRound ls f i = mn ls i := GOn.fold ls h fun _ hp => hp
/-- Where one end of a link has the least mark, the other end has it after a round. -/
theorem GOn.spread {ls : Lks} {f : Nat → Nat} (h : GOn ls f) {p : Nat × Nat} (hp : p ∈ ls) (hm : f p.1 = mn ls p.1 ∨ f p.2 = mn ls p.2) : gRound ls f p.1 = mn ls p.1 ∧ gRound ls f p.2 = mn ls p.2 := by
  obtain ⟨a, b, rfl⟩ := List.append_of_mem hp
  obtain ⟨g1, g2⟩ := GOn.fold (ls := a ++ p :: b) a h fun q hq => by simp [hq]
  obtain ⟨g3, g4⟩ := g1.step (p := p) hp
  obtain ⟨g5, g6⟩ := GOn.fold (ls := a ++ p :: b) b g3 fun q hq => by simp [hq]
  have hmm : mn (a ++ p :: b) p.1 = mn (a ++ p :: b) p.2 := mn_eq (conn_of hp)
  have e1 : gStep (a.foldl gStep f) p p.1 = mn (a ++ p :: b) p.1 := by
    rw [gStep_at (.inl rfl)]
    have k1 := g1.ge p.1
    have k2 := g1.ge p.2
    rcases hm with hm | hm
    · have := g2 _ hm; omega
    · have := g2 _ hm; omega
  have e2 : gStep (a.foldl gStep f) p p.2 = mn (a ++ p :: b) p.2 := by
    rw [gStep_at (.inr rfl), ← hmm, ← e1, gStep_at (.inl rfl)]
  have hf : gRound (a ++ p :: b) f = b.foldl gStep (gStep (a.foldl gStep f) p) := by
    unfold gRound
    rw [List.foldl_append, List.foldl_cons]
  rw [hf]
  exact ⟨g6 _ e1, g6 _ e2⟩
theorem gon_all (ls : Lks) : ∀ k, GOn ls (gAll ls k)
  | 0 => gon_id ls
  | k + 1 => (gon_all ls k).round.1
/-- Somewhere between a node with the least mark and one without there is a link with both. -/
theorem gon_gap {ls : Lks} {f : Nat → Nat} {i j : Nat} (hc : Conn ls i j) (hi : f i = mn ls i) (hj : f j ≠ mn ls j) : ∃ p ∈ ls, (f p.1 = mn ls p.1 ∧ f p.2 ≠ mn ls p.2) ∨ (f p.2 = mn ls p.2 ∧ f p.1 ≠ mn ls p.1) := by
  induction hc with
  | refl => exact absurd hi hj
  | step hc hl ih =>
    rename_i u v
    by_cases hu : f u = mn ls u
    · obtain ⟨p, hp, h1, h2⟩ := hl
      have hmem : p ∈ ls := List.mem_of_getElem? hp
      refine ⟨p, hmem, ?_⟩
      have e2 : oth ls v u = p.1 + p.2 - u := by unfold oth; rw [hp]
      rcases h2 with rfl | rfl
      · left
        rw [show oth ls v p.1 = p.2 by omega] at hj
        exact ⟨hu, hj⟩
      · right
        rw [show oth ls v p.2 = p.1 by omega] at hj
        exact ⟨hu, hj⟩
    · exact ih hu
noncomputable def lowN (ls : Lks) (n : Nat) (f : Nat → Nat) : Nat := Sm (List.range n) fun i => ind (decide (f i = mn ls i))
theorem lowN_le (ls : Lks) (n : Nat) (f : Nat → Nat) : lowN ls n f ≤ n := by
  have : lowN ls n f ≤ Sm (List.range n) fun _ => 1 := Sm_le fun i _ => ind_le _
  rw [Sm_const, List.length_range] at this
  omega
theorem lowN_all {ls : Lks} {n : Nat} {f : Nat → Nat} (h : n ≤ lowN ls n f) {i : Nat} (hi : i < n) : f i = mn ls i := by
  refine Classical.byContradiction fun hne => ?_
  have : lowN ls n f < Sm (List.range n) fun _ => 1 := Sm_lt (fun i _ => ind_le _) ⟨i, List.mem_range.2 hi, by simp [ind, hne]⟩
  rw [Sm_const, List.length_range] at this
  omega
theorem lowN_grows {ls : Lks} {n : Nat} {f : Nat → Nat} (h : GOn ls f) (hls : ∀ p ∈ ls, p.1 < n ∧ p.2 < n) (hn : lowN ls n f < n) : lowN ls n f < lowN ls n (gRound ls f) := by
  obtain ⟨g1, g2⟩ := h.round
  have hmono : ∀ i ∈ List.range n, ind (decide (f i = mn ls i)) ≤ ind (decide (gRound ls f i = mn ls i)) := fun i _ => ind_mono fun e => by
    simp only [decide_eq_true_eq] at e ⊢
    exact g2 i e
  have hex : ∃ j, j < n ∧ f j ≠ mn ls j := by
    refine Classical.byContradiction fun hno => ?_
    have : lowN ls n f = Sm (List.range n) fun _ => 1 := Sm_eq fun i hi => by
      have : f i = mn ls i := Classical.byContradiction fun e => hno ⟨i, List.mem_range.1 hi, e⟩
      simp [ind, this]
    rw [Sm_const, List.length_range] at this
    omega
  obtain ⟨j, hj, hne⟩ := hex
  obtain ⟨p, hp, hc⟩ := gon_gap (f := f) (mn_conn (ls := ls) (i := j)).symm (by rw [h.m, mn_mn]) hne
  obtain ⟨l1, l2⟩ := hls p hp
  obtain ⟨s1, s2⟩ := h.spread hp (by rcases hc with ⟨a, _⟩ | ⟨a, _⟩ <;> simp [a])
  rcases hc with ⟨a, b⟩ | ⟨a, b⟩
  · exact Sm_lt hmono ⟨p.2, List.mem_range.2 l2, by simp [ind, b, s2]⟩
  · exact Sm_lt hmono ⟨p.1, List.mem_range.2 l1, by simp [ind, b, s1]⟩
theorem lowN_rounds {ls : Lks} {n : Nat} (hls : ∀ p ∈ ls, p.1 < n ∧ p.2 < n) : ∀ k, min n k ≤ lowN ls n (gAll ls k)
  | 0 => by omega
  | k + 1 => by
    have ih := lowN_rounds hls k
    have hle := lowN_le ls n (gAll ls k)
    by_cases h : lowN ls n (gAll ls k) < n
    · have := lowN_grows (gon_all ls k) hls h
      show min n (k + 1) ≤ lowN ls n (gRound ls (gAll ls k))
      omega
    · have : lowN ls n (gAll ls k) ≤ lowN ls n (gRound ls (gAll ls k)) := Sm_le fun i _ => ind_mono fun e => by
        simp only [decide_eq_true_eq] at e ⊢
        exact (gon_all ls k).round.2 i e
      show min n (k + 1) ≤ lowN ls n (gRound ls (gAll ls k))
      omega
/-- After n rounds the nodes of one group are those that are connected. -/
theorem gAll_iff {ls : Lks} {n : Nat} (hls : ∀ p ∈ ls, p.1 < n ∧ p.2 < n) {i j : Nat} (hi : i < n) (hj : j < n) : gAll ls n i = gAll ls n j ↔ Conn ls i j := by
  have h := lowN_rounds (n := n) hls n
  rw [Nat.min_self] at h
  constructor
  · intro e
    have c1 := (gon_all ls n).c i
    have c2 := (gon_all ls n).c j
    rw [e] at c1
    exact c1.trans c2.symm
  · intro hc
    rw [lowN_all h hi, lowN_all h hj]
    exact mn_eq hc

/-! ### Two lists that agree -/
theorem orgs_same {N N' : Db} (h : ∀ o, o < 64 → (N o).isSome = (N' o).isSome) : orgs N = orgs N' := by
  unfold orgs
  refine List.filter_congr fun z hz => ?_
  obtain ⟨o, ho, rfl⟩ := List.mem_map.1 hz
  rw [Int.toNat_natCast]
  exact h o (List.mem_range.1 ho)
theorem all_same {N N' : Db} (h : ∀ o, o < 64 → (N o = none ∧ N' o = none) ∨ ∃ x y, N o = some x ∧ N' o = some y ∧ sameB x.x y.x = true) :
    (allN N).length = (allN N').length ∧ ∀ (k : Nat) (hk : k < (allN N).length) (hk' : k < (allN N').length), sameB (allN N)[k] (allN N')[k] = true := by
  have e : orgs N = orgs N' := orgs_same fun o ho => by
    rcases h o ho with ⟨h1, h2⟩ | ⟨x, y, h1, h2, _⟩
    · rw [h1, h2]
    · rw [h1, h2]; rfl
  have hlen : (allN N).length = (allN N').length := by unfold allN; rw [List.length_map, List.length_map, e]
  refine ⟨hlen, fun k hk hk' => ?_⟩
  unfold allN at hk hk' ⊢
  rw [List.length_map] at hk hk'
  simp only [List.getElem_map]
  have e2 : (orgs N)[k] = (orgs N')[k] := by simp only [e]
  have hm := (orgs_mem (N := N) (orgs N)[k]).1 (List.getElem_mem hk)
  obtain ⟨o, ho⟩ := Int.eq_ofNat_of_zero_le hm.1.1
  have ho64 : o < 64 := by omega
  rw [ho] at hm
  rw [← e2, ho, Int.toNat_natCast]
  rw [Int.toNat_natCast] at hm
  rcases h o ho64 with ⟨h1, _⟩ | ⟨x, y, h1, h2, h3⟩
  · rw [h1] at hm; exact absurd hm.2 (by simp)
  · rw [h1, h2]; exact h3

end Go.Proofs.Ytnfldccaeibcpaa

namespace Go.Proofs.Ytnfldccaeibcpaa
set_option linter.unusedVariables false
open Go.RowKit

theorem inc_snoc {ls : Lks} {p : Nat × Nat} {l i : Nat} : Inc (ls ++ [p]) l i ↔ Inc ls l i ∨ (l = ls.length ∧ p.1 ≠ p.2 ∧ (i = p.1 ∨ i = p.2)) := by
  unfold Inc
  by_cases h : l < ls.length
  · rw [List.getElem?_append_left h]
    constructor
    · exact .inl
    · rintro (h1 | ⟨h1, _⟩)
      · exact h1
      · omega
  · rw [List.getElem?_append_right (by omega), List.getElem?_eq_none (l := ls) (by omega)]
    by_cases h2 : l = ls.length
    · subst h2
      simp
    · have : l - ls.length ≠ 0 := by omega
      obtain ⟨k, hk⟩ := Nat.exists_eq_succ_of_ne_zero this
      rw [hk]
      simp [h2]
theorem uniq_nodup {α : Type} {f : α → Nat} : ∀ {l : List α}, (l.map f).Nodup → ∀ b ∈ l, ∀ c ∈ l, f b = f c → b = c
  | [], _, b, hb, _, _, _ => by cases hb
  | x :: t, hnd, b, hb, c, hc, e => by
    rw [List.map_cons, List.nodup_cons] at hnd
    rcases List.mem_cons.1 hb with hb2 | hb2
    · rcases List.mem_cons.1 hc with hc2 | hc2
      · rw [hb2, hc2]
      · exact absurd (List.mem_map.2 ⟨c, hc2, by rw [← e, hb2]⟩) hnd.1
    · rcases List.mem_cons.1 hc with hc2 | hc2
      · exact absurd (List.mem_map.2 ⟨b, hb2, by rw [e, hc2]⟩) hnd.1
      · exact uniq_nodup hnd.2 b hb2 c hc2 e
/-- Nothing is offered yet. -/
structure Bd1 (n : Nat) (ls : Lks) (S : Ns) : Prop where
  db : ∀ i, i < n → S.db i = fun _ => none
  inc : ∀ i l, i < n → ((S.fl i l).isSome = true ↔ Inc ls l i)
  emp : ∀ i l D, i < n → S.fl i l = some D → D = fun _ => none
  way : S.way = []
theorem bd1_start (n : Nat) : Bd1 n [] ⟨fun _ _ => none, fun _ _ => none, []⟩ :=
  ⟨fun _ _ => rfl, fun i l _ => by simp [Inc], fun i l D _ h => (by cases h), rfl⟩
theorem Bd1.loop {n : Nat} {ls : Lks} {S : Ns} (h : Bd1 n ls S) {p : Nat × Nat} (hp : p.1 = p.2) : Bd1 n (ls ++ [p]) S :=
  ⟨h.db, fun i l hi => by rw [inc_snoc, h.inc i l hi]; simp [hp], h.emp, h.way⟩
theorem Bd1.link {n : Nat} {ls : Lks} {S : Ns} (h : Bd1 n ls S) {p : Nat × Nat} (hp : p.1 ≠ p.2) : Bd1 n (ls ++ [p]) ⟨S.db, upd (upd S.fl p.1 (Fd.setN (S.fl p.1) ls.length (fun _ => none))) p.2 (Fd.setN (S.fl p.2) ls.length (fun _ => none)), S.way⟩ := by
  refine ⟨h.db, fun i l hi => ?_, fun i l D hi e => ?_, h.way⟩
  · rw [inc_snoc]
    simp only
    by_cases e2 : i = p.2
    · subst e2
      rw [upd_same, ← h.inc _ l hi]
      unfold Fd.setN
      by_cases el : l = ls.length
      · simp [el, hp]
      · simp [el]
    · rw [upd_ne e2]
      by_cases e1 : i = p.1
      · subst e1
        rw [upd_same, ← h.inc _ l hi]
        unfold Fd.setN
        by_cases el : l = ls.length
        · simp [el, hp]
        · simp [el]
      · rw [upd_ne e1, ← h.inc i l hi]
        simp [e1, e2]
  · simp only at e
    have key : ∀ F : Fd.Fn, (∀ l D, F l = some D → D = fun _ => none) → Fd.setN F ls.length (fun _ => none) l = some D → D = fun _ => none := by
      intro F hF e
      unfold Fd.setN at e
      split at e
      · injection e with e; exact e.symm
      · exact hF _ _ e
    by_cases e2 : i = p.2
    · subst e2
      rw [upd_same] at e
      exact key _ (fun l D => h.emp _ l D hi) e
    · rw [upd_ne e2] at e
      by_cases e1 : i = p.1
      · subst e1
        rw [upd_same] at e
        exact key _ (fun l D => h.emp _ l D hi) e
      · rw [upd_ne e1] at e
        exact h.emp i l D hi e
/-- While the advertisements begin. -/
structure Bd2 (n : Nat) (ls : Lks) (bs : List (La × Nat)) (S : Ns) : Prop where
  inv : Inv n ls (Gd ls bs) bs S
  way : S.way = []
  cnt : cnt n ls.length (pndB S) ≤ ls.length * bs.length
  org : ∀ i l o, i < n → pndB S i l o = true → ∃ b ∈ bs, b.2 = i ∧ b.1.o.toNat = o
theorem Bd1.two {n : Nat} {ls : Lks} {S : Ns} (h : Bd1 n ls S) : Bd2 n ls [] S := by
  have hp : ∀ i l o, i < n → pdA (S.fl i) l o = none := by
    intro i l o hi
    cases e : pdA (S.fl i) l o with
    | none => rfl
    | some x =>
      obtain ⟨D, hD, hx⟩ := pdA_some.1 e
      rw [h.emp i l D hi hD] at hx
      cases hx
  refine ⟨⟨fun i o x hi e => ?_, h.inc, fun i l o x hi e => ?_, fun i l o x hi hl e => ?_, fun m hm => ?_, fun b hb => ?_⟩, h.way, ?_, fun i l o hi e => ?_⟩
  · rw [h.db i hi] at e; cases e
  · rw [hp i l o hi] at e; cases e
  · rw [h.db i hi] at e; cases e
  · rw [h.way] at hm; cases hm
  · cases hb
  · have : Go.Proofs.Ytnfldccaeibcpaa.cnt n ls.length (pndB S) ≤ Go.Proofs.Ytnfldccaeibcpaa.cnt n ls.length (fun _ _ _ => false) := cnt_mono fun i l o hi _ _ e => by
      unfold pndB at e
      rw [hp i l o hi] at e
      cases e
    have h0 : Go.Proofs.Ytnfldccaeibcpaa.cnt n ls.length (fun _ _ _ => false) = 0 := by
      unfold Go.Proofs.Ytnfldccaeibcpaa.cnt
      simp only [show ind false = 0 from rfl, Sm_zero]
    simp only [List.length_nil, Nat.mul_zero]
    omega
  · unfold pndB at e
    rw [hp i l o hi] at e
    cases e
theorem gd_more {ls : Lks} {bs : List (La × Nat)} {b : La × Nat} {a : La} {i : Nat} (h : Gd ls bs a i) : Gd ls (bs ++ [b]) a i := by
  obtain ⟨c, hc, e, hn⟩ := h
  exact ⟨c, List.mem_append_left _ hc, e, hn⟩
theorem Inv.more {n : Nat} {ls : Lks} {bs : List (La × Nat)} {S : Ns} (H : Inv n ls (Gd ls bs) bs S) (b : La × Nat) : Inv n ls (Gd ls (bs ++ [b])) bs S :=
  ⟨fun i o h hi e => ⟨gd_more (H.db i o h hi e).1, (H.db i o h hi e).2⟩, H.inc, H.J, H.K, fun m hm => ⟨(H.M m hm).1, (H.M m hm).2.1, gd_more (H.M m hm).2.2.1, (H.M m hm).2.2.2⟩, H.B⟩
section
variable {n : Nat} {ls : Lks} {bs : List (La × Nat)} {S : Ns}
theorem Bd2.skip (h : Bd2 n ls bs S) (hok : ∀ b ∈ bs, LaOk b.1 ∧ b.2 < n) {a : La} {at' : Nat} (ha : LaOk a) (hat : at' < n) (hr : instR (S.db at') a ≠ 1) : Bd2 n ls (bs ++ [(a, at')]) S := by
  have H := h.inv.more (a, at')
  refine ⟨⟨H.db, H.inc, H.J, H.K, H.M, fun b hb => ?_⟩, h.way, ?_, fun i l o hi e => ?_⟩
  · rcases List.mem_append.1 hb with hb | hb
    · exact h.inv.B b hb
    · rw [List.mem_singleton.1 hb]
      rcases instR_cases (N := S.db at') ha.1 with ⟨h1, _⟩ | ⟨_, x, e, hx⟩ | ⟨_, x, e, hx⟩
      · exact absurd h1 hr
      · exact ⟨x, e, by simp only; omega⟩
      · exact ⟨x, e, by simp only; omega⟩
  · rw [List.length_append, Nat.mul_add]
    have := h.cnt
    omega
  · obtain ⟨b, hb, e2⟩ := h.org i l o hi e
    exact ⟨b, List.mem_append_left _ hb, e2⟩
theorem Bd2.put (h : Bd2 n ls bs S) (hls : ∀ l i, Inc ls l i → i < n) (hok : ∀ b ∈ bs, LaOk b.1 ∧ b.2 < n) {a : La} {at' : Nat} (ha : LaOk a) (hat : at' < n) (hr : instR (S.db at') a = 1) :
    Bd2 n ls (bs ++ [(a, at')]) ⟨upd S.db at' (instN (S.db at') a), upd S.fl at' (Fd.sprN (S.fl at') a (-1)), S.way⟩ := by
  have H := h.inv.more (a, at')
  have hok2 : ∀ b ∈ bs ++ [(a, at')], LaOk b.1 ∧ b.2 < n := fun b hb => by
    rcases List.mem_append.1 hb with hb | hb
    · exact hok b hb
    · rw [List.mem_singleton.1 hb]; exact ⟨ha, hat⟩
  have hG := gd_ok (ls := ls) fun b hb => (hok2 b hb).1
  have hva := ha.1
  have hN := instN_at hva hr
  have hga : Gd ls (bs ++ [(a, at')]) a at' := ⟨(a, at'), by simp, rfl, .refl _⟩
  have hdb := H.db at'
  have hvdb : ∀ o h, S.db at' o = some h → LaValid h.x := fun o h e => hG.v (hdb o h hat e).1
  have hsp : ∀ q o, pdA (Fd.sprN (S.fl at') a (-1)) q o = if o = a.o.toNat ∧ (∃ D, S.fl at' q = some D ∧ Fd.offW D a = true) then some ⟨a, 0⟩ else pdA (S.fl at') q o := by
    intro q o
    unfold pdA Fd.sprN
    cases hF : S.fl at' q with
    | none => simp
    | some D =>
      simp only [Option.map_some, Option.bind_some, Option.some.injEq, exists_eq_left']
      unfold Fd.sprD
      have h2 : ((q : Int) != (-1 : Int)) = true := by simp
      rw [if_pos h2, offD_at]
  have h11 : ∀ h, S.db at' a.o.toNat = some h → newI a h.x = 1 ∧ newI h.x a = -1 := fun h e => by
    rcases instR_cases (N := S.db at') hva with ⟨_, h1⟩ | ⟨h1, _⟩ | ⟨h1, _⟩
    · have b1 := newI_bd hva (hvdb _ _ e)
      have b2 := h1 h e
      have b3 := newI_neg hva (hvdb _ _ e)
      have : newI a h.x = 1 := by omega
      exact ⟨this, by omega⟩
    · omega
    · omega
  have hnode : Inv n ls (Gd ls (bs ++ [(a, at')])) bs ⟨upd S.db at' (instN (S.db at') a), upd S.fl at' (Fd.sprN (S.fl at') a (-1)), S.way⟩ := by
    refine H.node hG hls (fun b hb => ⟨(hok b hb).1.1, (hok b hb).2⟩) hat _ _ _ (fun o h e => ?_) (fun o h e => ?_) (fun l => isS_spr l) (fun l o h e => ?_) (fun l o hd hl e => ?_) (fun m hm => .inl hm)
    · rw [hN]
      by_cases ho : o = a.o.toNat
      · subst ho
        rw [if_pos rfl]
        exact ⟨_, rfl, by have := (h11 h e).2; simp only; omega⟩
      · rw [if_neg ho]
        exact ⟨h, e, by rw [newI_self (hvdb o h e)]; omega⟩
    · rw [hN] at e
      by_cases ho : o = a.o.toNat
      · rw [if_pos ho] at e
        injection e with e
        subst e
        exact ⟨hga, by simp only; have := hva.1; omega, rfl⟩
      · rw [if_neg ho] at e; exact hdb o h hat e
    · rw [hsp] at e
      rw [hN]
      by_cases ho : o = a.o.toNat
      · rw [if_pos ho]
        by_cases c1 : o = a.o.toNat ∧ (∃ D, S.fl at' l = some D ∧ Fd.offW D a = true)
        · rw [if_pos c1] at e
          injection e with e
          subst e
          exact ⟨⟨_, rfl, rfl⟩, by simp⟩
        · rw [if_neg c1] at e
          exfalso
          obtain ⟨D, hD, hDo⟩ := pdA_some.1 e
          obtain ⟨⟨hd, e3, e4⟩, _⟩ := H.J at' l o h hat e
          rw [ho] at e3 hDo
          obtain ⟨q1, q2⟩ := h11 hd e3
          rw [e4] at q1 q2
          refine c1 ⟨ho, D, hD, ?_⟩
          unfold Fd.offW
          rw [hDo]
          simp only [decide_eq_true_eq]
          omega
      · rw [if_neg ho]
        rw [if_neg (fun c => ho c.1)] at e
        exact H.J at' l o h hat e
    · rw [hN] at e
      rw [hsp]
      by_cases ho : o = a.o.toNat
      · right
        by_cases c1 : o = a.o.toNat ∧ (∃ D, S.fl at' l = some D ∧ Fd.offW D a = true)
        · rw [if_pos c1]; rfl
        · rw [if_neg c1]
          obtain ⟨D, hD⟩ := Option.isSome_iff_exists.1 ((H.inc at' l hat).2 hl)
          have hw : ¬ Fd.offW D a = true := fun hw => c1 ⟨ho, D, hD, hw⟩
          unfold Fd.offW at hw
          cases hDo : D a.o.toNat with
          | none => rw [hDo] at hw; exact absurd rfl hw
          | some h =>
            unfold pdA
            rw [hD, ho]
            simp [hDo]
      · rw [if_neg ho] at e
        rw [if_neg (fun c => ho c.1)]
        exact H.K at' l o hd hat hl e
  have hpd : ∀ i l o, i < n → pndB ⟨upd S.db at' (instN (S.db at') a), upd S.fl at' (Fd.sprN (S.fl at') a (-1)), S.way⟩ i l o = true → pndB S i l o = true ∨ (i = at' ∧ o = a.o.toNat) := by
    intro i l o hi e
    unfold pndB at e ⊢
    simp only at e
    by_cases ei : i = at'
    · subst ei
      rw [upd_same, hsp] at e
      by_cases ho : o = a.o.toNat
      · exact .inr ⟨rfl, ho⟩
      · rw [if_neg (fun c => ho c.1)] at e
        exact .inl e
    · rw [upd_ne ei] at e
      exact .inl e
  refine ⟨⟨hnode.db, hnode.inc, hnode.J, hnode.K, hnode.M, fun b hb => ?_⟩, h.way, ?_, fun i l o hi e => ?_⟩
  · rcases List.mem_append.1 hb with hb | hb
    · exact hnode.B b hb
    · rw [List.mem_singleton.1 hb]
      simp only
      rw [upd_same, hN, if_pos rfl]
      exact ⟨_, rfl, by rw [newI_self hva]; omega⟩
  · have h1 := cnt_one (L := ls.length) at' a.o.toNat hpd
    have h2 := h.cnt
    rw [List.length_append, Nat.mul_add]
    simp only [List.length_cons, List.length_nil]
    omega
  · rcases hpd i l o hi e with e | ⟨rfl, rfl⟩
    · obtain ⟨b, hb, e2⟩ := h.org i l o hi e
      exact ⟨b, List.mem_append_left _ hb, e2⟩
    · exact ⟨(a, i), by simp, rfl, rfl⟩
/-- .. and then it begins. -/
theorem Bd2.tal (h : Bd2 n ls bs S) (hL : ls.length ≤ 8) (hb : bs.length ≤ 6) : Tal n ls bs S 0 0 := by
  refine ⟨?_, fun hnd b hbm => .inl fun i l hi e => ?_, .inl ⟨rfl, rfl, h.way⟩⟩
  · have h1 := h.cnt
    have : ls.length * bs.length ≤ 8 * 6 := Nat.mul_le_mul hL hb
    omega
  · obtain ⟨c, hc, e1, e2⟩ := h.org i l _ hi e
    rw [uniq_nodup hnd b hbm c hc e2.symm, e1]
end

end Go.Proofs.Ytnfldccaeibcpaa

namespace Go.Proofs.Ytnfldccaeibcpaa
set_option linter.unusedVariables false
open Go.RowKit

theorem len_mu (l : List Msg) : l.length ≤ mu l := by
  have : (Sm l fun _ => 1) ≤ mu l := Sm_le fun m _ => by split <;> omega
  rw [Sm_const] at this
  omega
section
variable {n : Nat} {ls : Lks} {G : La → Nat → Prop} {bs : List (La × Nat)} {S : Ns}
/-- Time alone passes. -/
theorem Inv.tik (H : Inv n ls G bs S) (hG : GOk ls G) (hls : ∀ l i, Inc ls l i → i < n) {k : Int} (hk : 0 ≤ k) : Inv n ls G bs (tikS k S) :=
  H.time hG hls _ _ (Fd.tikH k) (fun i l o hi => pdA_tik) (fun i l hi => isS_tik l) (fun h h0 h4 => ⟨rfl, by simp only [Fd.tikH]; omega, by simp only [Fd.tikH]; omega⟩) (fun m hm => .inl hm)
/-- A received message is paid for. -/
theorem mu_dlv (ls : Lks) (S : Ns) (m : Msg) (rest : List Msg) : mu (dlv ls ⟨S.db, S.fl, rest⟩ m).way + 1 ≤ mu (m :: rest) := by
  rw [mu_cons]
  rcases dlv_way ls ⟨S.db, S.fl, rest⟩ m with e | ⟨hk, e⟩
  · rw [e]
    simp only
    split <;> omega
  · rw [e, hk, mu_append, mu_cons]
    simp only [if_true, Bool.false_eq_true, if_false]
    have : mu [] = 0 := rfl
    omega
theorem Tal.one {T D : Nat} (h : Tal n ls bs S T D) (hw : S.way ≠ []) : 1 ≤ T := by
  rcases h.c with ⟨_, _, e⟩ | ⟨e, _⟩
  · exact absurd e hw
  · exact e
/-- Where a round begins. -/
structure RdIs (n : Nat) (ls : Lks) (bs : List (La × Nat)) (r : Nat) (S : Ns) : Prop where
  mu : mu S.way ≤ 5000
  c : r = 0 ∨ (1 ≤ r ∧ Full n ls S ∧ rank n bs S + r ≤ 31)
/-- Within round r: rk is the rank where it began. -/
def InRd (n : Nat) (ls : Lks) (bs : List (La × Nat)) (r rk : Nat) (S : Ns) : Prop := r = 0 ∨ (1 ≤ r ∧ rk + r ≤ 31 ∧ Rnd n ls bs rk S)
theorem RdIs.in {r : Nat} (h : RdIs n ls bs r S) (H : Inv n ls G bs S) (hG : GOk ls G) (hls : ∀ l i, Inc ls l i → i < n) : InRd n ls bs r (rank n bs S) S := by
  rcases h.c with h | ⟨h1, h2, h3⟩
  · exact .inl h
  · exact .inr ⟨h1, h3, h2.rnd H hG hls⟩
theorem InRd.step {r rk : Nat} {m : Msg} {rest : List Msg} (h : InRd n ls bs r rk S) (H : Inv n ls G bs S) (hG : GOk ls G) (hls : ∀ l i, Inc ls l i → i < n) (hGm : ∀ a i, G a i → ∃ b ∈ bs, b.1 = a) (hbs : ∀ b ∈ bs, LaValid b.1 ∧ b.2 < n) (hw : S.way = m :: rest) :
    InRd n ls bs r rk (dlv ls ⟨S.db, S.fl, rest⟩ m) := by
  rcases h with h | ⟨h1, h2, h3⟩
  · exact .inl h
  · exact .inr ⟨h1, h2, h3.step H hG hls hGm hbs hw⟩
/-- The next round, or the end. -/
theorem InRd.next {r rk : Nat} (h : InRd n ls bs r rk S) (H : Inv n ls G bs S) (hG : GOk ls G) (hls : ∀ l i, Inc ls l i → i < n) (hGm : ∀ a i, G a i → ∃ b ∈ bs, b.1 = a) (hL : ls.length ≤ 8) (hb : bs.length ≤ 6) (hn : n ≤ 5) (hw : S.way = []) :
    (tps n ls 4 S).way = [] ∧ (∀ i l o, i < n → pdA ((tps n ls 4 S).fl i) l o = none) ∨ (tps n ls 4 S).way ≠ [] ∧ RdIs n ls bs (r + 1) (tps n ls 4 S) ∧ r + 1 ≤ 31 := by
  have HF := H.full hG (by omega) hw
  have H4 := H.tps hG hls (k := 4) (by omega)
  have hmu := H.mu4 hG hGm hL hw hb
  by_cases he : (tps n ls 4 S).way = []
  · exact .inl ⟨he, HF.none H4 hG he⟩
  · right
    refine ⟨he, ?_⟩
    have hrk := rank_le n bs S
    have h30 : n * bs.length ≤ 5 * 6 := Nat.mul_le_mul hn hb
    rcases h with h | ⟨h1, h2, h3⟩
    · subst h
      exact ⟨⟨hmu, .inr ⟨by omega, HF, by rw [tps_rank]; omega⟩⟩, by omega⟩
    · rcases h3.fin hw with h4 | ⟨_, h4⟩
      · exact ⟨⟨hmu, .inr ⟨by omega, HF, by rw [tps_rank]; omega⟩⟩, by omega⟩
      · exfalso
        obtain ⟨m, hm⟩ := List.exists_mem_of_ne_nil _ he
        rcases tps_way.1 hm with h5 | ⟨i, l, o, x, hi, _, _, e, _⟩
        · rw [hw] at h5; cases h5
        · rw [h4 i l o hi] at e; cases e
end

end Go.Proofs.Ytnfldccaeibcpaa
