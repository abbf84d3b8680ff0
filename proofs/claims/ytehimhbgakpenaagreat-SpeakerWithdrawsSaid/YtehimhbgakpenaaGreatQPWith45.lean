/-
  The texts Np1, Np2, Np3, Np4, Np5, Np6, one after the other.
-/
import Derived.Test.YtehimhbgakpenaaGreatQPWith44
import Derived.Test.YtehimhbgakpenaaGreatQPWith23
import Derived.Test.YtehimhbgakpenaaGreatQPWith27
namespace Go.Proofs.YtehimhbgakpenaaGreat
set_option linter.unusedVariables false
open Go.RowKit Go.Maps Go.Sort
theorem nwS {x y:La} (hx:LaValid x) (hy:LaValid y) (h:0 ≤ newI x y):y.s ≤ x.s:=by
 have:=(newI_ge hx hy).1 h
 unfold KeyGe at this
 omega
theorem nwS' {x y:La} (hx:LaValid x) (hy:LaValid y) (h:newI x y ≤ 0):x.s ≤ y.s:=nwS hy hx (by have:=newI_neg hx hy; omega)
theorem nwGt {x y:La} (hx:LaValid x) (hy:LaValid y) (h:y.s < x.s):0 < newI x y:=by
 have h1:=nwS' hx hy
 omega
structure Con (x y:La):Prop where
 o:x.o = y.o
 s:x.s = y.s
 ov:x.ov = y.ov
 adj:x.adj = y.adj
 pre:x.pre = y.pre
theorem nwCon {x y:La} (hx:LaValid x) (hy:LaValid y) (h:Con x y) (h1:x.a < 3600) (h2:y.a < 3600):newI x y = 0:=by
 rw [newI_v hx hy,if_pos h.s]
 have e1:(x.a == 3600) = false:=by simp; omega
 have e2:(y.a == 3600) = false:=by simp; omega
 rw [if_pos (by rw [e1,e2])]
 have e:age0 x = age0 y:=by
  obtain ⟨o,s,a,ov,adj,pre⟩:=x
  obtain ⟨o',s',a',ov',adj',pre'⟩:=y
  obtain ⟨c1,c2,c3,c4,c5⟩:=h
  simp only at c1 c2 c3 c4 c5
  subst c1 c2 c3 c4 c5
  rfl
 rw [e]
 have:=cmpB_neg (laEnc (age0 y)) (laEnc (age0 y))
 omega
def lvD (N:Db) (o:Nat):Int:=match N o with | some h=>h.x.s | none=>0
theorem lv_some {N:Db} {o:Nat} {h:Hd} (e:N o = some h):lvD N o = h.x.s:=by unfold lvD; rw [e]
theorem inst_cases {N:Db} (hok:DbOk N) {a:La} (ha:LaValid a) :
  (instR N a = 1 ∧ (instN N a = fun i=>if i = a.o.toNat then some ⟨a,60⟩ else N i) ∧ lvD N a.o.toNat ≤ a.s) ∨
  (instR N a = 2 ∧ instN N a = N ∧ ∃ h,N a.o.toNat = some h ∧ h.x.s = a.s) ∨
  (instR N a = 3 ∧ instN N a = N ∧ ∃ h,N a.o.toNat = some h ∧ a.s ≤ h.x.s):=by
 have hv:=vB_t ha
 cases hN:N a.o.toNat with
 | none =>
   have e:instR N a = 1:=by unfold instR; rw [if_pos hv,hN]
   refine .inl ⟨e,?_,?_⟩
   ·unfold instN; rw [if_pos ⟨hv,e⟩]
   ·unfold lvD; rw [hN]; have:=ha.2.1; simp only; omega
 | some h =>
   have hh:=(hok _ _ hN).1
   by_cases e0:newI a h.x = 0
   ·have e:instR N a = 2:=by unfold instR; rw [if_pos hv,hN]; simp only [e0,if_true]
    refine .inr (.inl ⟨e,?_,h,rfl,?_⟩)
    ·unfold instN; rw [if_neg (by rw [e]; simp)]
    ·have h1:=nwS ha hh (by omega)
     have h2:=nwS' ha hh (by omega)
     omega
   ·by_cases e1:newI a h.x = -1
    ·have e:instR N a = 3:=by unfold instR; rw [if_pos hv,hN]; simp only [e1]; rfl
     refine .inr (.inr ⟨e,?_,h,rfl,nwS' ha hh (by omega)⟩)
     unfold instN; rw [if_neg (by rw [e]; simp)]
    ·have hb:=newI_bd ha hh
     have e:instR N a = 1:=by unfold instR; rw [if_pos hv,hN]; simp only [if_neg e0,if_neg e1]
     refine .inl ⟨e,?_,?_⟩
     ·unfold instN; rw [if_pos ⟨hv,e⟩]
     ·rw [lv_some hN]; exact nwS ha hh (by omega)
theorem lv_inst {N:Db} (hok:DbOk N) {a:La} (ha:LaValid a) (o:Nat):lvD N o ≤ lvD (instN N a) o:=by
 rcases inst_cases hok ha with ⟨_,e,hl⟩ | ⟨_,e,_⟩ | ⟨_,e,_⟩
 ·rw [e]
  by_cases h:o = a.o.toNat
  ·subst h; unfold lvD at hl ⊢; simp only [if_true]; exact hl
  ·unfold lvD; simp only [if_neg h]; exact Int.le_refl _
 ·rw [e]; exact Int.le_refl _
 ·rw [e]; exact Int.le_refl _
theorem lv_inst_at {N:Db} (hok:DbOk N) {a:La} (ha:LaValid a):a.s ≤ lvD (instN N a) a.o.toNat:=by
 rcases inst_cases hok ha with ⟨_,e,hl⟩ | ⟨_,e,h,h1,h2⟩ | ⟨_,e,h,h1,h2⟩
 ·rw [e]; unfold lvD; simp
 ·rw [e,lv_some h1]; omega
 ·rw [e,lv_some h1]; omega
theorem inst_mem {N:Db} (hok:DbOk N) {a:La} (ha:LaValid a) {o:Nat} {h:Hd} (e:instN N a o = some h):N o = some h ∨ (o = a.o.toNat ∧ h = ⟨a,60⟩):=by
 rcases inst_cases hok ha with ⟨_,e2,_⟩ | ⟨_,e2,_⟩ | ⟨_,e2,_⟩
 ·rw [e2] at e
  dsimp only at e
  split at e
  ·next h1=>injection e with e; exact .inr ⟨h1,e.symm⟩
  ·exact .inl e
 ·rw [e2] at e; exact .inl e
 ·rw [e2] at e; exact .inl e
theorem off_ne {D:Fd.Db} {a:La} {o:Nat} (h:o ≠ a.o.toNat):Fd.offD D a o = D o:=by
 unfold Fd.offD
 split
 ·exact if_neg h
 ·rfl
theorem off_at (D:Fd.Db) (a:La):(Fd.offD D a a.o.toNat = some ⟨a,0⟩) ∨ (∃ h,D a.o.toNat = some h ∧ Fd.offD D a a.o.toNat = some h ∧ newI a h.x ≤ 0):=by
 unfold Fd.offD Fd.offW
 cases hD:D a.o.toNat with
 | none=>simp
 | some h =>
   simp only
   by_cases e:0 < newI a h.x
   ·left; simp [e]
   ·right; exact ⟨h,rfl,by simp [e,hD],by omega⟩
theorem off_mem {D:Fd.Db} {a:La} {o:Nat} {h:Fd.Hd} (e:Fd.offD D a o = some h):D o = some h ∨ (o = a.o.toNat ∧ h = ⟨a,0⟩):=by
 unfold Fd.offD at e
 split at e
 ·dsimp only at e
  split at e
  ·next h1=>injection e with e; exact .inr ⟨h1,e.symm⟩
  ·exact .inl e
 ·exact .inl e
theorem rm_cases (D:Fd.Db) (a:La) (o:Nat):Fd.rmD D a o = D o ∨ (o = a.o.toNat ∧ Fd.rmD D a o = none):=by
 unfold Fd.rmD
 split
 ·by_cases e:o = a.o.toNat
  ·exact .inr ⟨e,if_pos e⟩
  ·exact .inl (if_neg e)
 ·exact .inl rfl
theorem ack_cases (D:Fd.Db) (a:La) (o:Nat):Fd.ackD D a o = D o ∨ (o = a.o.toNat ∧ Fd.ackD D a o = none ∧ ∃ h,D o = some h ∧ sameB h.x a = true):=by
 unfold Fd.ackD
 split
 ·next hb =>
  by_cases e:o = a.o.toNat
  ·refine .inr ⟨e,if_pos e,?_⟩
   unfold Fd.ackB Fd.dO at hb
   subst e
   split at hb
   ·next h hh =>
    split at hh
    ·exact ⟨h,hh,hb⟩
    ·cases hh
   ·cases hb
  ·exact .inl (if_neg e)
 ·exact .inl rfl
theorem offs_app (D:Fd.Db) (l1 l2:List La):Fd.offs D (l1 ++ l2) = Fd.offs (Fd.offs D l1) l2:=by unfold Fd.offs; rw [List.foldl_append]
theorem offs_ne {o:Nat}:∀ (l:List La) (D:Fd.Db),(∀ a ∈ l,a.o.toNat ≠ o) → Fd.offs D l o = D o
 | [],D,_=>rfl
 | a :: l,D,h=>by
   have:=offs_ne l (Fd.offD D a) fun b hb=>h b (List.mem_cons_of_mem _ hb)
   unfold Fd.offs at this ⊢
   rw [List.foldl_cons,this]
   exact off_ne (Ne.symm (h a (by simp)))
theorem offs_mem {o:Nat} {h:Fd.Hd}:∀ (l:List La) (D:Fd.Db),Fd.offs D l o = some h → D o = some h ∨ ∃ a ∈ l,a.o.toNat = o ∧ h = ⟨a,0⟩
 | [],D,e=>.inl e
 | a :: l,D,e=>by
   have e2:Fd.offs (Fd.offD D a) l o = some h:=by unfold Fd.offs at e ⊢; rwa [List.foldl_cons] at e
   rcases offs_mem l (Fd.offD D a) e2 with h1 | ⟨b,hb,h1⟩
   ·rcases off_mem h1 with h2 | ⟨h2,h3⟩
    ·exact .inl h2
    ·exact .inr ⟨a,by simp,h2.symm,h3⟩
   ·exact .inr ⟨b,List.mem_cons_of_mem _ hb,h1⟩
theorem orgs_sorted8 (N:Db):(orgs N).Pairwise (· < ·):=by
 unfold orgs
 refine List.Pairwise.filter _ ?_
 rw [List.pairwise_map]
 exact List.pairwise_lt_range.imp fun h=>by omega
theorem offs_all {N:Db} (hok:DbOk N) (hz:∀ i,64 ≤ i → N i = none) (o:Nat):Fd.offs (fun _=>none) (allN N) o = (N o).map fun h=>⟨h.x,0⟩:=by
 have hmem:∀ a ∈ allN N,∃ i h,N i = some h ∧ a = h.x ∧ a.o.toNat = i:=fun a ha=>by
  unfold allN at ha
  obtain ⟨i,hi,rfl⟩:=List.mem_map.1 ha
  obtain ⟨h1,h2⟩:=orgs_mem i |>.1 hi
  obtain ⟨x,hx⟩:=Option.isSome_iff_exists.1 h2
  refine ⟨i.toNat,x,hx,by rw [hx]; rfl,?_⟩
  rw [hx]
  have:=(hok _ _ hx).2.1
  show x.x.o.toNat = i.toNat
  omega
 cases hN:N o with
 | none =>
   cases e:Fd.offs (fun _=>none) (allN N) o with
   | none=>rfl
   | some h =>
     rcases offs_mem _ _ e with h1 | ⟨a,ha,h1,_⟩
     ·cases h1
     ·obtain ⟨i,h2,h3,_,h4⟩:=hmem a ha
      rw [← h4,h1,hN] at h3; cases h3
 | some h =>
   have ho:o < 64:=by
    rcases Nat.lt_or_ge o 64 with h1 | h1
    ·exact h1
    ·rw [hz o h1] at hN; cases hN
   have hmo:(o:Int) ∈ orgs N:=(orgs_mem _).2 ⟨⟨by omega,by omega⟩,by rw [Int.toNat_natCast,hN]; rfl⟩
   obtain ⟨l1,l2,hl⟩:=List.append_of_mem hmo
   have hs:=orgs_sorted8 N
   rw [hl,List.pairwise_append] at hs
   obtain ⟨_,hs2,hs3⟩:=hs
   rw [List.pairwise_cons] at hs2
   have hall:allN N = l1.map (fun i=>getX (N i.toNat)) ++ h.x :: l2.map (fun i=>getX (N i.toNat)):=by
    unfold allN
    rw [hl,List.map_append,List.map_cons,Int.toNat_natCast,hN]
    rfl
   have hne:∀ i ∈ orgs N,i ≠ (o:Int) → (getX (N i.toNat)).o.toNat ≠ o:=fun i hi hne=>by
    obtain ⟨h1,h2⟩:=orgs_mem i |>.1 hi
    obtain ⟨x,hx⟩:=Option.isSome_iff_exists.1 h2
    rw [hx]
    have:=(hok _ _ hx).2.1
    show x.x.o.toNat ≠ o
    omega
   rw [hall,offs_app]
   have e1:Fd.offs (fun _=>none) (l1.map fun i=>getX (N i.toNat)) o = none:=offs_ne _ _ fun a ha=>by
    obtain ⟨i,hi,rfl⟩:=List.mem_map.1 ha
    exact hne i (by rw [hl]; exact List.mem_append_left _ hi) (by have:=hs3 i hi o (by simp); omega)
   have e2:∀ D,Fd.offs D (h.x :: l2.map fun i=>getX (N i.toNat)) = Fd.offs (Fd.offD D h.x) (l2.map fun i=>getX (N i.toNat)):=fun D=>by unfold Fd.offs; rw [List.foldl_cons]
   rw [e2,offs_ne _ _ fun a ha=>by
    obtain ⟨i,hi,rfl⟩:=List.mem_map.1 ha
    exact hne i (by rw [hl]; exact List.mem_append_right _ (List.mem_cons_of_mem _ hi)) (by have:=hs2.1 i hi; omega)]
   have hxo:h.x.o.toNat = o:=by have:=(hok _ _ hN).2.1; omega
   rcases off_at (Fd.offs (fun _=>none) (l1.map fun i=>getX (N i.toNat))) h.x with h1 | ⟨h2,h3,_⟩
   ·rw [hxo] at h1; rw [h1]; rfl
   ·rw [hxo,e1] at h3; cases h3
end Go.Proofs.YtehimhbgakpenaaGreat

namespace Go.Proofs.YtehimhbgakpenaaGreat
set_option linter.unusedVariables false
open Go.RowKit Go.Maps Go.Sort
structure Env where
 t:Nat
 l:Nat
 m:Ms
abbrev Sps:=Nat → Sp
def updP (S:Sps) (v:Nat) (s:Sp):Sps:=fun j=>if j = v then s else S j
theorem updP_at (S:Sps) (v:Nat) (s:Sp):updP S v s v = s:=if_pos rfl
theorem updP_ne (S:Sps) {v j:Nat} (s:Sp) (h:j ≠ v):updP S v s j = S j:=if_neg h
structure Par where
 t:Tp
 H:Int
 D:Int
 R:Int
 B:Int
structure ParOk (P:Par):Prop where
 t:TpOk P.t
 H:1 ≤ P.H
 D:P.H < P.D ∧ P.D ≤ 65536
 B:P.B ≤ 3
def Lnk (t:Tp) (i k j:Nat):Prop:=∃ x,t.ln[k]? = some x ∧ ((x.a = i ∧ x.b = j) ∨ (x.a = j ∧ x.b = i))
theorem Lnk.symm {t:Tp} {i k j:Nat} (h:Lnk t i k j):Lnk t j k i:=by
 obtain ⟨x,hx,h⟩:=h
 exact ⟨x,hx,h.symm.imp id id⟩
theorem lk_ok {t:Tp} (h:TpOk t) {k:Nat} {x:Lk} (hx:t.ln[k]? = some x):LkOk t.n x:=h.all x (List.mem_of_getElem? hx)
theorem Lnk.ne {t:Tp} (ht:TpOk t) {i k j:Nat} (h:Lnk t i k j):i ≠ j:=by
 obtain ⟨x,hx,h⟩:=h
 have:=(lk_ok ht hx).ne
 omega
theorem Lnk.eq {t:Tp} (ht:TpOk t) {i k j j':Nat} (h:Lnk t i k j) (h':Lnk t i k j'):j = j':=by
 obtain ⟨x,hx,h⟩:=h
 obtain ⟨x',hx',h'⟩:=h'
 rw [hx] at hx'
 injection hx' with e
 subst e
 have:=(lk_ok ht hx).ne
 omega
theorem Lnk.k {t:Tp} (ht:TpOk t) {i k j:Nat} (h:Lnk t i k j):k < 256:=by
 obtain ⟨x,hx,h⟩:=h
 have:=(List.getElem?_eq_some_iff.1 hx).1
 have:=ht.ln
 omega
structure PoSt (t:Tp) (i:Nat) (ps:List Po):Prop where
 mem:∀ p ∈ ps,0 ≤ p.l ∧ ∃ x,t.ln[p.l.toNat]? = some x ∧ (x.a = i ∧ p.o = x.b ∧ p.c = x.c ∨ x.b = i ∧ p.o = x.a ∧ p.c = x.d)
 all:∀ (k:Nat) x,t.ln[k]? = some x → (x.a = i ∨ x.b = i) → ∃ p ∈ ps,p.l = k
 inc:ps.Pairwise fun p q=>p.l < q.l
theorem PoSt.set {t:Tp} {i:Nat} {ps:List Po} (h:PoSt t i ps) {k:Nat} (hk:k < ps.length) {q:Po} (h1:q.l = ps[k].l) (h2:q.o = ps[k].o) (h3:q.c = ps[k].c):PoSt t i (ps.set k q):=by
 refine ⟨fun p hp=>?_,fun j x hx hi=>?_,?_⟩
 ·rcases List.mem_or_eq_of_mem_set hp with h4 | rfl
  ·exact h.mem p h4
  ·rw [h1,h2,h3]; exact h.mem _ (List.getElem_mem hk)
 ·obtain ⟨p,hp,e⟩:=h.all j x hx hi
  obtain ⟨m,hm,rfl⟩:=List.getElem_of_mem hp
  refine ⟨(ps.set k q)[m]'(by rw [List.length_set]; exact hm),List.getElem_mem _,?_⟩
  rw [List.getElem_set]
  split
  ·next e2=>subst e2; rw [h1]; exact e
  ·exact e
 ·have hi:=h.inc
  rw [List.pairwise_iff_getElem] at hi ⊢
  have key:∀ m (hm:m < ps.length),((ps.set k q)[m]'(by rw [List.length_set]; exact hm)).l = ps[m].l:=fun m hm=>by
   rw [List.getElem_set]
   split
   ·next e2=>subst e2; exact h1
   ·rfl
  intro a b ha hb hab
  rw [List.length_set] at ha hb
  rw [key a ha,key b hb]
  exact hi a b ha hb hab
theorem adjS_set {ps:List Po}:∀ {k:Nat} (hk:k < ps.length) {q:Po},q.l = ps[k].l → q.o = ps[k].o → q.c = ps[k].c →
  (adjS (ps.set k q)).length + (if ps[k].ph = 2 then 1 else 0) = (adjS ps).length + (if q.ph = 2 then 1 else 0) ∧ ((q.ph = 2 ↔ ps[k].ph = 2) → adjS (ps.set k q) = adjS ps):=by
 induction ps with
 | nil=>intro k hk; simp at hk
 | cons p r ih =>
   intro k hk q h1 h2 h3
   cases k with
   | zero =>
     simp only [List.getElem_cons_zero] at h1 h2 h3 ⊢
     simp only [List.set_cons_zero,adjS,List.filterMap_cons,h1,h2,h3]
     by_cases e1:q.ph = 2 <;> by_cases e2:p.ph = 2 <;> simp [e1,e2]
   | succ k =>
     simp only [List.getElem_cons_succ] at h1 h2 h3 ⊢
     have:=ih (by simpa using hk) h1 h2 h3
     simp only [List.set_cons_succ,adjS,List.filterMap_cons] at this ⊢
     by_cases e2:p.ph = 2
     ·simp only [e2,if_true,List.length_cons,List.cons.injEq,true_and]
      exact ⟨by have:=this.1; omega,fun h=>this.2 h⟩
     ·simp only [e2,if_false]
      exact this
theorem con_valid {t:Tp} (ht:TpOk t) {i:Nat} {S:Sp} (hS:SpOk S) (hn:S.nd = i) (hp:PoSt t i S.ps) (hpre:S.pre = []) {o:Int} (ho:o = i):LaValid (num o 1 0 (conS S)):=by
 have hi:0 ≤ (i:Int) ∧ (i:Int) ≤ 63:=by have:=hS.nd; have:=hS.tp.n; omega
 have hmem:∀ x ∈ adjS S.ps,∃ p ∈ S.ps,x = (p.o,p.l,p.c):=fun x hx=>by
  unfold adjS at hx
  obtain ⟨p,hp1,h2⟩:=List.mem_filterMap.1 hx
  split at h2
  ·injection h2 with h2; exact ⟨p,hp1,h2.symm⟩
  ·cases h2
 have hinc:(adjS S.ps).Pairwise fun x y=>x.2.1 < y.2.1:=by
  unfold adjS
  rw [List.pairwise_filterMap]
  refine hp.inc.imp fun {p q} h x hx y hy=>?_
  split at hx
  ·split at hy
   ·simp only [Option.some.injEq] at hx hy; subst hx hy; exact h
   ·simp at hy
  ·simp at hx
 have hlen:(adjS S.ps).length ≤ 256:=by
  rw [List.pairwise_iff_getElem] at hinc
  have hb:∀ k (hk:k < (adjS S.ps).length),(k:Int) ≤ ((adjS S.ps)[k]).2.1 ∧ ((adjS S.ps)[k]).2.1 < 256:=fun k=>by
   induction k with
   | zero =>
     intro hk
     obtain ⟨p,hp1,h2⟩:=hmem _ (List.getElem_mem hk)
     have:=(hS.ps p hp1).l
     rw [h2]
     simpa using this
   | succ k ih =>
     intro hk
     have h1:=ih (by omega)
     have h2:=hinc k (k + 1) (by omega) hk (by omega)
     obtain ⟨p,hp1,h3⟩:=hmem _ (List.getElem_mem hk)
     have:=(hS.ps p hp1).l
     rw [h3] at h2 ⊢
     simp only at h2 ⊢
     omega
  rcases Nat.lt_or_ge 256 (adjS S.ps).length with h | h
  ·have:=hb 256 h; omega
  ·exact h
 subst ho
 refine ⟨⟨hi.1,hi.2⟩,⟨by simp [num],by simp [num]⟩,⟨by simp [num],by simp [num]⟩,hlen,by simp [num,conS,hpre],fun e=>by simp [num] at e,?_,?_⟩
 ·intro k x hk hx
  have hx':(adjS S.ps)[k]? = some x:=hx
  obtain ⟨p,hp1,rfl⟩:=hmem x (List.mem_of_getElem? hx')
  have ok:=hS.ps p hp1
  obtain ⟨h0,y,hy,h1⟩:=hp.mem p hp1
  have hlk:=lk_ok ht hy
  refine ⟨⟨ok.l.1,by have:=ok.l.2; simp only; omega⟩,?_,⟨ok.o.1,by have:=ok.o.2; simp only; omega⟩,ok.c,fun z hk0 hz=>?_⟩
  ·have:=hlk.ne
   show p.o ≠ (i:Int)
   omega
  ·rw [List.pairwise_iff_getElem] at hinc
   obtain ⟨a1,a2⟩:=List.getElem?_eq_some_iff.1 hx'
   have hz':(adjS S.ps)[k - 1]? = some z:=hz
   obtain ⟨b1,b2⟩:=List.getElem?_eq_some_iff.1 hz'
   have:=hinc (k - 1) k b1 a1 (by omega)
   rw [a2,b2] at this
   exact this
 ·intro k x hk hx
  simp [num,conS,hpre] at hk
structure Sta (P:Par) (i:Nat) (s:Sp):Prop where
 ok:SpOk s
 tp:s.tp = P.t
 nd:s.nd = i
 bo:s.bo = 1
 h1:s.h1 = P.H
 h2:s.h2 = P.D
 h3:s.h3 = P.R
 pre:s.pre = []
 ov:s.ov = ovB P.t i
 po:PoSt P.t i s.ps
 xc:s.x.ov = s.ov ∧ s.x.adj = adjS s.ps ∧ s.x.pre = []
def PoIs (p:Po) (ph lf bt:Int):Prop:=p.ph = ph ∧ p.lf = lf ∧ p.bt = bt
def phT (H T:Int):Int:=if T ≤ 0 then 0 else if T ≤ H then 1 else 2
def lfT (H D T:Int):Int:=if T ≤ 0 then 0 else D - (T - 1) % H
def btT (T:Int):Int:=if T ≤ 0 then 0 else 1
def PostP (P:Par) (T:Int) (p:Po):Prop:=PoIs p (phT P.H T) (lfT P.H P.D T) (btT T)
def MidP (P:Par) (T:Int) (p:Po):Prop:=PoIs p (phT P.H (T - 1)) (if T ≤ 1 then 0 else lfT P.H P.D (T - 1) - 1) (btT (T - 1))
structure Good (S:Sps) (n:Nat) (T:Int) (y:La):Prop where
 v:LaValid y
 o:y.o.toNat < n
 a:y.a ≤ T
 p:y.pre = []
 s:y.s ≤ (S y.o.toNat).x.s
 c:y.s = (S y.o.toNat).x.s → Con y (S y.o.toNat).x
def EnvOk (P:Par) (n:Nat) (T:Int) (S:Sps) (e:Env):Prop :=
 e.t < n ∧ ∃ i,i < n ∧ Lnk P.t i e.l e.t ∧ e.m.b = 1 ∧
  ((e.m.k = 1 ∧ e.m.n = i ∧ e.m.h = btT (T - 1) ∧ (T - 1) % P.H = 0 ∧ e.m.y = laZero) ∨
   ((e.m.k = 2 ∨ e.m.k = 3) ∧ e.m.n = 0 ∧ e.m.h = 0 ∧ P.H + 2 ≤ T ∧ Good S n T e.m.y ∧ e.m.y.s ≤ lvD (S i).db e.m.y.o.toNat))
structure Ivn (P:Par) (n:Nat) (dead:Nat → Nat → Prop) (T:Int) (S:Sps) (way:List Env):Prop where
 st:∀ i,i < n → Sta P i (S i)
 tm:∀ i,i < n → (S i).tm = T
 xb:∀ i,i < n → (S i).x.s ≤ P.B + (S i).x.adj.length ∧ (S i).x.a ≤ T
 ow:∀ i,i < n → lvD (S i).db i = (S i).x.s
 gd:∀ i,i < n → ∀ o h,(S i).db o = some h → Good S n T h.x
 gf:∀ i,i < n → ∀ k D o h,(S i).fl k = some D → D o = some h → Good S n T h.x ∧ h.x.s ≤ lvD (S i).db o
 gw:∀ e ∈ way,dead e.t e.l ∨ EnvOk P n T S e
 po:∀ i,i < n → ∀ p ∈ (S i).ps,(dead i p.l.toNat → PoIs p 0 0 0) ∧ (¬ dead i p.l.toNat → PostP P T p ∨ (MidP P T p ∧ ∃ e ∈ way,e.t = i ∧ e.l = p.l.toNat ∧ e.m.k = 1))
 q:∀ i k j D,i < n → j < n → Lnk P.t i k j → (S i).fl k = some D → ¬ dead i k → ¬ dead j k → ∀ o,lvD (S i).db o ≤ lvD (S j).db o ∨ (∃ h,D o = some h ∧ h.l ≤ 0 ∧ lvD (S i).db o ≤ h.x.s) ∨ (∃ e ∈ way,e.t = j ∧ e.l = k ∧ e.m.k = 2 ∧ e.m.y.o.toNat = o ∧ lvD (S i).db o ≤ e.m.y.s)
theorem good_upd {S:Sps} {n:Nat} {T:Int} {v:Nat} {s':Sp} (ax:s'.x = (S v).x ∨ (S v).x.s < s'.x.s) {y:La} (h:Good S n T y):Good (updP S v s') n T y:=by
 by_cases e:y.o.toNat = v
 ·refine ⟨h.v,h.o,h.a,h.p,?_,?_⟩
  ·rw [e,updP_at]
   have:=h.s
   rw [e] at this
   rcases ax with e2 | e2
   ·rw [e2]; exact this
   ·omega
  ·rw [e,updP_at]
   have h1:=h.s
   have h2:=h.c
   rw [e] at h1 h2
   rcases ax with e2 | e2
   ·rw [e2]; exact h2
   ·intro h3; omega
 ·refine ⟨h.v,h.o,h.a,h.p,?_,?_⟩
  ·rw [updP_ne _ _ e]; exact h.s
  ·rw [updP_ne _ _ e]; exact h.c
theorem env_upd {P:Par} {S:Sps} {n:Nat} {T:Int} {v:Nat} {s':Sp} (ax:s'.x = (S v).x ∨ (S v).x.s < s'.x.s) (lm:∀ o,lvD (S v).db o ≤ lvD s'.db o) {e:Env} (h:EnvOk P n T S e):EnvOk P n T (updP S v s') e:=by
 obtain ⟨h1,i,h2,h3,h4,h5⟩:=h
 refine ⟨h1,i,h2,h3,h4,h5.imp id fun ⟨a1,a2,a3,a4,a5,a6⟩=>⟨a1,a2,a3,a4,good_upd ax a5,?_⟩⟩
 by_cases e2:i = v
 ·subst e2; rw [updP_at]; exact Int.le_trans a6 (lm _)
 ·rw [updP_ne _ _ e2]; exact a6
theorem Ivn.stepG {P:Par} {n:Nat} {dead dead':Nat → Nat → Prop} {T:Int} {S:Sps} {way0 way:List Env} (ht:TpOk P.t) (h:Ivn P n dead T S way0) {v:Nat} (s':Sp) (out:List Env)
  (hs1:∀ e ∈ way0,e ∈ way ∨ (e.t = v ∧ (e.m.k = 2 → e.m.y.s ≤ lvD s'.db e.m.y.o.toNat))) (hs2:∀ e ∈ way,e ∈ way0) (hd1:∀ i k,dead i k → dead' i k) (hd2:∀ i k,i ≠ v → dead' i k → dead i k)
  (a1:Sta P v s') (a2:s'.tm = T) (a3:s'.x.s ≤ P.B + s'.x.adj.length ∧ s'.x.a ≤ T) (ax:s'.x = (S v).x ∨ (S v).x.s < s'.x.s) (lm:∀ o,lvD (S v).db o ≤ lvD s'.db o) (ow:lvD s'.db v = s'.x.s)
  (gd:∀ o h,s'.db o = some h → Good (updP S v s') n T h.x)
  (gf:∀ k D o h,s'.fl k = some D → D o = some h → Good (updP S v s') n T h.x ∧ h.x.s ≤ lvD s'.db o)
  (po:∀ p ∈ s'.ps,(dead' v p.l.toNat → PoIs p 0 0 0) ∧ (¬ dead' v p.l.toNat → PostP P T p ∨ (MidP P T p ∧ ∃ e ∈ way,e.t = v ∧ e.l = p.l.toNat ∧ e.m.k = 1)))
  (q:∀ k j D,j < n → Lnk P.t v k j → s'.fl k = some D → ¬ dead' v k → ¬ dead' j k → ∀ o,lvD s'.db o ≤ lvD (S j).db o ∨ (∃ h,D o = some h ∧ h.l ≤ 0 ∧ lvD s'.db o ≤ h.x.s) ∨ (lvD s'.db o = lvD (S v).db o ∧ ∃ D0,(S v).fl k = some D0 ∧ D o = D0 o) ∨ (∃ e ∈ way,e.t = j ∧ e.l = k ∧ e.m.k = 2 ∧ e.m.y.o.toNat = o ∧ lvD s'.db o ≤ e.m.y.s))
  (og:∀ e' ∈ out,dead' e'.t e'.l ∨ EnvOk P n T (updP S v s') e'):Ivn P n dead' T (updP S v s') (way ++ out):=by
 have key:∀ {Q:Sp → Nat → Prop},(∀ i,i < n → Q (S i) i) → Q s' v → ∀ i,i < n → Q (updP S v s' i) i:=fun {Q} h1 h2 i hi=>by
  by_cases e1:i = v
  ·subst e1; rw [updP_at]; exact h2
  ·rw [updP_ne _ _ e1]; exact h1 i hi
 refine ⟨key (Q:=fun s i=>Sta P i s) h.st a1,key (Q:=fun s i=>s.tm = T) h.tm a2,key (Q:=fun s i=>s.x.s ≤ P.B + s.x.adj.length ∧ s.x.a ≤ T) h.xb a3,key (Q:=fun s i=>lvD s.db i = s.x.s) h.ow ow,?_,?_,?_,?_,?_⟩
 ·exact key (Q:=fun s i=>∀ o h,s.db o = some h → Good (updP S v s') n T h.x) (fun i hi o x hx=>good_upd ax (h.gd i hi o x hx)) gd
 ·exact key (Q:=fun s i=>∀ k D o h,s.fl k = some D → D o = some h → Good (updP S v s') n T h.x ∧ h.x.s ≤ lvD s.db o) (fun i hi k D o x h1 h2=>⟨good_upd ax (h.gf i hi k D o x h1 h2).1,(h.gf i hi k D o x h1 h2).2⟩) gf
 ·intro e' he
  rcases List.mem_append.1 he with h1 | h1
  ·exact (h.gw e' (hs2 _ h1)).imp (hd1 _ _) (env_upd ax lm)
  ·exact og e' h1
 ·intro i hi p hp
  by_cases e1:i = v
  ·subst e1
   rw [updP_at] at hp
   refine ⟨(po p hp).1,fun hd=>((po p hp).2 hd).imp id fun ⟨h1,e2,h2,h3⟩=>⟨h1,e2,List.mem_append_left _ h2,h3⟩⟩
  ·rw [updP_ne _ _ e1] at hp
   refine ⟨fun hd=>(h.po i hi p hp).1 (hd2 _ _ e1 hd),fun hd=>((h.po i hi p hp).2 (fun h1=>hd (hd1 _ _ h1))).imp id fun ⟨h1,e2,h2,h3,h4⟩=>⟨h1,e2,?_,h3,h4⟩⟩
   rcases hs1 _ h2 with h5 | ⟨h5,_⟩
   ·exact List.mem_append_left _ h5
   ·exact absurd (h5.symm.trans h3) (Ne.symm e1)
 ·intro i k j D hi hj hl hD hda hdb o
  have hda':¬ dead i k:=fun h1=>hda (hd1 _ _ h1)
  have hdb':¬ dead j k:=fun h1=>hdb (hd1 _ _ h1)
  by_cases e1:i = v
  ·subst e1
   have hne:j ≠ i:=Ne.symm (hl.ne ht)
   rw [updP_at] at hD ⊢
   rw [updP_ne _ _ hne]
   rcases q k j D hj hl hD hda hdb o with h1 | h1 | ⟨h1,D0,h2,h3⟩ | ⟨e2,h1,h2⟩
   ·exact .inl h1
   ·exact .inr (.inl h1)
   ·rw [h1]
    rcases h.q i k j D0 hi hj hl h2 hda' hdb' o with h4 | ⟨x,h4,h5⟩ | ⟨e2,h4,h5,h6⟩
    ·exact .inl h4
    ·exact .inr (.inl ⟨x,by rw [h3]; exact h4,h5⟩)
    ·rcases hs1 _ h4 with h7 | ⟨h7,_⟩
     ·exact .inr (.inr ⟨e2,List.mem_append_left _ h7,h5,h6⟩)
     ·exact absurd (h5.symm.trans h7) hne
   ·exact .inr (.inr ⟨e2,List.mem_append_left _ h1,h2⟩)
  ·rw [updP_ne _ _ e1] at hD ⊢
   have hmono:lvD (S j).db o ≤ lvD (updP S v s' j).db o:=by
    by_cases e2:j = v
    ·subst e2; rw [updP_at]; exact lm o
    ·rw [updP_ne _ _ e2]; exact Int.le_refl _
   rcases h.q i k j D hi hj hl hD hda' hdb' o with h4 | h4 | ⟨e2,h4,h5,h6,h7,h8,h9⟩
   ·exact .inl (Int.le_trans h4 hmono)
   ·exact .inr (.inl h4)
   ·rcases hs1 _ h4 with h10 | ⟨h10,h11⟩
    ·exact .inr (.inr ⟨e2,List.mem_append_left _ h10,h5,h6,h7,h8,h9⟩)
    ·left
     have e3:j = v:=h5.symm.trans h10
     rw [e3,updP_at,← h8]
     rw [← h8] at h9
     exact Int.le_trans h9 (h11 h7)
theorem Ivn.step {P:Par} {n:Nat} {dead:Nat → Nat → Prop} {T:Int} {S:Sps} {e:Env} {way:List Env} (ht:TpOk P.t) (h:Ivn P n dead T S (e :: way)) {v:Nat} (hv:e.t = v) (s':Sp) (out:List Env)
  (a1:Sta P v s') (a2:s'.tm = T) (a3:s'.x.s ≤ P.B + s'.x.adj.length ∧ s'.x.a ≤ T) (ax:s'.x = (S v).x ∨ (S v).x.s < s'.x.s) (lm:∀ o,lvD (S v).db o ≤ lvD s'.db o) (ow:lvD s'.db v = s'.x.s)
  (gd:∀ o h,s'.db o = some h → Good (updP S v s') n T h.x)
  (gf:∀ k D o h,s'.fl k = some D → D o = some h → Good (updP S v s') n T h.x ∧ h.x.s ≤ lvD s'.db o)
  (po:∀ p ∈ s'.ps,(dead v p.l.toNat → PoIs p 0 0 0) ∧ (¬ dead v p.l.toNat → PostP P T p ∨ (MidP P T p ∧ ∃ e ∈ way,e.t = v ∧ e.l = p.l.toNat ∧ e.m.k = 1)))
  (q:∀ k j D,j < n → Lnk P.t v k j → s'.fl k = some D → ¬ dead v k → ¬ dead j k → ∀ o,lvD s'.db o ≤ lvD (S j).db o ∨ (∃ h,D o = some h ∧ h.l ≤ 0 ∧ lvD s'.db o ≤ h.x.s) ∨ (lvD s'.db o = lvD (S v).db o ∧ ∃ D0,(S v).fl k = some D0 ∧ D o = D0 o) ∨ (∃ e ∈ way,e.t = j ∧ e.l = k ∧ e.m.k = 2 ∧ e.m.y.o.toNat = o ∧ lvD s'.db o ≤ e.m.y.s))
  (cn:e.m.k = 2 → e.m.y.s ≤ lvD s'.db e.m.y.o.toNat)
  (og:∀ e' ∈ out,dead e'.t e'.l ∨ EnvOk P n T (updP S v s') e'):Ivn P n dead T (updP S v s') (way ++ out) :=
 h.stepG ht s' out (fun e' he=>by
  rcases List.mem_cons.1 he with rfl | h1
  ·exact .inr ⟨hv,cn⟩
  ·exact .inl h1) (fun e' he=>List.mem_cons_of_mem _ he) (fun _ _ h=>h) (fun _ _ _ h=>h) a1 a2 a3 ax lm ow gd gf po q og
def Rsn (P:Par) (n:Nat) (dead:Nat → Nat → Prop) (S0 S:Sps) (way:List Env):Prop :=
 ∀ i k j,i < n → j < n → Lnk P.t i k j → ¬ dead i k → ¬ dead j k → (S0 i).fl k ≠ none → ∀ o,lvD (S0 i).db o ≤ lvD (S j).db o ∨ ∃ e ∈ way,e.t = j ∧ e.l = k ∧ e.m.k = 2 ∧ e.m.y.o.toNat = o ∧ lvD (S0 i).db o ≤ e.m.y.s
theorem Rsn.step {P:Par} {n:Nat} {dead:Nat → Nat → Prop} {S0 S:Sps} {e:Env} {way:List Env} (h:Rsn P n dead S0 S (e :: way)) {v:Nat} (hv:e.t = v) (s':Sp) (out:List Env) (lm:∀ o,lvD (S v).db o ≤ lvD s'.db o)
  (cn:e.m.k = 2 → e.m.y.s ≤ lvD s'.db e.m.y.o.toNat):Rsn P n dead S0 (updP S v s') (way ++ out):=fun i k j hi hj hl hd1 hd2 hf o=>by
 have hmono:lvD (S j).db o ≤ lvD (updP S v s' j).db o:=by
  by_cases e2:j = v
  ·subst e2; rw [updP_at]; exact lm o
  ·rw [updP_ne _ _ e2]; exact Int.le_refl _
 rcases h i k j hi hj hl hd1 hd2 hf o with h4 | ⟨e2,h4,h5,h6,h7,h8,h9⟩
 ·exact .inl (Int.le_trans h4 hmono)
 ·rcases List.mem_cons.1 h4 with rfl | h10
  ·left
   have e3:j = v:=h5.symm.trans hv
   rw [e3,updP_at,← h8]
   rw [← h8] at h9
   exact Int.le_trans h9 (cn h7)
  ·exact .inr ⟨e2,List.mem_append_left _ h10,h5,h6,h7,h8,h9⟩
end Go.Proofs.YtehimhbgakpenaaGreat

namespace Go.Proofs.YtehimhbgakpenaaGreat
set_option linter.unusedVariables false
open Go.RowKit Go.Maps Go.Sort
def othI (ls:List Lk) (i:Int) (l:Nat):Int:=match ls[l]? with | some x=>x.a + x.b - i | none=>0
def postE (ls:List Lk) (i:Nat) (l:List (Int × Ms)):List Env:=l.map fun x=>⟨(othI ls i x.1.toNat).toNat,x.1.toNat,x.2⟩
theorem oth_lnk {t:Tp} {i k v:Nat} (h:Lnk t i k v):othI t.ln v k = i:=by
 obtain ⟨x,hx,h⟩:=h
 unfold othI
 rw [hx]
 simp only
 omega
theorem fnd_at8 {ps:List Po} {l:Int} {i:Nat} (h:fndS ps l = some i):∃ hi:i < ps.length,ps[i].l = l:=by
 unfold fndS at h
 rw [List.findIdx?_eq_some_iff_getElem] at h
 obtain ⟨h1,h2,_⟩:=h
 exact ⟨h1,by simpa using h2⟩
theorem fnd_of {ps:List Po} {l:Int} (h:∃ p ∈ ps,p.l = l):∃ i,∃ hi:i < ps.length,fndS ps l = some i ∧ ps[i].l = l:=by
 cases hf:fndS ps l with
 | none =>
   unfold fndS at hf
   rw [List.findIdx?_eq_none_iff] at hf
   obtain ⟨p,hp,e⟩:=h
   have:=hf p hp
   simp [e] at this
 | some i =>
   obtain ⟨hi,e⟩:=fnd_at8 hf
   exact ⟨i,hi,rfl,e⟩
section
variable {P:Par} {n:Nat} {dead:Nat → Nat → Prop} {T:Int} {S:Sps} {e:Env} {way:List Env}
theorem Ivn.port (hP:TpOk P.t) (h:Ivn P n dead T S way) {i k v:Nat} (hv:v < n) (hl:Lnk P.t i k v):∃ x,∃ hx:x < (S v).ps.length,fndS (S v).ps (k:Int) = some x ∧ (S v).ps[x].l = (k:Int) ∧ (S v).ps[x].o = i:=by
 have hs:=h.st v hv
 have hl0:=hl
 obtain ⟨y,hy,hab⟩:=hl
 obtain ⟨x,hx,h1,h2⟩:=fnd_of (hs.po.all k y hy (by omega))
 refine ⟨x,hx,h1,h2,?_⟩
 obtain ⟨_,z,hz,h3⟩:=hs.po.mem _ (List.getElem_mem hx)
 rw [h2,Int.toNat_natCast,hy] at hz
 injection hz with hz
 subst hz
 have:=(lk_ok hP hy).ne
 omega
theorem Ivn.drop (h:Ivn P n dead T S (e :: way)) (hd:dead e.t e.l):Ivn P n dead T S way:=by
 refine ⟨h.st,h.tm,h.xb,h.ow,h.gd,h.gf,fun e' he=>h.gw e' (List.mem_cons_of_mem _ he),fun i hi p hp=>⟨(h.po i hi p hp).1,fun hnd=>((h.po i hi p hp).2 hnd).imp id fun ⟨h1,e2,h2,h3,h4,h5⟩=>⟨h1,e2,?_,h3,h4,h5⟩⟩,fun i k j D hi hj hl hD hd1 hd2 o=>(h.q i k j D hi hj hl hD hd1 hd2 o).imp id fun h1=>h1.imp id fun ⟨e2,h2,h3,h4,h5⟩=>⟨e2,?_,h3,h4,h5⟩⟩
 ·rcases List.mem_cons.1 h2 with rfl | h6
  ·rw [h3,h4] at hd; exact absurd hd hnd
  ·exact h6
 ·rcases List.mem_cons.1 h2 with rfl | h6
  ·rw [h3,h4] at hd; exact absurd hd hd2
  ·exact h6
theorem Rsn.drop {S0:Sps} (h:Rsn P n dead S0 S (e :: way)) (hd:dead e.t e.l):Rsn P n dead S0 S way:=fun i k j hi hj hl hd1 hd2 hf o=>(h i k j hi hj hl hd1 hd2 hf o).imp id fun ⟨e2,h2,h3,h4,h5⟩=>⟨e2,by
 rcases List.mem_cons.1 h2 with rfl | h6
 ·rw [h3,h4] at hd; exact absurd hd hd2
 ·exact h6,h3,h4,h5⟩
structure DlvOk (P:Par) (n:Nat) (dead:Nat → Nat → Prop) (T:Int) (S:Sps) (e:Env) (way:List Env) (s':Sp) (out:List (Int × Ms)):Prop where
 iv:Ivn P n dead T (updP S e.t s') (way ++ postE P.t.ln e.t out)
 lm:∀ o,lvD (S e.t).db o ≤ lvD s'.db o
 cn:e.m.k = 2 → e.m.y.s ≤ lvD s'.db e.m.y.o.toNat
 fx:P.H + 2 ≤ T → s'.x = (S e.t).x
 ct:out.length ≤ if e.m.k = 2 then 1 else 0
 ok:∀ x ∈ out,x.1 = (e.l:Int) ∧ x.2.k = 3
theorem hel_T {H T:Int} (hH:1 ≤ H) (hT:1 ≤ T) (h:(T - 1) % H = 0):T = 1 ∨ H + 1 ≤ T:=by
 rcases Int.lt_or_le (T - 1) H with h1 | h1
 ·rw [Int.emod_eq_of_lt (by omega) h1] at h; omega
 ·omega
theorem late_post (hP:ParOk P) (hT:P.H + 2 ≤ T) {p:Po} (h:PostP P T p):p.ph = 2 ∧ p.bt = 1:=by
 obtain ⟨h1,_,h3⟩:=h
 have:=hP.H
 unfold phT at h1
 unfold btT at h3
 rw [if_neg (by omega),if_neg (by omega)] at h1
 rw [if_neg (by omega)] at h3
 exact ⟨h1,h3⟩
theorem late_mid (hP:ParOk P) (hT:P.H + 2 ≤ T) {p:Po} (h:MidP P T p):p.ph = 2 ∧ p.bt = 1:=by
 obtain ⟨h1,_,h3⟩:=h
 have:=hP.H
 unfold phT at h1
 unfold btT at h3
 rw [if_neg (by omega),if_neg (by omega)] at h1
 rw [if_neg (by omega)] at h3
 exact ⟨h1,h3⟩
theorem Good.oo {y:La} (h:Good S n T y):(y.o.toNat:Int) = y.o:=by have:=h.v.1; omega
theorem lv_pos {N:Db} (h:DbOk N) (o:Nat):0 ≤ lvD N o:=by
 cases hN:N o with
 | none=>unfold lvD; rw [hN]; exact Int.le_refl _
 | some x=>rw [lv_some hN]; have:=(h o x hN).1.2.1; omega
theorem Ivn.dbf (hP:ParOk P) (h:Ivn P n dead T S (e :: way)) (hv:e.t < n) (hk:e.m.k ≠ 1) {N':Db} {F':Fd.Fn} (hok:SpOk { S e.t with db:=N',fl:=F' })
  (lm:∀ o,lvD (S e.t).db o ≤ lvD N' o) (gd:∀ o x,N' o = some x → Good S n T x.x) (gf:∀ k D o x,F' k = some D → D o = some x → Good S n T x.x ∧ x.x.s ≤ lvD N' o)
  (q:∀ k j D,j < n → Lnk P.t e.t k j → F' k = some D → ¬ dead e.t k → ¬ dead j k → ∀ o,lvD N' o ≤ lvD (S j).db o ∨ (∃ x,D o = some x ∧ x.l ≤ 0 ∧ lvD N' o ≤ x.x.s) ∨ (lvD N' o = lvD (S e.t).db o ∧ ∃ D0,(S e.t).fl k = some D0 ∧ D o = D0 o) ∨ (∃ e2 ∈ way,e2.t = j ∧ e2.l = k ∧ e2.m.k = 2 ∧ e2.m.y.o.toNat = o ∧ lvD N' o ≤ e2.m.y.s))
  (cn:e.m.k = 2 → e.m.y.s ≤ lvD N' e.m.y.o.toNat) (out:List (Int × Ms)) (og:∀ e' ∈ postE P.t.ln e.t out,EnvOk P n T (updP S e.t { S e.t with db:=N',fl:=F' }) e') (ct:out.length ≤ if e.m.k = 2 then 1 else 0) (oo:∀ x ∈ out,x.1 = (e.l:Int) ∧ x.2.k = 3) :
  DlvOk P n dead T S e way { S e.t with db:=N',fl:=F' } out:=by
 have hs:=h.st _ hv
 have ax:({ S e.t with db:=N',fl:=F' }:Sp).x = (S e.t).x ∨ (S e.t).x.s < ({ S e.t with db:=N',fl:=F' }:Sp).x.s:=.inl rfl
 refine ⟨h.step hP.t rfl _ _ ⟨hok,hs.tp,hs.nd,hs.bo,hs.h1,hs.h2,hs.h3,hs.pre,hs.ov,hs.po,hs.xc⟩ (h.tm _ hv) (h.xb _ hv) ax lm ?_ (fun o x hx=>good_upd ax (gd o x hx)) (fun k D o x h1 h2=>⟨good_upd ax (gf k D o x h1 h2).1,(gf k D o x h1 h2).2⟩) ?_ q cn (fun e' he=>.inr (og e' he)),lm,cn,fun _=>rfl,ct,oo⟩
 ·show lvD N' e.t = (S e.t).x.s
  have h1:=lm e.t
  rw [h.ow _ hv] at h1
  have h2:lvD N' e.t ≤ (S e.t).x.s:=by
   cases hN:N' e.t with
   | none=>unfold lvD; rw [hN]; have:=hs.ok.xs; simp only; omega
   | some x =>
     rw [lv_some hN]
     have g:=gd _ _ hN
     have:=(hok.db _ _ hN).2.1
     have h3:=g.s
     rwa [show x.x.o.toNat = e.t by omega] at h3
  omega
 ·intro p hp
  refine ⟨(h.po _ hv p hp).1,fun hd=>((h.po _ hv p hp).2 hd).imp id fun ⟨h1,e2,h2,h3,h4,h5⟩=>⟨h1,e2,?_,h3,h4,h5⟩⟩
  rcases List.mem_cons.1 h2 with rfl | h6
  ·exact absurd h5 hk
  ·exact h6
theorem sprF_at {F:Fd.Fn} {a:La} (ha:LaValid a) (z:Int) (k:Nat):sprF F a z k = (F k).map (Fd.sprD a z k):=by
 unfold sprF
 rw [if_pos (vB_t ha)]
 rfl
theorem ackE_env (hP:TpOk P.t) {v i k:Nat} (hi:i < n) (hv:v < n) (hl:Lnk P.t i k v) {S':Sps} {y:La} (hT:P.H + 2 ≤ T) (hg:Good S' n T y) (hs:y.s ≤ lvD (S' v).db y.o.toNat):∀ e' ∈ postE P.t.ln v [((k:Int),(⟨3,0,1,0,y⟩:Ms))],EnvOk P n T S' e':=by
 intro e' he
 simp only [postE,List.map_cons,List.map_nil,List.mem_singleton] at he
 subst he
 have ho:=oth_lnk hl
 simp only [Int.toNat_natCast,ho]
 exact ⟨hi,v,hv,hl.symm,rfl,.inr ⟨.inr rfl,rfl,rfl,hT,hg,hs⟩⟩
theorem ackL_cases {F:Fd.Fn} {l k:Nat} {y:La} {D':Fd.Db} (hD:ackL F l y k = some D'):∃ D,F k = some D ∧ (D' = D ∨ (k = l ∧ D' = Fd.ackD D y)):=by
 unfold ackL at hD
 cases h1:F l with
 | none=>rw [h1] at hD; exact ⟨D',hD,.inl rfl⟩
 | some D =>
   rw [h1] at hD
   simp only [Fd.setN] at hD
   split at hD
   ·next e1=>injection hD with hD; exact ⟨D,by rw [e1]; exact h1,.inr ⟨e1,hD.symm⟩⟩
   ·exact ⟨D',hD,.inl rfl⟩
theorem offL_cases {F:Fd.Fn} {l k:Nat} {y:La} {D':Fd.Db} (hD:offL F l y k = some D'):∃ D,F k = some D ∧ (D' = D ∨ (k = l ∧ D' = Fd.offD D y)):=by
 unfold offL at hD
 cases h1:F l with
 | none=>rw [h1] at hD; exact ⟨D',hD,.inl rfl⟩
 | some D =>
   rw [h1] at hD
   simp only at hD
   split at hD
   ·simp only [Fd.setN] at hD
    split at hD
    ·next e1=>injection hD with hD; exact ⟨D,by rw [e1]; exact h1,.inr ⟨e1,hD.symm⟩⟩
    ·exact ⟨D',hD,.inl rfl⟩
   ·exact ⟨D',hD,.inl rfl⟩
theorem Ivn.ack (hP:ParOk P) (h:Ivn P n dead T S (e :: way)) (hv:e.t < n) {i:Nat} (hi:i < n) (hl:Lnk P.t i e.l e.t) (hT:P.H + 2 ≤ T) (hk:e.m.k = 3) (hg:Good S n T e.m.y) (hs:e.m.y.s ≤ lvD (S i).db e.m.y.o.toNat) :
  DlvOk P n dead T S e way { S e.t with fl:=ackL (S e.t).fl e.l e.m.y } []:=by
 have hst:=h.st _ hv
 have ok:SpOk { S e.t with db:=(S e.t).db,fl:=ackL (S e.t).fl e.l e.m.y }:=hst.ok.dbf hst.ok.db hst.ok.dz (fnAck hst.ok.fl _ _) (ackL_some _ _ _)
 have key:=fun k D' hD=>ackL_cases (F:=(S e.t).fl) (l:=e.l) (k:=k) (y:=e.m.y) (D':=D') hD
 refine Ivn.dbf hP h hv (by omega) ok (fun o=>Int.le_refl _) (h.gd _ hv) (fun k D' o x h1 h2=>?_) (fun k j D' hj hlk hD hd1 hd2 o=>?_) (fun h=>by omega) [] (fun e' he=>by cases he) (by simp) (fun x hx=>by cases hx)
 ·obtain ⟨D,h3,h4⟩:=key k D' h1
  rcases h4 with rfl | ⟨_,rfl⟩
  ·exact h.gf _ hv k _ o x h3 h2
  ·rcases ack_cases D e.m.y o with h5 | ⟨_,h5,_⟩
   ·rw [h5] at h2; exact h.gf _ hv k D o x h3 h2
   ·rw [h5] at h2; cases h2
 ·obtain ⟨D,h3,h4⟩:=key k D' hD
  rcases h4 with rfl | ⟨e1,rfl⟩
  ·exact .inr (.inr (.inl ⟨rfl,_,h3,rfl⟩))
  ·rcases ack_cases D e.m.y o with h5 | ⟨h6,h5,x,h7,h8⟩
   ·exact .inr (.inr (.inl ⟨rfl,D,h3,h5⟩))
   ·subst e1
    obtain rfl:j = i:=hlk.eq hP.t hl.symm
    have hxs:x.x.s = e.m.y.s:=by
     simp only [sameB,Bool.and_eq_true,beq_iff_eq] at h8
     exact h8.2.1
    rcases h.q _ _ _ D hv hj hlk h3 hd1 hd2 o with h9 | ⟨z,h9,h10,h11⟩ | ⟨e2,h9,h10,h11,h12,h13,h14⟩
    ·exact .inl h9
    ·rw [h7] at h9; injection h9 with h9; subst h9
     left
     rw [h6] at h11 ⊢
     omega
    ·rcases List.mem_cons.1 h9 with rfl | h15
     ·exact absurd h10 (hlk.ne hP.t)
     ·exact .inr (.inr (.inr ⟨e2,h15,h10,h11,h12,h13,h14⟩))
theorem hear_good {s:Sp} {v:Nat} (hs:Sta P v s) (hsx:s.x = (S v).x) {y:La} (hg:Good S n T y) (hT:T ≤ 3000) (ho:y.o.toNat = v):hearP s.x s.md y = ⟨s.x,s.md,false,0⟩:=by
 have hx:=hs.ok.xk
 have hn:newI y s.x ≤ 0:=by
  have h1:=hg.s
  have h2:=hg.c
  rw [ho,← hsx] at h1 h2
  rcases Int.lt_or_le y.s s.x.s with h3 | h3
  ·have:=nwGt hx.v hg.v h3
   have:=newI_neg hx.v hg.v
   omega
  ·have:=nwCon hg.v hx.v (h2 (by omega)) (by have:=hg.a; omega) (by have:=hx.a; omega)
   omega
 unfold hearP
 rw [if_pos ⟨vB_t hg.v,by rw [hs.ok.xo,hs.nd,← ho]; exact hg.oo.symm⟩,if_pos hs.ok.xm,if_pos hn]
theorem upd_good {s:Sp} {v:Nat} (hs:Sta P v s) (hsx:s.x = (S v).x) {y:La} (hg:Good S n T y) (hT:T ≤ 3000) (l:Int):updS s l y = insS s l y:=by
 by_cases ho:y.o = s.nd
 ·have hv:y.o.toNat = v:=by rw [ho,hs.nd]; simp
  have hh:=hear_good hs hsx hg hT hv
  rw [upd_ins s l y (fun _=>by rw [hh]; exact ⟨rfl,rfl⟩)]
  have:heaS s y = s:=by unfold heaS; rw [if_pos ho,hh]
  rw [this]
 ·rw [upd_ins s l y (fun e=>absurd e ho)]
  have:heaS s y = s:=by unfold heaS; rw [if_neg ho]
  rw [this]
theorem sprF_some' {F:Fd.Fn} {a:La} (ha:LaValid a) {z:Int} {k:Nat} {D':Fd.Db} (h:sprF F a z k = some D'):∃ D,F k = some D ∧ D' = Fd.sprD a z k D:=by
 rw [sprF_at ha] at h
 cases hF:F k with
 | none=>rw [hF] at h; cases h
 | some D=>rw [hF] at h; injection h with h; exact ⟨D,rfl,h.symm⟩
theorem sprD_ne {a:La} {l k:Nat} (h:k ≠ l) (D:Fd.Db):Fd.sprD a (l:Int) k D = Fd.offD D a:=by
 unfold Fd.sprD
 rw [if_pos (by first | (simp; done) | (simp; omega))]
theorem sprD_eq (a:La) (l:Nat) (D:Fd.Db):Fd.sprD a (l:Int) l D = Fd.rmD D a:=by
 unfold Fd.sprD
 rw [if_neg (by simp)]
theorem sprD_all (a:La) (k:Nat) (D:Fd.Db):Fd.sprD a (-1) k D = Fd.offD D a:=by
 unfold Fd.sprD
 rw [if_pos (by first | (simp; done) | (simp; omega))]
def ackO (l:Nat) (b:Bool) (y:La):List (Int × Ms):=if b = true then [((l:Int),⟨3,0,1,0,y⟩)] else []
theorem Ivn.upd (hP:ParOk P) (h:Ivn P n dead T S (e :: way)) (hv:e.t < n) {i:Nat} (hi:i < n) (hl:Lnk P.t i e.l e.t) (hT:P.H + 2 ≤ T) (hT2:T ≤ 3000) (hk:e.m.k = 2) (hg:Good S n T e.m.y) (hs:e.m.y.s ≤ lvD (S i).db e.m.y.o.toNat) :
  DlvOk P n dead T S e way (updS (S e.t) e.l e.m.y).1 (ackO e.l (updS (S e.t) e.l e.m.y).2 e.m.y):=by
 have hst:=h.st _ hv
 rw [upd_good hst rfl hg hT2]
 have hok:=hst.ok.ins (e.l:Int) e.m.y
 have hd:=hst.ok.db
 have hne:=hl.ne hP.t
 have hoo:=hg.oo
 have hgd:∀ o x,instN (S e.t).db e.m.y o = some x → Good S n T x.x:=fun o x hx=>by
  rcases inst_mem hd hg.v hx with h1 | ⟨_,h1⟩
  ·exact h.gd _ hv o x h1
  ·rw [h1]; exact hg
 have hlm:=lv_inst hd hg.v
 have hat:=lv_inst_at hd hg.v
 have og:∀ F':Fd.Fn,∀ e' ∈ postE P.t.ln e.t (ackO e.l true e.m.y),EnvOk P n T (updP S e.t { S e.t with db:=instN (S e.t).db e.m.y,fl:=F' }) e':=fun F'=>by
  refine ackE_env hP.t hi hv hl hT (good_upd (v:=e.t) (s':={ S e.t with db:=instN (S e.t).db e.m.y,fl:=F' }) (.inl rfl) hg) ?_
  rw [updP_at]
  exact hat
 rcases inst_cases hd hg.v with ⟨hr,hN,hle⟩ | ⟨hr,hN,x,hx,hxs⟩ | ⟨hr,hN,x,hx,hxs⟩
 ·have e1:insS (S e.t) e.l e.m.y = ({ S e.t with db:=instN (S e.t).db e.m.y,fl:=sprF (S e.t).fl e.m.y e.l },true):=by unfold insS; rw [if_pos hr]
  rw [e1] at hok ⊢
  have hlv:lvD (instN (S e.t).db e.m.y) e.m.y.o.toNat = e.m.y.s:=by rw [hN]; unfold lvD; simp
  have hlo:∀ o,o ≠ e.m.y.o.toNat → lvD (instN (S e.t).db e.m.y) o = lvD (S e.t).db o:=fun o ho=>by rw [hN]; unfold lvD; simp only [if_neg ho]
  refine Ivn.dbf hP h hv (by omega) hok hlm hgd (fun k D' o x h1 h2=>?_) (fun k j D' hj hlk hD hd1 hd2 o=>?_) (fun _=>hat) _ (og _) (by simp [ackO,hk]) (fun x hx=>by simp [ackO] at hx; subst hx; exact ⟨rfl,rfl⟩)
  ·obtain ⟨D,h3,rfl⟩:=sprF_some' hg.v h1
   by_cases ek:k = e.l
   ·subst ek
    rw [sprD_eq] at h2
    rcases rm_cases D e.m.y o with h4 | ⟨_,h4⟩
    ·rw [h4] at h2; exact ⟨(h.gf _ hv _ D o x h3 h2).1,Int.le_trans (h.gf _ hv _ D o x h3 h2).2 (hlm o)⟩
    ·rw [h4] at h2; cases h2
   ·rw [sprD_ne ek] at h2
    rcases off_mem h2 with h4 | ⟨h4,h5⟩
    ·exact ⟨(h.gf _ hv _ D o x h3 h4).1,Int.le_trans (h.gf _ hv _ D o x h3 h4).2 (hlm o)⟩
    ·subst h5; rw [h4]; exact ⟨hg,hat⟩
  ·obtain ⟨D,h3,rfl⟩:=sprF_some' hg.v hD
   by_cases ek:k = e.l
   ·subst ek
    obtain rfl:j = i:=hlk.eq hP.t hl.symm
    rw [sprD_eq]
    rcases rm_cases D e.m.y o with h4 | ⟨h4,_⟩
    ·by_cases ho:o = e.m.y.o.toNat
     ·left; rw [ho,hlv]; exact hs
     ·exact .inr (.inr (.inl ⟨hlo o ho,D,h3,h4⟩))
    ·left; rw [h4,hlv]; exact hs
   ·rw [sprD_ne ek]
    by_cases ho:o = e.m.y.o.toNat
    ·subst ho
     rcases off_at D e.m.y with h4 | ⟨x,h4,h5,h6⟩
     ·exact .inr (.inl ⟨_,h4,by simp,by rw [hlv]; exact Int.le_refl _⟩)
     ·have h7:=h.gf _ hv _ D _ x h3 h4
      have h8:=nwS' hg.v h7.1.v h6
      exact .inr (.inr (.inl ⟨by rw [hlv]; omega,D,h3,h5.trans h4.symm⟩))
    ·exact .inr (.inr (.inl ⟨hlo o ho,D,h3,off_ne ho⟩))
 ·have e1:insS (S e.t) e.l e.m.y = ({ S e.t with db:=instN (S e.t).db e.m.y,fl:=ackL (S e.t).fl e.l e.m.y },true):=by unfold insS; rw [if_neg (by rw [hr]; decide),if_pos hr]; rfl
  rw [e1] at hok ⊢
  have hlv:lvD (S e.t).db e.m.y.o.toNat = e.m.y.s:=by rw [lv_some hx,hxs]
  refine Ivn.dbf hP h hv (by omega) hok hlm hgd (fun k D' o x h1 h2=>?_) (fun k j D' hj hlk hD hd1 hd2 o=>?_) (fun _=>hat) _ (og _) (by simp [ackO,hk]) (fun x hx=>by simp [ackO] at hx; subst hx; exact ⟨rfl,rfl⟩)
  ·obtain ⟨D,h3,h4⟩:=ackL_cases h1
   rw [hN]
   rcases h4 with rfl | ⟨_,rfl⟩
   ·exact h.gf _ hv k _ o x h3 h2
   ·rcases ack_cases D e.m.y o with h5 | ⟨_,h5,_⟩
    ·rw [h5] at h2; exact h.gf _ hv k D o x h3 h2
    ·rw [h5] at h2; cases h2
  ·obtain ⟨D,h3,h4⟩:=ackL_cases hD
   rw [hN]
   rcases h4 with rfl | ⟨e1,rfl⟩
   ·exact .inr (.inr (.inl ⟨rfl,_,h3,rfl⟩))
   ·rcases ack_cases D e.m.y o with h5 | ⟨h6,h5,_⟩
    ·exact .inr (.inr (.inl ⟨rfl,D,h3,h5⟩))
    ·subst e1
     obtain rfl:j = i:=hlk.eq hP.t hl.symm
     left; rw [h6,hlv]; exact hs
 ·have hgx:getX (getO (instN (S e.t).db e.m.y) e.m.y.o) = x.x:=by
   have:=hg.v.1
   unfold getO
   rw [if_pos (by omega),hN,hx]
   rfl
  have e1:insS (S e.t) e.l e.m.y = ({ S e.t with db:=instN (S e.t).db e.m.y,fl:=offL (S e.t).fl e.l x.x },false):=by
   unfold insS; rw [if_neg (by rw [hr]; decide),if_neg (by rw [hr]; decide),hgx]; rfl
  rw [e1] at hok ⊢
  have hxo:x.x.o.toNat = e.m.y.o.toNat:=by have:=(hd _ _ hx).2.1; omega
  have hxg:=h.gd _ hv _ _ hx
  refine Ivn.dbf hP h hv (by omega) hok hlm hgd (fun k D' o z h1 h2=>?_) (fun k j D' hj hlk hD hd1 hd2 o=>?_) (fun _=>hat) _ (fun e' he=>by simp [ackO,postE] at he) (by simp [ackO]) (fun x hx=>by simp [ackO] at hx)
  ·obtain ⟨D,h3,h4⟩:=offL_cases h1
   rw [hN]
   rcases h4 with rfl | ⟨_,rfl⟩
   ·exact h.gf _ hv k _ o z h3 h2
   ·rcases off_mem h2 with h5 | ⟨h5,h6⟩
    ·exact h.gf _ hv k D o z h3 h5
    ·subst h6
     exact ⟨hxg,by rw [h5,hxo,lv_some hx]; exact Int.le_refl _⟩
  ·obtain ⟨D,h3,h4⟩:=offL_cases hD
   rw [hN]
   rcases h4 with rfl | ⟨_,rfl⟩
   ·exact .inr (.inr (.inl ⟨rfl,_,h3,rfl⟩))
   ·by_cases ho:o = x.x.o.toNat
    ·subst ho
     rcases off_at D x.x with h5 | ⟨z,h5,h6,_⟩
     ·exact .inr (.inl ⟨_,h5,by simp,by rw [hxo,lv_some hx]; exact Int.le_refl _⟩)
     ·exact .inr (.inr (.inl ⟨rfl,D,h3,h6.trans h5.symm⟩))
    ·exact .inr (.inr (.inl ⟨rfl,D,h3,off_ne ho⟩))
theorem orig_made {t:Tp} (ht:TpOk t) {v:Nat} {s:Sp} (hok:SpOk s) (hn:s.nd = v) (hp:PoSt t v s.ps) (hpre:s.pre = []) (hs:s.x.s < 1073741824) (hc:s.x.adj.length ≠ (adjS s.ps).length) :
  LaValid (num v (s.x.s + 1) 0 (conS s)) ∧ origS s = { s with x:=num v (s.x.s + 1) 0 (conS s),md:=true,db:=instN s.db (num v (s.x.s + 1) 0 (conS s)),fl:=sprF s.fl (num v (s.x.s + 1) 0 (conS s)) (-1) }:=by
 have hxo:s.x.o = v:=hok.xo.trans hn
 have hv1:LaValid (num s.x.o 1 0 (conS s)):=con_valid ht hok hn hp hpre hxo
 have hv2:=num_valid (a:=0) (s:=s.x.s + 1) hv1 (by have:=hok.xs; omega)
 have hcb:conB s.x (conS s) = false:=by
  unfold conB conS
  have:s.x.adj ≠ adjS s.ps:=fun e=>hc (by rw [e])
  simp [this]
 have hset:setP s.x s.md (conS s) = ⟨num s.x.o (s.x.s + 1) 0 (conS s),true,true,0⟩:=by
  unfold setP
  rw [if_pos (vB_t hv1),if_neg (by rw [hcb]; simp),if_neg (by omega)]
 rw [hxo] at hset hv2
 refine ⟨hv2,?_⟩
 unfold origS
 rw [hset]
 rfl
theorem own_inst {N:Db} (hd:DbOk N) {v:Nat} {x:La} (hv:LaValid x) (ho:x.o = v) (hl:lvD N v < x.s):instN N x = fun i=>if i = v then some ⟨x,60⟩ else N i:=by
 have hov:x.o.toNat = v:=by omega
 rcases inst_cases hd hv with ⟨_,hN,_⟩ | ⟨_,_,z,hz,hzs⟩ | ⟨_,_,z,hz,hzs⟩
 ·rw [hN,hov]
 ·rw [hov] at hz; rw [lv_some hz] at hl; omega
 ·rw [hov] at hz; rw [lv_some hz] at hl; omega
theorem Ivn.made {dead':Nat → Nat → Prop} {way0:List Env} (hP:ParOk P) (h:Ivn P n dead T S way0) {v:Nat} (hv:v < n) (hT0:0 ≤ T) (hs1:∀ e ∈ way0,e ∈ way ∨ (e.t = v ∧ e.m.k ≠ 2)) (hs2:∀ e ∈ way,e ∈ way0) (hd1:∀ i k,dead i k → dead' i k) (hd2:∀ i k,i ≠ v → dead' i k → dead i k)
  {ps:List Po} {F:Fd.Fn} (hok:SpOk { S v with ps:=ps,fl:=F }) (hp:PoSt P.t v ps) (hsb:(S v).x.s + 1 ≤ P.B + (adjS ps).length) (hc:(S v).x.adj.length ≠ (adjS ps).length)
  (po:∀ p ∈ ps,(dead' v p.l.toNat → PoIs p 0 0 0) ∧ (¬ dead' v p.l.toNat → PostP P T p ∨ (MidP P T p ∧ ∃ e ∈ way,e.t = v ∧ e.l = p.l.toNat ∧ e.m.k = 1)))
  (gf:∀ k D o x,F k = some D → D o = some x → Good S n T x.x ∧ x.x.s ≤ lvD (S v).db o)
  (q:∀ k j D,j < n → Lnk P.t v k j → F k = some D → ¬ dead' v k → ¬ dead' j k → ∀ o,o ≠ v → lvD (S v).db o ≤ lvD (S j).db o ∨ (∃ h,D o = some h ∧ h.l ≤ 0 ∧ lvD (S v).db o ≤ h.x.s) ∨ (∃ D0,(S v).fl k = some D0 ∧ D o = D0 o)) :
  Ivn P n dead' T (updP S v (origS { S v with ps:=ps,fl:=F })) way ∧ (∀ o,lvD (S v).db o ≤ lvD (origS { S v with ps:=ps,fl:=F }).db o):=by
 have hst:=h.st v hv
 have hal:=hok.pl
 have hlen:(adjS ps).length ≤ 512:=Nat.le_trans (adjS_len ps) hal
 have hB:=hP.B
 obtain ⟨hv2,ho⟩:=orig_made hP.t hok hst.nd hp hst.pre (by simp only; omega) hc
 have hko:=hok.orig
 rw [ho] at hko ⊢
 simp only at hv2 hko ⊢
 obtain ⟨x,hx⟩:∃ x,num v ((S v).x.s + 1) 0 (conS { S v with ps:=ps,fl:=F }) = x:=⟨_,rfl⟩
 have hxs:x.s = (S v).x.s + 1:=by rw [← hx]; rfl
 have hxo:x.o = v:=by rw [← hx]; rfl
 have hxa:x.a = 0:=by rw [← hx]; rfl
 have hxj:x.adj = adjS ps:=by rw [← hx]; rfl
 have hxv:x.ov = (S v).ov:=by rw [← hx]; rfl
 have hxp:x.pre = []:=by rw [← hx]; exact hst.pre
 rw [hx] at hv2 hko ⊢
 have how:=h.ow v hv
 have hin:=own_inst hst.ok.db hv2 hxo (by rw [how,hxs]; omega)
 rw [hin] at hko ⊢
 have hov:x.o.toNat = v:=by omega
 have hlv:∀ o,lvD (fun i=>if i = v then some ⟨x,60⟩ else (S v).db i) o = if o = v then x.s else lvD (S v).db o:=fun o=>by
  unfold lvD
  by_cases e1:o = v
  ·simp [e1]
  ·simp [e1]
 have lm:∀ o,lvD (S v).db o ≤ lvD (fun i=>if i = v then some ⟨x,60⟩ else (S v).db i) o:=fun o=>by
  rw [hlv]
  split
  ·next e1=>rw [e1,how,hxs]; omega
  ·exact Int.le_refl _
 have ax:∀ N F',({ S v with ps:=ps,fl:=F',x:=x,md:=true,db:=N }:Sp).x = (S v).x ∨ (S v).x.s < ({ S v with ps:=ps,fl:=F',x:=x,md:=true,db:=N }:Sp).x.s:=fun N F'=>.inr (by show (S v).x.s < x.s; omega)
 have hgx:Good (updP S v { S v with ps:=ps,fl:=sprF F x (-1),x:=x,md:=true,db:=fun i=>if i = v then some ⟨x,60⟩ else (S v).db i }) n T x :=
  ⟨hv2,by rw [hov]; exact hv,by rw [hxa]; exact hT0,hxp,by rw [hov,updP_at]; exact Int.le_refl _,fun _=>by rw [hov,updP_at]; exact ⟨rfl,rfl,rfl,rfl,rfl⟩⟩
 have H:=h.stepG (way:=way) (dead':=dead') hP.t { S v with ps:=ps,fl:=sprF F x (-1),x:=x,md:=true,db:=fun i=>if i = v then some ⟨x,60⟩ else (S v).db i } [] (fun e he=>(hs1 e he).imp id fun h1=>⟨h1.1,fun h2=>absurd h2 h1.2⟩) hs2 hd1 hd2
  ⟨hko,hst.tp,hst.nd,hst.bo,hst.h1,hst.h2,hst.h3,hst.pre,hst.ov,hp,hxv,hxj,hxp⟩ (h.tm v hv) ⟨by show x.s ≤ P.B + x.adj.length; rw [hxj]; omega,by show x.a ≤ T; omega⟩ (ax _ _) lm (by show lvD (fun i=>if i = v then some ⟨x,60⟩ else (S v).db i) v = x.s; rw [hlv,if_pos rfl])
  (fun o z hz=>by
   dsimp only at hz
   split at hz
   ·injection hz with hz; subst hz; exact hgx
   ·exact good_upd (ax _ _) (h.gd v hv o z hz))
  (fun k D o z h1 h2=>by
   obtain ⟨D0,h3,rfl⟩:=sprF_some' hv2 h1
   rw [sprD_all] at h2
   rcases off_mem h2 with h4 | ⟨h4,h5⟩
   ·exact ⟨good_upd (ax _ _) (gf k D0 o z h3 h4).1,Int.le_trans (gf k D0 o z h3 h4).2 (lm o)⟩
   ·subst h5
    refine ⟨hgx,?_⟩
    show x.s ≤ lvD (fun i=>if i = v then some ⟨x,60⟩ else (S v).db i) o
    rw [hlv,if_pos (by rw [h4,hov])]
    exact Int.le_refl _)
  po
  (fun k j D hj hl hD hda hdb o=>by
   obtain ⟨D0,h3,rfl⟩:=sprF_some' hv2 hD
   rw [sprD_all]
   show lvD (fun i=>if i = v then some ⟨x,60⟩ else (S v).db i) o ≤ _ ∨ (∃ h,_ ∧ _ ∧ lvD (fun i=>if i = v then some ⟨x,60⟩ else (S v).db i) o ≤ _) ∨ (lvD (fun i=>if i = v then some ⟨x,60⟩ else (S v).db i) o = _ ∧ _) ∨ _
   rw [hlv]
   by_cases e1:o = v
   ·rw [if_pos e1]
    have e2:o = x.o.toNat:=by omega
    subst e2
    rcases off_at D0 x with h4 | ⟨z,h4,h5,h6⟩
    ·exact .inr (.inl ⟨_,h4,by simp,Int.le_refl _⟩)
    ·have h7:=gf k D0 _ z h3 h4
     have h8:=nwS' hv2 h7.1.v h6
     have h9:=h7.2
     rw [hov,how] at h9
     omega
   ·rw [if_neg e1,off_ne (by omega)]
    rcases q k j D0 hj hl h3 hda hdb o e1 with h4 | h4 | h4
    ·exact .inl h4
    ·exact .inr (.inl h4)
    ·exact .inr (.inr (.inl ⟨rfl,h4⟩)))
  (fun e' he=>by cases he)
 rw [List.append_nil] at H
 exact ⟨H,lm⟩
end
end Go.Proofs.YtehimhbgakpenaaGreat

namespace Go.Proofs.YtehimhbgakpenaaGreat
set_option linter.unusedVariables false
open Go.RowKit Go.Maps Go.Sort
theorem bot_fol {s:Sp} {x:Nat} (hx:x < s.ps.length) (b ph' lf:Int):folS (botS s x b) x ph' lf =
  { s with
    ps:=s.ps.set x ⟨s.ps[x].l,s.ps[x].o,s.ps[x].c,ph',lf,if ph' = 0 then 0 else b⟩
    fl:=if He.evt s.ps[x].ph ph' = 1 then Fd.setN s.fl s.ps[x].l.toNat (Fd.offs (fun _=>none) (allN s.db)) else if He.evt s.ps[x].ph ph' = 2 then Fd.dropN s.fl s.ps[x].l.toNat else s.fl }:=by
 have hx1:x < (botS s x b).ps.length:=by rw [botS_len]; exact hx
 rw [folS_at hx1]
 have hp1:(botS s x b).ps[x] = ⟨s.ps[x].l,s.ps[x].o,s.ps[x].c,s.ps[x].ph,s.ps[x].lf,b⟩:=by
  simp only [botS_at hx,List.getElem_set_self]
 rw [hp1]
 simp only [botS_at hx,poSet,List.set_set]
theorem bot_ph {s:Sp} {x:Nat} (hx:x < s.ps.length) (b:Int):∃ hx1:x < (botS s x b).ps.length,(botS s x b).ps[x].ph = s.ps[x].ph:=by
 refine ⟨by rw [botS_len]; exact hx,?_⟩
 simp only [botS_at hx,List.getElem_set_self]
theorem hel_form {s:Sp} {x:Nat} (hx:x < s.ps.length) {b hh ph':Int} (hb:s.ps[x].ph ≠ 0 → s.ps[x].bt = b) (hp:(if hh = s.bo then (2:Int) else 1) = ph') :
  helS s x b hh = if He.evt s.ps[x].ph ph' = 0 then folS (botS s x b) x ph' s.h2 else origS (folS (botS s x b) x ph' s.h2):=by
 rw [helS_at hx rfl]
 have h1:hel1 s x s.ps[x] b = s:=by
  unfold hel1
  exact if_neg fun h=>h.2 (hb h.1)
 rw [h1,hp]
 obtain ⟨hx1,h2⟩:=bot_ph hx b
 by_cases he:He.evt s.ps[x].ph ph' = 0
 ·rw [if_pos he]; exact chg_0 hx1 rfl (by rw [h2]; exact he)
 ·rw [if_neg he]; exact chg_1 hx1 rfl (by rw [h2]; exact he)
section
variable {P:Par} {n:Nat} {dead:Nat → Nat → Prop} {T:Int} {S:Sps} {e:Env} {way:List Env}
theorem po_set {way0:List Env} (h:Ivn P n dead T S way0) {v:Nat} (hv:v < n) {x:Nat} (hx:x < (S v).ps.length) {q:Po} (hql:q.l = (S v).ps[x].l) {dead':Nat → Nat → Prop}
  (hd1:∀ k,dead v k → dead' v k) (hd2:∀ k,k ≠ q.l.toNat → dead' v k → dead v k) (hq:(dead' v q.l.toNat → PoIs q 0 0 0) ∧ (¬ dead' v q.l.toNat → PostP P T q)) (hw:∀ e' ∈ way0,e' ∈ way ∨ e'.l = q.l.toNat) :
  ∀ p ∈ (S v).ps.set x q,(dead' v p.l.toNat → PoIs p 0 0 0) ∧ (¬ dead' v p.l.toNat → PostP P T p ∨ (MidP P T p ∧ ∃ e' ∈ way,e'.t = v ∧ e'.l = p.l.toNat ∧ e'.m.k = 1)):=by
 intro p hp
 obtain ⟨j,hj,rfl⟩:=List.getElem_of_mem hp
 rw [List.length_set] at hj
 rw [List.getElem_set]
 split
 ·exact ⟨hq.1,fun h1=>.inl (hq.2 h1)⟩
 ·next hne =>
  have hpo:=h.po v hv _ (List.getElem_mem hj)
  have hok:=h.st v hv
  have h1:=(hok.ok.ps _ (List.getElem_mem hj)).l
  have h2:=(hok.ok.ps _ (List.getElem_mem hx)).l
  have hlne:(S v).ps[j].l.toNat ≠ q.l.toNat:=fun e1=>hne (uq_idx hok.ok.uq hx hj (by rw [hql] at e1; omega))
  refine ⟨fun hd=>hpo.1 (hd2 _ hlne hd),fun hd=>(hpo.2 fun h3=>hd (hd1 _ h3)).imp id fun ⟨h3,e2,h4,h5,h6,h7⟩=>⟨h3,e2,?_,h5,h6,h7⟩⟩
  rcases hw e2 h4 with h8 | h8
  ·exact h8
  ·exact absurd (h6.symm.trans h8) hlne
theorem Ivn.hel (hP:ParOk P) (h:Ivn P n dead T S (e :: way)) (hv:e.t < n) (hnd:¬ dead e.t e.l) (hT1:1 ≤ T) {x:Nat} (hx:x < (S e.t).ps.length) (hxl:(S e.t).ps[x].l = (e.l:Int)) (hk:e.m.k = 1) (hh:e.m.h = btT (T - 1)) (hm:(T - 1) % P.H = 0) :
  DlvOk P n dead T S e way (helS (S e.t) x 1 e.m.h) []:=by
 have hH:=hP.H
 have hst:=h.st _ hv
 have hTT:=hel_T hP.H hT1 hm
 obtain ⟨p,hp⟩:∃ p,(S e.t).ps[x] = p:=⟨_,rfl⟩
 have hpo:=(h.po _ hv _ (List.getElem_mem hx)).2 (by rw [hxl,Int.toNat_natCast]; exact hnd)
 have hpst:PostP P T p ∨ MidP P T p:=by rw [← hp]; exact hpo.imp id (·.1)
 have hbt:p.ph ≠ 0 → p.bt = 1:=fun h0=>by
  rcases hpst with ⟨_,_,h3⟩ | ⟨h1,_,h3⟩
  ·rw [h3]; unfold btT; exact if_neg (by omega)
  ·rw [h3]
   unfold phT at h1
   unfold btT
   split at h1
   ·exact absurd h1 h0
   ·exact if_neg (by omega)
 obtain ⟨ph,hph⟩:∃ ph:Int,(if e.m.h = (S e.t).bo then (2:Int) else 1) = ph:=⟨_,rfl⟩
 have hphT:ph = phT P.H T:=by
  rw [← hph,hh,hst.bo]
  unfold btT phT
  rcases hTT with h1 | h1
  ·subst h1; simp; omega
  ·have a1:¬ (T - 1 ≤ 0):=by omega
   have a2:¬ T ≤ 0:=by omega
   have a3:¬ T ≤ P.H:=by omega
   simp [a1,a2,a3]
 have hph0:ph ≠ 0:=by rw [← hph]; split <;> decide
 have hpost:∀ l o c,PostP P T ⟨l,o,c,ph,(S e.t).h2,1⟩:=fun l o c=>by
  refine ⟨hphT,?_,?_⟩
  ·unfold lfT; rw [if_neg (by omega),hm]; simp [hst.h2]
  ·unfold btT; rw [if_neg (by omega)]
 rw [hel_form hx (by rw [hp]; exact hbt) hph,bot_fol hx,if_neg hph0,hp]
 have hvl:He.vld ph (S e.t).h2 = true:=by
  rw [hst.h2]
  exact vld_mk (.inr ⟨by rw [← hph]; split <;> simp,by have:=hP.D; omega,hP.D.2⟩)
 have hokF:=(hst.ok.bot hx (b:=1) (by omega)).fol (ph:=ph) (lf:=(S e.t).h2) (by rw [botS_len]; exact hx) hvl
 rw [bot_fol hx,if_neg hph0,hp] at hokF
 rw [hp] at hxl
 have hln:p.l.toNat = e.l:=by omega
 rw [hln] at hokF ⊢
 have hpol:=po_set (way:=way) (dead':=dead) h hv hx (q:=⟨p.l,p.o,p.c,ph,(S e.t).h2,1⟩) (by rw [hp]) (fun _ h=>h) (fun _ _ h=>h) ⟨fun h1=>absurd (by simp only [hln] at h1; exact h1) hnd,fun _=>hpost _ _ _⟩ (fun e' he=>by
  rcases List.mem_cons.1 he with rfl | h1
  ·exact .inr hln.symm
  ·exact .inl h1)
 have hpost2:=hst.po.set hx (q:=⟨p.l,p.o,p.c,ph,(S e.t).h2,1⟩) (by rw [hp]) (by rw [hp]) (by rw [hp])
 have hadj:=adjS_set hx (q:=⟨p.l,p.o,p.c,ph,(S e.t).h2,1⟩) (by rw [hp]) (by rw [hp]) (by rw [hp])
 simp only [hp] at hadj
 by_cases he:He.evt p.ph ph = 0
 ·rw [if_pos he]
  rw [if_neg (by rw [he]; decide),if_neg (by rw [he]; decide)] at hokF ⊢
  have hiff:ph = 2 ↔ p.ph = 2:=by
   unfold He.evt at he
   split at he
   ·split at he
    ·exact ⟨fun _=>by assumption,fun _=>by assumption⟩
    ·cases he
   ·split at he
    ·cases he
    ·next h1 h2=>exact ⟨fun h3=>absurd h3 h2,fun h3=>absurd h3 h1⟩
  have hadj2:=hadj.2 hiff
  refine ⟨?_,fun o=>Int.le_refl _,fun h2=>by omega,fun _=>rfl,by simp,fun y hy=>by cases hy⟩
  refine h.step hP.t rfl _ [] ⟨hokF,hst.tp,hst.nd,hst.bo,hst.h1,hst.h2,hst.h3,hst.pre,hst.ov,hpost2,hst.xc.1,by rw [hst.xc.2.1]; exact hadj2.symm,hst.xc.2.2⟩ (h.tm _ hv) (h.xb _ hv) (.inl rfl) (fun o=>Int.le_refl _) (h.ow _ hv)
   (fun o y hy=>good_upd (v:=e.t) (s':={ S e.t with ps:=(S e.t).ps.set x ⟨p.l,p.o,p.c,ph,(S e.t).h2,1⟩ }) (.inl rfl) (h.gd _ hv o y hy)) (fun k D o y h1 h2=>⟨good_upd (v:=e.t) (s':={ S e.t with ps:=(S e.t).ps.set x ⟨p.l,p.o,p.c,ph,(S e.t).h2,1⟩ }) (.inl rfl) (h.gf _ hv k D o y h1 h2).1,(h.gf _ hv k D o y h1 h2).2⟩) hpol
   (fun k j D hj hl hD hd1 hd2 o=>.inr (.inr (.inl ⟨rfl,D,hD,rfl⟩))) (fun h2=>by omega) (fun e' he=>by cases he)
 ·rw [if_neg he]
  have hev:p.ph ≠ 2 ∧ ph = 2:=by
   rcases evt_cases p.ph ph with h1 | ⟨h1,h2⟩ | ⟨h1,h2⟩
   ·exact absurd h1 he
   ·refine ⟨fun h3=>?_,h2⟩
    rw [h3,h2] at he
    exact he rfl
   ·exfalso
    -- up already,so it stays up
    have:phT P.H T = 2:=by
     rcases hpst with ⟨h3,_⟩ | ⟨h3,_⟩
     ·rw [← h3]; exact h2
     ·rw [h2] at h3
      unfold phT at h3 ⊢
      rcases hTT with h4 | h4
      ·rw [if_pos (by omega)] at h3; cases h3
      ·rw [if_neg (by omega),if_neg (by omega)]
    rw [h2,hphT,this] at he
    exact he rfl
  have hev1:He.evt p.ph ph = 1:=by unfold He.evt; rw [if_neg hev.1,if_pos hev.2]
  rw [if_pos hev1] at hokF ⊢
  rw [if_neg hev.1,if_pos hev.2] at hadj
  have hal:=hadj.1
  have hxb:=(h.xb _ hv).1
  rw [hst.xc.2.1] at hxb
  have hM:=h.made (way:=way) (dead':=dead) hP hv (by omega) (fun e' he=>by
   rcases List.mem_cons.1 he with rfl | h1
   ·exact .inr ⟨rfl,by omega⟩
   ·exact .inl h1) (fun e' he=>List.mem_cons_of_mem _ he) (fun _ _ h=>h) (fun _ _ _ h=>h) hokF hpost2 (by omega) (by rw [hst.xc.2.1]; omega) hpol
   (fun k D o y h1 h2=>by
    unfold Fd.setN at h1
    split at h1
    ·injection h1 with h1
     subst h1
     rw [offs_all hst.ok.db hst.ok.dz] at h2
     cases hN:(S e.t).db o with
     | none=>rw [hN] at h2; cases h2
     | some z =>
       rw [hN] at h2
       injection h2 with h2
       subst h2
       exact ⟨h.gd _ hv o z hN,by rw [lv_some hN]; exact Int.le_refl _⟩
    ·exact h.gf _ hv k D o y h1 h2)
   (fun k j D hj hl hD hd1 hd2 o ho=>by
    unfold Fd.setN at hD
    split at hD
    ·injection hD with hD
     subst hD
     rw [offs_all hst.ok.db hst.ok.dz]
     cases hN:(S e.t).db o with
     | none =>
       left
       have:=lv_pos (h.st j hj).ok.db o
       unfold lvD at this ⊢
       rw [hN]
       exact this
     | some z=>exact .inr (.inl ⟨_,rfl,by simp,by rw [lv_some hN]; exact Int.le_refl _⟩)
    ·exact .inr (.inr ⟨D,hD,rfl⟩))
  refine ⟨by rw [show postE P.t.ln e.t [] = [] from rfl,List.append_nil]; exact hM.1,hM.2,fun h2=>by omega,fun hT=>?_,by simp,fun y hy=>by cases hy⟩
  exfalso
  rcases hpst with h1 | h1
  ·exact hev.1 (late_post hP hT h1).1
  ·exact hev.1 (late_mid hP hT h1).1
theorem Ivn.dlv (hP:ParOk P) (h:Ivn P n dead T S (e :: way)) (hT1:1 ≤ T) (hT2:T ≤ 3000) (hd:¬ dead e.t e.l):e.t < n ∧ msB e.m = true ∧ ∃ x,∃ hx:x < (S e.t).ps.length,fndS (S e.t).ps (e.l:Int) = some x ∧ (S e.t).ps[x].l = (e.l:Int) ∧ (e.m.k = 1 → e.m.n = (S e.t).ps[x].o) ∧
  DlvOk P n dead T S e way (recS (S e.t) x e.m).1 (recS (S e.t) x e.m).2:=by
 rcases h.gw e (by simp) with h1 | ⟨hv,i,hi,hl,hb,hc⟩
 ·exact absurd h1 hd
 obtain ⟨x,hx,hf,hxl,hxo⟩:=h.port hP.t hv hl
 have hst:=h.st _ hv
 have hin:0 ≤ (i:Int) ∧ (i:Int) ≤ 63:=by
  obtain ⟨y,hy,hab⟩:=hl
  have h1:=lk_ok hP.t hy
  have h2:=h1.a
  have h3:=h1.b
  have h4:=hP.t.n
  omega
 have hms:msB e.m = true:=by
  have hw:wiB e.m.b 1 1073741824 = true:=by unfold wiB; simp [hb]
  unfold msB
  rw [hw,Bool.true_and]
  rcases hc with ⟨h1,h2,h3,_,h5⟩ | ⟨h1,h2,h3,_,h5,_⟩
  ·rw [if_pos h1]
   have h6:e.m.h = 0 ∨ e.m.h = 1:=by rw [h3]; unfold btT; split <;> simp
   have h7:emB e.m.y = true:=emB_iff.2 h5
   rw [h7]
   unfold wiB
   simp only [Bool.and_eq_true,decide_eq_true_eq,and_true]
   omega
  ·rw [if_neg (by omega),if_pos h1,h2,h3,vB_t h5.v]
   rfl
 have hge:(S e.t).ps[x]? = some (S e.t).ps[x]:=List.getElem?_eq_getElem hx
 refine ⟨hv,hms,x,hx,hf,hxl,fun h1=>?_,?_⟩
 ·rcases hc with ⟨_,h2,_⟩ | ⟨h2,_⟩
  ·rw [h2,hxo]
  ·omega
 ·rcases hc with ⟨h1,h2,h3,h4,h5⟩ | ⟨h1,h2,h3,h4,h5,h6⟩
  ·have hr:recS (S e.t) x e.m = (helS (S e.t) x 1 e.m.h,[]):=by
    unfold recS
    rw [hge]
    simp only [if_pos h1,hb]
   rw [hr]
   exact h.hel hP hv hd hT1 hx hxl h1 h3 h4
  ·have hpo:=(h.po _ hv _ (List.getElem_mem hx)).2 (by rw [hxl,Int.toNat_natCast]; exact hd)
   have hup:(S e.t).ps[x].ph = 2 ∧ (S e.t).ps[x].bt = 1:=by
    rcases hpo with h7 | ⟨h7,_⟩
    ·exact late_post hP h4 h7
    ·exact late_mid hP h4 h7
   have hno:¬ ((S e.t).ps[x].ph ≠ 2 ∨ (S e.t).ps[x].bt ≠ e.m.b):=by
    rw [hup.1,hup.2,hb]
    simp
   rcases h1 with h1 | h1
   ·have hr:recS (S e.t) x e.m = ((updS (S e.t) e.l e.m.y).1,ackO e.l (updS (S e.t) e.l e.m.y).2 e.m.y):=by
     unfold recS
     rw [hge]
     simp only [if_neg (show ¬ e.m.k = 1 by omega),if_neg hno,if_pos h1,hxl,hst.bo]
     rfl
    rw [hr]
    exact h.upd hP hv hi hl h4 hT2 h1 h5 h6
   ·have hr:recS (S e.t) x e.m = ({ S e.t with fl:=ackL (S e.t).fl e.l e.m.y },[]):=by
     unfold recS
     rw [hge]
     simp only [if_neg (show ¬ e.m.k = 1 by omega),if_neg hno,if_neg (show ¬ e.m.k = 2 by omega),hxl,Int.toNat_natCast]
    rw [hr]
    exact h.ack hP hv hi hl h4 h1 h5 h6
theorem post_up (hP:ParOk P) (hT:P.H + 1 ≤ T) {p:Po} (h:PostP P T p):p.ph = 2:=by
 obtain ⟨h1,_,h3⟩:=h
 have:=hP.H
 unfold phT at h1
 rw [if_neg (by omega),if_neg (by omega)] at h1
 exact h1
theorem Ivn.fail (hP:ParOk P) (h:Ivn P n dead T S []) (hT:P.H + 1 ≤ T) {v:Nat} (hv:v < n) {x k:Nat} (hx:x < (S v).ps.length) (hxl:(S v).ps[x].l = (k:Int)) (hd:¬ dead v k) (hb:(S v).x.s + 2 ≤ P.B + (S v).x.adj.length) :
  Ivn P n (fun i l=>dead i l ∨ (i = v ∧ l = k)) T (updP S v (chgS (S v) x 0 0)) [] ∧ ∀ o,lvD (S v).db o ≤ lvD (chgS (S v) x 0 0).db o:=by
 have hH:=hP.H
 have hst:=h.st _ hv
 obtain ⟨p,hp⟩:∃ p,(S v).ps[x] = p:=⟨_,rfl⟩
 have hpo:=(h.po _ hv _ (List.getElem_mem hx)).2 (by rw [hxl,Int.toNat_natCast]; exact hd)
 have hph:p.ph = 2:=by
  rcases hpo with h1 | ⟨_,e2,h2,_⟩
  ·rw [← hp]; exact post_up hP hT h1
  ·cases h2
 have hokF:=hst.ok.fol hx (ph:=0) (lf:=0) rfl
 have hchg:chgS (S v) x 0 0 = origS (folS (S v) x 0 0):=chg_1 hx hp (by rw [hph]; decide)
 rw [hchg]
 have hln:p.l.toNat = k:=by rw [← hp,hxl]; simp
 have hfo:folS (S v) x 0 0 = { S v with ps:=(S v).ps.set x ⟨p.l,p.o,p.c,0,0,0⟩,fl:=Fd.dropN (S v).fl k }:=by
  rw [folS_at hx,hp,hph,hln]
  rfl
 rw [hfo] at hokF ⊢
 have hadj:=(adjS_set hx (q:=⟨p.l,p.o,p.c,0,0,0⟩) (by rw [hp]) (by rw [hp]) (by rw [hp])).1
 rw [hp,if_pos hph,if_neg (show ¬ (0:Int) = 2 by decide)] at hadj
 have hpost2:=hst.po.set hx (q:=⟨p.l,p.o,p.c,0,0,0⟩) (by rw [hp]) (by rw [hp]) (by rw [hp])
 rw [hst.xc.2.1] at hb
 refine h.made hP hv (by omega) (fun e' he=>by cases he) (fun e' he=>he) (fun _ _ h=>.inl h) (fun i l hne h=>h.resolve_right fun h2=>hne h2.1) hokF hpost2 (by omega) (by rw [hst.xc.2.1]; omega) ?_ ?_ ?_
 ·refine po_set (way:=[]) (dead':=fun i l=>dead i l ∨ (i = v ∧ l = k)) h hv hx (q:=⟨p.l,p.o,p.c,0,0,0⟩) (by rw [hp]) (fun _ h=>.inl h) (fun l hne h=>h.resolve_right fun h2=>hne (h2.2.trans hln.symm)) ⟨fun _=>⟨rfl,rfl,rfl⟩,fun h1=>absurd (.inr ⟨rfl,hln⟩) h1⟩ (fun e' he=>by cases he)
 ·intro k' D o y h1 h2
  unfold Fd.dropN at h1
  split at h1
  ·cases h1
  ·exact h.gf _ hv k' D o y h1 h2
 ·intro k' j D hj hl hD hd1 hd2 o ho
  unfold Fd.dropN at hD
  split at hD
  ·cases hD
  ·exact .inr (.inr ⟨D,hD,rfl⟩)
end
end Go.Proofs.YtehimhbgakpenaaGreat

namespace Go.Proofs.YtehimhbgakpenaaGreat
set_option linter.unusedVariables false
open Go.RowKit Go.Maps Go.Sort
theorem snd_mem8 {F:Fd.Fn} {q:Int} {x:La}:(q,x) ∈ Fd.sndK F (Fd.lks F) ↔ ∃ (l o:Nat) (D:Fd.Db) (h:Fd.Hd),q = (l:Int) ∧ l < 256 ∧ F l = some D ∧ o < 64 ∧ D o = some h ∧ ¬ 0 < h.l ∧ x = h.x:=by
 unfold Fd.sndK
 rw [List.mem_flatMap]
 constructor
 ·rintro ⟨q',hq',hx⟩
  obtain ⟨h1,h2⟩:=(Fd.lks_mem q').1 hq'
  obtain ⟨D,hD⟩:=Option.isSome_iff_exists.1 h2
  rw [hD] at hx
  simp only [Fd.sndJ,List.mem_filterMap] at hx
  obtain ⟨o,ho,he⟩:=hx
  unfold Fd.due at he
  unfold Fd.orgs at ho
  rw [List.mem_filter,List.mem_map] at ho
  obtain ⟨⟨o',ho',rfl⟩,ho2⟩:=ho
  rw [Int.toNat_natCast] at he ho2
  obtain ⟨h,hh⟩:=Option.isSome_iff_exists.1 ho2
  rw [hh] at he
  simp only at he
  split at he
  ·cases he
  ·next h3 =>
   simp only [Option.map_some,Option.some.injEq,Prod.mk.injEq] at he
   exact ⟨q'.toNat,o',D,h,by omega,by omega,hD,List.mem_range.1 ho',hh,h3,he.2.symm⟩
 ·rintro ⟨l,o,D,h,rfl,hl,hD,ho,hh,h3,rfl⟩
  refine ⟨(l:Int),(Fd.lks_mem _).2 ⟨⟨by omega,by omega⟩,by rw [Int.toNat_natCast,hD]; rfl⟩,?_⟩
  rw [Int.toNat_natCast,hD]
  simp only [Fd.sndJ,List.mem_filterMap]
  refine ⟨(o:Int),?_,?_⟩
  ·unfold Fd.orgs
   rw [List.mem_filter,List.mem_map]
   exact ⟨⟨o,List.mem_range.2 ho,rfl⟩,by rw [Int.toNat_natCast,hh]; rfl⟩
  ·unfold Fd.due
   rw [Int.toNat_natCast,hh]
   simp only [if_neg h3,Option.map_some]
def tkp (p:Po):Po:=poSet p (He.tkP p.ph p.lf 1) (He.tkL p.ph p.lf 1)
def tkTo (l:List Po) (k:Nat):List Po:=(l.take k).map tkp ++ l.drop k
theorem tkTo_next {l:List Po} {k:Nat} (hk:k < l.length):(tkTo l k).set k (tkp l[k]) = tkTo l (k + 1):=by
 unfold tkTo
 rw [List.drop_eq_getElem_cons hk,List.take_succ_eq_append_getElem hk,List.map_append]
 have hl:((l.take k).map tkp).length = k:=by simp; omega
 rw [List.set_append_right _ _ (by omega),hl,Nat.sub_self,List.set_cons_zero]
 simp
theorem tkp_ph {p:Po} (h:p.ph = 0 ∨ 2 ≤ p.lf):He.tkP p.ph p.lf 1 = p.ph:=by
 unfold He.tkP
 split
 ·rfl
 ·rw [if_neg (by omega)]
theorem evt_same (a:Int):He.evt a a = 0:=by
 unfold He.evt
 split
 ·rfl
 ·rfl
theorem tk1_form {s:Sp} (hps:∀ p ∈ s.ps,p.ph = 0 ∨ 2 ≤ p.lf):∀ k,k ≤ s.ps.length → tk1 s k = { s with ps:=tkTo s.ps k }:=by
 intro k
 induction k with
 | zero=>intro _; simp [tk1,tkTo]
 | succ k ih =>
   intro hk
   have hk':k < s.ps.length:=by omega
   have h1:=ih (by omega)
   have hlen:k < (tk1 s k).ps.length:=by rw [(tk1_fx s k).1]; exact hk'
   rw [tk1_next hk',folS_at hlen,tk1_at hk',tkp_ph (hps _ (List.getElem_mem hk')),evt_same,if_neg (by decide),if_neg (by decide)]
   rw [h1]
   have:=tkTo_next hk'
   unfold tkp at this
   rw [tkp_ph (hps _ (List.getElem_mem hk'))] at this
   simp only [this]
theorem tic_form {s:Sp} (ok:SpOk s) (hps:∀ p ∈ s.ps,p.ph = 0 ∨ 2 ≤ p.lf) (hag:∀ o h,s.db o = some h → h.x.a ≤ 3000) (hxa:s.x.a ≤ 1700) :
  tkE s = { s with tm:=s.tm + 1,ps:=s.ps.map tkp,db:=tickN 1 s.db,x:={ s.x with a:=s.x.a + 1 },fl:=Fd.tikN 1 s.fl }:=by
 have hA:tkA s = { s with tm:=s.tm + 1,ps:=s.ps.map tkp }:=by
  unfold tkA
  rw [tk1_form (s:={ s with tm:=s.tm + 1 }) hps _ (Nat.le_refl _)]
  unfold tkTo
  simp
 have hlos:losB s.ps s.ps.length = false:=by
  unfold losB
  rw [List.take_length,List.any_eq_false]
  intro p hp
  rw [tkp_ph (hps p hp),evt_same]
  decide
 have hB:tkB s = { s with tm:=s.tm + 1,ps:=s.ps.map tkp }:=by
  unfold tkB
  rw [hlos,hA]
  rfl
 have hL:tickL 1 s.db = []:=by
  unfold tickL
  rw [List.filter_eq_nil_iff]
  intro i hi
  unfold expH
  cases hN:s.db i.toNat with
  | none=>simp
  | some h =>
    have:=hag _ _ hN
    unfold tickH
    simp only
    rw [if_pos (by omega),if_pos (by omega)]
    simp
 have hC:tkC s = { s with tm:=s.tm + 1,ps:=s.ps.map tkp,db:=tickN 1 s.db }:=by
  unfold tkC
  rw [hB]
  simp only [hL]
  rfl
 have hx0:=ok.xa
 have hr:renews s.x 1 = false:=by
  unfold renews
  have:decide (1800 - s.x.a ≤ 1) = false:=by simp; omega
  rw [this]
  simp
 have hD:tkD s = { s with tm:=s.tm + 1,ps:=s.ps.map tkp,db:=tickN 1 s.db,x:={ s.x with a:=s.x.a + 1 } }:=by
  unfold tkD
  rw [hC]
  have hb:tickB s.x s.md 1 = false:=by unfold tickB; rw [hr]; simp
  have hx:tickX s.x s.md 1 = { s.x with a:=s.x.a + 1 }:=by
   unfold tickX
   rw [if_pos ⟨ok.xm,by decide⟩,hr]
   have:capA (s.x.a + 1) = s.x.a + 1:=by unfold capA; rw [if_pos (by omega)]
   rw [this]
   rfl
  simp only [hb,hx]
  rfl
 unfold tkE
 rw [hD]
theorem lv_tick {N:Db} (hag:∀ o h,N o = some h → h.x.a ≤ 3000) (o:Nat):lvD (tickN 1 N) o = lvD N o:=by
 unfold lvD tickN
 cases hN:N o with
 | none=>rfl
 | some h =>
   have:=hag _ _ hN
   simp only [tickH]
   rw [if_pos (by omega),if_pos (by omega)]
theorem tick_at {N:Db} (hag:∀ o h,N o = some h → h.x.a ≤ 3000) {o:Nat} {h':Hd} (e:tickN 1 N o = some h'):∃ h,N o = some h ∧ h'.x = { h.x with a:=h.x.a + 1 }:=by
 unfold tickN at e
 cases hN:N o with
 | none=>rw [hN] at e; cases e
 | some h =>
   rw [hN] at e
   have:=hag _ _ hN
   simp only [tickH] at e
   rw [if_pos (by omega),if_pos (by omega)] at e
   injection e with e
   exact ⟨h,rfl,by rw [← e]⟩
theorem PoSt.map {t:Tp} {i:Nat} {ps:List Po} (h:PoSt t i ps) {f:Po → Po} (h1:∀ p,(f p).l = p.l) (h2:∀ p,(f p).o = p.o) (h3:∀ p,(f p).c = p.c):PoSt t i (ps.map f):=by
 refine ⟨fun p hp=>?_,fun k x hx hi=>?_,?_⟩
 ·obtain ⟨q,hq,rfl⟩:=List.mem_map.1 hp
  rw [h1,h2,h3]
  exact h.mem q hq
 ·obtain ⟨p,hp,e⟩:=h.all k x hx hi
  exact ⟨f p,List.mem_map.2 ⟨p,hp,rfl⟩,by rw [h1]; exact e⟩
 ·rw [List.pairwise_map]
  exact h.inc.imp fun {a b} e=>by rw [h1,h1]; exact e
theorem adjS_map {ps:List Po} {f:Po → Po} (h1:∀ p ∈ ps,(f p).l = p.l ∧ (f p).o = p.o ∧ (f p).c = p.c ∧ (f p).ph = p.ph):adjS (ps.map f) = adjS ps:=by
 induction ps with
 | nil=>rfl
 | cons p r ih =>
   obtain ⟨a,b,c,d⟩:=h1 p (by simp)
   have:=ih fun q hq=>h1 q (List.mem_cons_of_mem _ hq)
   unfold adjS at this ⊢
   rw [List.map_cons,List.filterMap_cons,List.filterMap_cons,this,a,b,c,d]
theorem mod_next {H T:Int} (hH:1 ≤ H) (h:T % H ≠ 0):(T - 1) % H = T % H - 1:=by
 have h1:=Int.emod_nonneg T (show H ≠ 0 by omega)
 have h2:=Int.emod_lt_of_pos T (show 0 < H by omega)
 have h3:T - 1 = H * (T / H) + (T % H - 1):=by have:=Int.mul_ediv_add_emod T H; omega
 rw [h3,Int.mul_add_emod_self_left,Int.emod_eq_of_lt (by omega) (by omega)]
theorem post_lf {P:Par} (hP:ParOk P) {T:Int} {p:Po} (h:PostP P T p):p.ph = 0 ∨ 2 ≤ p.lf:=by
 obtain ⟨h1,h2,_⟩:=h
 unfold phT at h1
 unfold lfT at h2
 by_cases hT:T ≤ 0
 ·left; rw [if_pos hT] at h1; exact h1
 ·right
  rw [if_neg hT] at h2
  have:=Int.emod_lt_of_pos (T - 1) (show 0 < P.H by have:=hP.H; omega)
  have:=hP.D
  omega
theorem post_mid {P:Par} {T:Int} (hT0:0 ≤ T) {p:Po} (hp:p.ph = 0 ∨ 2 ≤ p.lf) (h:PostP P T p):MidP P (T + 1) (tkp p):=by
 obtain ⟨h1,h2,h3⟩:=h
 unfold tkp poSet
 rw [tkp_ph hp]
 have e:T + 1 - 1 = T:=by omega
 unfold MidP
 rw [e]
 refine ⟨h1,?_,?_⟩
 ·simp only [He.tkL]
  by_cases hT:T ≤ 0
  ·have h4:p.ph = 0:=by rw [h1]; unfold phT; exact if_pos hT
   rw [if_pos (.inr h4),if_pos (by omega),h2]
   unfold lfT
   exact if_pos hT
  ·have h4:p.ph ≠ 0:=by
    rw [h1]; unfold phT; rw [if_neg hT]; split <;> decide
   have h5:2 ≤ p.lf:=hp.resolve_left h4
   rw [if_neg (by omega),if_neg (by omega),if_neg (by omega),h2]
 ·simp only
  by_cases hT:T ≤ 0
  ·have h4:p.ph = 0:=by rw [h1]; unfold phT; exact if_pos hT
   rw [if_pos h4]
   unfold btT
   rw [if_pos hT]
  ·have h4:p.ph ≠ 0:=by
    rw [h1]; unfold phT; rw [if_neg hT]; split <;> decide
   rw [if_neg h4,h3]
theorem mid_post {P:Par} (hP:ParOk P) {T:Int} (hT0:0 ≤ T) (hm:T % P.H ≠ 0) {p:Po} (h:MidP P (T + 1) p):PostP P (T + 1) p:=by
 obtain ⟨h1,h2,h3⟩:=h
 have hH:=hP.H
 have e:T + 1 - 1 = T:=by omega
 rw [e] at h1 h2 h3
 have hT1:1 ≤ T:=by
  rcases Int.lt_or_le 0 T with h4 | h4
  ·omega
  ·have:T = 0:=by omega
   subst this
   simp at hm
 have hne:T ≠ P.H:=fun h4=>by rw [h4] at hm; simp at hm
 refine ⟨?_,?_,?_⟩
 ·rw [h1]
  unfold phT
  have a1:¬ T ≤ 0:=by omega
  have a2:¬ T + 1 ≤ 0:=by omega
  simp only [if_neg a1,if_neg a2]
  by_cases h4:T ≤ P.H
  ·rw [if_pos h4,if_pos (by omega)]
  ·rw [if_neg h4,if_neg (by omega)]
 ·rw [h2,if_neg (by omega)]
  unfold lfT
  rw [if_neg (by omega),if_neg (by omega),e,mod_next hH hm]
  omega
 ·rw [h3]
  unfold btT
  rw [if_neg (by omega),if_neg (by omega)]
noncomputable def tickS (S:Sps):Sps:=fun i=>(ticS (S i)).1
noncomputable def tickW (ls:List Lk) (n:Nat) (S:Sps):List Env:=(List.range n).flatMap fun i=>postE ls i (ticS (S i)).2
section
variable {P:Par} {n:Nat} {dead:Nat → Nat → Prop} {T:Int} {S:Sps} {way:List Env}
theorem Ivn.quiet (hP:ParOk P) (h:Ivn P n dead T S []) (hT0:0 ≤ T) (hT2:T ≤ 1700) {i:Nat} (hi:i < n) :
  (∀ p ∈ (S i).ps,p.ph = 0 ∨ 2 ≤ p.lf) ∧ (∀ o x,(S i).db o = some x → x.x.a ≤ 3000) ∧ (S i).x.a ≤ 1700:=by
 refine ⟨fun p hp=>?_,fun o x hx=>by have:=(h.gd i hi o x hx).a; omega,by have:=(h.xb i hi).2; omega⟩
 have hpo:=h.po i hi p hp
 by_cases hd:dead i p.l.toNat
 ·exact .inl (hpo.1 hd).1
 ·rcases hpo.2 hd with h1 | ⟨_,e2,h2,_⟩
  ·exact post_lf hP h1
  ·cases h2
theorem lnk_of {i:Nat} {s:Sp} (hP:TpOk P.t) (hn:P.t.n = n) (hs:Sta P i s) {p:Po} (hp:p ∈ s.ps):∃ j:Nat,j < n ∧ p.l = (p.l.toNat:Int) ∧ p.o = (j:Int) ∧ Lnk P.t i p.l.toNat j:=by
 obtain ⟨h0,x,hx,h1⟩:=hs.po.mem p hp
 have hk:=lk_ok hP hx
 have ha:=hk.a
 have hb:=hk.b
 obtain ⟨j,hj⟩:=Int.eq_ofNat_of_zero_le (show 0 ≤ p.o by omega)
 exact ⟨j,by omega,by omega,hj,x,hx,by omega⟩
theorem tickS_at {s:Sp} (ok:SpOk s) (h1:∀ p ∈ s.ps,p.ph = 0 ∨ 2 ≤ p.lf) (h2:∀ o x,s.db o = some x → x.x.a ≤ 3000) (h3:s.x.a ≤ 1700) :
  (ticS s).1 = { s with tm:=s.tm + 1,ps:=s.ps.map tkp,db:=tickN 1 s.db,x:={ s.x with a:=s.x.a + 1 },fl:=Fd.polN s.h3 (Fd.tikN 1 s.fl) } ∧
  (ticS s).2 = (if s.tm % s.h1 = 0 then (s.ps.map tkp).map fun p=>(p.l,(⟨1,s.nd,s.bo,p.bt,laZero⟩:Ms)) else []) ++ (Fd.sndK (Fd.tikN 1 s.fl) (Fd.lks (Fd.tikN 1 s.fl))).map fun qx=>(qx.1,⟨2,0,s.bo,0,qx.2⟩):=by
 unfold ticS
 rw [tic_form ok h1 h2 h3]
 refine ⟨rfl,?_⟩
 unfold helM updM
 simp only [show s.tm + 1 - 1 = s.tm by omega]
theorem tik_at {F:Fd.Fn} {k:Nat} {D':Fd.Db} (h:Fd.tikN 1 F k = some D'):∃ D,F k = some D ∧ D' = Fd.tikD 1 D:=by
 unfold Fd.tikN at h
 cases hF:F k with
 | none=>rw [hF] at h; cases h
 | some D=>rw [hF] at h; injection h with h; exact ⟨D,rfl,h.symm⟩
theorem tikD_at {D:Fd.Db} {o:Nat} {h':Fd.Hd} (h:Fd.tikD 1 D o = some h'):∃ x,D o = some x ∧ h'.x = x.x ∧ h'.l = x.l - min 1 x.l:=by
 unfold Fd.tikD at h
 cases hD:D o with
 | none=>rw [hD] at h; cases h
 | some x=>rw [hD] at h; injection h with h; subst h; exact ⟨x,rfl,rfl,rfl⟩
theorem pol_at {F:Fd.Fn} {R:Int} {k:Nat} {D':Fd.Db} (h:Fd.polN R F k = some D'):∃ D,F k = some D ∧ D' = Fd.polD R D:=by
 unfold Fd.polN at h
 cases hF:F k with
 | none=>rw [hF] at h; cases h
 | some D=>rw [hF] at h; injection h with h; exact ⟨D,rfl,h.symm⟩
theorem polD_at {R:Int} {D:Fd.Db} {o:Nat} {h':Fd.Hd} (h:Fd.polD R D o = some h'):∃ x,D o = some x ∧ h'.x = x.x:=by
 unfold Fd.polD at h
 cases hD:D o with
 | none=>rw [hD] at h; cases h
 | some x =>
   rw [hD] at h
   injection h with h
   subst h
   refine ⟨x,rfl,?_⟩
   unfold Fd.polH
   split <;> rfl
theorem Ivn.tick (hP:ParOk P) (hn:P.t.n = n) (hsy:∀ i k j,Lnk P.t i k j → dead i k → dead j k) (h:Ivn P n dead T S []) (hT0:0 ≤ T) (hT2:T ≤ 1700) :
  Ivn P n dead (T + 1) (tickS S) (tickW P.t.ln n S) ∧ Rsn P n dead S (tickS S) (tickW P.t.ln n S) ∧
   (∀ i,i < n → (tickS S i).x = { (S i).x with a:=(S i).x.a + 1 }) ∧ (∀ i,i < n → ∀ k,(tickS S i).fl k = none ↔ (S i).fl k = none):=by
 have hq:=fun i hi=>h.quiet hP hT0 hT2 (i:=i) hi
 have hf:=fun i hi=>tickS_at (h.st i hi).ok (hq i hi).1 (hq i hi).2.1 (hq i hi).2.2
 have hS:∀ i,i < n → tickS S i = { S i with tm:=(S i).tm + 1,ps:=(S i).ps.map tkp,db:=tickN 1 (S i).db,x:={ (S i).x with a:=(S i).x.a + 1 },fl:=Fd.polN (S i).h3 (Fd.tikN 1 (S i).fl) }:=fun i hi=>(hf i hi).1
 have hW:∀ i,i < n → ∀ x ∈ (ticS (S i)).2,∀ j k,Lnk P.t i k j → x.1 = (k:Int) → (⟨j,k,x.2⟩:Env) ∈ tickW P.t.ln n S:=fun i hi x hx j k hl hk=>by
  unfold tickW
  rw [List.mem_flatMap]
  refine ⟨i,List.mem_range.2 hi,List.mem_map.2 ⟨x,hx,?_⟩⟩
  have:=oth_lnk hl.symm
  rw [hk,Int.toNat_natCast,this,Int.toNat_natCast]
 have hpo0:∀ i,i < n → ∀ p ∈ (S i).ps,¬ dead i p.l.toNat → PostP P T p:=fun i hi p hp hd=>by
  rcases (h.po i hi p hp).2 hd with h1 | ⟨_,e2,h2,_⟩
  ·exact h1
  ·cases h2
 have hlk:∀ i,i < n → ∀ o,lvD (tickS S i).db o = lvD (S i).db o:=fun i hi o=>by rw [hS i hi]; exact lv_tick (hq i hi).2.1 o
 have hgood:∀ y,Good S n T y → Good (tickS S) n (T + 1) y:=fun y hy=>by
  refine ⟨hy.v,hy.o,by have:=hy.a; omega,hy.p,?_,fun e=>?_⟩
  ·rw [hS _ hy.o]; exact hy.s
  ·rw [hS _ hy.o] at e ⊢
   have:=hy.c e
   exact ⟨this.o,this.s,this.ov,this.adj,this.pre⟩
 have hgoodA:∀ y:La,Good S n T y → LaValid { y with a:=y.a + 1 } → Good (tickS S) n (T + 1) { y with a:=y.a + 1 }:=fun y hy hv=>by
  have ho:=hy.o
  refine ⟨hv,hy.o,by have:=hy.a; simp only; omega,hy.p,?_,fun e=>?_⟩
  ·simp only; rw [hS _ ho]; exact hy.s
  ·simp only at e ⊢
   rw [hS _ ho] at e ⊢
   have:=hy.c e
   exact ⟨this.o,this.s,this.ov,this.adj,this.pre⟩
 -- a neighbour that is up
 have hup:∀ i,i < n → ∀ (l:Nat) D,(S i).fl l = some D → ∃ j,j < n ∧ Lnk P.t i l j ∧ ¬ dead i l ∧ P.H + 1 ≤ T:=fun i hi l D hD=>by
  obtain ⟨p,hp,hl,hph⟩:=((h.st i hi).ok.up l).1 (by rw [hD]; rfl)
  obtain ⟨j,hj,h1,_,hlnk⟩:=lnk_of hP.t hn (h.st i hi) hp
  rw [hl,Int.toNat_natCast] at hlnk
  have hnd:¬ dead i l:=fun hd=>by
   have:=(h.po i hi p hp).1 (by rw [hl,Int.toNat_natCast]; exact hd)
   rw [this.1] at hph
   cases hph
  refine ⟨j,hj,hlnk,hnd,?_⟩
  have:=(hpo0 i hi p hp (by rw [hl,Int.toNat_natCast]; exact hnd)).1
  rw [hph] at this
  unfold phT at this
  split at this
  ·cases this
  ·split at this
   ·cases this
   ·omega
 -- what is due is sent
 have hsent:∀ i j k D o x,i < n → Lnk P.t i k j → (S i).fl k = some D → D o = some x → x.l ≤ 0 → ∃ e ∈ tickW P.t.ln n S,e.t = j ∧ e.l = k ∧ e.m.k = 2 ∧ e.m.y.o.toNat = o ∧ e.m.y = x.x:=fun i j k D o x hi hl hD hx hl0=>by
  have hfn:=(h.st i hi).ok.fl k D o x hD hx
  refine ⟨⟨j,k,⟨2,0,(S i).bo,0,x.x⟩⟩,hW i hi ((k:Int),⟨2,0,(S i).bo,0,x.x⟩) ?_ j k hl rfl,rfl,rfl,rfl,by have:=hfn.2.1; simp only; omega,rfl⟩
  rw [(hf i hi).2]
  refine List.mem_append_right _ (List.mem_map.2 ⟨((k:Int),x.x),?_,rfl⟩)
  rw [snd_mem8]
  refine ⟨k,o,Fd.tikD 1 D,Fd.tikH 1 x,rfl,hl.k hP.t,?_,?_,?_,?_,rfl⟩
  ·unfold Fd.tikN; rw [hD]; rfl
  ·have:=hfn.1.1; have:=hfn.2.1; omega
  ·unfold Fd.tikD; rw [hx]; rfl
  ·unfold Fd.tikH; simp only; omega
 refine ⟨⟨fun i hi=>?_,fun i hi=>?_,fun i hi=>?_,fun i hi=>?_,fun i hi o y hy=>?_,fun i hi k D o y hD hy=>?_,fun e he=>?_,fun i hi p hp=>?_,fun i k j D hi hj hl hD hd1 hd2 o=>?_⟩,fun i k j hi hj hl hd1 hd2 hfl o=>?_,fun i hi=>by rw [hS i hi],fun i hi k=>?_⟩
 ·have hs:=h.st i hi
  have hok:SpOk (tickS S i):=hs.ok.tic
  have hpm:∀ p ∈ (S i).ps,(tkp p).l = p.l ∧ (tkp p).o = p.o ∧ (tkp p).c = p.c ∧ (tkp p).ph = p.ph:=fun p hp=>⟨rfl,rfl,rfl,tkp_ph ((hq i hi).1 p hp)⟩
  rw [hS i hi] at hok ⊢
  exact ⟨hok,hs.tp,hs.nd,hs.bo,hs.h1,hs.h2,hs.h3,hs.pre,hs.ov,hs.po.map (fun _=>rfl) (fun _=>rfl) (fun _=>rfl),hs.xc.1,by
   show (S i).x.adj = adjS ((S i).ps.map tkp)
   rw [adjS_map hpm]; exact hs.xc.2.1,hs.xc.2.2⟩
 ·rw [hS i hi]
  show (S i).tm + 1 = T + 1
  rw [h.tm i hi]
 ·rw [hS i hi]
  have:=h.xb i hi
  exact ⟨this.1,by simp only; omega⟩
 ·rw [hlk i hi,hS i hi]
  exact h.ow i hi
 ·have hok:SpOk (tickS S i):=(h.st i hi).ok.tic
  have hv:=(hok.db o y hy).1
  rw [hS i hi] at hy
  obtain ⟨z,hz,he⟩:=tick_at (hq i hi).2.1 hy
  rw [he] at hv ⊢
  exact hgoodA z.x (h.gd i hi o z hz) hv
 ·rw [hlk i hi]
  rw [hS i hi] at hD
  obtain ⟨D1,h1,rfl⟩:=pol_at hD
  obtain ⟨D0,h2,rfl⟩:=tik_at h1
  obtain ⟨y1,h3,h4⟩:=polD_at hy
  obtain ⟨y0,h5,h6,_⟩:=tikD_at h3
  rw [h4,h6]
  have:=h.gf i hi k D0 o y0 h2 h5
  exact ⟨hgood _ this.1,this.2⟩
 ·unfold tickW at he
  rw [List.mem_flatMap] at he
  obtain ⟨i,hi,he⟩:=he
  rw [List.mem_range] at hi
  obtain ⟨x,hx,rfl⟩:=List.mem_map.1 he
  have hs:=h.st i hi
  rw [(hf i hi).2] at hx
  rcases List.mem_append.1 hx with hx | hx
  ·split at hx
   ·next hm =>
    obtain ⟨p',hp',rfl⟩:=List.mem_map.1 hx
    obtain ⟨p,hp,rfl⟩:=List.mem_map.1 hp'
    obtain ⟨j,hj,h1,h2,hl⟩:=lnk_of hP.t hn hs hp
    have hoth:=oth_lnk hl.symm
    have hpl:(tkp p).l = p.l:=rfl
    simp only [hpl,hoth,Int.toNat_natCast]
    by_cases hd:dead i p.l.toNat
    ·exact .inl (hsy _ _ _ hl hd)
    ·refine .inr ⟨hj,i,hi,hl,hs.bo,.inl ⟨rfl,hs.nd,?_,?_,rfl⟩⟩
     ·have:=(post_mid hT0 ((hq i hi).1 p hp) (hpo0 i hi p hp hd)).2.2
      exact this
     ·rw [h.tm i hi,hs.h1] at hm
      rw [show T + 1 - 1 = T by omega]
      exact hm
   ·cases hx
  ·obtain ⟨⟨q,y⟩,hqy,rfl⟩:=List.mem_map.1 hx
   obtain ⟨l,o,D1,z,rfl,hl,hD,ho,hz,_,rfl⟩:=snd_mem8.1 hqy
   obtain ⟨D0,h2,rfl⟩:=tik_at hD
   obtain ⟨z0,h5,h6,_⟩:=tikD_at hz
   obtain ⟨j,hj,hlnk,hnd,hT⟩:=hup i hi l D0 h2
   have hoth:=oth_lnk hlnk.symm
   have hfn:=hs.ok.fl l D0 o z0 h2 h5
   have hgf:=h.gf i hi l D0 o z0 h2 h5
   simp only [Int.toNat_natCast,hoth]
   right
   refine ⟨hj,i,hi,hlnk,hs.bo,.inr ⟨.inl rfl,rfl,rfl,by omega,?_,?_⟩⟩
   ·simp only [h6]; exact hgood _ hgf.1
   ·simp only [h6]
    rw [hlk i hi,show z0.x.o.toNat = o by have:=hfn.2.1; omega]
    exact hgf.2
 ·rw [hS i hi] at hp
  obtain ⟨p0,hp0,rfl⟩:=List.mem_map.1 hp
  have hpl:(tkp p0).l = p0.l:=rfl
  rw [hpl]
  refine ⟨fun hd=>?_,fun hd=>?_⟩
  ·obtain ⟨h1,h2,h3⟩:=(h.po i hi p0 hp0).1 hd
   unfold tkp poSet He.tkP He.tkL
   rw [h1,h2,h3]
   exact ⟨rfl,rfl,rfl⟩
  ·have hmid:=post_mid hT0 ((hq i hi).1 p0 hp0) (hpo0 i hi p0 hp0 hd)
   by_cases hm:T % P.H = 0
   ·right
    refine ⟨hmid,?_⟩
    obtain ⟨j,hj,h1,h2,hl⟩:=lnk_of hP.t hn (h.st i hi) hp0
    have hsj:=h.st j hj
    obtain ⟨y,hy,hab⟩:=hl.symm
    obtain ⟨pj,hpj,hlj⟩:=hsj.po.all _ y hy (by omega)
    have hmem:(pj.l,(⟨1,(S j).nd,(S j).bo,(tkp pj).bt,laZero⟩:Ms)) ∈ (ticS (S j)).2:=by
     rw [(hf j hj).2]
     refine List.mem_append_left _ ?_
     rw [if_pos (by rw [h.tm j hj,hsj.h1]; exact hm)]
     exact List.mem_map.2 ⟨tkp pj,List.mem_map.2 ⟨pj,hpj,rfl⟩,rfl⟩
    exact ⟨_,hW j hj _ hmem i p0.l.toNat hl.symm (by simp only; exact hlj),rfl,rfl,rfl⟩
   ·exact .inl (mid_post hP hT0 hm hmid)
 ·rw [hlk i hi,hlk j hj]
  rw [hS i hi] at hD
  obtain ⟨D1,h1,rfl⟩:=pol_at hD
  obtain ⟨D0,h2,rfl⟩:=tik_at h1
  rcases h.q i k j D0 hi hj hl h2 hd1 hd2 o with h3 | ⟨x,h3,h4,h5⟩ | ⟨e2,h3,_⟩
  ·exact .inl h3
  ·obtain ⟨e,he,a1,a2,a3,a4,a5⟩:=hsent i j k D0 o x hi hl h2 h3 h4
   exact .inr (.inr ⟨e,he,a1,a2,a3,a4,by rw [a5]; exact h5⟩)
  ·cases h3
 ·rw [hlk j hj]
  obtain ⟨D0,h2⟩:=Option.ne_none_iff_exists'.1 hfl
  rcases h.q i k j D0 hi hj hl h2 hd1 hd2 o with h3 | ⟨x,h3,h4,h5⟩ | ⟨e2,h3,_⟩
  ·exact .inl h3
  ·obtain ⟨e,he,a1,a2,a3,a4,a5⟩:=hsent i j k D0 o x hi hl h2 h3 h4
   exact .inr ⟨e,he,a1,a2,a3,a4,by rw [a5]; exact h5⟩
  ·cases h3
 ·rw [hS i hi]
  show Fd.polN _ (Fd.tikN 1 (S i).fl) k = none ↔ _
  unfold Fd.polN Fd.tikN
  simp
end
end Go.Proofs.YtehimhbgakpenaaGreat

namespace Go.Proofs.YtehimhbgakpenaaGreat
set_option linter.unusedVariables false
open Go.RowKit Go.Maps Go.Sort
theorem nodup_le:∀ (n:Nat) (L:List Nat),L.Nodup → (∀ x ∈ L,x < n) → L.length ≤ n
 | 0,L,_,h=>by
   cases L with
   | nil=>simp
   | cons a L=>have:=h a (by simp); omega
 | n + 1,L,hn,h=>by
   by_cases hm:n ∈ L
   ·have h1:=nodup_le n (L.erase n) (hn.erase n) fun x hx=>by
     have:=(hn.mem_erase_iff).1 hx
     have:=h x this.2
     omega
    rw [List.length_erase_of_mem hm] at h1
    omega
   ·have h1:=nodup_le n L hn fun x hx=>by
     have:=h x hx
     have:x ≠ n:=fun e=>hm (e ▸ hx)
     omega
    omega
theorem all_le:∀ (n:Nat) (L:List Nat),(∀ j,j < n → j ∈ L) → n ≤ L.length
 | 0,L,_=>by omega
 | n + 1,L,h=>by
   have hm:=h n (by omega)
   have h1:=all_le n (L.erase n) fun j hj=>(List.mem_erase_of_ne (by omega)).2 (h j (by omega))
   rw [List.length_erase_of_mem hm] at h1
   have:=List.length_pos_of_mem hm
   omega
theorem nodup_all {n:Nat} {L:List Nat} (hn:L.Nodup) (h:∀ x ∈ L,x < n) (hl:n ≤ L.length) {j:Nat} (hj:j < n):j ∈ L:=by
 by_cases hm:j ∈ L
 ·exact hm
 ·have:=nodup_le n (j :: L) (List.nodup_cons.2 ⟨hm,hn⟩) fun x hx=>by
   rcases List.mem_cons.1 hx with rfl | h1
   ·exact hj
   ·exact h x h1
  rw [List.length_cons] at this
  omega
def muE (e:Env):Nat:=if e.m.k = 2 then 2 else 1
def mu:List Env → Nat
 | []=>0
 | e :: l=>muE e + mu l
theorem mu_app (a b:List Env):mu (a ++ b) = mu a + mu b:=by
 induction a with
 | nil=>simp [mu]
 | cons e a ih=>simp only [List.cons_append,mu,ih]; omega
section
variable {P:Par} {n:Nat} {dead:Nat → Nat → Prop} {T:Int} {S0 S:Sps} {e:Env} {way:List Env}
theorem mu_dlv {s':Sp} {out:List (Int × Ms)} (h:DlvOk P n dead T S e way s' out):mu (way ++ postE P.t.ln e.t out) + 1 ≤ mu (e :: way):=by
 rw [mu_app]
 have h1:mu (postE P.t.ln e.t out) + 1 ≤ muE e:=by
  have h2:=h.ct
  unfold muE
  by_cases hk:e.m.k = 2
  ·rw [if_pos hk] at h2 ⊢
   match out,h2,h.ok with
   | [],_,_=>simp [postE,mu]
   | [x],_,ok =>
     have:=(ok x (by simp)).2
     simp [postE,mu,muE,this]
   | _ :: _ :: _,h2,_=>simp at h2
  ·rw [if_neg hk] at h2 ⊢
   have:out = []:=List.eq_nil_of_length_eq_zero (by omega)
   subst this
   simp [postE,mu]
 simp only [mu]
 omega
structure Rnd (P:Par) (n:Nat) (dead:Nat → Nat → Prop) (T:Int) (S0 S:Sps) (way:List Env):Prop where
 iv:Ivn P n dead T S way
 rs:Rsn P n dead S0 S way
 fx:P.H + 2 ≤ T → ∀ i,i < n → (S i).x.s = (S0 i).x.s
 lm:∀ i,i < n → ∀ o,lvD (S0 i).db o ≤ lvD (S i).db o
theorem Rnd.dlv (h:Rnd P n dead T S0 S (e :: way)) {s':Sp} {out:List (Int × Ms)} (hd:DlvOk P n dead T S e way s' out):Rnd P n dead T S0 (updP S e.t s') (way ++ postE P.t.ln e.t out):=by
 refine ⟨hd.iv,h.rs.step rfl s' _ hd.lm hd.cn,fun hT i hi=>?_,fun i hi o=>?_⟩
 ·by_cases e1:i = e.t
  ·rw [e1,updP_at,hd.fx hT,← e1]; exact h.fx hT i hi
  ·rw [updP_ne _ _ e1]; exact h.fx hT i hi
 ·by_cases e1:i = e.t
  ·rw [e1,updP_at]; rw [e1] at hi; exact Int.le_trans (h.lm _ hi o) (hd.lm o)
  ·rw [updP_ne _ _ e1]; exact h.lm i hi o
theorem Rnd.drop (h:Rnd P n dead T S0 S (e :: way)) (hd:dead e.t e.l):Rnd P n dead T S0 S way:=⟨h.iv.drop hd,h.rs.drop hd,h.fx,h.lm⟩
theorem Rnd.start (hP:ParOk P) (hn:P.t.n = n) (hsy:∀ i k j,Lnk P.t i k j → dead i k → dead j k) (h:Ivn P n dead T S []) (hT0:0 ≤ T) (hT2:T ≤ 1700):Rnd P n dead (T + 1) S (tickS S) (tickW P.t.ln n S):=by
 obtain ⟨h1,h2,h3,_⟩:=h.tick hP hn hsy hT0 hT2
 refine ⟨h1,h2,fun _ i hi=>by rw [h3 i hi],fun i hi o=>?_⟩
 have hq:=h.quiet hP hT0 hT2 hi
 show _ ≤ lvD ((ticS (S i)).1).db o
 rw [(tickS_at (h.st i hi).ok hq.1 hq.2.1 hq.2.2).1]
 show _ ≤ lvD (tickN 1 (S i).db) o
 rw [lv_tick hq.2.1]
 exact Int.le_refl _
def ConnP (P:Par) (n:Nat) (dead:Nat → Nat → Prop):Prop :=
 ∀ Q:Nat → Prop,(∀ i k j,i < n → j < n → Lnk P.t i k j → ¬ dead i k → ¬ dead j k → Q i → Q j) → ∀ i j,i < n → j < n → Q i → Q j
def Cvg (n:Nat) (T0 T:Int) (S:Sps):Prop :=
 ∀ o,o < n → ∃ L:List Nat,L.Nodup ∧ (∀ i ∈ L,i < n ∧ lvD (S i).db o = (S o).x.s) ∧ min n (T - T0 + 1).toNat ≤ L.length
theorem Ivn.lv_le (h:Ivn P n dead T S way) {j o:Nat} (hj:j < n) (ho:o < n):lvD (S j).db o ≤ (S o).x.s:=by
 cases hN:(S j).db o with
 | none=>unfold lvD; rw [hN]; have:=(h.st o ho).ok.xs; simp only; omega
 | some x =>
   rw [lv_some hN]
   have g:=h.gd j hj o x hN
   have:=((h.st j hj).ok.db _ _ hN).2.1
   have h3:=g.s
   rwa [show x.x.o.toNat = o by omega] at h3
structure RunOk (P:Par) (n:Nat) (dead:Nat → Nat → Prop) (T0 T:Int) (S:Sps):Prop where
 iv:Ivn P n dead T S []
 cv:T0 ≤ T → Cvg n T0 T S
theorem cvg_start (h:Ivn P n dead T S []):Cvg n T T S:=fun o ho=>⟨[o],by simp,fun i hi=>by
 rw [List.mem_singleton] at hi; subst hi; exact ⟨ho,h.ow _ ho⟩,by simp; omega⟩
theorem RunOk.next (hP:ParOk P) (hc:ConnP P n dead) {T0:Int} (hT0:P.H + 1 ≤ T0) (h:RunOk P n dead T0 T S0) (hr:Rnd P n dead (T + 1) S0 S []):RunOk P n dead T0 (T + 1) S:=by
 refine ⟨hr.iv,fun hT=>?_⟩
 rcases Int.lt_or_le T T0 with h1 | h1
 ·have e:T0 = T + 1:=by omega
  subst e
  exact cvg_start hr.iv
 ·intro o ho
  obtain ⟨L,hL1,hL2,hL3⟩:=h.cv h1 o ho
  have hfx:=hr.fx (by omega)
  have hkeep:∀ i ∈ L,i < n ∧ lvD (S i).db o = (S o).x.s:=fun i hi=>by
   obtain ⟨h2,h3⟩:=hL2 i hi
   refine ⟨h2,?_⟩
   have h4:=hr.lm i h2 o
   have h5:=hr.iv.lv_le h2 ho
   rw [h3,← hfx o ho] at h4
   omega
  by_cases hfull:n ≤ L.length
  ·exact ⟨L,hL1,hkeep,by omega⟩
  ·have hcross:∃ i k j,i ∈ L ∧ j < n ∧ j ∉ L ∧ Lnk P.t i k j ∧ ¬ dead i k ∧ ¬ dead j k:=by
    apply Classical.byContradiction
    intro hno
    have hcl:∀ i k j,i < n → j < n → Lnk P.t i k j → ¬ dead i k → ¬ dead j k → i ∈ L → j ∈ L:=fun i k j hi hj hl hd1 hd2 hiL=>by
     apply Classical.byContradiction
     intro hjL
     exact hno ⟨i,k,j,hiL,hj,hjL,hl,hd1,hd2⟩
    have hne:∃ i,i ∈ L:=by
     cases L with
     | nil=>simp at hL3; omega
     | cons a L=>exact ⟨a,by simp⟩
    obtain ⟨i,hi⟩:=hne
    have hall:=all_le n L fun j hj=>hc (fun x=>x ∈ L) hcl i j (hL2 i hi).1 hj hi
    omega
   obtain ⟨i,k,j,hiL,hj,hjL,hl,hd1,hd2⟩:=hcross
   obtain ⟨hi,hlv⟩:=hL2 i hiL
   have hfl:(S0 i).fl k ≠ none:=by
    obtain ⟨x,hx,_,hxl,_⟩:=h.iv.port hP.t hi hl.symm
    have hpo:=(h.iv.po i hi _ (List.getElem_mem hx)).2 (by rw [hxl,Int.toNat_natCast]; exact hd1)
    have hph:(S0 i).ps[x].ph = 2:=by
     rcases hpo with h2 | ⟨_,e2,h2,_⟩
     ·exact post_up hP (by omega) h2
     ·cases h2
    have:=((h.iv.st i hi).ok.up k).2 ⟨_,List.getElem_mem hx,hxl,hph⟩
    intro e2
    rw [e2] at this
    cases this
   have hlj:lvD (S j).db o = (S o).x.s:=by
    rcases hr.rs i k j hi hj hl hd1 hd2 hfl o with h2 | ⟨e2,h2,_⟩
    ·have h5:=hr.iv.lv_le hj ho
     rw [hlv,← hfx o ho] at h2
     omega
    ·cases h2
   refine ⟨j :: L,List.nodup_cons.2 ⟨hjL,hL1⟩,fun y hy=>?_,?_⟩
   ·rcases List.mem_cons.1 hy with rfl | h2
    ·exact ⟨hj,hlj⟩
    ·exact hkeep y h2
   ·rw [List.length_cons]; omega
def Conv (n:Nat) (S:Sps):Prop:=∀ i o,i < n → o < n → ∃ h,(S i).db o = some h ∧ Con h.x (S o).x
theorem RunOk.fin {T0:Int} (h:RunOk P n dead T0 T S) (hT:T0 + n ≤ T + 1) (hn:1 ≤ n):Conv n S:=fun i o hi ho=>by
 obtain ⟨L,hL1,hL2,hL3⟩:=h.cv (by omega) o ho
 have hm:=nodup_all hL1 (fun x hx=>(hL2 x hx).1) (by omega) hi
 have hlv:=(hL2 i hm).2
 cases hN:(S i).db o with
 | none =>
   unfold lvD at hlv
   rw [hN] at hlv
   have:=(h.iv.st o ho).ok.xv.2.1
   simp only at hlv
   omega
 | some x =>
   rw [lv_some hN] at hlv
   have g:=h.iv.gd i hi o x hN
   have ho2:=((h.iv.st i hi).ok.db _ _ hN).2.1
   have hc:=g.c
   rw [show x.x.o.toNat = o by omega] at hc
   exact ⟨x,rfl,hc hlv⟩
theorem filter_len {N c:Nat} {p:Nat → Bool} (h:∀ k,k < N → p k = true → k < c):((List.range N).filter p).length ≤ c :=
 nodup_le c _ (List.nodup_range.filter _) fun x hx=>by
  rw [List.mem_filter,List.mem_range] at hx
  exact h x hx.1 hx.2
theorem sndK_len {F:Fd.Fn} {c m:Nat} (h1:∀ k D,F k = some D → k < c) (h2:∀ k D o x,F k = some D → D o = some x → o < m):(Fd.sndK F (Fd.lks F)).length ≤ c * m:=by
 have hl:(Fd.lks F).length ≤ c:=by
  unfold Fd.lks
  rw [List.filter_map,List.length_map]
  refine filter_len fun k hk hp=>?_
  simp only [Function.comp_apply,Int.toNat_natCast] at hp
  obtain ⟨D,hD⟩:=Option.isSome_iff_exists.1 hp
  exact h1 k D hD
 have key:∀ l:List Int,(l.flatMap fun q=>match F q.toNat with | some D=>Fd.sndJ q D (Fd.orgs D) | none=>[]).length ≤ l.length * m:=fun l=>by
  induction l with
  | nil=>simp
  | cons q l ih =>
    rw [List.flatMap_cons,List.length_append,List.length_cons,Nat.add_mul,Nat.one_mul]
    have:(match F q.toNat with | some D=>Fd.sndJ q D (Fd.orgs D) | none=>[]).length ≤ m:=by
     split
     ·next D hD =>
      unfold Fd.sndJ
      refine Nat.le_trans (List.length_filterMap_le _ _) ?_
      unfold Fd.orgs
      rw [List.filter_map,List.length_map]
      refine filter_len fun k hk hp=>?_
      simp only [Function.comp_apply,Int.toNat_natCast] at hp
      obtain ⟨x,hx⟩:=Option.isSome_iff_exists.1 hp
      exact h2 _ D k x hD hx
     ·simp
    omega
 exact Nat.le_trans (key _) (Nat.mul_le_mul_right m hl)
theorem po_len {t:Tp} {i:Nat} {ps:List Po} (h:PoSt t i ps):ps.length ≤ t.ln.length:=by
 have:=nodup_le t.ln.length (ps.map fun p=>p.l.toNat) (by
  unfold List.Nodup
  rw [List.pairwise_map]
  refine List.Pairwise.imp_of_mem (fun {a b} ha hb hab=>?_) h.inc
  have h1:=(h.mem a ha).1
  have h2:=(h.mem b hb).1
  omega) (fun x hx=>by
  obtain ⟨p,hp,rfl⟩:=List.mem_map.1 hx
  obtain ⟨_,y,hy,_⟩:=h.mem p hp
  exact (List.getElem?_eq_some_iff.1 hy).1)
 rwa [List.length_map] at this
theorem mu_le:∀ l:List Env,mu l ≤ 2 * l.length
 | []=>by simp [mu]
 | e :: l=>by
   have:=mu_le l
   have:muE e ≤ 2:=by unfold muE; split <;> omega
   simp only [mu,List.length_cons]
   omega
theorem Ivn.count (hP:ParOk P) (hn:P.t.n = n) (h:Ivn P n dead T S []) (hT0:0 ≤ T) (hT2:T ≤ 1700):(tickW P.t.ln n S).length ≤ n * (P.t.ln.length + P.t.ln.length * n):=by
 have key:∀ m,m ≤ n → ((List.range m).flatMap fun i=>postE P.t.ln i (ticS (S i)).2).length ≤ m * (P.t.ln.length + P.t.ln.length * n):=fun m=>by
  induction m with
  | zero=>intro _; simp
  | succ m ih =>
    intro hm
    have hi:m < n:=by omega
    have hs:=h.st m hi
    have hq:=h.quiet hP hT0 hT2 hi
    rw [List.range_succ,List.flatMap_append,List.length_append,Nat.add_mul,Nat.one_mul]
    have h1:=ih (by omega)
    have h2:([m].flatMap fun i=>postE P.t.ln i (ticS (S i)).2).length ≤ P.t.ln.length + P.t.ln.length * n:=by
     simp only [List.flatMap_cons,List.flatMap_nil,List.append_nil]
     unfold postE
     rw [List.length_map,(tickS_at hs.ok hq.1 hq.2.1 hq.2.2).2,List.length_append]
     have h3:=po_len hs.po
     have h4:(Fd.sndK (Fd.tikN 1 (S m).fl) (Fd.lks (Fd.tikN 1 (S m).fl))).length ≤ P.t.ln.length * n:=by
      refine sndK_len (fun k D hD=>?_) (fun k D o x hD hx=>?_)
      ·obtain ⟨D0,h5,_⟩:=tik_at hD
       obtain ⟨p,hp,hl,_⟩:=(hs.ok.up k).1 (by rw [h5]; rfl)
       obtain ⟨_,y,hy,_⟩:=hs.po.mem p hp
       rw [hl,Int.toNat_natCast] at hy
       exact (List.getElem?_eq_some_iff.1 hy).1
      ·obtain ⟨D0,h5,rfl⟩:=tik_at hD
       obtain ⟨x0,h6,_,_⟩:=tikD_at hx
       have h7:=(h.gf m hi k D0 o x0 h5 h6).1.o
       have h8:=(hs.ok.fl k D0 o x0 h5 h6).2.1
       omega
     rw [List.length_map]
     have h9:(if (S m).tm % (S m).h1 = 0 then ((S m).ps.map tkp).map fun p=>(p.l,(⟨1,(S m).nd,(S m).bo,p.bt,laZero⟩:Ms)) else []).length ≤ P.t.ln.length:=by
      split
      ·simpa using h3
      ·simp
     omega
    omega
 exact key n (Nat.le_refl _)
end
end Go.Proofs.YtehimhbgakpenaaGreat
