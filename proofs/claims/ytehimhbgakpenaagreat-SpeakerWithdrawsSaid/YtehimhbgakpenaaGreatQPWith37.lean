/-
  The texts SpA, SpB, one after the other.
-/
import Derived.Test.YtehimhbgakpenaaGreatQPWith24
import Derived.Test.YtehimhbgakpenaaGreatQPWith34
import Derived.Test.YtehimhbgakpenaaGreatQPWith22
import Derived.Test.YtehimhbgakpenaaGreatQPWith36
import Derived.Test.YtehimhbgakpenaaGreatQPWith7
namespace Go.Proofs.YtehimhbgakpenaaGreat
set_option linter.unusedVariables false
open Go.RowKit Go.Maps Go.Sort
def IsMp (w:World) (k:Nat):Prop:=∃ es ck,w.heap[k]? = some (.map es ck)
def MutT (T:TypeId):Prop:=T = 109 ∨ T = 118 ∨ T = 166
def MutK (w:World) (k:Nat):Prop:=IsMp w k ∨ ∃ T,MutT T ∧ Ty w k T
structure Eff (E:Nat → Prop) (w w':World):Prop where
 os:w'.os = w.os
 tape:w'.tape = w.tape
 output:w'.output = w.output
 size:w.heap.size ≤ w'.heap.size
 block:∀ k,k < w.heap.size → w'.heap[k]? = w.heap[k]? ∨ (E k ∧ MutK w k)
 ty:TyPres w w'
 mp:∀ k,IsMp w k → IsMp w' k
theorem ty_lt {w:World} {k:Nat} {T:TypeId} (h:Ty w k T):k < w.heap.size:=by
 obtain ⟨cur,fr,e⟩:=h
 exact (Array.getElem?_eq_some_iff.1 e).1
theorem mp_lt {w:World} {k:Nat} (h:IsMp w k):k < w.heap.size:=by
 obtain ⟨es,ck,e⟩:=h
 exact (Array.getElem?_eq_some_iff.1 e).1
theorem ty_mp {w:World} {k:Nat} {T:TypeId} (h:Ty w k T) (h2:IsMp w k):False:=by
 obtain ⟨cur,fr,e⟩:=h
 obtain ⟨es,ck,e2⟩:=h2
 rw [e] at e2; cases e2
theorem ty_ty {w:World} {k:Nat} {T T':TypeId} (h:Ty w k T) (h2:Ty w k T'):T = T':=by
 obtain ⟨cur,fr,e⟩:=h
 obtain ⟨cur',fr',e2⟩:=h2
 rw [e] at e2
 injection e2 with e2
 injection e2 with _ e2 _
section
variable {E E':Nat → Prop} {w w' w'':World}
theorem Eff.refl (E:Nat → Prop) (w:World):Eff E w w:=⟨rfl,rfl,rfl,Nat.le_refl _,fun _ _=>.inl rfl,.refl _,fun _ h=>h⟩
theorem Eff.mono (h:Eff E w w') (hE:∀ k,k < w.heap.size → E k → E' k):Eff E' w w':=⟨h.os,h.tape,h.output,h.size,fun k hk=>(h.block k hk).imp id (fun e=>⟨hE k hk e.1,e.2⟩),h.ty,h.mp⟩
theorem Eff.trans (h:Eff E w w') (h2:Eff E' w' w'') (hE:∀ k,k < w.heap.size → E' k → E k):Eff E w w'':=by
 refine ⟨h2.os.trans h.os,h2.tape.trans h.tape,h2.output.trans h.output,Nat.le_trans h.size h2.size,fun k hk=>?_,h.ty.trans h2.ty,fun k e=>h2.mp k (h.mp k e)⟩
 rcases h.block k hk with e | e
 ·rcases h2.block k (Nat.lt_of_lt_of_le hk h.size) with e2 | ⟨e2,m⟩
  ·exact .inl (e2.trans e)
  ·refine .inr ⟨hE k hk e2,?_⟩
   unfold MutK IsMp Ty at m ⊢
   rwa [e] at m
 ·exact .inr e
theorem Eff.tr (h:Eff E w w') (h2:Eff E w' w''):Eff E w w'':=h.trans h2 fun _ _ e=>e
theorem Eff.below (hb:Below w.heap.size w w'):Eff E w w':=⟨hb.os,hb.tape,hb.output,hb.size,fun k hk=>.inl (hb.block k hk),.below hb,fun k ⟨es,ck,e⟩=>⟨es,ck,(hb.block k (Array.getElem?_eq_some_iff.1 e).1).trans e⟩⟩
theorem Eff.map {b:Nat} (hg:w.grownBy w' (some b)) (hm:IsMp w b) (hm':IsMp w' b) (hE:E b):Eff E w w':=by
 refine ⟨hg.os,hg.tape,hg.output,hg.size,fun k hk=>?_,fun k T ht=>?_,fun k hk=>?_⟩
 ·by_cases e:k = b
  ·subst e; exact .inr ⟨hE,.inl hm⟩
  ·exact .inl (hg.block k hk (fun e2=>e (by injection e2)))
 ·have hne:k ≠ b:=fun e=>by subst e; exact ty_mp ht hm
  obtain ⟨cur,fr,e⟩:=ht
  exact ⟨cur,fr,(hg.block k (Array.getElem?_eq_some_iff.1 e).1 (fun e2=>hne (by injection e2))).trans e⟩
 ·by_cases e:k = b
  ·subst e; exact hm'
  ·obtain ⟨es,ck,e3⟩:=hk
   exact ⟨es,ck,(hg.block k (Array.getElem?_eq_some_iff.1 e3).1 (fun e2=>e (by injection e2))).trans e3⟩
theorem Eff.maps {S:Nat → Prop} (hk:Fd.Kf S w w') (hm:∀ k,S k → IsMp w k) (hm':∀ k,S k → IsMp w' k) (hE:∀ k,S k → E k):Eff E w w':=by
 refine ⟨hk.os,hk.tape,hk.output,hk.size,fun k hlt=>?_,fun k T ht=>?_,fun k hmp=>?_⟩
 ·by_cases e:S k
  ·exact .inr ⟨hE k e,.inl (hm k e)⟩
  ·exact .inl (hk.block k hlt e)
 ·have hne:¬ S k:=fun e=>ty_mp ht (hm k e)
  obtain ⟨cur,fr,e⟩:=ht
  exact ⟨cur,fr,(hk.block k (Array.getElem?_eq_some_iff.1 e).1 hne).trans e⟩
 ·by_cases e:S k
  ·exact hm' k e
  ·obtain ⟨es,ck,e3⟩:=hmp
   exact ⟨es,ck,(hk.block k (Array.getElem?_eq_some_iff.1 e3).1 e).trans e3⟩
theorem Eff.cells {b:Nat} {T:TypeId} (hg:w.grownBy w' (some b)) (ht:Ty w b T) (hp:TyPres w w') (hT:MutT T) (hE:E b):Eff E w w':=by
 refine ⟨hg.os,hg.tape,hg.output,hg.size,fun k hk=>?_,hp,fun k hk=>?_⟩
 ·by_cases e:k = b
  ·subst e; exact .inr ⟨hE,.inr ⟨T,hT,ht⟩⟩
  ·exact .inl (hg.block k hk (fun e2=>e (by injection e2)))
 ·have hne:k ≠ b:=fun e=>by subst e; exact ty_mp ht hk
  obtain ⟨es,ck,e3⟩:=hk
  exact ⟨es,ck,(hg.block k (Array.getElem?_eq_some_iff.1 e3).1 (fun e2=>hne (by injection e2))).trans e3⟩
theorem Eff.setCell {b:Nat} {T:TypeId} (ht:Ty w b T) (hT:MutT T) (hE:E b) (j:Nat) (u:Value):Eff E w (w.setCell ⟨b,j,none⟩ u):=Eff.cells (grownBy_set w b j u) ht (.set _ _ _) hT hE
theorem Eff.off (h:Eff E w w') {k:Nat} (hk:k < w.heap.size) (hn:¬ E k):w'.heap[k]? = w.heap[k]?:=by
 rcases h.block k hk with e | e
 ·exact e
 ·exact absurd e.1 hn
theorem Eff.typed (h:Eff E w w') {k:Nat} {T:TypeId} (ht:Ty w k T) (hT:¬ MutT T):w'.heap[k]? = w.heap[k]?:=by
 rcases h.block k (ty_lt ht) with e | ⟨_,e⟩
 ·exact e
 ·rcases e with e | ⟨T',hT',e⟩
  ·exact (ty_mp ht e).elim
  ·rw [ty_ty ht e] at hT; exact absurd hT' hT
theorem Eff.box (h:Eff E w w') {g:Nat} {cs:List Value} (hb:Box w g cs) (hn:¬ E g):Box w' g cs:=fun i u hu=>by
 obtain ⟨h1,h2⟩:=hb i u hu
 have e:=h.off (World.block_lt_of_cell? _ _ h1) hn
 exact ⟨(World.cell?_of_block (a:=⟨g,i,none⟩) e).trans h1,(World.frozen?_of_block (a:=⟨g,i,none⟩) e).trans h2⟩
theorem Eff.cell (h:Eff E w w') {g j:Nat} {v:Value} (hc:w.cell? ⟨g,j,none⟩ = some v) (hn:¬ E g):w'.cell? ⟨g,j,none⟩ = some v :=
 (World.cell?_of_block (a:=⟨g,j,none⟩) (h.off (World.block_lt_of_cell? _ _ hc) hn)).trans hc
theorem Eff.rd (h:Eff E w w') {A:Option Addr} {xs:List Value} {n:Nat} {T:TypeId} (hr:Rd w A xs) (ht:Fd.TyF w A n T) (hn:0 < xs.length → 0 < n) (hT:¬ MutT T):Rd w' A xs:=by
 intro hx
 obtain ⟨ad,e,hc⟩:=hr hx
 have htk:Ty w ad.block T:=ht (hn hx) ad e
 refine ⟨ad,e,fun j u hu=>?_⟩
 have e2:w'.heap[(ad.add j).block]? = w.heap[(ad.add j).block]?:=by rw [addr_add_block]; exact h.typed htk hT
 rw [World.cell?_of_block e2]
 exact hc j u hu
theorem Eff.tyf (h:Eff E w w') {A:Option Addr} {n:Nat} {T:TypeId} (ht:Fd.TyF w A n T):Fd.TyF w' A n T:=fun hn ad ha=>h.ty _ _ (ht hn ad ha)
theorem Eff.own (h:Eff E w w') {base:Nat} {T:TypeId} {size:Nat} {v:Value} {n:Nat} {xs:List Value} (ho:w.ownsRow base T size v n xs) (hT:¬ MutT T):w'.ownsRow base T size v n xs:=by
 refine ⟨ho.1,?_⟩
 rcases ho.2 with e | ⟨k,cap,cur,rfl,hgb,hh,r⟩
 ·exact .inl e
 ·exact .inr ⟨k,cap,cur,rfl,hgb,(h.typed ⟨_,_,hh⟩ hT).trans hh,r⟩
theorem Eff.ownE (h:Eff E w w') {base:Nat} {T:TypeId} {size:Nat} {v:Value} {n:Nat} {xs:List Value} (ho:w.ownsRow base T size v n xs) (hn:∀ k,v.ownBlock = some k → ¬ E k):w'.ownsRow base T size v n xs:=by
 refine ⟨ho.1,?_⟩
 rcases ho.2 with e | ⟨k,cap,cur,rfl,hgb,hh,r⟩
 ·exact .inl e
 ·exact .inr ⟨k,cap,cur,rfl,hgb,(h.off (ho.lt k rfl).2 (hn k rfl)).trans hh,r⟩
theorem adj_imm:¬ MutT 169:=by unfold MutT; decide
theorem pfx_imm:¬ MutT 181:=by unfold MutT; decide
theorem u8_imm:¬ MutT 5:=by unfold MutT; decide
theorem Eff.la (h:Eff E w w') {x:La} {A:Option Addr} {c:Nat} {B:Option Addr} {d:Nat} (hl:Fd.LaTf w x A c B d):Fd.LaTf w' x A c B d:=by
 obtain ⟨⟨A',c',B',d',e,r1,r2,r3⟩,t1,t2⟩:=hl
 simp only [laV,Value.agg.injEq,Array.mk.injEq,List.cons.injEq,Value.slice.injEq,true_and,and_true] at e
 obtain ⟨⟨rfl,rfl⟩,rfl,rfl⟩:=e
 exact ⟨⟨_,_,_,_,rfl,h.rd r1 t1 (by rw [adV_len]; omega) adj_imm,h.rd r2 t2 (by rw [pfV_len]; omega) pfx_imm,r3⟩,h.tyf t1,h.tyf t2⟩
theorem Eff.el0 (h:Eff E w w') {v:Option Value} {x:Option Hd} (he:ElAt w v x):ElAt w' v x:=by
 match v,x,he with
 | none,none,_=>trivial
 | some v,some x,⟨A,c1,B,d,e,hl⟩=>exact ⟨A,c1,B,d,e,h.la hl⟩
theorem Eff.el (h:Eff E w w') {v:Option Value} {x:Option Fd.Hd} (he:Fd.ElAt w v x):Fd.ElAt w' v x:=by
 match v,x,he with
 | none,none,_=>trivial
 | some v,some x,⟨A,c1,B,d,e,hl⟩=>exact ⟨A,c1,B,d,e,h.la hl⟩
theorem Eff.db (h:Eff E w w') {gd b:Nat} {N:Db} (hd:DbAt w gd b N) (h1:¬ E gd) (h2:¬ E b):DbAt w' gd b N:=by
 obtain ⟨⟨M,⟨D,⟨es,ck,hb,r⟩,hD⟩,he⟩,hcell⟩:=hd
 exact ⟨⟨M,⟨D,⟨es,ck,(h.off (Array.getElem?_eq_some_iff.1 hb).1 h2).trans hb,r⟩,hD⟩,fun i hi=>h.el0 (he i hi)⟩,h.cell hcell h1⟩
theorem Eff.mpis (h:Eff E w w') {B b:Nat} {M:Int → Option Value} (hm:Fd.MapIs B w b M) (h2:¬ E b):Fd.MapIs B w' b M:=by
 obtain ⟨D,⟨es,ck,hb,r⟩,hD⟩:=hm
 exact ⟨D,⟨es,ck,(h.off (Array.getElem?_eq_some_iff.1 hb).1 h2).trans hb,r⟩,hD⟩
theorem Eff.fl (h:Eff E w w') {gf b:Nat} {iv:Int} {N:Fd.Fn} {f:Nat → Nat} (hf:Fd.FlAt w gf b iv N f) (h1:¬ E gf) (h2:¬ E b) (h3:∀ i,i < 256 → (N i).isSome = true → ¬ E (f i)):Fd.FlAt w' gf b iv N f:=by
 refine ⟨h.cell hf.c0 h1,h.cell hf.c1 h1,h.mpis hf.nb h2,fun i hi D hD=>?_,hf.ne,hf.inj⟩
 obtain ⟨M,hm,he⟩:=hf.el i hi D hD
 exact ⟨M,h.mpis hm (h3 i hi (by rw [hD]; rfl)),fun o ho=>h.el (he o ho)⟩
theorem Eff.og (h:Eff E w w') {go:Nat} {x:La} {mk:Bool} (ho:OrAt w go x mk) (ht:TyO w go) (h1:¬ E go):OrAt w' go x mk ∧ TyO w' go:=by
 obtain ⟨A,c,B,d,h0,r1,r2,h3,h4,h5,h6,h7,h8,h9⟩:=ho
 have t1:Fd.TyF w A x.adj.length 169:=fun hn ad ha=>ht.1 A _ c hn (h0.c 1 rfl) ad ha
 have t2:Fd.TyF w B x.pre.length 181:=fun hn ad ha=>ht.2 B _ d hn (h0.c 2 rfl) ad ha
 have e:=h.off (h0.lt (by simp)) h1
 exact ⟨⟨A,c,B,d,h.box h0 h1,h.rd r1 t1 (by rw [adV_len]; omega) adj_imm,h.rd r2 t2 (by rw [pfV_len]; omega) pfx_imm,h3,h4,h5,h6,h7,h8,h9⟩,
  ht.of_cells (World.cell?_of_block (a:=⟨go,1,none⟩) e) (World.cell?_of_block (a:=⟨go,2,none⟩) e) h.ty⟩
theorem Eff.tp (h:Eff E w w') {T:TypeId} {A:Option Addr} {xs:List Value} {n:Nat} (hr:Rd w A xs) (ht:Fd.TyF w A n T) (hn:0 < xs.length → 0 < n) (hT:¬ MutT T):Rd w' A xs ∧ Fd.TyF w' A n T:=⟨h.rd hr ht hn hT,h.tyf ht⟩
theorem db_mp {gd b:Nat} {N:Db} (h:DbAt w gd b N):IsMp w b:=by
 obtain ⟨⟨M,⟨D,⟨es,ck,hb,_⟩,_⟩,_⟩,_⟩:=h
 exact ⟨es,ck,hb⟩
theorem fl_mp {gf b:Nat} {iv:Int} {N:Fd.Fn} {f:Nat → Nat} (h:Fd.FlAt w gf b iv N f):IsMp w b:=by
 obtain ⟨D,⟨es,ck,hb,r⟩,hD⟩:=h.nb
 exact ⟨es,ck,hb⟩
theorem fl_mps {gf b:Nat} {iv:Int} {N:Fd.Fn} {f:Nat → Nat} (h:Fd.FlAt w gf b iv N f) {i:Nat} (hi:i < 256) (hs:(N i).isSome = true):IsMp w (f i):=by
 obtain ⟨D,hD⟩:=Option.isSome_iff_exists.1 hs
 obtain ⟨M,⟨D',⟨es,ck,hb,r⟩,hD'⟩,_⟩:=h.el i hi D hD
 exact ⟨es,ck,hb⟩
end
end Go.Proofs.YtehimhbgakpenaaGreat

namespace Go.Proofs.YtehimhbgakpenaaGreat
set_option linter.unusedVariables false
open Go.RowKit Go.Maps Go.Sort
structure Po where
 l:Int
 o:Int
 c:Int
 ph:Int
 lf:Int
 bt:Int
def poL (p:Po):List Value:=[.int .i64 p.l,.int .i64 p.o,.int .i64 p.c,.int .i64 p.ph,.int .i64 p.lf,.int .i64 p.bt]
def poV:List Po → List Value
 | []=>[]
 | p :: r=>poL p ++ poV r
theorem poV_len (l:List Po):(poV l).length = l.length * 6:=by
 induction l with
 | nil=>rfl
 | cons p r ih=>simp only [poV,poL,List.length_append,List.length_cons,List.length_nil,ih]; omega
theorem poV_get (l:List Po):∀ (k:Nat) (hk:k < l.length) (j:Nat) (hj:j < 6),(poV l)[k * 6 + j]? = (poL l[k])[j]?:=by
 induction l with
 | nil=>intro k hk; simp at hk
 | cons p r ih =>
   intro k hk j hj
   have h6:(poL p).length = 6:=rfl
   cases k with
   | zero=>simp only [poV,List.getElem_cons_zero]; rw [List.getElem?_append_left (by omega)]; simp
   | succ k =>
     simp only [poV,List.getElem_cons_succ]
     rw [List.getElem?_append_right (by omega),h6,show (k + 1) * 6 + j - 6 = k * 6 + j by omega]
     exact ih k (by simpa using hk) j hj
theorem poV_set (l:List Po):∀ (k:Nat) (hk:k < l.length) (j:Nat) (hj:j < 6) (u:Value) (p:Po) (hp:(poL l[k]).set j u = poL p),(poV l).set (k * 6 + j) u = poV (l.set k p):=by
 induction l with
 | nil=>intro k hk; simp at hk
 | cons q r ih =>
   intro k hk j hj u p hp
   have h6:(poL q).length = 6:=rfl
   cases k with
   | zero =>
     simp only [List.getElem_cons_zero] at hp
     simp only [poV,List.set_cons_zero,Nat.zero_mul,Nat.zero_add]
     rw [List.set_append_left _ _ (by omega),hp]
   | succ k =>
     simp only [List.getElem_cons_succ] at hp
     simp only [poV,List.set_cons_succ]
     rw [List.set_append_right _ _ (by omega),h6,show (k + 1) * 6 + j - 6 = k * 6 + j by omega,ih k (by simpa using hk) j hj u p hp]
theorem own_setAt {w:World} {base:Nat} {e:TypeId} {size g n c:Nat} {xs:List Value} (h:w.ownsRow base e size (.slice (some ⟨g,0,none⟩) n c) n xs) {j:Nat} (hj:j < xs.length) (u:Value):(w.setCell ⟨g,j,none⟩ u).ownsRow base e size (.slice (some ⟨g,0,none⟩) n c) n (xs.set j u):=by
 refine ⟨by rw [List.length_set]; exact h.1,?_⟩
 rcases h.2 with ⟨e1,_⟩ | ⟨g',cap,cur,e1,hgb,hh,h3,h4,h5,h6⟩
 ·cases e1
 ·injection e1 with e1 _ e3
  injection e1 with e1
  injection e1 with e1
  subst e1 e3
  refine .inr ⟨g,c,cur.setIfInBounds j u,rfl,hgb,?_,h3,h4,by simpa using h5,?_⟩
  ·unfold World.setCell
   simp only [Array.getElem?_modify,if_pos,hh,Option.map_some,Option.isSome_none,Bool.false_eq_true,if_false]
  ·rw [← h6]
   simp only [Array.toList_setIfInBounds]
   rw [List.take_set]
structure Sp where
 tp:Tp
 nd:Int
 bo:Int
 h1:Int
 h2:Int
 h3:Int
 tm:Int
 ps:List Po
 ov:Bool
 pre:List Pf
 db:Db
 fl:Fd.Fn
 x:La
 md:Bool
structure Sm where
 g:Nat
 P:Option Addr
 cp:Nat
 gd:Nat
 bd:Nat
 gf:Nat
 bf:Nat
 go:Nat
 ff:Nat → Nat
 O:Option Addr
 co:Nat
 L:Option Addr
 cl:Nat
 B:Option Addr
 cb:Nat
def spL (m:Sm) (S:Sp):List Value:=[.int .i64 S.tp.n,.slice m.O S.tp.ov.length m.co,.slice m.L S.tp.ln.length m.cl,.int .i64 S.nd,.int .i64 S.bo,.int .i64 S.h1,.int .i64 S.h2,.int .i64 S.h3,.int .i64 S.tm,.slice m.P S.ps.length m.cp,.bool S.ov,.slice m.B S.pre.length m.cb,.pointer (some ⟨m.gd,0,none⟩),.pointer (some ⟨m.gf,0,none⟩),.pointer (some ⟨m.go,0,none⟩)]
structure SpAt (w:World) (m:Sm) (S:Sp) (col:Nat → Nat) (c:Nat):Prop where
 bx:Box w m.g (spL m S)
 tg:Ty w m.g 109
 po:w.ownsRow 0 118 6 (.slice m.P S.ps.length m.cp) S.ps.length (poV S.ps)
 rO:Rd w m.O (boV S.tp.ov) ∧ Fd.TyF w m.O S.tp.ov.length 4
 rL:Rd w m.L (lksV S.tp.ln) ∧ Fd.TyF w m.L S.tp.ln.length 79
 rB:Rd w m.B (pfV S.pre) ∧ Fd.TyF w m.B S.pre.length 181
 lB:S.pre.length ≤ m.cb ∧ m.cb ≤ maxLen ∧ ∀ p ∈ S.pre,p.1 < 4294967296
 lT:S.tp.ov.length ≤ maxLen ∧ S.tp.ln.length ≤ maxLen
 db:DbAt w m.gd m.bd S.db
 fl:Fd.FlAt w m.gf m.bf S.h3 S.fl m.ff
 og:OrAt w m.go S.x S.md
 tO:TyO w m.go
 ty:Ty w m.go 166
 cg:col m.g = c
 cP:∀ k,(Value.slice m.P S.ps.length m.cp).ownBlock = some k → col k = c
 co:col m.go = c
 cd:col m.bd = c
 cf:col m.bf = c
 cF:∀ i,i < 256 → (S.fl i).isSome = true → col (m.ff i) = c
 z:col m.gd = 0 ∧ col m.gf = 0
 ne:m.bd ≠ m.bf ∧ ∀ i,i < 256 → (S.fl i).isSome = true → m.ff i ≠ m.bd
 c0:c ≠ 0
abbrev Ev (col:Nat → Nat) (c:Nat) (w w':World):Prop:=Eff (fun k=>col k = c) w w'
section
variable {w w':World} {m:Sm} {S:Sp} {col:Nat → Nat} {c:Nat}
theorem bool_imm:¬ MutT 4:=by unfold MutT; decide
theorem link_imm:¬ MutT 79:=by unfold MutT; decide
theorem own_ty0 {base:Nat} {T:TypeId} {size:Nat} {v:Value} {n:Nat} {xs:List Value} (ho:w.ownsRow base T size v n xs) {k:Nat} (hk:v.ownBlock = some k):Ty w k T:=by
 rcases ho.2 with ⟨rfl,_⟩ | ⟨g,cap,cur,rfl,hg,hh,_⟩
 ·simp [Value.ownBlock] at hk
 ·simp only [Value.ownBlock,Option.some.injEq] at hk
  subst hk
  exact ⟨_,_,hh⟩
theorem SpAt.far (h:SpAt w m S col c) {E:Nat → Prop} (he:Eff E w w') (hE:∀ k,k < w.heap.size → E k → col k ≠ c ∧ col k ≠ 0):SpAt w' m S col c:=by
 have n1:∀ {k},k < w.heap.size → col k = c → ¬ E k:=fun hk e h2=>(hE _ hk h2).1 e
 have n0:∀ {k},k < w.heap.size → col k = 0 → ¬ E k:=fun hk e h2=>(hE _ hk h2).2 e
 obtain ⟨o1,o2⟩:=he.og h.og h.tO (n1 h.og.lt h.co)
 exact ⟨he.box h.bx (n1 (ty_lt h.tg) h.cg),he.ty _ _ h.tg,he.ownE h.po (fun k hk=>n1 (ty_lt (own_ty0 h.po hk)) (h.cP k hk)),he.tp h.rO.1 h.rO.2 (by rw [boV_len]; exact id) bool_imm,he.tp h.rL.1 h.rL.2 (by rw [lksV_len]; omega) link_imm,he.tp h.rB.1 h.rB.2 (by rw [pfV_len]; omega) pfx_imm,h.lB,h.lT,
  he.db h.db (n0 h.db.lt.1 h.z.1) (n1 h.db.lt.2 h.cd),he.fl h.fl (n0 h.fl.lt.1 h.z.2) (n1 h.fl.lt.2 h.cf) (fun i hi hs=>n1 (h.fl.flt hi hs) (h.cF i hi hs)),o1,o2,he.ty _ _ h.ty,h.cg,h.cP,h.co,h.cd,h.cf,h.cF,h.z,h.ne,h.c0⟩
theorem SpAt.below (h:SpAt w m S col c) (hb:Below w.heap.size w w'):SpAt w' m S col c:=h.far (E:=fun _=>False) (Eff.below hb) (fun _ _ e=>e.elim)
theorem SpAt.recol (h:SpAt w m S col c) {col':Nat → Nat} (hc:∀ k,k < w.heap.size → col' k = col k):SpAt w m S col' c :=
 ⟨h.bx,h.tg,h.po,h.rO,h.rL,h.rB,h.lB,h.lT,h.db,h.fl,h.og,h.tO,h.ty,(hc _ (ty_lt h.tg)).trans h.cg,fun k hk=>(hc _ (ty_lt (own_ty0 h.po hk))).trans (h.cP k hk),(hc _ h.og.lt).trans h.co,(hc _ h.db.lt.2).trans h.cd,(hc _ h.fl.lt.2).trans h.cf,fun i hi hs=>(hc _ (h.fl.flt hi hs)).trans (h.cF i hi hs),⟨(hc _ h.db.lt.1).trans h.z.1,(hc _ h.fl.lt.1).trans h.z.2⟩,h.ne,h.c0⟩
theorem SpAt.gP (h:SpAt w m S col c) {k:Nat} (hk:(Value.slice m.P S.ps.length m.cp).ownBlock = some k):k ≠ m.g:=fun e=>by
 have:=ty_ty (own_ty0 h.po hk) (by rw [e]; exact h.tg)
 exact absurd this (by decide)
theorem SpAt.oP (h:SpAt w m S col c) {k:Nat} (hk:(Value.slice m.P S.ps.length m.cp).ownBlock = some k):k ≠ m.go:=fun e=>by
 have:=ty_ty (own_ty0 h.po hk) (by rw [e]; exact h.ty)
 exact absurd this (by decide)
theorem SpAt.gO (h:SpAt w m S col c):m.g ≠ m.go:=fun e=>by
 have:=ty_ty h.tg (by rw [e]; exact h.ty)
 exact absurd this (by decide)
theorem SpAt.nz (h:SpAt w m S col c) {k:Nat} (hk:col k = c):k ≠ m.gd ∧ k ≠ m.gf:=⟨fun e=>h.c0 (by rw [← hk,e]; exact h.z.1),fun e=>h.c0 (by rw [← hk,e]; exact h.z.2)⟩
theorem SpAt.dbTurn (h:SpAt w m S col c) {N:Db} (hg:w.grownBy w' (some m.bd)) (hd:DbAt w' m.gd m.bd N):SpAt w' m { S with db:=N } col c ∧ Ev col c w w':=by
 have hmp:=db_mp h.db
 have he:Eff (fun k=>k = m.bd) w w':=Eff.map hg hmp (db_mp hd) rfl
 obtain ⟨o1,o2⟩:=he.og h.og h.tO (fun e=>by have:=h.ty; rw [e] at this; exact ty_mp this hmp)
 refine ⟨⟨he.box h.bx (fun e=>by have:=h.tg; rw [e] at this; exact ty_mp this hmp),he.ty _ _ h.tg,he.ownE h.po (fun k hk e=>by have:=own_ty0 h.po hk; rw [e] at this; exact ty_mp this hmp),he.tp h.rO.1 h.rO.2 (by rw [boV_len]; exact id) bool_imm,he.tp h.rL.1 h.rL.2 (by rw [lksV_len]; omega) link_imm,he.tp h.rB.1 h.rB.2 (by rw [pfV_len]; omega) pfx_imm,h.lB,h.lT,hd,he.fl h.fl (fun e=>(h.nz h.cd).2 e.symm) (fun e=>h.ne.1 e.symm) (fun i hi hs=>h.ne.2 i hi hs),o1,o2,he.ty _ _ h.ty,h.cg,h.cP,h.co,h.cd,h.cf,h.cF,h.z,h.ne,h.c0⟩,he.mono fun k _ e=>by rw [e]; exact h.cd⟩
theorem SpAt.flTurn (h:SpAt w m S col c) {F:Fd.Fn} (hk:Fd.Kf (Fd.FS S.fl m.ff) w w') (hf:Fd.FlAt w' m.gf m.bf S.h3 F m.ff) (hs:∀ l,(F l).isSome = (S.fl l).isSome):SpAt w' m { S with fl:=F } col c ∧ Ev col c w w':=by
 have hm:∀ k,Fd.FS S.fl m.ff k → IsMp w k:=fun k ⟨l,hl,hls,e⟩=>by rw [e]; exact fl_mps h.fl hl hls
 have he:Eff (Fd.FS S.fl m.ff) w w':=Eff.maps hk hm (fun k ⟨l,hl,hls,e⟩=>by rw [e]; exact fl_mps hf hl (by rw [hs]; exact hls)) (fun _ e=>e)
 have hty:∀ {k T},Ty w k T → ¬ Fd.FS S.fl m.ff k:=fun ht e=>ty_mp ht (hm _ e)
 have hcl:∀ k,Fd.FS S.fl m.ff k → col k = c:=fun k ⟨l,hl,hls,e⟩=>by rw [e]; exact h.cF l hl hls
 obtain ⟨o1,o2⟩:=he.og h.og h.tO (hty h.ty)
 exact ⟨⟨he.box h.bx (hty h.tg),he.ty _ _ h.tg,he.ownE h.po (fun k hk=>hty (own_ty0 h.po hk)),he.tp h.rO.1 h.rO.2 (by rw [boV_len]; exact id) bool_imm,he.tp h.rL.1 h.rL.2 (by rw [lksV_len]; omega) link_imm,he.tp h.rB.1 h.rB.2 (by rw [pfV_len]; omega) pfx_imm,h.lB,h.lT,he.db h.db (fun e=>(h.nz (hcl _ e)).1 rfl) (fun ⟨l,hl,hls,e⟩=>h.ne.2 l hl hls e.symm),hf,o1,o2,he.ty _ _ h.ty,h.cg,h.cP,h.co,h.cd,h.cf,fun i hi e=>h.cF i hi (by rw [← hs]; exact e),h.z,⟨h.ne.1,fun i hi e=>h.ne.2 i hi (by rw [← hs]; exact e)⟩,h.c0⟩,he.mono fun k _=>hcl k⟩
theorem SpAt.flMap (h:SpAt w m S col c) {F:Fd.Fn} {ff':Nat → Nat} (hg:w.grownBy w' (some m.bf)) (hf:Fd.FlAt w' m.gf m.bf S.h3 F ff') (hn:∀ i,i < 256 → (F i).isSome = true → w.heap.size ≤ ff' i ∨ ((S.fl i).isSome = true ∧ ff' i = m.ff i)) :
  ∃ col',(∀ k,k < w.heap.size → col' k = col k) ∧ SpAt w' { m with ff:=ff' } { S with fl:=F } col' c ∧ Ev col c w w':=by
 have hmp:=fl_mp h.fl
 have he:Eff (fun k=>k = m.bf) w w':=Eff.map hg hmp (fl_mp hf) rfl
 obtain ⟨o1,o2⟩:=he.og h.og h.tO (fun e=>by have:=h.ty; rw [e] at this; exact ty_mp this hmp)
 have hco:∀ k,k < w.heap.size → (fun k=>if k < w.heap.size then col k else c) k = col k:=fun k hk=>if_pos hk
 have h2:=h.recol hco
 refine ⟨fun k=>if k < w.heap.size then col k else c,hco,⟨he.box h.bx (fun e=>by have:=h.tg; rw [e] at this; exact ty_mp this hmp),he.ty _ _ h.tg,he.ownE h.po (fun k hk e=>by have:=own_ty0 h.po hk; rw [e] at this; exact ty_mp this hmp),he.tp h.rO.1 h.rO.2 (by rw [boV_len]; exact id) bool_imm,he.tp h.rL.1 h.rL.2 (by rw [lksV_len]; omega) link_imm,he.tp h.rB.1 h.rB.2 (by rw [pfV_len]; omega) pfx_imm,h.lB,h.lT,he.db h.db (fun e=>(h.nz h.cf).1 e.symm) h.ne.1,hf,o1,o2,he.ty _ _ h.ty,h2.cg,h2.cP,h2.co,h2.cd,h2.cf,fun i hi e=>?_,h2.z,⟨h.ne.1,fun i hi e=>?_⟩,h.c0⟩,he.mono fun k _ e=>by rw [e]; exact h.cf⟩
 ·rcases hn i hi e with e2 | ⟨e2,e3⟩
  ·have e3:¬ ff' i < w.heap.size:=by omega
   exact if_neg e3
  ·simp only [e3]; exact h2.cF i hi e2
 ·rcases hn i hi e with e2 | ⟨e2,e3⟩
  ·have:=h.db.lt.2
   show ff' i ≠ m.bd
   omega
  ·simp only [e3]; exact h.ne.2 i hi e2
theorem SpAt.ogTurn (h:SpAt w m S col c) {x:La} {mk:Bool} (hg:w.grownBy w' (some m.go)) (ho:OrAt w' m.go x mk) (hk:Keeps w w' m.go):SpAt w' m { S with x:=x,md:=mk } col c ∧ Ev col c w w':=by
 have he:Eff (fun k=>k = m.go) w w':=Eff.cells hg h.ty hk.2.1 (.inr (.inr rfl)) rfl
 have hmp:∀ {k},IsMp w k → k ≠ m.go:=fun hm e=>by rw [e] at hm; exact ty_mp h.ty hm
 exact ⟨⟨he.box h.bx h.gO,he.ty _ _ h.tg,he.ownE h.po (fun k hk=>h.oP hk),he.tp h.rO.1 h.rO.2 (by rw [boV_len]; exact id) bool_imm,he.tp h.rL.1 h.rL.2 (by rw [lksV_len]; omega) link_imm,he.tp h.rB.1 h.rB.2 (by rw [pfV_len]; omega) pfx_imm,h.lB,h.lT,he.db h.db (fun e=>(h.nz h.co).1 e.symm) (hmp (db_mp h.db)),he.fl h.fl (fun e=>(h.nz h.co).2 e.symm) (hmp (fl_mp h.fl)) (fun i hi hs=>hmp (fl_mps h.fl hi hs)),ho,hk.2.2 h.tO,he.ty _ _ h.ty,h.cg,h.cP,h.co,h.cd,h.cf,h.cF,h.z,h.ne,h.c0⟩,he.mono fun k _ e=>by rw [e]; exact h.co⟩
theorem SpAt.cell (h:SpAt w m S col c) (j:Nat) (hj:j < 15) (u:Value) {m':Sm} {S':Sp} (hs:(spL m S).set j u = spL m' S') (e1:m'.g = m.g) (e2:m'.gd = m.gd ∧ m'.bd = m.bd ∧ m'.gf = m.gf ∧ m'.bf = m.bf ∧ m'.go = m.go ∧ m'.ff = m.ff) (e3:m'.O = m.O ∧ m'.L = m.L ∧ m'.P = m.P ∧ m'.cp = m.cp)
  (e4:S'.tp = S.tp ∧ S'.ps = S.ps ∧ S'.db = S.db ∧ S'.fl = S.fl ∧ S'.h3 = S.h3 ∧ S'.x = S.x ∧ S'.md = S.md) (rB:Rd w m'.B (pfV S'.pre) ∧ Fd.TyF w m'.B S'.pre.length 181) (lB:S'.pre.length ≤ m'.cb ∧ m'.cb ≤ maxLen ∧ ∀ p ∈ S'.pre,p.1 < 4294967296) :
  SpAt (w.setCell ⟨m.g,j,none⟩ u) m' S' col c ∧ Ev col c w (w.setCell ⟨m.g,j,none⟩ u):=by
 have he:Eff (fun k=>k = m.g) w (w.setCell ⟨m.g,j,none⟩ u):=Eff.setCell (E:=fun k=>k = m.g) h.tg (.inl rfl) rfl j u
 have hmp:∀ {k},IsMp w k → k ≠ m.g:=fun hm e=>by rw [e] at hm; exact ty_mp h.tg hm
 obtain ⟨o1,o2⟩:=he.og h.og h.tO (fun e=>h.gO e.symm)
 obtain ⟨g1,g2,g3,g4,g5,g6⟩:=e2
 obtain ⟨p1,p2,p3,p4⟩:=e3
 obtain ⟨s1,s2,s3,s4,s5,s6,s7⟩:=e4
 have hbx:=h.bx.set j u (by simpa [spL] using hj)
 rw [hs] at hbx
 have hz:=h.z
 have hne:=h.ne
 refine ⟨⟨by rw [e1]; exact hbx,by rw [e1]; exact he.ty _ _ h.tg,by rw [p3,p4,s2]; exact he.ownE h.po (fun k hk=>h.gP hk),by rw [p1,s1]; exact he.tp h.rO.1 h.rO.2 (by rw [boV_len]; exact id) bool_imm,by rw [p2,s1]; exact he.tp h.rL.1 h.rL.2 (by rw [lksV_len]; omega) link_imm,he.tp rB.1 rB.2 (by rw [pfV_len]; omega) pfx_imm,lB,by rw [s1]; exact h.lT,by rw [g1,g2,s3]; exact he.db h.db (fun e=>(h.nz h.cg).1 e.symm) (hmp (db_mp h.db)),by rw [g3,g4,s4,s5,g6]; exact he.fl h.fl (fun e=>(h.nz h.cg).2 e.symm) (hmp (fl_mp h.fl)) (fun i hi hs=>hmp (fl_mps h.fl hi hs)),by rw [g5,s6,s7]; exact o1,by rw [g5]; exact o2,by rw [g5]; exact he.ty _ _ h.ty,by rw [e1]; exact h.cg,by rw [p3,p4,s2]; exact h.cP,by rw [g5]; exact h.co,by rw [g2]; exact h.cd,by rw [g4]; exact h.cf,by rw [s4,g6]; exact h.cF,by rw [g1,g3]; exact hz,by rw [g2,g4,s4,g6]; exact hne,h.c0⟩,he.mono fun k _ e=>by rw [e]; exact h.cg⟩
theorem SpAt.port (h:SpAt w m S col c) {gp:Nat} (hP:m.P = some ⟨gp,0,none⟩) {i:Nat} (hi:i < S.ps.length) (j:Nat) (hj:j < 6) (u:Value) (p:Po) (hp:(poL S.ps[i]).set j u = poL p) :
  SpAt (w.setCell ⟨gp,i * 6 + j,none⟩ u) m { S with ps:=S.ps.set i p } col c ∧ Ev col c w (w.setCell ⟨gp,i * 6 + j,none⟩ u):=by
 have hob:(Value.slice m.P S.ps.length m.cp).ownBlock = some gp:=by rw [hP]; rfl
 have htp:=own_ty0 h.po hob
 have he:Eff (fun k=>k = gp) w (w.setCell ⟨gp,i * 6 + j,none⟩ u):=Eff.setCell (E:=fun k=>k = gp) htp (.inr (.inl rfl)) rfl _ u
 have hmp:∀ {k},IsMp w k → k ≠ gp:=fun hm e=>by rw [e] at hm; exact ty_mp htp hm
 have hcp:=h.cP gp hob
 obtain ⟨o1,o2⟩:=he.og h.og h.tO (fun e=>h.oP hob e.symm)
 refine ⟨⟨?_,he.ty _ _ h.tg,?_,he.tp h.rO.1 h.rO.2 (by rw [boV_len]; exact id) bool_imm,he.tp h.rL.1 h.rL.2 (by rw [lksV_len]; omega) link_imm,he.tp h.rB.1 h.rB.2 (by rw [pfV_len]; omega) pfx_imm,h.lB,h.lT,he.db h.db (fun e=>(h.nz hcp).1 e.symm) (hmp (db_mp h.db)),he.fl h.fl (fun e=>(h.nz hcp).2 e.symm) (hmp (fl_mp h.fl)) (fun i hi hs=>hmp (fl_mps h.fl hi hs)),o1,o2,he.ty _ _ h.ty,h.cg,?_,h.co,h.cd,h.cf,h.cF,h.z,h.ne,h.c0⟩,he.mono fun k _ e=>by rw [e]; exact hcp⟩
 ·have:=he.box h.bx (fun e=>h.gP hob e.symm)
  simp only [spL,List.length_set]
  exact this
 ·simp only [List.length_set]
  rw [← poV_set S.ps i hi j hj u p hp]
  have ho:=h.po
  rw [hP] at ho ⊢
  exact own_setAt ho (by rw [poV_len]; omega) u
 ·simp only [List.length_set]
  exact h.cP
end
end Go.Proofs.YtehimhbgakpenaaGreat
