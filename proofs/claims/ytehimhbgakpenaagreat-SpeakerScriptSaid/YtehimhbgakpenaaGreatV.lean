/- Lemmas. -/
import Derived.Test.YtehimhbgakpenaaGreatO
import Derived.Test.YtehimhbgakpenaaGreatM
import Derived.Test.YtehimhbgakpenaaGreatU
import Derived.Test.YtehimhbgakpenaaGreatF
set_option linter.all false
set_option maxRecDepth 100000
set_option maxHeartbeats 16000000
namespace Go.Proofs.YtehimhbgakpenaaGreat
open Go.RowKit Go.Maps Go.Sort
def qZ(w:World)(k:Nat):Prop:=∃es ck,w.heap[k]?=some (.map es ck)
def iU(T:TypeId):Prop:=T=109∨T=118∨T=166
def Yu(w:World)(k:Nat):Prop:=qZ w k∨ ∃T,iU T∧Ty w k T
structure gA (E:Nat→Prop) (w w':World):Prop where
 os:w'.os=w.os
 tape:w'.tape=w.tape
 output:w'.output=w.output
 size:w.heap.size≤w'.heap.size
 block:∀k,k<w.heap.size→w'.heap[k]?=w.heap[k]?∨(E k∧Yu w k)
 ty:ee w w'
 mp:∀k,qZ w k→qZ w' k
def jo{w:World}{k:Nat}{T:TypeId}(h:Ty w k T):k<w:=by
 obtain⟨cur,fr,e⟩:=h;exact(df.1 e).1
def Uz{w:World}{k:Nat}(h:qZ w k):k<w:=by
 obtain⟨es,ck,e⟩:=h;exact(df.1 e).1
def nB{w:World}{k:Nat}{T:TypeId}(h:Ty w k T)(h2:qZ w k):False:=by
 obtain⟨cur,fr,e⟩:=h;obtain⟨es,ck,e2⟩:=h2;rw[e]at e2;cases e2
def kg{w:World}{k:Nat}{T T':TypeId}(h:Ty w k T)(h2:Ty w k T'):T=T':=by
 obtain⟨cur,fr,e⟩:=h;obtain⟨cur',fr',e2⟩:=h2;rw[e]at e2;injection e2 with e2
 injection e2 with _ e2 _
section
variable {E E':Nat → Prop} {w w' w'':World}
def gA.refl(E:Nat→Prop)(w:World):gA E w w:=⟨rfl,rfl,rfl,Nat.le_refl _,fun _ _=>.inl rfl,.refl _,fun _ h=>h⟩
def gA.mono(h:gA E w w')(hE:∀k,k<w.heap.size→E k→E' k):gA E' w w':=⟨h.os,h.tape,h.output,h.size,fun k hk=>(h.block k hk).imp id (fun e=>⟨hE k hk e.1,e.2⟩),h.ty,h.mp⟩
def gA.trans(h:gA E w w')(h2:gA E' w' w'')(hE:∀k,k<w.heap.size→E' k→E k):gA E w w'':=by
 refine⟨h2.os.trans h.os,h2.tape.trans h.tape,h2.output.trans h.output,cZ h.size h2.size,fun k hk=>?_,h.ty.trans h2.ty,fun k e=>h2.mp k (h.mp k e)⟩
 rcases h.block k hk with e|e
 ·rcases h2.block k (eh hk h.size)with e2|⟨e2,m⟩
  ·exact .inl (e2.trans e)
  ·refine .inr ⟨hE k hk e2,?_⟩;unfold Yu qZ Ty at m ⊢
   rwa[e]at m
 ·exact .inr e
def gA.tr(h:gA E w w')(h2:gA E w' w''):gA E w w'':=h.trans h2 fun _ _ e=>e
def gA.below(hb:Below w.heap.size w w'):gA E w w':=⟨hb.os,hb.tape,hb.output,hb.size,fun k hk=>.inl (hb.block k hk),.below hb,fun k ⟨es,ck,e⟩=>⟨es,ck,(hb.block k (Array.getElem?_eq_some_iff.1 e).1).trans e⟩⟩
def gA.map{b:Nat}(hg:w.grownBy w' (some b))(hm:qZ w b)(c:qZ w' b)(hE:E b):gA E w w':=by
 refine⟨hg.os,hg.tape,hg.output,hg.size,fun k hk=>?_,fun k T ht=>?_,fun k hk=>?_⟩
 ·by_cases e:k=b
  ·subst e;exact .inr ⟨hE,.inl hm⟩
  ·exact .inl (hg.block k hk (fun e2=>e (by injection e2)))
 ·have a:k≠b:=fun e=>by subst e;exact nB ht hm
  obtain⟨cur,fr,e⟩:=ht;exact⟨cur,fr,(hg.block k (Array.getElem?_eq_some_iff.1 e).1 (fun e2=>a (by injection e2))).trans e⟩
 ·by_cases e:k=b
  ·subst e;exact c
  ·obtain⟨es,ck,e3⟩:=hk;exact⟨es,ck,(hg.block k (Array.getElem?_eq_some_iff.1 e3).1 (fun e2=>e (by injection e2))).trans e3⟩
def gA.maps{S:Nat→Prop}(hk:Fd.Kf S w w')(hm:∀k,S k→qZ w k)(c:∀k,S k→qZ w' k)(hE:∀k,S k→E k):gA E w w':=by
 refine⟨hk.os,hk.tape,hk.output,hk.size,fun k d=>?_,fun k T ht=>?_,fun k b=>?_⟩
 ·by_cases e:S k
  ·exact .inr ⟨hE k e,.inl (hm k e)⟩
  ·exact .inl (hk.block k d e)
 ·have a:¬S k:=fun e=>nB ht (hm k e)
  obtain⟨cur,fr,e⟩:=ht;exact⟨cur,fr,(hk.block k (Array.getElem?_eq_some_iff.1 e).1 a).trans e⟩
 ·by_cases e:S k
  ·exact c k e
  ·obtain⟨es,ck,e3⟩:=b;exact⟨es,ck,(hk.block k (Array.getElem?_eq_some_iff.1 e3).1 e).trans e3⟩
def gA.cells{b:Nat}{T:TypeId}(hg:w.grownBy w' (some b))(ht:Ty w b T)(hp:ee w w')(hT:iU T)(hE:E b):gA E w w':=by
 refine⟨hg.os,hg.tape,hg.output,hg.size,fun k hk=>?_,hp,fun k hk=>?_⟩
 ·by_cases e:k=b
  ·subst e;exact .inr ⟨hE,.inr ⟨T,hT,ht⟩⟩
  ·exact .inl (hg.block k hk (fun e2=>e (by injection e2)))
 ·have a:k≠b:=fun e=>by subst e;exact nB ht hk
  obtain⟨es,ck,e3⟩:=hk;exact⟨es,ck,(hg.block k (Array.getElem?_eq_some_iff.1 e3).1 (fun e2=>a (by injection e2))).trans e3⟩
def gA.setCell{b:Nat}{T:TypeId}(ht:Ty w b T)(hT:iU T)(hE:E b)(j:Nat)(u:Value):gA E w (w.setCell ⟨b,j,none⟩ u):=gA.cells (dk w b j u) ht (.set _ _ _) hT hE
def gA.off(h:gA E w w'){k:Nat}(hk:k<w.heap.size)(hn:¬E k):w'.heap[k]?=w.heap[k]?:=by
 rcases h.block k hk with e|e
 ·exact e
 ·exact absurd e.1 hn
def gA.typed(h:gA E w w'){k:Nat}{T:TypeId}(ht:Ty w k T)(hT:¬iU T):w'.heap[k]?=w.heap[k]?:=by
 rcases h.block k (jo ht)with e|⟨_,e⟩
 ·exact e
 ·rcases e with e|⟨T',a,e⟩
  ·exact(nB ht e).elim
  ·rw[kg ht e]at hT;exact absurd a hT
def gA.box(h:gA E w w'){g:Nat}{cs:cH}(hb:fq w g cs)(hn:¬E g):fq w' g cs:=fun i u hu=>by
 obtain⟨h1,h2⟩:=hb i u hu;have e:=h.off (World.block_lt_of_cell? _ _ h1) hn;exact⟨(World.cell?_of_block (a:=⟨g,i,none⟩) e).trans h1,(World.frozen?_of_block (a:=⟨g,i,none⟩) e).trans h2⟩
def gA.cell(h:gA E w w'){g j:Nat}{v:Value}(hc:w.cell? ⟨g,j,none⟩=some v)(hn:¬E g):w'.cell? ⟨g,j,none⟩=some v :=
 (World.cell?_of_block (a:=⟨g,j,none⟩) (h.off (World.block_lt_of_cell? _ _ hc) hn)).trans hc
def gA.rd(h:gA E w w'){A:cG}{xs:cH}{n:Nat}{T:TypeId}(hr:Rd w A xs)(ht:Fd.rV w A n T)(hn:0<xs.length→0<n)(hT:¬iU T):Rd w' A xs:=by
 intro hx;obtain⟨ad,e,hc⟩:=hr hx;have a:Ty w ad.block T:=ht (hn hx) ad e;refine⟨ad,e,fun j u hu=>?_⟩
 have e2:w'.heap[(ad.add j).block]?=w.heap[(ad.add j).block]?:=by rw[fu];exact h.typed a hT
 rw[World.cell?_of_block e2];exact hc j u hu
def gA.MZ(h:gA E w w'){A:cG}{n:Nat}{T:TypeId}(ht:Fd.rV w A n T):Fd.rV w' A n T:=fun hn ad ha=>h.ty _ _ (ht hn ad ha)
def gA.own(h:gA E w w'){base:Nat}{T:TypeId}{size:Nat}{v:Value}{n:Nat}{xs:cH}(ho:w.ownsRow base T size v n xs)(hT:¬iU T):w'.ownsRow base T size v n xs:=by
 refine⟨ho.1,?_⟩
 rcases ho.2 with e|⟨k,cap,cur,rfl,a,hh,r⟩
 ·exact .inl e
 ·exact .inr ⟨k,cap,cur,rfl,a,(h.typed ⟨_,_,hh⟩ hT).trans hh,r⟩
def gA.DQ(h:gA E w w'){base:Nat}{T:TypeId}{size:Nat}{v:Value}{n:Nat}{xs:cH}(ho:w.ownsRow base T size v n xs)(hn:∀k,v.ownBlock=some k→ ¬E k):w'.ownsRow base T size v n xs:=by
 refine⟨ho.1,?_⟩
 rcases ho.2 with e|⟨k,cap,cur,rfl,a,hh,r⟩
 ·exact .inl e
 ·exact .inr ⟨k,cap,cur,rfl,a,(h.off (ho.lt k rfl).2 (hn k rfl)).trans hh,r⟩
def J6:¬iU 169:=by unfold iU;decide
def oq:¬iU 181:=by unfold iU;decide
def Hh:¬iU 5:=by unfold iU;decide
def gA.la(h:gA E w w'){x:La}{A:cG}{c:Nat}{B:cG}{d:Nat}(hl:Fd.sD w x A c B d):Fd.sD w' x A c B d:=by
 obtain⟨⟨A',c',B',d',e,r1,r2,r3⟩,t1,t2⟩:=hl;simp only[ig,eE,eS,dJ,dp,fE,fv]at e;obtain⟨⟨rfl,rfl⟩,rfl,rfl⟩:=e;exact⟨⟨_,_,_,_,rfl,h.rd r1 t1 (by rw[lC];omega) J6,h.rd r2 t2 (by rw[gn];omega) oq,r3⟩,h.MZ t1,h.MZ t2⟩
def gA.Yb(h:gA E w w'){v:Option Value}{x:Option Hd}(he:iu w v x):iu w' v x:=by
 match v,x,he with
 |none,none,_=>trivial
 |some v,some x,⟨A,c1,B,d,e,hl⟩=>exact⟨A,c1,B,d,e,h.la hl⟩
def gA.el(h:gA E w w'){v:Option Value}{x:Option Fd.Hd}(he:Fd.iu w v x):Fd.iu w' v x:=by
 match v,x,he with
 |none,none,_=>trivial
 |some v,some x,⟨A,c1,B,d,e,hl⟩=>exact⟨A,c1,B,d,e,h.la hl⟩
def gA.db(h:gA E w w'){gd b:Nat}{N:Db}(hd:iN w gd b N)(h1:¬E gd)(h2:¬E b):iN w' gd b N:=by
 obtain⟨⟨M,⟨D,⟨es,ck,hb,r⟩,hD⟩,he⟩,a⟩:=hd;exact⟨⟨M,⟨D,⟨es,ck,(h.off (Array.getElem?_eq_some_iff.1 hb).1 h2).trans hb,r⟩,hD⟩,fun i hi=>h.Yb (he i hi)⟩,h.cell a h1⟩
def gA.FX(h:gA E w w'){B b:Nat}{M:Int→Option Value}(hm:Fd.dV B w b M)(h2:¬E b):Fd.dV B w' b M:=by
 obtain⟨D,⟨es,ck,hb,r⟩,hD⟩:=hm;exact⟨D,⟨es,ck,(h.off (Array.getElem?_eq_some_iff.1 hb).1 h2).trans hb,r⟩,hD⟩
def gA.fl(h:gA E w w'){gf b:Nat}{iv:Int}{N:Fd.Fn}{f:Nat→Nat}(hf:Fd.fR w gf b iv N f)(h1:¬E gf)(h2:¬E b)(h3:∀i,i<256→(N i).isSome=true→ ¬E (f i)):Fd.fR w' gf b iv N f:=by
 refine⟨h.cell hf.c0 h1,h.cell hf.c1 h1,h.FX hf.nb h2,fun i hi D hD=>?_,hf.ne,hf.inj⟩
 obtain⟨M,hm,he⟩:=hf.el i hi D hD;exact⟨M,h.FX hm (h3 i hi (by rw[hD];rfl)),fun o ho=>h.el (he o ho)⟩
def gA.og(h:gA E w w'){go:Nat}{x:La}{mk:Bool}(ho:jg w go x mk)(ht:MJ w go)(h1:¬E go):jg w' go x mk∧MJ w' go:=by
 obtain⟨A,c,B,d,h0,r1,r2,h3,h4,h5,h6,h7,h8,h9⟩:=ho;have t1:Fd.rV w A x.adj.length 169:=fun hn ad ha=>ht.1 A _ c hn (h0.c 1 rfl) ad ha
 have t2:Fd.rV w B x.pre.length 181:=fun hn ad ha=>ht.2 B _ d hn (h0.c 2 rfl) ad ha
 have e:=h.off (h0.lt (by simp)) h1;exact ⟨⟨A,c,B,d,h.box h0 h1,h.rd r1 t1 (by rw [lC]; omega) J6,h.rd r2 t2 (by rw [gn]; omega) oq,h3,h4,h5,h6,h7,h8,h9⟩,
  ht.qG (World.cell?_of_block (a:=⟨go,1,none⟩) e) (World.cell?_of_block (a:=⟨go,2,none⟩) e) h.ty⟩
def gA.tp(h:gA E w w'){T:TypeId}{A:cG}{xs:cH}{n:Nat}(hr:Rd w A xs)(ht:Fd.rV w A n T)(hn:0<xs.length→0<n)(hT:¬iU T):Rd w' A xs∧Fd.rV w' A n T:=⟨h.rd hr ht hn hT,h.MZ ht⟩
def Az{gd b:Nat}{N:Db}(h:iN w gd b N):qZ w b:=by
 obtain⟨⟨M,⟨D,⟨es,ck,hb,_⟩,_⟩,_⟩,_⟩:=h;exact⟨es,ck,hb⟩
def CQ{gf b:Nat}{iv:Int}{N:Fd.Fn}{f:Nat→Nat}(h:Fd.fR w gf b iv N f):qZ w b:=by
 obtain⟨D,⟨es,ck,hb,r⟩,hD⟩:=h.nb;exact⟨es,ck,hb⟩
def xU{gf b:Nat}{iv:Int}{N:Fd.Fn}{f:Nat→Nat}(h:Fd.fR w gf b iv N f){i:Nat}(hi:i<256)(hs:(N i).isSome=true):qZ w (f i):=by
 obtain⟨D,hD⟩:=dC.1 hs;obtain⟨M,⟨D',⟨es,ck,hb,r⟩,a⟩,_⟩:=h.el i hi D hD;exact⟨es,ck,hb⟩
end
structure Po where
 l:Int
 o:Int
 c:Int
 ph:Int
 lf:Int
 bt:Int
def QT(p:Po):cH:=[p.l,p.o,p.c,p.ph,p.lf,p.bt]
def Lg:List Po→cH
 | []=>[]
 |p :: r=>QT p++Lg r
def Su(l:List Po):(Lg l).length=l.length*6:=by
 induction l with
 |nil=>rfl
 |cons p r ih=>simp only[Lg,QT,cX,List.length_cons,List.length_nil,ih];omega
def Sv(l:List Po):∀(k:Nat) (hk:k<l.length) (j:Nat) (hj:j<6),(Lg l)[k*6+j]?=(QT l[k])[j]?:=by
 induction l with
 |nil=>intro k hk;simp at hk
 |cons p r ih=>
   intro k hk j hj;have h6:(QT p).length=6:=rfl;cases k with
   |zero=>simp only[Lg,List.getElem_cons_zero];rw[eP (by omega)];simp
   |succ k=>
     simp only[Lg,List.getElem_cons_succ];rw[dY (by omega),h6,show(k+1)*6+j - 6=k*6+j by omega];exact ih k (by simpa using hk) j hj
def Ss(l:List Po):∀(k:Nat) (hk:k<l.length) (j:Nat) (hj:j<6) (u:Value) (p:Po) (hp:(QT l[k]).set j u=QT p),(Lg l).set (k*6+j) u=Lg (l.set k p):=by
 induction l with
 |nil=>intro k hk;simp at hk
 |cons q r ih=>
   intro k hk j hj u p hp;have h6:(QT q).length=6:=rfl;cases k with
   |zero=>
     simp only[List.getElem_cons_zero]at hp;simp only[Lg,List.set_cons_zero,pP,iQ];rw[B6 _ _ (by omega),hp]
   |succ k=>
     simp only[List.getElem_cons_succ]at hp;simp only[Lg,List.set_cons_succ];rw[iJ _ _ (by omega),h6,show(k+1)*6+j - 6=k*6+j by omega,ih k (by simpa using hk) j hj u p hp]
def Cw{w:World}{base:Nat}{e:TypeId}{size g n c:Nat}{xs:cH}(h:w.ownsRow base e size (.slice (some ⟨g,0,none⟩) n c) n xs){j:Nat}(hj:j<xs.length)(u:Value):(w.setCell ⟨g,j,none⟩ u).ownsRow base e size (.slice (some ⟨g,0,none⟩) n c) n (xs.set j u):=by
 refine⟨by rw[dw];exact h.1,?_⟩
 rcases h.2 with ⟨e1,_⟩|⟨g',cap,cur,e1,a,hh,h3,h4,h5,h6⟩
 ·cases e1
 ·injection e1 with e1 _ e3
  injection e1 with e1
  injection e1 with e1
  subst e1 e3;refine .inr ⟨g,c,cur.setIfInBounds j u,rfl,a,?_,h3,h4,by simpa using h5,?_⟩
  ·unfold World.setCell;simp only[YP,cR,hh,Option.map_some,Option.isSome_none,GZ,Un]
  ·rw[←h6];simp only[Array.toList_setIfInBounds];rw[List.take_set]
structure Sp where
 tp:Tp
 nd:Int
 bo:Int
 h1:Int
 h2:Int
 h3:Int
 tm:Int
 ps:List Po
 ov:Bool
 pre:List Pf
 db:Db
 fl:Fd.Fn
 x:La
 md:Bool
structure Sm where
 g:Nat
 P:cG
 cp:Nat
 gd:Nat
 bd:Nat
 gf:Nat
 bf:Nat
 go:Nat
 ff:Nat→Nat
 O:cG
 co:Nat
 L:cG
 cl:Nat
 B:cG
 cb:Nat
def Vm(m:Sm)(S:Sp):cH:=[S.tp.n,.slice m.O S.tp.ov.length m.co,.slice m.L S.tp.ln.length m.cl,S.nd,S.bo,S.h1,S.h2,S.h3,S.tm,.slice m.P S.ps.length m.cp,S.ov,.slice m.B S.pre.length m.cb,.pointer (some ⟨m.gd,0,none⟩),.pointer (some ⟨m.gf,0,none⟩),.pointer (some ⟨m.go,0,none⟩)]
structure fe (w:World) (m:Sm) (S:Sp) (col:Nat→Nat) (c:Nat):Prop where
 bx:fq w m.g (Vm m S)
 tg:Ty w m.g 109
 po:w.ownsRow 0 118 6 (.slice m.P S.ps.length m.cp) S.ps.length (Lg S.ps)
 rO:Rd w m.O (iw S.tp.ov)∧Fd.rV w m.O S.tp.ov.length 4
 rL:Rd w m.L (fw S.tp.ln)∧Fd.rV w m.L S.tp.ln.length 79
 rB:Rd w m.B (jU S.pre)∧Fd.rV w m.B S.pre.length 181
 lB:S.pre.length≤m.cb∧m.cb≤maxLen∧ ∀p∈S.pre,p.1<4294967296
 lT:S.tp.ov.length≤maxLen∧S.tp.ln.length≤maxLen
 db:iN w m.gd m.bd S.db
 fl:Fd.fR w m.gf m.bf S.h3 S.fl m.ff
 og:jg w m.go S.x S.md
 tO:MJ w m.go
 ty:Ty w m.go 166
 cg:col m.g=c
 cP:∀k,(Value.slice m.P S.ps.length m.cp).ownBlock=some k→col k=c
 co:col m.go=c
 cd:col m.bd=c
 cf:col m.bf=c
 cF:∀i,i<256→(S.fl i).isSome=true→col (m.ff i)=c
 z:col m.gd=0∧col m.gf=0
 ne:m.bd≠m.bf∧ ∀i,i<256→(S.fl i).isSome=true→m.ff i≠m.bd
 c0:c≠0
abbrev Ev(col:Nat→Nat)(c:Nat)(w w':World):Prop:=gA (fun k=>col k=c) w w'
section
variable {w w':World} {m:Sm} {S:Sp} {col:Nat → Nat} {c:Nat}
def nM:¬iU 4:=by unfold iU;decide
def nJ:¬iU 79:=by unfold iU;decide
def fY{base:Nat}{T:TypeId}{size:Nat}{v:Value}{n:Nat}{xs:cH}(ho:w.ownsRow base T size v n xs){k:Nat}(hk:v.ownBlock=some k):Ty w k T:=by
 rcases ho.2 with ⟨rfl,_⟩|⟨g,cap,cur,rfl,hg,hh,_⟩
 ·simp[Value.ownBlock]at hk
 ·simp only[Value.ownBlock,dB]at hk;subst hk;exact⟨_,_,hh⟩
def fe.iX(h:fe w m S col c){E:Nat→Prop}(he:gA E w w')(hE:∀k,k<w.heap.size→E k→col k≠c∧col k≠0):fe w' m S col c:=by
 have n1:∀ {k},k<w.heap.size→col k=c→ ¬E k:=fun hk e h2=>(hE _ hk h2).1 e
 have n0:∀ {k},k<w.heap.size→col k=0→ ¬E k:=fun hk e h2=>(hE _ hk h2).2 e
 obtain⟨o1,o2⟩:=he.og h.og h.tO (n1 h.og.lt h.co);exact ⟨he.box h.bx (n1 (jo h.tg) h.cg),he.ty _ _ h.tg,he.DQ h.po (fun k hk=>n1 (jo (fY h.po hk)) (h.cP k hk)),he.tp h.rO.1 h.rO.2 (by rw [fN]; exact id) nM,he.tp h.rL.1 h.rL.2 (by rw [fK]; omega) nJ,he.tp h.rB.1 h.rB.2 (by rw [gn]; omega) oq,h.lB,h.lT,
  he.db h.db (n0 h.db.lt.1 h.z.1) (n1 h.db.lt.2 h.cd),he.fl h.fl (n0 h.fl.lt.1 h.z.2) (n1 h.fl.lt.2 h.cf) (fun i hi hs=>n1 (h.fl.Xd hi hs) (h.cF i hi hs)),o1,o2,he.ty _ _ h.ty,h.cg,h.cP,h.co,h.cd,h.cf,h.cF,h.z,h.ne,h.c0⟩
def fe.below(h:fe w m S col c)(hb:cI w w'):fe w' m S col c:=h.iX (E:=fun _=>False) (gA.below hb) (fun _ _ e=>e.elim)
def fe.Od(h:fe w m S col c){a:Nat→Nat}(hc:∀k,k<w.heap.size→a k=col k):fe w m S a c :=
 ⟨h.bx,h.tg,h.po,h.rO,h.rL,h.rB,h.lB,h.lT,h.db,h.fl,h.og,h.tO,h.ty,(hc _ (jo h.tg)).trans h.cg,fun k hk=>(hc _ (jo (fY h.po hk))).trans (h.cP k hk),(hc _ h.og.lt).trans h.co,(hc _ h.db.lt.2).trans h.cd,(hc _ h.fl.lt.2).trans h.cf,fun i hi hs=>(hc _ (h.fl.Xd hi hs)).trans (h.cF i hi hs),⟨(hc _ h.db.lt.1).trans h.z.1,(hc _ h.fl.lt.1).trans h.z.2⟩,h.ne,h.c0⟩
def fe.gP(h:fe w m S col c){k:Nat}(hk:(Value.slice m.P S.ps.length m.cp).ownBlock=some k):k≠m.g:=fun e=>by
 have:=kg (fY h.po hk) (by rw[e];exact h.tg);exact absurd this (by decide)
def fe.oP(h:fe w m S col c){k:Nat}(hk:(Value.slice m.P S.ps.length m.cp).ownBlock=some k):k≠m.go:=fun e=>by
 have:=kg (fY h.po hk) (by rw[e];exact h.ty);exact absurd this (by decide)
def fe.gO(h:fe w m S col c):m.g≠m.go:=fun e=>by
 have:=kg h.tg (by rw[e];exact h.ty);exact absurd this (by decide)
def fe.nz(h:fe w m S col c){k:Nat}(hk:col k=c):k≠m.gd∧k≠m.gf:=⟨fun e=>h.c0 (by rw[←hk,e];exact h.z.1),fun e=>h.c0 (by rw[←hk,e];exact h.z.2)⟩
def fe.IF(h:fe w m S col c){N:Db}(hg:w.grownBy w' (some m.bd))(hd:iN w' m.gd m.bd N):fe w' m { S with db:=N } col c∧Ev col c w w':=by
 have a:=Az h.db;have he:gA (fun k=>k=m.bd) w w':=gA.map hg a (Az hd) rfl;obtain⟨o1,o2⟩:=he.og h.og h.tO (fun e=>by have:=h.ty;rw[e]at this;exact nB this a);refine⟨⟨he.box h.bx (fun e=>by have:=h.tg;rw[e]at this;exact nB this a),he.ty _ _ h.tg,he.DQ h.po (fun k hk e=>by have:=fY h.po hk;rw[e]at this;exact nB this a),he.tp h.rO.1 h.rO.2 (by rw[fN];exact id) nM,he.tp h.rL.1 h.rL.2 (by rw[fK];omega) nJ,he.tp h.rB.1 h.rB.2 (by rw[gn];omega) oq,h.lB,h.lT,hd,he.fl h.fl (fun e=>(h.nz h.cd).2 e.symm) (fun e=>h.ne.1 e.symm) (fun i hi hs=>h.ne.2 i hi hs),o1,o2,he.ty _ _ h.ty,h.cg,h.cP,h.co,h.cd,h.cf,h.cF,h.z,h.ne,h.c0⟩,he.mono fun k _ e=>by rw[e];exact h.cd⟩
def fe.D9(h:fe w m S col c){F:Fd.Fn}(hk:Fd.Kf (Fd.FS S.fl m.ff) w w')(hf:Fd.fR w' m.gf m.bf S.h3 F m.ff)(hs:∀l,(F l).isSome=(S.fl l).isSome):fe w' m { S with fl:=F } col c∧Ev col c w w':=by
 have hm:∀k,Fd.FS S.fl m.ff k→qZ w k:=fun k ⟨l,hl,a,e⟩=>by rw[e];exact xU h.fl hl a
 have he:gA (Fd.FS S.fl m.ff) w w':=gA.maps hk hm (fun k ⟨l,hl,a,e⟩=>by rw[e];exact xU hf hl (by rw[hs];exact a)) (fun _ e=>e);have b:∀ {k T},Ty w k T→ ¬Fd.FS S.fl m.ff k:=fun ht e=>nB ht (hm _ e)
 have d:∀k,Fd.FS S.fl m.ff k→col k=c:=fun k ⟨l,hl,a,e⟩=>by rw[e];exact h.cF l hl a
 obtain⟨o1,o2⟩:=he.og h.og h.tO (b h.ty);exact⟨⟨he.box h.bx (b h.tg),he.ty _ _ h.tg,he.DQ h.po (fun k hk=>b (fY h.po hk)),he.tp h.rO.1 h.rO.2 (by rw[fN];exact id) nM,he.tp h.rL.1 h.rL.2 (by rw[fK];omega) nJ,he.tp h.rB.1 h.rB.2 (by rw[gn];omega) oq,h.lB,h.lT,he.db h.db (fun e=>(h.nz (d _ e)).1 rfl) (fun⟨l,hl,a,e⟩=>h.ne.2 l hl a e.symm),hf,o1,o2,he.ty _ _ h.ty,h.cg,h.cP,h.co,h.cd,h.cf,fun i hi e=>h.cF i hi (by rw[←hs];exact e),h.z,⟨h.ne.1,fun i hi e=>h.ne.2 i hi (by rw[←hs];exact e)⟩,h.c0⟩,he.mono fun k _=>d k⟩
def fe.UI(h:fe w m S col c){F:Fd.Fn}{a:Nat→Nat}(hg:w.grownBy w' (some m.bf))(hf:Fd.fR w' m.gf m.bf S.h3 F a)(hn:∀i,i<256→(F i).isSome=true→w.heap.size≤a i∨((S.fl i).isSome=true∧a i=m.ff i)) :
  ∃d,(∀k,k<w.heap.size→d k=col k)∧fe w' { m with ff:=a } { S with fl:=F } d c∧Ev col c w w':=by
 have b:=CQ h.fl;have he:gA (fun k=>k=m.bf) w w':=gA.map hg b (CQ hf) rfl;obtain⟨o1,o2⟩:=he.og h.og h.tO (fun e=>by have:=h.ty;rw[e]at this;exact nB this b);have f:∀k,k<w.heap.size→(fun k=>if k<w.heap.size then col k else c) k=col k:=fun k hk=>cR hk
 have h2:=h.Od f;refine⟨fun k=>if k<w.heap.size then col k else c,f,⟨he.box h.bx (fun e=>by have:=h.tg;rw[e]at this;exact nB this b),he.ty _ _ h.tg,he.DQ h.po (fun k hk e=>by have:=fY h.po hk;rw[e]at this;exact nB this b),he.tp h.rO.1 h.rO.2 (by rw[fN];exact id) nM,he.tp h.rL.1 h.rL.2 (by rw[fK];omega) nJ,he.tp h.rB.1 h.rB.2 (by rw[gn];omega) oq,h.lB,h.lT,he.db h.db (fun e=>(h.nz h.cf).1 e.symm) h.ne.1,hf,o1,o2,he.ty _ _ h.ty,h2.cg,h2.cP,h2.co,h2.cd,h2.cf,fun i hi e=>?_,h2.z,⟨h.ne.1,fun i hi e=>?_⟩,h.c0⟩,he.mono fun k _ e=>by rw[e];exact h.cf⟩
 ·rcases hn i hi e with e2|⟨e2,e3⟩
  ·have e3:¬a i<w.heap.size:=by omega
   exact cN e3
  ·simp only[e3];exact h2.cF i hi e2
 ·rcases hn i hi e with e2|⟨e2,e3⟩
  ·have:=h.db.lt.2;show a i≠m.bd
   omega
  ·simp only[e3];exact h.ne.2 i hi e2
def fe.Ic(h:fe w m S col c){x:La}{mk:Bool}(hg:w.grownBy w' (some m.go))(ho:jg w' m.go x mk)(hk:iq w w' m.go):fe w' m { S with x:=x,md:=mk } col c∧Ev col c w w':=by
 have he:gA (fun k=>k=m.go) w w':=gA.cells hg h.ty hk.2.1 (.inr (.inr rfl)) rfl;have a:∀ {k},qZ w k→k≠m.go:=fun hm e=>by rw[e]at hm;exact nB h.ty hm
 exact⟨⟨he.box h.bx h.gO,he.ty _ _ h.tg,he.DQ h.po (fun k hk=>h.oP hk),he.tp h.rO.1 h.rO.2 (by rw[fN];exact id) nM,he.tp h.rL.1 h.rL.2 (by rw[fK];omega) nJ,he.tp h.rB.1 h.rB.2 (by rw[gn];omega) oq,h.lB,h.lT,he.db h.db (fun e=>(h.nz h.co).1 e.symm) (a (Az h.db)),he.fl h.fl (fun e=>(h.nz h.co).2 e.symm) (a (CQ h.fl)) (fun i hi hs=>a (xU h.fl hi hs)),ho,hk.2.2 h.tO,he.ty _ _ h.ty,h.cg,h.cP,h.co,h.cd,h.cf,h.cF,h.z,h.ne,h.c0⟩,he.mono fun k _ e=>by rw[e];exact h.co⟩
def fe.cell(h:fe w m S col c)(j:Nat)(hj:j<15)(u:Value){m':Sm}{S':Sp}(hs:(Vm m S).set j u=Vm m' S')(e1:m'.g=m.g)(e2:m'.gd=m.gd∧m'.bd=m.bd∧m'.gf=m.gf∧m'.bf=m.bf∧m'.go=m.go∧m'.ff=m.ff)(e3:m'.O=m.O∧m'.L=m.L∧m'.P=m.P∧m'.cp=m.cp)
  (e4:S'.tp=S.tp∧S'.ps=S.ps∧S'.db=S.db∧S'.fl=S.fl∧S'.h3=S.h3∧S'.x=S.x∧S'.md=S.md) (rB:Rd w m'.B (jU S'.pre)∧Fd.rV w m'.B S'.pre.length 181) (lB:S'.pre.length≤m'.cb∧m'.cb≤maxLen∧ ∀p∈S'.pre,p.1<4294967296) :
  fe (w.setCell ⟨m.g,j,none⟩ u) m' S' col c∧Ev col c w (w.setCell ⟨m.g,j,none⟩ u):=by
 have he:gA (fun k=>k=m.g) w (w.setCell ⟨m.g,j,none⟩ u):=gA.setCell (E:=fun k=>k=m.g) h.tg (.inl rfl) rfl j u;have a:∀ {k},qZ w k→k≠m.g:=fun hm e=>by rw[e]at hm;exact nB h.tg hm
 obtain⟨o1,o2⟩:=he.og h.og h.tO (fun e=>h.gO e.symm);obtain⟨g1,g2,g3,g4,g5,g6⟩:=e2;obtain⟨p1,p2,p3,p4⟩:=e3;obtain⟨s1,s2,s3,s4,s5,s6,s7⟩:=e4;have b:=h.bx.set j u (by simpa[Vm]using hj);rw[hs]at b;have hz:=h.z;have d:=h.ne;refine⟨⟨by rw[e1];exact b,by rw[e1];exact he.ty _ _ h.tg,by rw[p3,p4,s2];exact he.DQ h.po (fun k hk=>h.gP hk),by rw[p1,s1];exact he.tp h.rO.1 h.rO.2 (by rw[fN];exact id) nM,by rw[p2,s1];exact he.tp h.rL.1 h.rL.2 (by rw[fK];omega) nJ,he.tp rB.1 rB.2 (by rw[gn];omega) oq,lB,by rw[s1];exact h.lT,by rw[g1,g2,s3];exact he.db h.db (fun e=>(h.nz h.cg).1 e.symm) (a (Az h.db)),by rw[g3,g4,s4,s5,g6];exact he.fl h.fl (fun e=>(h.nz h.cg).2 e.symm) (a (CQ h.fl)) (fun i hi hs=>a (xU h.fl hi hs)),by rw[g5,s6,s7];exact o1,by rw[g5];exact o2,by rw[g5];exact he.ty _ _ h.ty,by rw[e1];exact h.cg,by rw[p3,p4,s2];exact h.cP,by rw[g5];exact h.co,by rw[g2];exact h.cd,by rw[g4];exact h.cf,by rw[s4,g6];exact h.cF,by rw[g1,g3];exact hz,by rw[g2,g4,s4,g6];exact d,h.c0⟩,he.mono fun k _ e=>by rw[e];exact h.cg⟩
def fe.port(h:fe w m S col c){gp:Nat}(hP:m.P=some ⟨gp,0,none⟩){i:Nat}(hi:i<S.ps.length)(j:Nat)(hj:j<6)(u:Value)(p:Po)(hp:(QT S.ps[i]).set j u=QT p) :
  fe (w.setCell ⟨gp,i*6+j,none⟩ u) m { S with ps:=S.ps.set i p } col c∧Ev col c w (w.setCell ⟨gp,i*6+j,none⟩ u):=by
 have a:(Value.slice m.P S.ps.length m.cp).ownBlock=some gp:=by rw[hP];rfl
 have f:=fY h.po a;have he:gA (fun k=>k=gp) w (w.setCell ⟨gp,i*6+j,none⟩ u):=gA.setCell (E:=fun k=>k=gp) f (.inr (.inl rfl)) rfl _ u;have b:∀ {k},qZ w k→k≠gp:=fun hm e=>by rw[e]at hm;exact nB f hm
 have d:=h.cP gp a;obtain⟨o1,o2⟩:=he.og h.og h.tO (fun e=>h.oP a e.symm);refine⟨⟨?_,he.ty _ _ h.tg,?_,he.tp h.rO.1 h.rO.2 (by rw[fN];exact id) nM,he.tp h.rL.1 h.rL.2 (by rw[fK];omega) nJ,he.tp h.rB.1 h.rB.2 (by rw[gn];omega) oq,h.lB,h.lT,he.db h.db (fun e=>(h.nz d).1 e.symm) (b (Az h.db)),he.fl h.fl (fun e=>(h.nz d).2 e.symm) (b (CQ h.fl)) (fun i hi hs=>b (xU h.fl hi hs)),o1,o2,he.ty _ _ h.ty,h.cg,?_,h.co,h.cd,h.cf,h.cF,h.z,h.ne,h.c0⟩,he.mono fun k _ e=>by rw[e];exact d⟩
 ·have:=he.box h.bx (fun e=>h.gP a e.symm);simp only[Vm,dw];exact this
 ·simp only[dw];rw[←Ss S.ps i hi j hj u p hp];have ho:=h.po;rw[hP]at ho ⊢;exact Cw ho (by rw[Su];omega) u
 ·simp only[dw];exact h.cP
end
end Go.Proofs.YtehimhbgakpenaaGreat
