/- Lemmas. -/
import Derived.Test.YtehimhbgakpenaaGreatad
set_option linter.all false
set_option maxRecDepth 100000
set_option maxHeartbeats 16000000
namespace Go.Proofs.YtehimhbgakpenaaGreat
open Go.RowKit Go.Maps Go.Sort Go.Proofs.Tryz
structure Env where
 t:Nat
 l:Nat
 m:Ms
abbrev sv:=Nat→Sp
def BH(S:sv)(v:Nat)(s:Sp):sv:=fun j=>if j=v then s else S j
def Rb(S:sv)(v:Nat)(s:Sp):BH S v s v=s:=cR rfl
def Ra(S:sv){v j:Nat}(s:Sp)(h:j≠v):BH S v s j=S j:=cN h
def Uj(t:Tp)(i k j:Nat):Prop:=∃x,t.ln[k]?=some x∧((x.a=i∧x.b=j)∨(x.a=j∧x.b=i))
def Uj.symm{t:Tp}{i k j:Nat}(h:Uj t i k j):Uj t j k i:=by
 obtain⟨x,hx,h⟩:=h;exact⟨x,hx,h.symm.imp id id⟩
def F3{t:Tp}(h:mE t){k:Nat}{x:Lk}(hx:t.ln[k]?=some x):sC t.n x:=h.all x (eu hx)
structure Yq (t:Tp) (i:Nat) (ps:List Po):Prop where
 mem:∀p∈ps,0≤p.l∧ ∃x,t.ln[p.l.toNat]?=some x∧(x.a=i∧p.o=x.b∧p.c=x.c∨x.b=i∧p.o=x.a∧p.c=x.d)
 all:∀(k:Nat) x,t.ln[k]?=some x→(x.a=i∨x.b=i)→ ∃p∈ps,p.l=k
 inc:ps.Pairwise fun p q=>p.l<q.l
def Ys(p:Po)(ph lf bt:Int):Prop:=p.ph=ph∧p.lf=lf∧p.bt=bt
def VN(ls:List Lk)(i:Int)(l:Nat):Int:=match ls[l]? with|some x=>x.a+x.b - i|none=>0
def kT(ls:List Lk)(i:Nat)(l:List (Int× Ms)):List Env:=l.map fun x=>⟨(VN ls i x.1.toNat).toNat,x.1.toNat,x.2⟩
def SY{t:Tp}{i k v:Nat}(h:Uj t i k v):VN t.ln v k=i:=by
 obtain⟨x,hx,h⟩:=h;unfold VN;rw[hx];simp only;omega
def TE{ps:List Po}{l:Int}{i:Nat}(h:jZ ps l=some i):∃hi:i<ps.length,ps[i].l=l:=by
 unfold jZ at h;rw[jV]at h;obtain⟨h1,h2,_⟩:=h;exact⟨h1,by simpa using h2⟩
def Nv{F:Fd.Fn}{q:Int}{x:La}:(q,x)∈Fd.oU F (Fd.iA F)↔ ∃(l o:Nat) (D:Fd.Db) (h:Fd.Hd),q=(l:Int)∧l<256∧F l=some D∧o<64∧D o=some h∧ ¬0<h.l∧x=h.x:=by
 unfold Fd.oU;rw[List.mem_flatMap];constructor
 ·rintro⟨q',hq',hx⟩;obtain⟨h1,h2⟩:=(Fd.jQ q').1 hq';obtain⟨D,hD⟩:=dC.1 h2;rw[hD]at hx;simp only[Fd.si,lv]at hx;obtain⟨o,ho,he⟩:=hx;unfold Fd.due at he;unfold Fd.eR at ho;rw[dW,dL]at ho;obtain⟨⟨o',b,rfl⟩,a⟩:=ho;rw[cU]at he a;obtain⟨h,hh⟩:=dC.1 a;rw[hh]at he;simp only at he;split at he
  ·cases he
  ·next h3=>
   simp only[Option.map_some,dB,iP]at he;exact⟨q'.toNat,o',D,h,by omega,by omega,hD,ec.1 b,hh,h3,he.2.symm⟩
 ·rintro⟨l,o,D,h,rfl,hl,hD,ho,hh,h3,rfl⟩;refine⟨(l:Int),(Fd.jQ _).2 ⟨⟨by omega,by omega⟩,by rw[cU,hD];rfl⟩,?_⟩
  rw[cU,hD];simp only[Fd.si,lv];refine⟨(o:Int),?_,?_⟩
  ·unfold Fd.eR;rw[dW,dL];exact⟨⟨o,ec.2 ho,rfl⟩,by rw[cU,hh];rfl⟩
  ·unfold Fd.due;rw[cU,hh];simp only[cN h3,Option.map_some]
noncomputable def zo(S:sv):sv:=fun i=>(oR (S i)).1
noncomputable def nW(ls:List Lk)(n:Nat)(S:sv):List Env:=(List.range n).flatMap fun i=>kT ls i (oR (S i)).2
def zS:∀(n:Nat) (L:List Nat),L.Nodup→(∀x∈L,x<n)→L.length≤n
 |0,L,_,h=>by
   cases L with
   |nil=>simp
   |cons a L=>have:=h a (by simp);omega
 |n+1,L,hn,h=>by
   by_cases hm:n∈L
   ·have h1:=zS n (L.erase n) (hn.erase n) fun x hx=>by
     have:=(hn.mem_erase_iff).1 hx;have:=h x this.2;omega
    rw[List.length_erase_of_mem hm]at h1;omega
   ·have h1:=zS n L hn fun x hx=>by
     have:=h x hx;have:x≠n:=fun e=>hm (e▸hx)
     omega
    omega
def VF{t:Tp}{i:Nat}{ps:List Po}(h:Yq t i ps):ps.length≤t.ln.length:=by
 have:=zS t.ln.length (ps.map fun p=>p.l.toNat) (by
  unfold List.Nodup;rw[gM];refine WY (fun {a b} ha hb c=>?_) h.inc;have h1:=(h.mem a ha).1;have h2:=(h.mem b hb).1;omega) (fun x hx=>by
  obtain⟨p,hp,rfl⟩:=dL.1 hx;obtain⟨_,y,hy,_⟩:=h.mem p hp;exact (dj.1 hy).1)
 rwa[dh]at this
def oF(T:TypeId):Prop:=T=148∨T=91∨T=31∨T=3∨T=85
def Zn(w:World)(k:Nat):Prop:=qZ w k∨ ∃T,oF T∧Ty w k T
structure rY (E:Nat→Prop) (w w':World):Prop where
 os:w'.os=w.os
 tape:w'.tape=w.tape
 output:w'.output=w.output
 size:w.heap.size≤w'.heap.size
 block:∀k,k<w.heap.size→w'.heap[k]?=w.heap[k]?∨(E k∧Zn w k)
section
variable {E E':Nat → Prop} {w w' w'':World}
def rY.cells{b:Nat}{T:TypeId}(hg:w.grownBy w' (some b))(ht:Ty w b T)(hT:oF T)(hE:E b):rY E w w':=by
 refine⟨hg.os,hg.tape,hg.output,hg.size,fun k hk=>?_⟩
 by_cases e:k=b
 ·subst e;exact .inr ⟨hE,.inr ⟨T,hT,ht⟩⟩
 ·exact .inl (hg.block k hk (fun e2=>e (by injection e2)))
def rY.off(h:rY E w w'){k:Nat}(hk:k<w.heap.size)(hn:¬E k):w'.heap[k]?=w.heap[k]?:=by
 rcases h.block k hk with e|e
 ·exact e
 ·exact absurd e.1 hn
def rY.typed(h:rY E w w'){k:Nat}{T:TypeId}(ht:Ty w k T)(hT:¬oF T):w'.heap[k]?=w.heap[k]?:=by
 rcases h.block k (jo ht)with e|⟨_,e⟩
 ·exact e
 ·rcases e with e|⟨T',a,e⟩
  ·exact(nB ht e).elim
  ·rw[kg ht e]at hT;exact absurd a hT
def rY.Xo(h:rY E w w'){k:Nat}{T:TypeId}(ht:Ty w k T)(hT:¬oF T):Ty w' k T:=by
 have e:=h.typed ht hT;obtain⟨cur,fr,e2⟩:=ht;exact⟨cur,fr,e.trans e2⟩
def rY.box(h:rY E w w'){g:Nat}{cs:cH}(hb:fq w g cs)(hn:¬E g):fq w' g cs:=fun i u hu=>by
 obtain⟨h1,h2⟩:=hb i u hu;have e:=h.off (World.block_lt_of_cell? _ _ h1) hn;exact⟨(World.cell?_of_block (a:=⟨g,i,none⟩) e).trans h1,(World.frozen?_of_block (a:=⟨g,i,none⟩) e).trans h2⟩
def rY.cell(h:rY E w w'){g j:Nat}{v:Value}(hc:w.cell? ⟨g,j,none⟩=some v)(hn:¬E g):w'.cell? ⟨g,j,none⟩=some v :=
 (World.cell?_of_block (a:=⟨g,j,none⟩) (h.off (World.block_lt_of_cell? _ _ hc) hn)).trans hc
def rY.rd(h:rY E w w'){A:cG}{xs:cH}{n:Nat}{T:TypeId}(hr:Rd w A xs)(ht:Fd.rV w A n T)(hn:0<xs.length→0<n)(hT:¬oF T):Rd w' A xs:=by
 intro hx;obtain⟨ad,e,hc⟩:=hr hx;have a:Ty w ad.block T:=ht (hn hx) ad e;refine⟨ad,e,fun j u hu=>?_⟩
 have e2:w'.heap[(ad.add j).block]?=w.heap[(ad.add j).block]?:=by rw[fu];exact h.typed a hT
 rw[World.cell?_of_block e2];exact hc j u hu
def rY.MZ(h:rY E w w'){A:cG}{n:Nat}{T:TypeId}(ht:Fd.rV w A n T)(hT:¬oF T):Fd.rV w' A n T:=fun hn ad ha=>h.Xo (ht hn ad ha) hT
def rY.DQ(h:rY E w w'){base:Nat}{T:TypeId}{size:Nat}{v:Value}{n:Nat}{xs:cH}(ho:w.ownsRow base T size v n xs)(hn:∀k,v.ownBlock=some k→ ¬E k):w'.ownsRow base T size v n xs:=by
 refine⟨ho.1,?_⟩
 rcases ho.2 with e|⟨k,cap,cur,rfl,a,hh,r⟩
 ·exact .inl e
 ·exact .inr ⟨k,cap,cur,rfl,a,(h.off (ho.lt k rfl).2 (hn k rfl)).trans hh,r⟩
def za:¬oF 169:=by unfold oF;decide
def wC:¬oF 181:=by unfold oF;decide
def rY.la(h:rY E w w'){x:La}{A:cG}{c:Nat}{B:cG}{d:Nat}(hl:Fd.sD w x A c B d):Fd.sD w' x A c B d:=by
 obtain⟨⟨A',c',B',d',e,r1,r2,r3⟩,t1,t2⟩:=hl;simp only[ig,eE,eS,dJ,dp,fE,fv]at e;obtain⟨⟨rfl,rfl⟩,rfl,rfl⟩:=e;exact⟨⟨_,_,_,_,rfl,h.rd r1 t1 (by rw[lC];omega) za,h.rd r2 t2 (by rw[gn];omega) wC,r3⟩,h.MZ t1 za,h.MZ t2 wC⟩
def rY.Yb(h:rY E w w'){v:Option Value}{x:Option Hd}(he:iu w v x):iu w' v x:=by
 match v,x,he with
 |none,none,_=>trivial
 |some v,some x,⟨A,c1,B,d,e,hl⟩=>exact⟨A,c1,B,d,e,h.la hl⟩
def rY.el(h:rY E w w'){v:Option Value}{x:Option Fd.Hd}(he:Fd.iu w v x):Fd.iu w' v x:=by
 match v,x,he with
 |none,none,_=>trivial
 |some v,some x,⟨A,c1,B,d,e,hl⟩=>exact⟨A,c1,B,d,e,h.la hl⟩
def rY.db(h:rY E w w'){gd b:Nat}{N:Db}(hd:iN w gd b N)(h1:¬E gd)(h2:¬E b):iN w' gd b N:=by
 obtain⟨⟨M,⟨D,⟨es,ck,hb,r⟩,hD⟩,he⟩,a⟩:=hd;exact⟨⟨M,⟨D,⟨es,ck,(h.off (Array.getElem?_eq_some_iff.1 hb).1 h2).trans hb,r⟩,hD⟩,fun i hi=>h.Yb (he i hi)⟩,h.cell a h1⟩
def rY.FX(h:rY E w w'){B b:Nat}{M:Int→Option Value}(hm:Fd.dV B w b M)(h2:¬E b):Fd.dV B w' b M:=by
 obtain⟨D,⟨es,ck,hb,r⟩,hD⟩:=hm;exact⟨D,⟨es,ck,(h.off (Array.getElem?_eq_some_iff.1 hb).1 h2).trans hb,r⟩,hD⟩
def rY.fl(h:rY E w w'){gf b:Nat}{iv:Int}{N:Fd.Fn}{f:Nat→Nat}(hf:Fd.fR w gf b iv N f)(h1:¬E gf)(h2:¬E b)(h3:∀i,i<256→(N i).isSome=true→ ¬E (f i)):Fd.fR w' gf b iv N f:=by
 refine⟨h.cell hf.c0 h1,h.cell hf.c1 h1,h.FX hf.nb h2,fun i hi D hD=>?_,hf.ne,hf.inj⟩
 obtain⟨M,hm,he⟩:=hf.el i hi D hD;exact⟨M,h.FX hm (h3 i hi (by rw[hD];rfl)),fun o ho=>h.el (he o ho)⟩
def rY.og(h:rY E w w'){go:Nat}{x:La}{mk:Bool}(ho:jg w go x mk)(ht:MJ w go)(h1:¬E go):jg w' go x mk∧MJ w' go:=by
 obtain⟨A,c,B,d,h0,r1,r2,h3,h4,h5,h6,h7,h8,h9⟩:=ho;have t1:Fd.rV w A x.adj.length 169:=fun hn ad ha=>ht.1 A _ c hn (h0.c 1 rfl) ad ha
 have t2:Fd.rV w B x.pre.length 181:=fun hn ad ha=>ht.2 B _ d hn (h0.c 2 rfl) ad ha
 have e:=h.off (h0.lt (by simp)) h1;exact ⟨⟨A,c,B,d,h.box h0 h1,h.rd r1 t1 (by rw [lC]; omega) za,h.rd r2 t2 (by rw [gn]; omega) wC,h3,h4,h5,h6,h7,h8,h9⟩,
  ⟨fun A n c hn hc ad ha=>h.Xo (ht.1 A n c hn (by rw [← World.cell?_of_block (a:=⟨go,1,none⟩) e]; exact hc) ad ha) za,fun A n c hn hc ad ha=>h.Xo (ht.2 A n c hn (by rw [← World.cell?_of_block (a:=⟨go,2,none⟩) e]; exact hc) ad ha) wC⟩⟩
def rY.tp(h:rY E w w'){T:TypeId}{A:cG}{xs:cH}{n:Nat}(hr:Rd w A xs)(ht:Fd.rV w A n T)(hn:0<xs.length→0<n)(hT:¬oF T):Rd w' A xs∧Fd.rV w' A n T:=⟨h.rd hr ht hn hT,h.MZ ht hT⟩
end
def Qu:¬oF 4:=by unfold oF;decide
def Pw:¬oF 79:=by unfold oF;decide
def Jj:¬oF 109:=by unfold oF;decide
def Ot:¬oF 118:=by unfold oF;decide
def Pb:¬oF 166:=by unfold oF;decide
def fe.app{w w':World}{m:Sm}{S:Sp}{d:Nat→Nat}{c:Nat}(h:fe w m S d c){k:Nat}{T:TypeId}(hg:w.grownBy w' (some k))(ht:Ty w k T)(hT:oF T)(h1:k≠m.gd)(h2:k≠m.gf):fe w' m S d c:=by
 have he:rY (fun j=>j=k) w w':=rY.cells hg ht hT rfl;have a:∀ {j T'},Ty w j T'→ ¬oF T'→ ¬j=k:=fun q1 q2 e=>by rw[e]at q1;rw[kg ht q1]at hT;exact q2 hT
 have b:∀ {j},qZ w j→ ¬j=k:=fun q1 e=>by rw[e]at q1;exact nB ht q1
 obtain⟨o1,o2⟩:=he.og h.og h.tO (a h.ty Pb);exact ⟨he.box h.bx (a h.tg Jj),he.Xo h.tg Jj,he.DQ h.po (fun j hj=>a (fY h.po hj) Ot),he.tp h.rO.1 h.rO.2 (by rw [fN]; exact id) Qu,he.tp h.rL.1 h.rL.2 (by rw [fK]; omega) Pw,he.tp h.rB.1 h.rB.2 (by rw [gn]; omega) wC,h.lB,h.lT,
  he.db h.db (fun e=>h1 e.symm) (b (Az h.db)),he.fl h.fl (fun e=>h2 e.symm) (b (CQ h.fl)) (fun i hi hs=>b (xU h.fl hi hs)),o1,o2,he.Xo h.ty Pb,h.cg,h.cP,h.co,h.cd,h.cf,h.cF,h.z,h.ne,h.c0⟩
def ZE:iF prog 92 148 (.agg #[.int .i64 0,.slice none 0 0]) 2 32:=⟨underlying92,by kernel_rfl,rfl,by omega⟩
def Xt(s:Sx):cH:=[s.l,.slice s.A s.bs.length s.c]
def Je(s:Sx):∀u∈Xt s,u.oneCell'=true:=by
 intro u hu;simp only[Xt,dA,eF,ik]at hu;rcases hu with rfl|rfl<;>rfl
def RG:¬iU 148:=by unfold iU;decide
def Nl(l:List Sx)(s:Sx):BI (l++ [s])=BI l++Xt s:=by rw[Hm];rfl
def lP{w w':World}{base b:Nat}{T T':TypeId}{size a:Nat}{v u:Value}{n m:Nat}{xs ys:cH}(ho:w.ownsRow base T size v n xs)(hu:w.ownsRow b T' a u m ys)(c:T≠T')(hg:w.grownBy w' u.ownBlock):w'.ownsRow base T size v n xs:=by
 refine⟨ho.1,?_⟩
 rcases ho.2 with e|⟨k,cap,cur,rfl,d,hh,r⟩
 ·exact .inl e
 ·refine .inr ⟨k,cap,cur,rfl,d,(hg.block k (ho.lt k rfl).2 (fun e=>c ?_)).trans hh,r⟩;exact kg (fY ho rfl) (fY hu e.symm)
def kX{w w':World}{b:Nat}{T T':TypeId}{a k:Nat}{u:Value}{m:Nat}{ys:cH}(ht:Ty w k T)(hu:w.ownsRow b T' a u m ys)(c:T≠T')(hg:w.grownBy w' u.ownBlock):w'.heap[k]?=w.heap[k]? :=
 hg.block k (jo ht) (fun e=>c (kg ht (fY hu e.symm)))
def gA.grow{E:Nat→Prop}{w wr w':World}{b:Option Nat}(h:gA E w wr)(hg:wr.grownBy w' b)(hb:∀k,b=some k→w.heap.size≤k):gA E w w':=by
 have a:∀k,k<w.heap.size→w'.heap[k]?=wr.heap[k]?:=fun k hk=>hg.block k (eh hk h.size) (fun e=>by have:=hb k e.symm;omega)
 refine⟨hg.os.trans h.os,hg.tape.trans h.tape,hg.output.trans h.output,cZ h.size hg.size,fun k hk=>?_,fun k T ht=>?_,fun k hm=>?_⟩
 ·rcases h.block k hk with e|e
  ·exact .inl ((a k hk).trans e)
  ·exact .inr e
 ·obtain⟨cur,fr,e⟩:=h.ty k T ht;exact⟨cur,fr,(a k (jo ht)).trans e⟩
 ·obtain⟨es,ck,e⟩:=h.mp k hm;exact⟨es,ck,(a k (Uz hm)).trans e⟩
structure vG (w wr:World) (m:Sm) (S:Sp) (col:Nat→Nat) (c:Nat) (A:cG) (ca:Nat) (ls:List Sx) (l:List (Int× Ms)):Prop where
 sp:fe wr m S col c
 ev:Ev col c w wr
 ow:wr.ownsRow w 148 2 (.slice A ls.length ca) ls.length (BI ls)
 so:∀s∈ls,GL wr w s
 eq:ls.map (fun s=>(s.l,s.bs))=oX l
 gd:m.gd<w∧m.gf<w
section
variable {w wr w':World} {m:Sm} {S:Sp} {col:Nat → Nat} {c:Nat} {A:cG} {ca:Nat} {ls:List Sx} {l:List (Int × Ms)}
def vG.below(h:vG w wr m S col c A ca ls l)(hb:cI wr w'):vG w w' m S col c A ca ls l :=
 ⟨h.sp.below hb,h.ev.tr (gA.below hb),dg h.ow hb,fun s hs=>dg (h.so s hs) hb,h.eq,h.gd⟩
def vG.app(h:vG w wr m S col c A ca ls l)(hg:wr.grownBy w' (Value.slice A ls.length ca).ownBlock):fe w' m S col c:=by
 rcases e:(Value.slice A ls.length ca).ownBlock with _|k
 ·rw[e]at hg;exact h.sp.below ⟨hg.os,hg.tape,hg.output,hg.size,fun k hk=>hg.block k hk (by simp)⟩
 ·rw[e]at hg;have:=(h.ow.lt k e).1;exact h.sp.app hg (fY h.ow e) (.inl rfl) (by have:=h.gd.1;omega) (by have:=h.gd.2;omega)
def vG.push(h:vG w wr m S col c A ca ls l){s:Sx}{mm:Ms}(hs:GL wr w s)(hq:s.bs=iy mm)(hg:wr.grownBy w' (Value.slice A ls.length ca).ownBlock){A':cG}{a:Nat}
  (ho:w'.ownsRow w 148 2 (.slice A' (ls.length+1) a) (ls.length+1) (BI ls++Xt s)):vG w w' m S col c A' a (ls++ [s]) (l++ [(s.l,mm)]):=by
 have vL:(ls++ [s]).length=ls.length+1:=by simp
 refine⟨h.app hg,h.ev.grow hg (fun k e=>(h.ow.lt k e).1),by rw[vL,Nl];exact ho,fun x hx=>?_,?_,h.gd⟩
 ·have b:GL wr w x:=by
   rcases eZ.1 hx with h1|h1
   ·exact h.so x h1
   ·rw[ew]at h1;subst h1;exact hs
  exact lP b h.ow (by decide) hg
 ·rw[ez,h.eq];unfold oX;simp[hq]
end
def XV{S:Sp}(h:(S.tm - 1) % S.h1=0){i:Nat}(hi:i<S.ps.length):(iI S).take (i+1)=(iI S).take i++ [(S.ps[i].l,⟨1,S.nd,S.bo,S.ps[i].bt,dT⟩)]:=by
 unfold iI;rw[cR h,cT (by simpa using hi)];simp
def XW{S:Sp}(h:(S.tm - 1) % S.h1=0):(iI S).take S.ps.length=iI S:=by
 unfold iI;rw[cR h,dn (by simp)]
def YQ{S:Sp}{sd:List Fd.Sd}(h:Fd.Hy sd=Fd.oU S.fl (Fd.iA S.fl)){k:Nat}(hk:k<sd.length):(mf S).take (k+1)=(mf S).take k++ [(sd[k].q,⟨2,0,S.bo,0,sd[k].x.y⟩)]:=by
 unfold mf;rw[←h];rw[cT (by simpa[Fd.Hy]using hk)];simp[Fd.Hy]
def YR{S:Sp}{sd:List Fd.Sd}(h:Fd.Hy sd=Fd.oU S.fl (Fd.iA S.fl)):(mf S).take sd.length=mf S:=by
 unfold mf;rw[←h,dn (by simp[Fd.Hy])]
def VZ{w:World}{base:Nat}{s:Fd.Lx}(h:Fd.qY w base s):Fd.sD w s.y s.A s.c s.B s.d:=by
 have ha:=fh.at h;obtain⟨A,c,B,d,e,o1,o2,_⟩:=h;simp only[ig,eE,eS,dJ,dp,fE,fv]at e;obtain⟨⟨rfl,rfl⟩,rfl,rfl⟩:=e;exact⟨ha,Fd.rH o1,Fd.rH o2⟩
def Jo(F:Fd.Fn):(Fd.oU F (Fd.iA F)).length≤16384:=by
 unfold Fd.oU;have hl:(Fd.iA F).length≤256:=by
  unfold Fd.iA;exact cZ cz (by simp)
 have key:∀l:List Int,(l.flatMap fun q=>match F q.toNat with|some D=>Fd.si q D (Fd.eR D)|none=>[]).length≤l.length*64:=fun l=>by
  induction l with
  |nil=>simp
  |cons q l ih=>
    rw[ZX,cX,dG];have:(match F q.toNat with|some D=>Fd.si q D (Fd.eR D)|none=>[]).length≤64:=by
     split
     ·unfold Fd.si;refine cZ (WX _ _) ?_;unfold Fd.eR;exact cZ cz (by simp)
     ·simp
    omega
 exact cZ (key (Fd.iA F)) (by omega)
def NL(l:List Fd.Sd):∀(k:Nat) (hk:k<l.length) (j:Nat) (hj:j<7),(Fd.Fc l)[7*k+j]?=(Fd.Ut l[k])[j]?:=by
 induction l with
 |nil=>intro k hk;simp at hk
 |cons p r ih=>
   intro k hk j hj;have h7:(Fd.Ut p).length=7:=rfl;cases k with
   |zero=>simp only[Fd.Fc,List.getElem_cons_zero];rw[eP (by omega)];simp
   |succ k=>
     simp only[Fd.Fc,List.getElem_cons_succ];rw[dY (by omega),h7,show 7*(k+1)+j - 7=7*k+j by omega];exact ih k (by simpa using hk) j hj
def KG{w:World}{A:cG}{l:List Fd.Sd}(h:Rd w A (Fd.Fc l))(k:Nat)(hk:k<l.length)(s:Fd.Sd)(hs:l[k]=s):∃b off,A=some ⟨b,off,none⟩∧ ∀j u,j<7→(Fd.Ut s)[j]?=some u→w.cell? ⟨b,off+k*7+j,none⟩=some u:=by
 obtain⟨b,off,e,hc⟩:=gE h (by rw[Fd.RS];omega);refine⟨b,off,e,fun j u hj hu=>?_⟩
 have:=hc (7*k+j) u (by rw[NL l k hk j hj,hs];exact hu)
 rwa[show off+(7*k+j)=off+k*7+j by omega]at this
structure BU (w wr:World) (m:Sm) (S:Sp) (col:Nat→Nat) (c:Nat) (A:cG) (ca:Nat) (ls:List Sx) (l:List (Int× Ms)) (B:cG) (cb:Nat) (sd:List Fd.Sd):Prop where
 sn:vG w wr m S col c A ca ls l
 sr:wr.ownsRow w 263 7 (.slice B sd.length cb) sd.length (Fd.Fc sd)
 la:∀s∈sd,Fd.sD wr s.x.y s.x.A s.x.c s.x.B s.x.d
section
variable {w wr w':World} {m:Sm} {S:Sp} {col:Nat → Nat} {c:Nat} {A:cG} {ca:Nat} {ls:List Sx} {l:List (Int × Ms)} {B:cG} {cb:Nat} {sd:List Fd.Sd}
def BU.below(h:BU w wr m S col c A ca ls l B cb sd)(hb:cI wr w'):BU w w' m S col c A ca ls l B cb sd :=
 ⟨h.sn.below hb,dg h.sr hb,fun s hs=>(gA.below (E:=fun _=>False) hb).la (h.la s hs)⟩
def BU.push(h:BU w wr m S col c A ca ls l B cb sd){s:Sx}{mm:Ms}(hs:GL wr w s)(hq:s.bs=iy mm)(hg:wr.grownBy w' (Value.slice A ls.length ca).ownBlock){A':cG}{a:Nat}
  (ho:w'.ownsRow w 148 2 (.slice A' (ls.length+1) a) (ls.length+1) (BI ls++Xt s)):BU w w' m S col c A' a (ls++ [s]) (l++ [(s.l,mm)]) B cb sd:=by
 refine⟨h.sn.push hs hq hg ho,lP h.sr h.sn.ow (by decide) hg,fun x hx=>?_⟩
 rcases e:(Value.slice A ls.length ca).ownBlock with _|k
 ·rw[e]at hg;exact(gA.below (E:=fun _=>False) ⟨hg.os,hg.tape,hg.output,hg.size,fun k hk=>hg.block k hk (by simp)⟩).la (h.la x hx)
 ·rw[e]at hg;exact(rY.cells (E:=fun j=>j=k) hg (fY h.sn.ow e) (.inl rfl) rfl).la (h.la x hx)
end
def AP(w:World)(m:Sm)(col:Nat→Nat)(c:Nat)(S':Sp)(l:List (Int× Ms))(e:Ending)(w':World):Prop:=∃v,e= .returned v∧pF w' w v l∧fe w' m S' col c∧Ev col c w w'
def NI(w:World)(m:Sm)(S:Sp)(f:Nat→Nat)(c:Nat)(h:fe w m S f c)(ok:eO S)(ax:1≤S.tm∧S.tm≤1000000000) :
  Calls prog 96 #[pt m.g] w (AP w m f c (vY S) (iI S++mf S)):=by
 have av:m.gd<w∧m.gf<w:=⟨h.db.lt.1,h.fl.lt.1⟩
 have ay:S.h1≠0:=by have:=ok.h1;omega
 have ai:=ok.pl;have R:vG w w m S f c none 0 [] []:=⟨h,gA.refl _ _,cn,fun s hs=>absurd hs (by simp),rfl,av⟩
 have k4:=h.cs.c4;have k3:=h.cs.c8;have k5:=h.cs.c5;have ad:=ok.fl;change Hid _ at ok h R ad;go_in;go_upto_region 2 with fail;go_quiet (fail);have j:=R.out.below (w':=w.drewN nq) (JZ nq);clear k4 k3 k5 R;generalize w.drewN nq=w2 at *;obtain⟨b,hb⟩:=ex ((S.tm - 1) % S.h1==0)
 rw[hb];change Hid _ at hb j;go_upto_if 19 with fail;go_cut [3] (fun v3 wx=>∃A ca ls,v3= .slice A ls.length ca∧Hid (vG w wx m S f c A ca ls (iI S)))
 case first=>
  rcases dH b with rfl|rfl
  ·have hz:(S.tm - 1) % S.h1=0:=by simpa using hb.out
   have hT:=fun i (hi:i<S.ps.length)=>XV hz hi
   have hE:=XW hz;have h1:Hid (vG w w2 m S f c none 0 [] ((iI S).take 0)):=by rw[uG];exact j
   have ac:Hid ((iI S).length≤512):=by
    unfold iI;rw[cR hz,dh];exact ai
   change Hid _ at hT hE;have k9:=j.out.sp.cs.c9;clear j hz;go_wp2_with fail;go_loopw [3,25] (fun v3 v25 wr=>∃(i:Nat) (A:cG) (ca:Nat) (ls:List Sx),v3= .slice A ls.length ca∧v25= .int .i64 i∧i≤S.ps.length∧Hid (ls.length=i)∧Hid (vG w wr m S f c A ca ls ((iI S).take i))) (fun _ v25 _=>S.ps.length - (intOf v25).toNat)
   case atStart=>exact⟨0,none,0,[],rfl,rfl,by omega,rfl,h1⟩
   case round=>
    clear h1 k9;obtain⟨i,A,ca,ls,rfl,rfl,hi,aa,h1⟩:=hrel
    by_cases hin:i<S.ps.length
    ·have Q:=hT.out i hin;obtain⟨gp,hP,hc⟩:=h1.out.sp.gp (by omega);have v:=hc i hin;obtain⟨p,hp⟩:=ex (S.ps[i])
     rw[hp]at v Q;have p0:=v.c0;have p1:=v.c1;have p2:=v.c2;have p3:=v.c3;have p4:=v.c4;have aq:=v.c4';have p5:=v.c5;rw[hP];replace Q:=φ Q;clear v hc hp;have aw:=cQ wr (.cells #[p.l,p.o,p.c,p.ph,p.lf,p.bt] 118);have S3:=((St.start wr).nw #[p.l,p.o,p.c,p.ph,p.lf,p.bt] 118 wr).drew;have h3:=h1.out.below S3.b;go_upto_region 6 with fail;clear p0 p1 p2 p3 p4 aq p5 aw;have T3:=jk wr #[p.l,p.o,p.c,p.ph,p.lf,p.bt] 118;generalize Z:World.alloc wr _=w3 at *;clear Z;have T4:Ty w3.drew wr 118:=T3;clear T3;have k3:=h3.sp.cs.c3;have PK:=zL w3.drew m S f c h3.sp p.l (.agg #[.int .i64 1,S.nd,i0,p.bt,i0,i0,i0,false,sn,sn]) ⟨1,S.nd,0,p.bt,dT⟩ ⟨none,0,none,0,rfl,(fQ _ 0).at⟩;unfold um at PK;generalize ae:iy _=bs at PK;replace PK:=φ PK;obtain⟨q0,-,-,-,-,q5⟩:=(S3.box 0 rfl).b6;refine gF (S:=fun W=>Cv W m.g 3 S.nd∧Cv W wr 0 p.l∧Cv W wr 5 p.bt) ⟨k3,q0,q5⟩ (fun D=>?_);(iterate 11 refine tA ?_);refine rF 11 (fun K hK=>?_);go_simp;refine PK.out.mono ?_;rintro e wa ⟨A2,c2,rfl,M,C⟩;dsimp only;have S4:=S3.call C;have h4:=h3.below C;refine hK _ _ ⟨h4.sp.cs.c3,S4.c 0 0 rfl rfl,S4.c 0 5 rfl rfl⟩ (fun D=>?_);clear hK K;have r:=cQ wa (.cells #[p.l,.slice A2 bs.length c2] 148);have S5:=S4.call r;have h5:=h4.below r;have J:=Rd.lit wa #[p.l,.slice A2 bs.length c2] 148;have L:=dg M r;refine rF 12 (fun K hK=>?_);go_simp;refine hK _ _ ⟨h5.sp.cs.c3,S5.c 0 0 rfl rfl,S5.c 0 5 rfl rfl⟩ (fun D=>?_);clear hK K;have d:=h5.ow;have F:=h5.ev.size;have x:=aa.out;have O:=ac.out;refine rF 13 (fun K hK=>?_);refine fJ rfl ZE (.tmp 29) (.tmp 41) (by rfl) w (by rfl) d (by rfl) (m:=1) (by rfl) J (Je ⟨p.l,A2,bs,c2⟩) (by simp only[maxLen];omega) (by omega) F (ls.length+1) _ rfl rfl ?_;intro v6 w6 G af H _;obtain⟨A6,c6,rfl,-⟩:=dN G;have T5:=ee.below r _ _ (ee.below C _ _ T4);have e6:=kX T5 d (by decide) H;have t:=h5.push (s:=⟨p.l,A2,bs,c2⟩) (mm:=⟨1,S.nd,S.bo,p.bt,dT⟩) (dx L h3.ev.size) ae.symm H G;rw[←Q.out]at t;have u:(ls++ [(⟨p.l,A2,bs,c2⟩:Sx)]).length=ls.length+1:=by simp
     refine hK _ _ ⟨t.sp.cs.c3,(cY (a:=⟨wr,0,none⟩) e6).trans (S5.c 0 0 rfl rfl),(cY (a:=⟨wr,5,none⟩) e6).trans (S5.c 0 5 rfl rfl)⟩ (fun D=>?_);clear hK K;refine tV 14 3 (.slice A6 (ls.length+1) c6) ?_
     refine dF ?_;have hrel:Hid ((ls++ [(⟨p.l,A2,bs,c2⟩:Sx)]).length=i+1):=φ (by rw[u,x]);rw[←u];replace t:=φ t;clear D u e6 T5 T4 G af H d F x O S3 S4 S5 h3 h4 h5 J L M C r k3 q0 q5 PK Q;go_wp2;go_round
     case rel=>exact⟨i+1,A6,c6,_,by simp,by go_num,by omega,hrel,t⟩
     case measure=>simp[intOf];omega
    ·have al:i=S.ps.length:=by omega
     have h2:Hid (vG w wr m S f c A ca ls (iI S)):=by
      have:=h1.out;rw[al,hE.out]at this;exact this
     have e1:decide ((i:Int)< (S.ps.length:Int))=false:=by simp;omega
     clear h1 al;go_wp2;go_meet;exact⟨A,ca,ls,rfl,h2⟩
  ·have e2:iI S= []:=by unfold iI;exact cN (by simpa using hb.out)
   have ag:Hid (vG w w2 m S f c none 0 [] (iI S)):=by rw[e2];exact j
   clear e2 j;go_wp2;go_meet;exact⟨none,0,[],rfl,ag⟩
 case rest=>
  clear j hb;obtain⟨A,ca,ls,rfl,h1⟩:=hcut;have PL:=Fd.LS wc m.gf m.bf S.h3 S.fl m.ff h1.out.sp.fl ad;unfold Fd.AW at PL;replace PL:=φ PL;have ar:=h1.out.sp.cs.c13;go_wp2_with fail;refine PL.out.mono ?_;rintro e w3 ⟨B,cb,sd,rfl,o3,T,ah,am,ak⟩;clear ar PL;have ht:=h1.out.sp.D9 ak am (fun l=>by unfold Fd.wB;simp);have au:sd.length≤16384:=by
   have:=dU List.length T;simp only[Fd.Hy,dh]at this;rw[this];exact Jo _
  have hP:BU w w3 m (vY S) f c A ca ls (iI S++(mf S).take 0) B cb sd :=
   ⟨⟨ht.1,h1.out.ev.tr ht.2,ht.2.own h1.out.ow RG,fun s hs=>ht.2.own (h1.out.so s hs) Hh,by rw[uG,gY];exact h1.out.eq,h1.out.gd⟩,dx o3 h1.out.ev.size,fun s hs=>VZ (ah s hs)⟩
  have hT:=fun k (hk:k<sd.length)=>YQ T hk
  have hE:=YR T;have ac:Hid ((iI S).length≤512):=by
   unfold iI;split
   ·rw[dh];exact φ ai
   ·exact φ (by simp)
  obtain⟨nd,N⟩:=ex sd.length
  rw[N]at au ⊢;change Hid _ at N hP hT hE;have P:=fun W A ca ls (h:BU w W m (vY S) f c A ca ls (iI S++mf S) B cb sd)=>(show AP w m f c (vY S) (iI S++mf S) (.returned (.slice A ls.length ca)) W from⟨_,rfl,⟨A,ca,ls,rfl,h.sn.ow,h.sn.so,h.sn.eq⟩,h.sn.sp,h.sn.ev⟩)
  replace P:=φ P;have V:Hid (ls.length=(iI S).length):=by
   have:=dU List.length h1.out.eq;simp only[dh,oX]at this;exact φ this
  clear ht o3 ah am ak T h1;go_wp2_with fail;go_loopw [3,50] (fun v3 Y wr=>∃(k:Nat) (A:cG) (ca:Nat) (ls:List Sx),v3= .slice A ls.length ca∧Y= .int .i64 k∧k≤nd∧Hid (ls.length=(iI S).length+k)∧Hid (BU w wr m (vY S) f c A ca ls (iI S++(mf S).take k) B cb sd)) (fun _ Y _=>nd - (intOf Y).toNat)
  case atStart=>exact⟨0,A,ca,ls,rfl,rfl,by omega,V,hP⟩
  case round=>
   clear hP V;obtain⟨k,A,ca,ls,rfl,rfl,hk,aa,hP⟩:=hrel
   by_cases hkn:k<nd
   ·have ab:k<sd.length:=by rw[N.out];exact hkn
    obtain⟨b3,n,rfl,z⟩:=KG (dQ hP.out.sr) k ab _ rfl;have I:=hT.out k ab;have U:=hP.out.la _ (di ab);obtain⟨s,hs⟩:=ex (sd[k])
    rw[hs]at z I U;obtain⟨q,⟨y,A3,c3,B3,d3⟩⟩:=s;simp only at I U;have y0:Cv wr b3 (n+k*7) q:=z 0 _ (by omega) rfl;have y1:Cv wr b3 (n+k*7+1) y.o:=z 1 _ (by omega) rfl;have y2:Cv wr b3 (n+k*7+2) y.s:=z 2 _ (by omega) rfl;have y3:Cv wr b3 (n+k*7+3) y.a:=z 3 _ (by omega) rfl;have y4:Cv wr b3 (n+k*7+4) y.ov:=z 4 _ (by omega) rfl;have y5:Cv wr b3 (n+k*7+5) (.slice A3 y.adj.length c3):=z 5 _ (by omega) rfl;have y6:Cv wr b3 (n+k*7+6) (.slice B3 y.pre.length d3):=z 6 _ (by omega) rfl;replace I:=φ I;clear z hs;have S3:=((St.start wr).nw #[q,y.o,y.s,y.a,y.ov,.slice A3 y.adj.length c3,.slice B3 y.pre.length d3] 263 wr)
    have T3:=jk wr #[q,y.o,y.s,y.a,y.ov,.slice A3 y.adj.length c3,.slice B3 y.pre.length d3] 263;have h3:=hP.out.below S3.b;have X:=(gA.below (E:=fun _=>False) S3.b).la U;go_upto_region 11 with fail;clear y0 y1 y2 y3 y4 y5 y6;generalize Z:World.alloc wr _=w3 at *;clear Z;have T4:=T3;clear T3;have PK:=zL w3 m (vY S) f c h3.sn.sp q (.agg #[.int .i64 2,i0,i0,i0,y.o,y.s,y.a,y.ov,.slice A3 y.adj.length c3,.slice B3 y.pre.length d3]) ⟨2,0,0,0,y⟩ ⟨A3,c3,B3,d3,rfl,X.1⟩;unfold um at PK;generalize ae:iy _=bs at PK;replace PK:=φ PK;have ap:∀W,St wr W [(wr,#[Value.int .i64 q,y.o,y.s,y.a,y.ov,.slice A3 y.adj.length c3,.slice B3 y.pre.length d3].toList)] []→(Cv W wr 0 q∧Cv W wr 1 y.o∧Cv W wr 2 y.s∧Cv W wr 3 y.a∧Cv W wr 4 y.ov∧Cv W wr 5 (.slice A3 y.adj.length c3)∧Cv W wr 6 (.slice B3 y.pre.length d3)):=fun W S=>⟨S.c 0 0 rfl rfl,S.c 0 1 rfl rfl,S.c 0 2 rfl rfl,S.c 0 3 rfl rfl,S.c 0 4 rfl rfl,S.c 0 5 rfl rfl,S.c 0 6 rfl rfl⟩
    have ao:=ap _ S3;obtain⟨z0,z1,z2,z3,z4,z5,z6⟩:=ao;go_wp2_with fail;refine PK.out.mono ?_;rintro e wa ⟨A2,c2,rfl,M,C⟩;clear z0 z1 z2 z3 z4 z5 z6;have S4:=S3.call C;have h4:=h3.below C;have r:=cQ wa (.cells #[q,.slice A2 bs.length c2] 148);have S5:=S4.call r;have h5:=h4.below r;have J:=Rd.lit wa #[q,.slice A2 bs.length c2] 148;have L:=dg M r;have d:=h5.sn.ow;have F:=h5.sn.ev.size;have x:=aa.out;have O:=ac.out;change Hid _ at F x;go_wp2_with (at_builtin;refine dK rfl ZE (.tmp 54) (.tmp 62) rfl w rfl d (m:=1) rfl rfl J (Je ⟨q,A2,bs,c2⟩) (by have:=x.out;simp only[maxLen];omega) (by have:=x.out;omega) F (ls.length+1) _ rfl rfl ?_;intro v6 w6 G af H _;obtain⟨A6,c6,rfl,-⟩:=dN G);have T5:=ee.below r _ _ (ee.below C _ _ T4);have e6:=kX T5 d (by decide) H;have t:=h5.push (s:=⟨q,A2,bs,c2⟩) (mm:=⟨2,0,S.bo,0,y⟩) (dx L h3.sn.ev.size) ae.symm H G;have u:(ls++ [(⟨q,A2,bs,c2⟩:Sx)]).length=ls.length+1:=by simp
    rw[dI,←I.out]at t;have hrel:Hid ((ls++ [(⟨q,A2,bs,c2⟩:Sx)]).length=(iI S).length+(k+1)):=φ (by rw[u,x.out];omega);replace t:=φ t;clear u e6 T5 T4 G af H d F x O S3 S4 S5 h3 h4 h5 J L M C r PK I ap U X;go_round
    case rel=>exact⟨k+1,A6,c6,ls++ [⟨q,A2,bs,c2⟩],by simp,by go_num,by omega,hrel,t⟩
    case measure=>simp[intOf];omega
   ·have aj:k=nd:=by omega
    have h2:BU w wr m (vY S) f c A ca ls (iI S++mf S) B cb sd:=by
     have:=hP.out;rw[aj,←N.out,hE.out]at this;exact this
    have hf:=φ (P wr A ca ls h2);have e1:decide ((k:Int)< (nd:Int))=false:=by simp;omega
    clear hP aj h2;go_wp2;go_ret;exact hf
def Vf{bs:List UInt8}(h:sK bs=0):qg (sJ bs)=true:=by
 unfold sJ;unfold sK at h;split at h
 ·next r hr=>
  simp only[h,gy];unfold qq at h;split at h
  ·split at h
   ·next h1=>exact h1.2
   ·cases h
  ·split at h
   ·split at h
    ·cases h
    ·split at h
     ·cases h
     ·split at h
      ·assumption
      ·cases h
   ·cases h
 ·cases h
noncomputable def pc(S:Sp)(l:Int)(bs:List UInt8):(Sp× List (Int× Ms))× Int :=
 match jZ S.ps l with
 |none=>((S,[]),2)
 |some i=>if sK bs≠0 then((S,[]),sK bs)else if (sJ bs).k=1∧(sJ bs).n≠(match S.ps[i]? with|some p=>p.o|none=>0)then((S,[]),1)else(gV S i (sJ bs),0)
def lh(w:World)(m:Sm)(col:Nat→Nat)(c:Nat)(r:(Sp× List (Int× Ms))× Int)(e:Ending)(w':World):Prop:=∃v,e= .returned (.tuple #[v,r.2])∧pF w' w v r.1.2∧gT w m col c r.1.1 w'
def OJ(w:World)(T:TypeId)(a b:Value){base:Nat}(hb:base≤w):(w.alloc (.cells #[a,b] T)).ownsRow base T 2 (.slice (some ⟨w,0,none⟩) 1 1) 1 [a,b] :=
 ⟨by simp,.inr ⟨w,1,#[a,b],rfl,hb,ib w _,by omega,by simp[maxLen],by simp,by simp⟩⟩
def XK{w:World}{base:Nat}{y:La}{A:cG}{c:Nat}{B:cG}{d:Nat}(h:fh w base (yE y A c B d) y):Fd.sD w y A c B d:=by
 have ha:=fh.at h;obtain⟨A',c',B',d',e,o1,o2,_⟩:=h;simp only[ig,eE,eS,dJ,dp,fE,fv]at e;obtain⟨⟨rfl,rfl⟩,rfl,rfl⟩:=e;exact⟨ha,Fd.rH o1,Fd.rH o2⟩
def JN(S:Sp)(l:Int)(a:La):(rR S l a).1.bo=S.bo:=by
 unfold rR;split
 ·rfl
 ·split<;>rfl
def Q9(S:Sp)(l:Int)(a:La):(jz S l a).1.bo=S.bo:=by
 unfold jz;split
 ·split
  ·rfl
  ·split
   ·rfl
   ·exact JN _ _ _
 ·exact JN _ _ _
def PR{ps:List Po}{l:Int}{i:Nat}(h:jZ ps l=some i):∃hi:i<ps.length,ps[i].l=l:=by
 unfold jZ at h;rw[jV]at h;obtain⟨h1,h2,_⟩:=h;exact⟨h1,by simpa using h2⟩
def vg(w:World)(m:Sm)(S:Sp)(d:Nat→Nat)(c:Nat)(h:fe w m S d c)(ok:eO S)(l:Int)(A:cG)(n cap:Nat)(bs:List UInt8)(hr:Bs w A bs)(hn:bs.length=n)(ab:n≤cap)(hm:cap≤maxLen)(ao:n≤100000) :
  Calls prog 24 #[pt m.g,l,.slice A n cap] w (lh w m d c (pc S l bs)):=by
 have P:=wA w m S d c h (by have:=ok.pl;omega) l;unfold pG at P;rcases hf:jZ S.ps l with _|i
 ·rw[hf]at P;have hu:pc S l bs=((S,[]),2):=by unfold pc;rw[hf]
  rw[hu];have t:lh w m d c ((S,[]),2) (.returned (.tuple #[sn,.int .i64 2])) w:=⟨_,rfl,oT _ _,gT.of h (gA.refl _ _)⟩
  replace P:=φ P;replace t:=φ t;clear h hf hu ok hr;go_in;go_wp2_with fail;refine P.out.mono ?_;rintro e w1 ⟨rfl,rfl⟩;clear P;go_wp2;go_ret2;exact t
 ·rw[hf]at P;obtain⟨hi,ar⟩:=PR hf;obtain⟨p,hp⟩:=ex (S.ps[i])
  have U:=EP A n cap bs w hr hn ab hm ao;have I:Hid (sK bs=0→qg (sJ bs)=true):=Vf;have af:Hid (sK bs≠0→pc S l bs=((S,[]),sK bs)):=fun e=>by unfold pc;rw[hf];simp only[cR e]
  have ae:Hid (sK bs=0→(sJ bs).k=1→(sJ bs).n≠p.o→pc S l bs=((S,[]),1)):=fun e e1 e2=>by
   unfold pc;rw[hf];simp only[cM hi,hp];rw[cN (by simp[e]),cR ⟨e1,e2⟩]
  have ad:Hid (sK bs=0→((sJ bs).k=1→(sJ bs).n=p.o)→pc S l bs=(gV S i (sJ bs),0)):=fun e e1=>by
   unfold pc;rw[hf];simp only[cM hi,hp];rw[cN (by simp[e]),cN (fun e2=>e2.2 (e1 e2.1))]
  have aA:=hp;rw[hp]at ar;generalize pc S l bs=R at *;generalize sK bs=E at *;generalize sJ bs=mm at *;subst ar;change Hid _ at h ok hp;replace P:=φ P;replace U:=φ U;clear hf hr hn ab hm ao aA;go_in;go_wp2_with fail;refine P.out.mono ?_;rintro e w1 ⟨rfl,gp,hP,rfl⟩;clear P;go_wp2_with fail;unfold Em at U;refine U.out.mono ?_;rintro e w1 ⟨v,rfl,⟨A2,ca,B2,da,rfl,aa⟩,hb⟩;clear U;have S2:=(((St.start w).call hb).nw #[mm.k,mm.n,mm.b,mm.h,mm.y.o,mm.y.s,mm.y.a,mm.y.ov,.slice A2 mm.y.adj.length ca,.slice B2 mm.y.pre.length da] 142 w1)
  have T2:=jk w1 #[mm.k,mm.n,mm.b,mm.h,mm.y.o,mm.y.s,mm.y.a,mm.y.ov,.slice A2 mm.y.adj.length ca,.slice B2 mm.y.pre.length da] 142;have aw:=cQ w1 (.cells #[mm.k,mm.n,mm.b,mm.h,mm.y.o,mm.y.s,mm.y.a,mm.y.ov,.slice A2 mm.y.adj.length ca,.slice B2 mm.y.pre.length da] 142);have aq:=XK (aa.below aw);have h2:=h.out.below S2.b;have v2:Ev d c w _:=gA.below S2.b;go_upto_if 24 with fail;generalize ay:World.alloc w1 _=w2 at *;clear ay aa hb aw;generalize w1.heap.size=kb at *;change Hid _ at h2 v2;replace h:=φ True.intro
  by_cases hE:E=0
  ·have e1:(E !=0)=false:=by simp[hE]
   have H:=sX (I hE);have B:Hid (mm.k=1→mm.n≠p.o→R=((S,[]),1)):=ae.out hE;have u:Hid ((mm.k=1→mm.n=p.o)→R=(gV S i mm,0)):=ad.out hE;change Hid _ at hE H;clear af ae ad I;have C:=h2.out.XJ hP hi;rw[hp.out]at C
   by_cases hk:mm.k=1
   ·have e2:(mm.k==1)=true:=by simp[hk]
    have p1:=C.c1;obtain⟨c0,c1⟩:=(S2.box 0 rfl).b2;clear C
    by_cases hn:mm.n=p.o
    ·have e3:(mm.n !=p.o)=false:=by simp[hn]
     have hR:=u.out (fun _=>hn);have f:gV S i mm=(Ai S i mm.b mm.h,[]):=by
      unfold gV;rw[cM hi,hp.out];simp only[hk,gy]
     rw[f]at hR;change Hid _ at hk hn hR;clear f B u;go_upto_region 10 with fail;go_quiet (fail);have h3:=h2.out.below (w':=w2.drewN nq) (JZ nq);have v3:=v2.out.tr (gA.below (E:=fun k=>d k=c) (below_drewN (sa w2 w2) nq));have S3:=S2.call (JZ nq);clear p1 c0 c1 h2 v2 S2;generalize w2.drewN nq=w3 at *;obtain⟨c0,c1,c2,c3,c4,c5,c6,c7,c8,c9⟩:=(S3.box 0 rfl).iM;have av:0≤mm.b∧mm.b≤1073741824:=by have:=H.out.1;omega
     have RH:=φ (HJ w3 m S d c h3 gp hP i mm A2 ca B2 da ok.out.h2 (ok.out.fo hi 0 0) p hp ((ok.out.UE hi p av).fo (by rw[wZ,Aj];exact hi) _ _));have t:Hid (∀W,gT w3 m d c (Ai S i mm.b mm.h) W→lh w m d c R (.returned (.tuple #[sn,i0])) W):=fun W M=>by
      rw[hR.out];exact⟨_,rfl,oT _ _,gT.from v3 M⟩
     clear hR h3 v3 S3 av;go_wp2_with fail;refine RH.out.mono ?_;rintro e w9 ⟨rfl,M⟩;have hf:=t.out w9 M;clear RH M t c0 c1 c2 c3 c4 c5 c6 c7 c8 c9;go_wp2;go_ret2;exact hf
    ·have e3:(mm.n !=p.o)=true:=by simp[hn]
     have hR:=B.out hk hn;have hf:∀W,cI w2 W→lh w m d c R (.returned (.tuple #[sn,.int .i64 1])) W:=fun W hb=>by
      rw[hR];exact⟨_,rfl,oT _ _,gT.of (h2.out.below hb) (v2.out.tr (gA.below hb))⟩
     change Hid _ at hk hn hf;clear hR B u;go_upto_region 10 with fail;go_quiet (fail);have aB:=hf.out _ (below_drewN (sa w2 w2) nq);clear p1 c0 c1;go_wp2;go_ret2;exact aB
   ·have e2:(mm.k==1)=false:=by simp[hk]
    have x:mm.k=2∨mm.k=3:=by rcases H.out.2 with ⟨h1,_⟩|⟨h1,_⟩;exact absurd h1 hk;exact h1
    have G:dS mm.y:=by rcases H.out.2 with ⟨h1,_⟩|⟨_,_,_,h1⟩;exact absurd h1 hk;exact h1
    have hR:=u.out (fun h1=>absurd h1 hk);have p3:=cell_regrown C.c3;have p5:=cell_regrown C.c5;have q2:=cell_regrown (S2.c 0 2 rfl rfl);have q0:=S2.c 0 0 rfl rfl;have ah:Hid (p.ph≠2∨p.bt≠mm.b→ ∀W,cI w2 W→lh w m d c R (.returned (.tuple #[sn,i0])) W):=fun hc W hb=>by
     have f:gV S i mm=(S,[]):=by
      unfold gV;rw[cM hi,hp.out];simp only[cN hk,cR hc]
     rw[hR,f];exact⟨_,rfl,oT _ _,gT.of (h2.out.below hb) (v2.out.tr (gA.below hb))⟩
    change Hid _ at hk x hR G;clear C B u;go_upto_region 14 with fail;go_cut [54] (fun ax wx=>ax= .bool (p.ph !=2||p.bt !=mm.b)∧cI w2 wx)
    case first=>
     rcases dH (p.ph !=2)with e3|e3
     all_goals
      refine wp_region_quiet_below (by kernel_rfl) (by kernel_rfl) ?_
      repeat (go_big_quiet_step (fail))
      refine fI ?_;intro _ az;obtain⟨⟨dq,aj⟩,al⟩:=az;subst al;have z:=below_regrown w2 dq aj;dsimp only;generalize Sort.grow (redrawn w2 dq) aj=wq at z ⊢;go_wp2;go_meet;exact⟨by simp[e3],z⟩
    case rest=>
     obtain⟨rfl,hb⟩:=hcut;clear p3 p5 q2 q0;generalize z:(p.ph !=2||p.bt !=mm.b)=bq;replace z:=φ z;rcases dH bq with rfl|rfl
     ·have hf:=ah.out (by simpa using z.out) _ hb;clear ah;go_wp2;go_ret2;exact hf
     ·have hc:¬(p.ph≠2∨p.bt≠mm.b):=by simpa using z.out
      have h3:=h2.out.below hb;have v3:=v2.out.tr (gA.below (E:=fun k=>d k=c) hb);have S3:=S2.call hb;have T3:=ee.below hb _ _ T2;have F:=(gA.below (E:=fun _=>False) hb).la aq;have D:=S3.box 0 rfl;have f:(mm.k=2→gV S i mm=((jz S p.l mm.y).1,if (jz S p.l mm.y).2=true then [(p.l,⟨3,0,S.bo,0,mm.y⟩)]else []))∧(mm.k≠2→gV S i mm=({ S with fl:=pM S.fl p.l.toNat mm.y },[])):=by
       constructor
       ·intro h4;unfold gV;rw[cM hi,hp.out];simp only[cN hk.out,cN hc,cR h4]
       ·intro h4;unfold gV;rw[cM hi,hp.out];simp only[cN hk.out,cN hc,cN h4]
      change Hid _ at f hc;have q:=ok.out.ps _ (di hi);rw[hp.out]at q;replace q:=φ q;have J:∀W,fq W kb [mm.k,mm.n,mm.b,mm.h,mm.y.o,mm.y.s,mm.y.a,mm.y.ov,.slice A2 mm.y.adj.length ca,.slice B2 mm.y.pre.length da]→(Cv W kb 4 mm.y.o∧Cv W kb 5 mm.y.s∧Cv W kb 6 mm.y.a∧Cv W kb 7 mm.y.ov∧Cv W kb 8 (.slice A2 mm.y.adj.length ca)∧Cv W kb 9 (.slice B2 mm.y.pre.length da)):=fun W h=>⟨h.c 4 rfl,h.c 5 rfl,h.c 6 rfl,h.c 7 rfl,h.c 8 rfl,h.c 9 rfl⟩
      have q0:=S3.c 0 0 rfl rfl;clear h2 v2 S2 ah hb aq T2;rcases x.out with Q|O
      ·have e4:(mm.k==2)=true:=by simp[Q]
       have j:=hR.out;rw[f.out.1 Q]at j;have RU:=HI wc m S d c h3 ok.out.db gp hP i hi p hp q.out.l mm.y A2 ca B2 da F G (by have:=ok.out.xl;omega) (by have:=ok.out.xl;omega) ok.out.xs.1 ok.out.xs.2;have T:(jz S p.l mm.y).1.bo=S.bo:=Q9 _ _ _;generalize jz S p.l mm.y=r at *;obtain⟨S4,b⟩:=r;simp only at RU j T;change Hid _ at Q j T;replace RU:=φ RU;clear f hR x;obtain⟨q4,q5,q6,q7,q8,q9⟩:=J _ D;go_wp2_with fail;refine RU.out.mono ?_;rintro e w4 ⟨rfl,H4,V4⟩;clear RU q0 q4 q5 q6 q7 q8 q9;have v4:=v3.tr V4;have ai:=V4.yS D T3 yU;have ac:=V4.la F;obtain⟨q4,q5,q6,q7,q8,q9⟩:=J _ ai;clear S3 T3 F D h3 v3 V4;rcases dH b with rfl|rfl
       ·have PK:=zL w4 m S4 d c H4 p.l (.agg #[.int .i64 3,i0,i0,i0,mm.y.o,mm.y.s,mm.y.a,mm.y.ov,.slice A2 mm.y.adj.length ca,.slice B2 mm.y.pre.length da]) ⟨3,0,0,0,mm.y⟩ ⟨A2,ca,B2,da,rfl,ac.1⟩;unfold um at PK;rw[show({ k:=3,n:=0,b:=S4.bo,h:=0,y:=mm.y }:Ms)=⟨3,0,S.bo,0,mm.y⟩by rw[T.out]]at PK;obtain⟨bz,au⟩:=ex (iy ⟨3,0,S.bo,0,mm.y⟩)
        rw[au]at PK;replace PK:=φ PK;go_wp2_with fail;refine PK.out.mono ?_;rintro e w5 ⟨A5,c5,rfl,am,X⟩;clear PK q4 q5 q6 q7 q8 q9;have V:=cQ w5 (.cells #[p.l,.slice A5 bz.length c5] 148);have ag:w.heap.size≤w4.heap.size:=v4.size;have Z:w.heap.size≤w5.heap.size:=cZ ag X.size;have hf:lh w m d c R (.returned (.tuple #[.slice (some ⟨w5,0,none⟩) 1 1,i0])) (World.alloc w5 (.cells #[p.l,.slice A5 bz.length c5] 148)):=by
         rw[j.out];refine⟨_,rfl,⟨_,1,[⟨p.l,A5,bz,c5⟩],rfl,OJ w5 _ _ _ Z,fun s hs=>?_,?_⟩,gT.of ((H4.below X).below V) ((v4.tr (gA.below X)).tr (gA.below V))⟩
         ·rw[ew]at hs;subst hs;exact dx (dg am V) ag
         ·simp[oX,au]
        clear am X V ag Z H4 v4 ac ai j;go_wp2;go_ret2;exact hf
       ·have hf:lh w m d c R (.returned (.tuple #[sn,i0])) w4:=by
         rw[j.out];exact⟨_,rfl,oT _ _,gT.of H4 v4⟩
        clear H4 v4 ac ai j q4 q5 q6 q7 q8 q9;go_wp2;go_ret2;exact hf
      ·have e4:(mm.k==2)=false:=by simp[O]
       have e5:(mm.k==3)=true:=by simp[O]
       have j:=hR.out;rw[f.out.2 (by omega)]at j;change Hid _ at j O;clear f hR x;go_upto_region 21 with fail;obtain⟨q4,q5,q6,q7,q8,q9⟩:=J _ D;obtain⟨ln,N⟩:=de q.out.l.1;have ap:ln<256:=by have:=q.out.l.2;omega
       have h4:=h3.below bd;have SA:=Fe wc.drew m S d c h4 ln ap _ mm.y ((gA.below (E:=fun _=>False) bd).la F).1 (lW (by have:=G.out.1;omega) (by have:=G.out.1;omega));rw[←N]at SA;have Y:R=(({ S with fl:=pM S.fl ln mm.y },[]),0):=by rw[j.out,N];rfl
       change Hid _ at Y N;replace SA:=φ SA;have ak:=h4.cs.c13;refine gF (S:=fun W=>Cv W m.g 13 (pt m.gf)∧(Cv W kb 4 mm.y.o∧Cv W kb 5 mm.y.s∧Cv W kb 6 mm.y.a∧Cv W kb 7 mm.y.ov∧Cv W kb 8 (.slice A2 mm.y.adj.length ca)∧Cv W kb 9 (.slice B2 mm.y.pre.length da))) ⟨ak,q4,q5,q6,q7,q8,q9⟩ (fun L=>?_);(iterate 7 refine tA ?_);refine rF 7 (fun K hK=>?_);go_simp;refine SA.out.mono ?_;rintro e w5 ⟨⟨b,r,rfl⟩,H5,V5⟩;dsimp only;have hf:lh w m d c R (.returned (.tuple #[sn,i0])) w5:=by
        rw[Y.out];exact⟨_,rfl,oT _ _,gT.of H5 ((v3.tr (gA.below bd)).tr V5)⟩
       refine hK _ _ ⟨H5.cs.c13,J _ (V5.yS (D.later bd) T3 yU)⟩ (fun L=>?_);clear hK K L H5 V5 SA ak q4 q5 q6 q7 q8 q9 h4 D S3 h3 v3 F J q0 j Y;refine dF ?_;go_wp2;go_ret2;exact hf
  ·have e1:(E !=0)=true:=by simp[hE]
   have hf:lh w m d c R (.returned (.tuple #[sn,E])) w2:=by
    rw[af.out hE];exact⟨_,rfl,oT _ _,gT.of h2 v2⟩
   replace hE:=φ hE;clear af ae ad I;go_wp2;go_ret2;exact hf
def J8(w:World)(m:Sm)(col:Nat→Nat)(c:Nat)(r:Sp× List (Int× Ms))(e:Ending)(w':World):Prop:=∃v,e= .returned v∧pF w' w v r.2∧gT w m col c r.1 w'
def CA(ps:List Po)(k:Nat)(hk:k<ps.length):pw ps (k+1)=(pw ps k||(He.oz ps[k].ph (He.vc ps[k].ph ps[k].lf 1)==2)):=by
 unfold pw;rw[cT hk,List.any_append];simp only[List.any_cons,List.any_nil,xw];rfl
def Tq:¬iU 3:=by unfold iU;decide
def Cs(nd:Int)(N:Db)(F:Fd.Fn)(l:List Int)(k:Nat)(hk:k<l.length):wu nd N F (l.take (k+1))=match jR N l[k]with|some h=>if l[k]≠nd then lX (wu nd N F (l.take k)) h.x (-1)else wu nd N F (l.take k)|none=>wu nd N F (l.take k):=by
 unfold wu;rw[cT hk,I2];rfl
def pF.mono{w:World}{b b':Nat}{v:Value}{l:List (Int× Ms)}(h:pF w b v l)(hb:b'≤b):pF w b' v l:=by
 obtain⟨A,c,ls,e,h1,h2,h3⟩:=h;exact⟨A,c,ls,e,dx h1 hb,fun s hs=>dx (h2 s hs) hb,h3⟩
def zx(w:World)(m:Sm)(S:Sp)(col:Nat→Nat)(c:Nat)(h:fe w m S col c)(ok:eO S)(htm:S.tm≤999999999) :
  Calls prog 53 #[.pointer (some ⟨m.g,0,none⟩)] w (J8 w m col c (oR S)):=by
 have ok1:=ok.time;obtain⟨H1,V1⟩:=h.cell 8 (by omega) (.int .i64 (S.tm+1)) (m':=m) (S':={ S with tm:=S.tm+1 }) rfl rfl ⟨rfl,rfl,rfl,rfl,rfl,rfl⟩ ⟨rfl,rfl,rfl,rfl⟩ ⟨rfl,rfl,rfl,rfl,rfl,rfl,rfl⟩ h.rB h.lB;have hA:Bq S=pR { S with tm:=S.tm+1 } S.ps.length:=rfl;obtain⟨S1,hS1⟩:∃S1:Sp,{ S with tm:=S.tm+1 }=S1:=⟨_,rfl⟩
 have hps:S1.ps=S.ps:=by rw[←hS1]
 have c8:=h.cs.c8;have f8:=h.bx.f 8 rfl;have c9:=H1.cs.c9;have htm0:=ok.tm;have hpl:=ok.pl;rw[hS1]at H1 ok1 hA;have hto:Hid (gT w m col c (pR S1 0) (w.setCell ⟨m.g,8,none⟩ (.int .i64 (S.tm+1)))):=gT.of H1 V1;have hfs:=fun k=>kD S1 k
 rw[hps]at hfs;replace hps:=gk hps;replace hS1:=gk hS1;replace ok:=gk ok;replace ok1:=gk ok1;replace hA:=gk hA;replace hfs:=gk hfs;have hl0:pw S.ps 0=false:=rfl;clear h H1 V1;go_enter func53,ntmps53;go_wp2_with fail;clear c8 f8 c9;go_loopw [3,24] (fun v3 v24 wr=>∃(i:Nat),v3= .bool (pw S.ps i)∧v24= .int .i64 i∧i≤S.ps.length∧Hid (gT w m col c (pR S1 i) wr)) (fun _ v24 _=>S.ps.length - (intOf v24).toNat)
 case atStart=>exact⟨0,by rw[hl0],rfl,by omega,hto⟩
 case round=>
  clear hto hl0;obtain⟨i,rfl,rfl,hi,hto⟩:=hrel
  by_cases hin:i<S.ps.length
  ·obtain⟨m1,col1,eq,hcc,H,V⟩:=hto.out;have hil:i< (pR S1 i).ps.length:=by rw[(hfs.out i).1];exact hin
   have hpi:(pR S1 i).ps[i]=S.ps[i]:=by
    have:=Nc (S:=S1) (k:=i) (by rw[hps.out];exact hin);rw[this];simp only[hps.out]
   have oki:=ok1.out.tk i;have fo:=oki.fo hil 0 0;have hnx:=EJ (S:=S1) (k:=i) (by rw[hps.out];exact hin);rw[hpi]at hnx;have hlos:=CA S.ps i hin;obtain⟨gp,hP,hc⟩:=H.gp (by omega);have c9:=H.cs.c9;rw[hP]at c9;rw[eq.1]at c9;have hvl:=fo.st;have hll:=fo.l;have hup:=fo.up;rw[hpi]at hvl hll hup;have FT:=Al wr m1 (pR S1 i) col1 c H fo.db fo.va gp hP i hil S.ps[i] hpi hll hup (He.vc S.ps[i].ph S.ps[i].lf 1) (He.Bp S.ps[i].ph S.ps[i].lf 1) _ _ _ (.inr (.inl ⟨rfl,rfl,rfl⟩)) (fun W _=>Nh S.ps[i].ph S.ps[i].lf W hvl);rw[eq.1,←hnx]at FT;have hlen:(pR S1 i).ps.length=S.ps.length:=(hfs.out i).1;rw[hlen]at c9;obtain⟨p,hp⟩:∃p,S.ps[i]=p:=⟨_,rfl⟩
   rw[hp]at FT hlos;generalize He.oz p.ph (He.vc p.ph p.lf 1)=ev at *;have hfin:Hid (∀W,gT wr m1 col1 c (pR S1 (i+1)) W→gT w m col c (pR S1 (i+1)) W):=fun W h2=>gT.next V eq hcc h2
   have heb:∃eb,(ev==2)=eb:=⟨_,rfl⟩
   obtain⟨eb,heb⟩:=heb;rw[heb]at hlos;replace FT:=gk FT;replace hlos:=gk hlos;clear H V hc hcc eq hvl hll hup fo oki hpi hnx hlen hp hto;go_wp2_with fail;(with_reducible refine(FT.out).mono ?_);rintro e w3 ⟨rfl,h3⟩;clear FT c9;have h4:=gk (hfin.out _ h3);clear h3 hfin;obtain⟨l0,hl0⟩:∃l0,pw S.ps i=l0:=⟨_,rfl⟩
   have hlos2:=hlos.out;rw[hl0]at hlos2 ⊢;replace hlos2:=gk hlos2;clear hlos hl0;rcases dH l0 with rfl|rfl
   ·go_wp2_with fail;go_round
    case rel=>exact⟨i+1,by rw[hlos2.out];rfl,by go_num,by omega,h4⟩
    case measure=>simp[intOf];omega
   ·go_wp2_with fail;go_round
    case rel=>exact⟨i+1,by rw[hlos2.out];rfl,by go_num,by omega,h4⟩
    case measure=>simp[intOf];omega
  ·have hii:i=S.ps.length:=by omega
   have e1:decide ((i:Int)< (S.ps.length:Int))=false:=by simp;omega
   have hto2:Hid (gT w m col c (Bq S) wr):=by
    have:=hto.out;rw[hii,←hA.out]at this;exact this
   have hlo:pw S.ps i=pw S.ps S.ps.length:=by rw[hii]
   rw[hlo];have hB1:Hid (pw S.ps S.ps.length=true→lD S=ft (Bq S)):=fun e=>by unfold lD;rw[cR e]
   have hB2:Hid (pw S.ps S.ps.length=false→lD S=Bq S):=fun e=>by unfold lD;rw[cN (by rw[e];simp)]
   obtain⟨lb,hlb⟩:∃lb,pw S.ps S.ps.length=lb:=⟨_,rfl⟩
   rw[hlb]at hB1 hB2 ⊢;clear hlb hlo hto hii hA hfs hps hS1;go_upto_if 41 with fail;go_cut [] (fun wx=>gT w m col c (lD S) wx)
   case first=>
    rcases dH lb with rfl|rfl
    ·have okA:=ok.out.tA;have hb:=hB1.out rfl;obtain⟨m1,col1,eq,hcc,H,V⟩:=hto2.out;have g:=okA.og;have OG:=j9 wr m1 (Bq S) col1 c H g.pl g.pr g.s0 g.s1 g.x1 g.x2;rw[eq.1]at OG;have hfin:Hid (∀W,gX wr m1 col1 c (ft (Bq S)) (.tuple #[]) (.returned (.tuple #[])) W→gT w m col c (lD S) W):=fun W h2=>by
      rw[hb];exact⟨m1,col1,eq,hcc,h2.2.1,kI V h2.2.2 hcc⟩
     replace OG:=gk OG;clear H V g hb hto2 okA eq hcc;go_wp2_with fail;(with_reducible refine(OG.out).mono ?_);rintro e w9 P9;obtain⟨rfl,P8⟩:=P9;have hf:=hfin.out w9 ⟨rfl,P8⟩;clear OG P8 hfin;go_wp2_with fail;go_meet;exact hf
    ·have hb:=hB2.out rfl;go_wp2_with fail;go_meet;rw[hb];exact hto2.out
   case rest=>
    clear hto2 hB1 hB2;obtain⟨m2,col2,eq2,hcc2,H2,V2⟩:=hcut;have okB:=ok.out.tB;have hnd:(lD S).nd=S.nd:=by
     unfold lD Bq;split
     ·rw[(qF _).2.1,(kD _ _).2.1]
     ·rw[(kD _ _).2.1]
    have hC:nC S= { lD S with db:=ic 1 (lD S).db,fl:=wu S.nd (ic 1 (lD S).db) (lD S).fl ((kh 1 (lD S).db).take (kh 1 (lD S).db).length) }:=by
     rw[dE];rfl
    have okD:=ok.out.tC;have hL64:∀n∈kh 1 (lD S).db,0≤n∧n<64:=fun n hn=>by
     unfold kh at hn;exact((jf n).1 (dW.1 hn).1).1
    have hLl:(kh 1 (lD S).db).length≤64:=by
     unfold kh;refine cZ cz (lg _)
    have okCk:∀k,eO { lD S with db:=ic 1 (lD S).db,fl:=wu S.nd (ic 1 (lD S).db) (lD S).fl ((kh 1 (lD S).db).take k) }:=fun k=>by
     obtain⟨a,b⟩:=Jv S.nd (ic 1 (lD S).db) ((kh 1 (lD S).db).take k) _ okB.fl;exact okB.TQ (zq okB.db (by omega)) (EM okB.dz 1) a b
    have DT:=Mg wc m2.gd m2.bd (lD S).db 1 H2.db okB.db okB.dz (by omega) (by omega);unfold yi at DT;have hdok:=zq okB.db (n:=1) (by omega);have c12:=H2.cs.c12;rw[eq2.1]at c12;generalize kh 1 (lD S).db=L at *;generalize ic 1 (lD S).db=N at *;obtain⟨SB,hSB⟩:∃SB,lD S=SB:=⟨_,rfl⟩
    rw[hSB]at H2 hC okCk okB hnd;replace DT:=gk DT;replace hC:=gk hC;replace okD:=gk okD;replace okB:=gk okB;replace okCk:=gk okCk;replace hL64:=gk hL64;replace hdok:=gk hdok;replace hSB:=gk hSB;replace hnd:=gk hnd;go_wp2_with fail;(with_reducible refine(DT.out).mono ?_);rintro e w3 ⟨v3,rfl,hrow,hD3,hg3⟩;clear DT c12;obtain⟨H3,V3⟩:=H2.IF hg3 hD3;obtain⟨A3,c3,rfl,-⟩:=dN hrow;obtain⟨SC,hSC⟩:∃SC:Nat→Sp,∀k,SC k= { SB with db:=N,fl:=wu S.nd N SB.fl (L.take k) }:=⟨fun k=>_,fun _=>rfl⟩
    have hdb:∀k,(SC k).db=N:=fun k=>by rw[hSC]
    have hndC:∀k,(SC k).nd=S.nd:=fun k=>by rw[hSC];exact hnd.out
    have hnxt:∀k (hk:k<L.length),SC (k+1)=match jR N L[k]with|some x=>if L[k]≠S.nd then { SC k with fl:=lX (SC k).fl x.x (-1) }else SC k|none=>SC k:=fun k hk=>by
     rw[hSC,hSC,Cs _ _ _ _ _ hk];split
     ·split<;>rfl
     ·rfl
    have hC2:nC S=SC L.length:=by rw[hSC,←hC.out]
    have hok:=fun k=>okCk.out k
    have h0:SC 0= { SB with db:=N }:=by rw[hSC];rfl
    have hokk:∀k,eO (SC k):=fun k=>by rw[hSC];exact hok k
    have hto:Hid (gT w m col c (SC 0) w3):=by
     rw[h0];exact⟨m2,col2,eq2,hcc2,H3,kI V2 V3 hcc2⟩
    obtain⟨nL,hnL⟩:∃nL,L.length=nL:=⟨_,rfl⟩
    rw[hnL]at hC2 hLl ⊢;have hrow3:w3.ownsRow 0 3 1 (.slice A3 nL c3) nL (L.map encZ):=by rw[←hnL];exact dx hrow (by omega)
    replace hrow3:=gk hrow3;replace hnL:=gk hnL;replace hdb:=gk hdb;replace hndC:=gk hndC;replace hnxt:=gk hnxt;replace hC2:=gk hC2;replace hokk:=gk hokk;clear hok h0 hSC hD3 hg3 H3 V3 hrow H2 V2 hcc2 eq2 hC okCk okB hSB hnd e1 ok1;go_wp2_with fail;go_loopw [50] (fun v50 wr=>∃(k:Nat),v50= .int .i64 k∧k≤nL∧Hid (gT w m col c (SC k) wr)∧Hid (wr.ownsRow 0 3 1 (.slice A3 nL c3) nL (L.map encZ))) (fun v50 _=>nL - (intOf v50).toNat)
    case atStart=>exact⟨0,rfl,by omega,hto,hrow3⟩
    case round=>
     clear hto hrow3;obtain⟨k,rfl,hk,hto,hrow⟩:=hrel
     by_cases hkn:k<nL
     ·have hkl:k<L.length:=by rw[hnL.out];exact hkn
      obtain⟨b3,off3,rfl,hc3⟩:=gE (dQ hrow.out) (by rw[dh];omega);have hz:=hc3 k (.int .i64 L[k]) (by rw[eJ,cM hkl];rfl);have hn64:=hL64.out L[k] (di hkl);have hnx:=hnxt.out k hkl;obtain⟨z,hzz⟩:∃z,L[k]=z:=⟨_,rfl⟩
      rw[hzz]at hz hn64 hnx;clear hzz hc3;obtain⟨m4,col4,eq4,hcc4,H4,V4⟩:=hto.out;have hD4:=H4.db;rw[hdb.out k]at hD4;have GT:=Ay wr m4.gd m4.bd N z (lW (by omega) (by omega)) hD4 hdok.out.X5;unfold xr at GT;obtain⟨hd,hhd⟩:∃hd,jR N z=hd:=⟨_,rfl⟩
      rw[hhd]at GT hnx;have c12:=H4.cs.c12;rw[eq4.1]at c12;replace GT:=gk GT;replace hnx:=gk hnx;clear hhd hD4 hto;go_wp2_with fail;(with_reducible refine(GT.out).mono ?_);rintro e w5 ⟨v5,rfl,hown,hb5⟩;obtain⟨A5,a5,B5,d5,rfl⟩:=hown.at.form;clear GT c12 hz;have hb6:=cQ w5 (.cells #[.int .i64 (eX hd).o,.int .i64 (eX hd).s,.int .i64 (eX hd).a,.bool (eX hd).ov,.slice A5 (eX hd).adj.length a5,.slice B5 (eX hd).pre.length d5] 41);have S6:=((St.start w5).iE #[.int .i64 (eX hd).o,.int .i64 (eX hd).s,.int .i64 (eX hd).a,.bool (eX hd).ov,.slice A5 (eX hd).adj.length a5,.slice B5 (eX hd).pre.length d5] 41 w5 _ rfl rfl)
      have T6:=jk w5 #[.int .i64 (eX hd).o,.int .i64 (eX hd).s,.int .i64 (eX hd).a,.bool (eX hd).ov,.slice A5 (eX hd).adj.length a5,.slice B5 (eX hd).pre.length d5] 41;have L6:=(hown.below hb6).at;have H6:=(H4.below hb5).below hb6;have V6:=(V4.tr (gA.below hb5)).tr (gA.below (E:=fun k=>col k=c) hb6);have hrow6:=dg (dg hrow.out hb5) hb6;generalize hgb:hd.isSome=gb;replace hgb:=gk hgb;go_upto_region 17 with fail;generalize hw6:World.alloc w5 _=w6 at *;clear hw6 hb5 hb6 hown H4 V4 hrow;generalize w5.heap.size=kb at *;have k3:=H6.cs.c3;rw[hndC.out k,eq4.1]at k3;have hskip:Hid ((gb=false∨z=S.nd)→gT w m col c (SC (k+1)) w6):=fun hc=>by
       have:SC (k+1)=SC k:=by
        rw[hnx.out];cases hd with
        |none=>rfl
        |some x=>
          rcases hc with hc|hc
          ·rw[←hgb.out]at hc;cases hc
          ·simp only[hc,ne_eq,not_true_eq_false,Un]
       rw[this];exact⟨m4,col4,eq4,hcc4,H6,V6⟩
      rcases dH gb with rfl|rfl
      ·obtain⟨nb,hnb⟩:∃nb,(z !=S.nd)=nb:=⟨_,rfl⟩
       rcases dH nb with rfl|rfl
       ·have hdn:∃x,hd=some x:=dC.1 hgb.out;obtain⟨x,rfl⟩:=hdn;have hzn:z≠S.nd:=by simpa using hnb
        have hn2:SC (k+1)= { SC k with fl:=lX (SC k).fl x.x (-1) }:=by
         rw[hnx.out];simp only[cR hzn]
        have H7:=H6.below (w':=w6.drew) cy.drew;have SP:=Dv w6.drew m4 (SC k) col4 c H7 (.agg #[.int .i64 x.x.o,x.x.s,x.x.a,x.x.ov,.slice A5 x.x.adj.length a5,.slice B5 x.x.pre.length d5]) x.x (L6.below cy.drew) (-1);rw[←hn2]at SP;have k13:=H7.cs.c13;rw[eq4.1]at k13;replace SP:=gk SP;clear hskip hzn hn2;have bx:=S6.box 0 rfl;have hcs:∀W,fq W kb [.int .i64 x.x.o,x.x.s,x.x.a,x.x.ov,.slice A5 x.x.adj.length a5,.slice B5 x.x.pre.length d5]→(W.cell? ⟨kb,0,none⟩=some (.int .i64 x.x.o)∧W.cell? ⟨kb,1,none⟩=some (.int .i64 x.x.s)∧W.cell? ⟨kb,2,none⟩=some (.int .i64 x.x.a)∧W.cell? ⟨kb,3,none⟩=some (.bool x.x.ov)∧W.cell? ⟨kb,4,none⟩=some (.slice A5 x.x.adj.length a5)∧W.cell? ⟨kb,5,none⟩=some (.slice B5 x.x.pre.length d5)):=fun W h=>⟨h.c 0 rfl,h.c 1 rfl,h.c 2 rfl,h.c 3 rfl,h.c 4 rfl,h.c 5 rfl⟩
        have hcs6:=hcs _ bx;go_upto_region 18 with fail;refine wp_region_noPanic ?_;refine wp_region_held_drew (S:=fun W=>W.cell? ⟨m.g,13,none⟩=some (.pointer (some ⟨m4.gf,0,none⟩))∧(W.cell? ⟨kb,0,none⟩=some (.int .i64 x.x.o)∧W.cell? ⟨kb,1,none⟩=some (.int .i64 x.x.s)∧W.cell? ⟨kb,2,none⟩=some (.int .i64 x.x.a)∧W.cell? ⟨kb,3,none⟩=some (.bool x.x.ov)∧W.cell? ⟨kb,4,none⟩=some (.slice A5 x.x.adj.length a5)∧W.cell? ⟨kb,5,none⟩=some (.slice B5 x.x.pre.length d5))) (by kernel_rfl) ⟨k13,hcs6⟩ (fun hHeld=>?_);refine tF 0 72 ?_;refine tF 1 73 ?_;refine tF 2 74 ?_;refine tF 3 75 ?_;refine tF 4 76 ?_;refine rF 5 (fun K hK=>?_);go_simp;(with_reducible refine(SP.out).mono ?_);rintro e w8 ⟨⟨rr,rfl⟩,H8,V8⟩;dsimp only;have k13':=H8.cs.c13;rw[eq4.1]at k13';refine hK.out _ _ ⟨k13',hcs _ (V8.yS (bx.later cy.drew) T6 yW)⟩ (fun hHeld=>?_);clear hK K;have hto8:Hid (gT w m col c (SC (k+1)) w8):=⟨m4,col4,eq4,hcc4,H8,kI (V6.tr (gA.below cy.drew)) V8 hcc4⟩
        have hrow8:Hid (w8.ownsRow 0 3 1 (.slice (some ⟨b3,off3,none⟩) nL c3) nL (L.map encZ)):=V8.own (dg hrow6 cy.drew) Tq;refine wpAnyH_done (by kernel_rfl) ?_ _;refine NoPanic.normal ?_;clear hHeld H8 V8 SP k13 k13' hcs hcs6 bx H7 H6 V6 hrow6 L6 T6 S6 k3;go_wp2_with fail;go_round
        case rel=>exact⟨k+1,by go_num,by omega,hto8,hrow8⟩
        case measure=>simp[intOf];omega
       ·have hto8:=gk (hskip.out (.inr (by simpa using hnb)));replace hrow6:=gk hrow6;replace hnb:=gk hnb;clear hskip H6 V6 L6 T6 S6;have e9:(z !=S.nd)=false:=hnb.out;go_wp2_with fail;go_round
        case rel=>exact⟨k+1,by go_num,by omega,hto8,hrow6⟩
        case measure=>simp[intOf];omega
      ·have hto8:=gk (hskip.out (.inl rfl));replace hrow6:=gk hrow6;clear hskip H6 V6 L6 T6 S6;go_wp2_with fail;go_round
       case rel=>exact⟨k+1,by go_num,by omega,hto8,hrow6⟩
       case measure=>simp[intOf];omega
     ·have hkk:k=nL:=by omega
      have e1:decide ((k:Int)< (nL:Int))=false:=by simp;omega
      have hto2:Hid (gT w m col c (nC S) wr):=by
       have:=hto.out;rw[hkk,←hC2.out]at this;exact this
      clear hto hrow hkk hnxt hndC hdb hokk hC2 hL64 hdok hnL;obtain⟨m4,col4,eq4,hcc4,H4,V4⟩:=hto2.out;have OT:=HZ wr m4.go (nC S).x (nC S).md 1 H4.og (by omega) okD.out.xs.1 okD.out.xs.2 okD.out.xa.1 okD.out.xa.2;unfold GK qV at OT;have k14:=H4.cs.c14;rw[eq4.1]at k14;have hD1:kZ (nC S).x (nC S).md 1=true→vd S=nF { nC S with x:=ix (nC S).x (nC S).md 1 }:=fun e=>by unfold vd;rw[cR e]
      have hD2:kZ (nC S).x (nC S).md 1=false→vd S= { nC S with x:=ix (nC S).x (nC S).md 1 }:=fun e=>by unfold vd;rw[cN (by rw[e];simp)]
      have hxx:=okD.out.xk.tick;have hmm:(nC S).md=true:=okD.out.xm;rw[←hmm]at hxx;replace hmm:=gk hmm;have hxl:=hxx.l;obtain⟨tb,htb⟩:∃tb,kZ (nC S).x (nC S).md 1=tb:=⟨_,rfl⟩
      rw[htb]at OT hD1 hD2;replace OT:=gk OT;replace hD1:=gk hD1;replace hD2:=gk hD2;clear htb hxx hto2;go_wp2_with fail;(with_reducible refine(OT.out).mono ?_);rintro e w5 ⟨⟨rfl,hO5,hg5⟩,hk5⟩;clear OT k14;obtain⟨H5,V5⟩:=H4.Ic hg5 hO5 hk5;have hto5:gT w m col c { nC S with x:=ix (nC S).x (nC S).md 1 } w5:=⟨m4,col4,eq4,hcc4,H5,kI V4 V5 hcc4⟩
      have V45:=kI V4 V5 hcc4;replace hto5:=gk hto5;clear hO5 hg5 hk5;go_upto_if 83 with fail;go_cut [] (fun wx=>gT w m col c (vd S) wx)
      case first=>
       rcases dH tb with rfl|rfl
       ·have hb:=hD1.out rfl;have PB:=sT w5 m4 _ col4 c H5 (by simp only;omega) (by simp only;omega);rw[eq4.1]at PB;have hfin:Hid (∀W,gX w5 m4 col4 c (nF { nC S with x:=ix (nC S).x (nC S).md 1 }) (.tuple #[]) (.returned (.tuple #[])) W→gT w m col c (vd S) W):=fun W h2=>by
         rw[hb];exact⟨m4,col4,eq4,hcc4,h2.2.1,kI V45 h2.2.2 hcc4⟩
        replace PB:=gk PB;replace hb:=gk hb;clear H5 V5 V45 H4 V4 hto5 hcc4 eq4;go_wp2_with fail;(with_reducible refine(PB.out).mono ?_);rintro e w9 P9;obtain⟨rfl,P8⟩:=P9;have hf:=hfin.out w9 ⟨rfl,P8⟩;clear PB P8 hfin;go_wp2_with fail;go_meet;exact hf
       ·have hb:=hD2.out rfl;go_wp2_with fail;go_meet;rw[hb];exact hto5.out
      case rest=>
       clear hto5 V45 H5 V5 H4 V4 hcc4 eq4 hD1 hD2;obtain⟨m6,col6,eq6,hcc6,H6,V6⟩:=hcut;have okT:=ok.out.tD;have okE:=ok.out.tE;have FT:=Fd.LP wc m6.gf m6.bf (vd S).h3 (vd S).fl m6.ff H6.fl okT.fl 1 (by omega);unfold Fd.qV at FT;have k13:=H6.cs.c13;rw[eq6.1]at k13;have htE:(G4 S).tm=S.tm+1:=by
        have h1:(lD S).tm=S.tm+1:=by
         unfold lD Bq;split
         ·rw[(qF _).2.2.2.2.1,(kD _ _).2.2.2.2.1]
         ·rw[(kD _ _).2.2.2.2.1]
        have h2:(vd S).tm=(nC S).tm:=by
         unfold vd;split<;>rfl
        show(vd S).tm=S.tm+1
        rw[h2];exact h1
       replace FT:=gk FT;go_wp2_with fail;(with_reducible refine(FT.out).mono ?_);rintro e w7 ⟨rfl,hF7,hk7⟩;clear FT k13;obtain⟨H7,V7⟩:=H6.D9 hk7 hF7 (fun l=>by unfold Fd.ve;simp);have SN:=NI w7 m6 (G4 S) col6 c H7 okE (by rw[htE];omega);rw[eq6.1]at SN;unfold AP at SN;have V67:=kI V6 V7 hcc6;replace SN:=gk SN;clear hF7 hk7 H6 V6 V7 H7 okT okE htE;go_wp2_with fail;(with_reducible refine(SN.out).mono ?_);rintro e w8 ⟨v8,rfl,hs8,H8,V8⟩;have hf:J8 w m col c (oR S) (.returned v8) w8:=⟨v8,rfl,hs8.mono V67.size,⟨m6,col6,eq6,hcc6,H8,kI V67 V8 hcc6⟩⟩
       clear SN hs8 H8 V8 V67;go_wp2_with fail;go_ret;exact hf
end Go.Proofs.YtehimhbgakpenaaGreat
