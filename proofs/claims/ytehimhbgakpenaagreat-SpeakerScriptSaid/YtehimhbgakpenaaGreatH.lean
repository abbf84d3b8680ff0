/- Lemmas. -/
import Derived.Deep.DeepCutAuto
import Derived.Test.YtehimhbgakpenaaGreatD
set_option linter.all false
set_option maxRecDepth 100000
set_option maxHeartbeats 16000000
namespace Go.Proofs.YtehimhbgakpenaaGreat
open Go.RowKit Go.Proofs.Tryz
def Y0:iF prog 211 215 (.agg #[.int .i64 0,.slice none 0 0]) 2 32:=⟨underlying211,by kernel_rfl,rfl,by omega⟩
def Zt(v:Value)(bs:List (Nat× cH)):Prop:=∀x∈bs,v.ownBlock≠some x.1
abbrev Uu(r:Rc):Value:=.slice r.A r.n r.c
structure BX (W w:World) (g1 g2:Nat) (bs:List (Nat× cH)) (rd:List (cG× cH)) (v:Value) (rs:List Rc):Prop where
 S:St W w ((g1,[v]) :: (g2,[.int .i64 0]) :: bs) rd
 own:w.ownsRow W 215 2 v rs.length (kM rs)
 recs:∀r∈rs,gK w W 5 r
 iX:Zt v ((g1,[v]) :: (g2,[.int .i64 0]) :: bs)
 rfar:∀r∈rs,Zt (Uu r) ((g1,[v]) :: (g2,[.int .i64 0]) :: bs)
 lo1:W≤g1
 lo2:W≤g2
 ne:g1≠g2
 neb:∀x∈bs,x.1≠g1∧x.1≠g2
 pos:∀x∈bs,0<x.2.length
def nU(W w:World)(g1 g2:Nat)(bs:List (Nat× cH))(rd:List (cG× cH))(l:List Rec):Prop :=
 ∃v rs,BX W w g1 g2 bs rd v rs∧rs.map nK=l
section
variable {W w w':World} {g1 g2:Nat} {bs:List (Nat × cH)} {rd:List (cG × cH)} {v:Value} {rs:List Rc} {l:List Rec}
def JC{w:World}{base:Nat}{e:TypeId}{size:Nat}{v:Value}{n:Nat}{xs:cH}(h:w.ownsRow base e size v n xs){g:Nat}(hg:w≤g):v.ownBlock≠some g:=fun e=>by
 have:=(h.lt g e).2;omega
def BX.call(h:BX W w g1 g2 bs rd v rs)(hb:cI w w'):BX W w' g1 g2 bs rd v rs :=
 { h with S:=h.S.call hb,own:=dg h.own hb,recs:=fun r hr=>(h.recs r hr).below hb }
def nU.start(h:St W w bs rd)(hp:∀x∈bs,0<x.2.length)(t1 t2:TypeId):nU W ((w.alloc (.cells #[.slice none 0 0] t1)).alloc (.cells #[.int .i64 0] t2)) w (w.heap.size+1) bs rd []:=by
 have S2:=(h.iE #[sn] t1 w _ rfl rfl).iE #[i0] t2 (w.heap.size+1) _ (by simp) rfl;have lb:∀x∈bs,x.1<w.heap.size:=fun x hx=>by
  obtain⟨i,hi,he⟩:=eG hx;exact(h.bx i x (by simp[cM hi,he])).lt (hp x hx)
 have a:=h.b.size;refine⟨sn,[],⟨⟨S2.b,fun i x hx=>?_,S2.rd⟩,cn,by simp,fun x hx=>by simp[Value.ownBlock],by simp,a,by omega,by omega,fun x hx=>by have:=lb x hx;omega,hp⟩,rfl⟩
 rcases i with _|_|i
 ·simp at hx;subst hx;exact S2.box 1 rfl
 ·simp at hx;subst hx;exact S2.box 0 rfl
 ·exact S2.bx (i+2) x (by simpa using hx)
def nU.new(h:nU W w g1 g2 bs rd l)(cs:Array Value)(t:TypeId)(hc:0<cs.size):nU W (w.alloc (.cells cs t)) g1 g2 ((w,cs.toList) :: bs) rd l:=by
 obtain⟨v,rs,h,e⟩:=h;have h1:=h.call (cQ w (.cells cs t));have l1:=(h.S.box 0 rfl).lt (by simp);have l2:=(h.S.box 1 rfl).lt (by simp);refine⟨v,rs,{ h1 with S:=?_,iX:=?_,rfar:=?_,neb:=?_,pos:=?_ },e⟩
 ·refine⟨h1.S.b,fun i x hx=>?_,h1.S.rd⟩
  rcases i with _|_|_|i
  ·simp at hx;subst hx;exact h1.S.box 0 rfl
  ·simp at hx;subst hx;exact h1.S.box 1 rfl
  ·simp at hx;subst hx;exact fq.new w cs t
  ·exact h1.S.bx (i+2) x (by simpa using hx)
 ·intro x hx;simp only[dA]at hx;rcases hx with rfl|rfl|rfl|hx
  ·exact h.iX _ (by simp)
  ·exact h.iX _ (by simp)
  ·exact JC h.own cj
  ·exact h.iX x (by simp[hx])
 ·intro r hr x hx;simp only[dA]at hx;rcases hx with rfl|rfl|rfl|hx
  ·exact h.rfar r hr _ (by simp)
  ·exact h.rfar r hr _ (by simp)
  ·exact JC (h.recs r hr) cj
  ·exact h.rfar r hr x (by simp[hx])
 ·intro x hx;rcases dA.1 hx with rfl|hx
  ·constructor
   ·simp only;omega
   ·simp only;omega
  ·exact h.neb x hx
 ·intro x hx;rcases dA.1 hx with rfl|hx
  ·simpa using hc
  ·exact h.pos x hx
def nU.drop(h:nU W w g1 g2 bs rd l)(a:List (Nat× cH))(hs:∀x∈a,x∈bs):nU W w g1 g2 a rd l:=by
 obtain⟨v,rs,h,e⟩:=h;have hm:∀x∈(g1,[v]) :: (g2,[i0]) :: a,x∈(g1,[v]) :: (g2,[i0]) :: bs:=by
  intro x hx;simp only[dA]at hx ⊢;rcases hx with hx|hx|hx
  ·exact .inl hx
  ·exact .inr (.inl hx)
  ·exact .inr (.inr (hs x hx))
 exact⟨v,rs,{ h with S:=h.S.dX _ hm,iX:=fun x hx=>h.iX x (hm x hx),rfar:=fun r hr x hx=>h.rfar r hr x (hm x hx),neb:=fun x hx=>h.neb x (hs x hx),pos:=fun x hx=>h.pos x (hs x hx) },e⟩
def nU.c(h:nU W w g1 g2 bs rd l)(i j:Nat){g:Nat}{cs:cH}{u:Value}(hi:bs[i]?=some (g,cs))(hj:cs[j]?=some u):w.cell? ⟨g,j,none⟩=some u:=by
 obtain⟨v,rs,h,e⟩:=h;exact h.S.c (i+2) j (by simpa using hi) hj
def nU.r(h:nU W w g1 g2 bs rd l)(i:Nat){A:cG}{xs:cH}(hi:rd[i]?=some (A,xs)):Rd w A xs:=by
 obtain⟨v,rs,h,e⟩:=h;exact h.S.r i hi
def BX.begun(h:BX W w g1 g2 bs rd v rs)(kind:Int){v':Value}(c:w'.ownsRow W.heap.size 215 2 v' (rs.length+1) (kM rs++ [.int .i64 kind,.slice none 0 0]))
  (hg:w.grownBy w' v.ownBlock) (hv:v'.ownBlock=v.ownBlock∨v'.ownBlock=some w.heap.size):BX W (w'.setCell ⟨g1,0,none⟩ v') g1 g2 bs rd v' (rs++ [⟨kind,none,0,0,[]⟩]):=by
 have l1:=(h.S.box 0 rfl).lt (by simp);have l2:=(h.S.box 1 rfl).lt (by simp);have lb:∀x∈bs,x.1<w.heap.size:=fun x hx=>by
  obtain⟨i,hi,he⟩:=eG hx;exact(h.S.bx (i+2) x (by simp[cM hi,he])).lt (h.pos x hx)
 have a:∀g,g<w.heap.size→v.ownBlock≠some g→v'.ownBlock≠some g:=by
  intro g j hn e;rcases hv with hv|hv
  ·exact hn (hv▸e)
  ·rw[hv]at e;injection e with e;omega
 have f1:=h.iX (g1,[v]) (by simp);have f2:=h.iX (g2,[.int .i64 0]) (by simp);have k1:fq w' g1 [v]:=(h.S.box 0 rfl).kept hg (fun e=>f1 e.symm) (by simp);have k2:fq w' g2 [.int .i64 0]:=(h.S.box 1 rfl).kept hg (fun e=>f2 e.symm) (by simp);have d:cI W w':=kP h.S.b h.own hg cj h.S.b.size;refine⟨⟨d.setCell (p:=⟨g1,0,none⟩) h.lo1 _,?_,h.S.rd⟩,?_,?_,?_,?_,h.lo1,h.lo2,h.ne,h.neb,h.pos⟩
 ·intro i x hx;rcases i with _|_|i
  ·simp at hx;subst hx;exact k1.set 0 v' (by simp)
  ·simp at hx;subst hx;exact k2.iX _ (by simpa using h.ne)
  ·have f:bs[i]?=some x:=by simpa using hx
   have hm:=eu f;have:=h.S.bx (i+2) x (by simpa using hx);exact(this.kept hg (fun e=>h.iX x (by simp[hm]) e.symm) (h.pos x hm)).iX _ (fun e=>(h.neb x hm).1 e.symm)
 ·have he:kM (rs++ [⟨kind,none,0,0,[]⟩])=kM rs++ [.int .i64 kind,.slice none 0 0]:=by rw[lO];rfl
  rw[he,cX];exact c.kept (dk w' g1 0 v') (.inr (a g1 l1 f1))
 ·intro r hr;rcases eZ.1 hr with hr|hr
  ·have h1:=gK.grown (h.recs r hr) h.own (by decide) hg;exact h1.kept (dk w' g1 0 v') (.inr (h.rfar r hr (g1,[v]) (by simp)))
  ·simp at hr;subst hr;exact cn
 ·intro x hx;simp only[dA]at hx;rcases hx with rfl|rfl|hx
  ·exact a g1 l1 f1
  ·exact a g2 l2 f2
  ·exact a x.1 (lb x hx) (h.iX x (by simp[hx]))
 ·intro r hr x hx;rcases eZ.1 hr with hr|hr
  ·simp only[dA]at hx;rcases hx with rfl|rfl|hx
   ·exact h.rfar r hr (g1,[v]) (by simp)
   ·exact h.rfar r hr (g2,[.int .i64 0]) (by simp)
   ·exact h.rfar r hr x (by simp[hx])
  ·simp at hr;subst hr;simp[Value.ownBlock]
def BX.Y1{g n cap:Nat}{qB:List Rc}{r r':Rc}(h:BX W w g1 g2 bs rd (.slice (some ⟨g,0,none⟩) n cap) (qB++ [r]))(ht:r'.t=r.t)(f:gK w W 5 r')
  (c:Zt (Uu r') ((g1,[.slice (some ⟨g,0,none⟩) n cap]) :: (g2,[.int .i64 0]) :: bs)) :
  BX W ((w.setCell ⟨g2,0,none⟩ (.int .i64 0)).setCell ⟨g,qB.length*2+1,none⟩ (Uu r')) g1 g2 bs rd (.slice (some ⟨g,0,none⟩) n cap) (qB++ [r']):=by
 have l:g≠g1:=fun e=>h.iX (g1,[.slice (some ⟨g,0,none⟩) n cap]) (by simp) (by simp[Value.ownBlock,e])
 have d:g≠g2:=fun e=>h.iX (g2,[i0]) (by simp) (by simp[Value.ownBlock,e])
 have k:∀x∈bs,g≠x.1:=fun x hx e=>h.iX x (by simp[hx]) (by simp[Value.ownBlock,e])
 have j:=h.own.lt g rfl;obtain rfl:n=(qB++ [r]).length:=by
  rcases h.own.2 with ⟨e,_⟩|⟨g',m,cur,e,_⟩
  ·cases e
  ·simp only[dp]at e;exact e.2.1
 have hS:St W (w.setCell ⟨g2,0,none⟩ i0) ((g1,[.slice (some ⟨g,0,none⟩) (qB++ [r]).length cap]) :: (g2,[i0]) :: bs) rd :=
  h.S.set 1 0 i0 rfl (by simp) h.lo2 (by
   intro x hx;simp only[List.eraseIdx_cons_succ,List.eraseIdx_cons_zero,dA]at hx;rcases hx with rfl|hx
   ·exact h.ne
   ·exact (h.neb x hx).2) _ rfl
 have o1:=h.own.kept (dk w g2 0 i0) (.inr (by simpa[Value.ownBlock]using d));have o2:=(o1.stored (qB.length*2+1) (Uu r')).1;have R1:∀q,gK w W 5 q→(Uu q).ownBlock≠some g2→gK ((w.setCell ⟨g2,0,none⟩ i0).setCell ⟨g,qB.length*2+1,none⟩ (Uu r')) W 5 q:=by
  intro q hq a;have q1:gK (w.setCell ⟨g2,0,none⟩ i0) W 5 q:=hq.kept (dk w g2 0 i0) (.inr a);exact q1.grown o1 (by decide) (o1.stored (qB.length*2+1) (Uu r')).2
 refine⟨⟨hS.b.setCell (p:=⟨g,_,none⟩) j.1 _,?_,h.S.rd⟩,?_,?_,h.iX,?_,h.lo1,h.lo2,h.ne,h.neb,h.pos⟩
 ·intro i x hx;have a:g≠x.1:=by
   rcases i with _|_|i
   ·simp at hx;subst hx;exact l
   ·simp at hx;subst hx;exact d
   ·exact k x (eu (by simpa using hx))
  exact(hS.bx i x hx).iX _ a
 ·have e:(kM (qB++ [r])).set (qB.length*2+1) (Uu r')=kM (qB++ [r']):=by
   rw[lO,lO,iJ _ _ (by rw[qD];omega),qD,show qB.length*2+1 - qB.length*2=1 by omega];simp[kM,ht]
  rw[e,cX]at o2;rw[cX,cX];exact o2
 ·intro q hq;rcases eZ.1 hq with hq|hq
  ·exact R1 q (h.recs q (by simp[hq])) (h.rfar q (by simp[hq]) (g2,[i0]) (by simp))
  ·simp at hq;subst hq;exact R1 _ f (c (g2,[i0]) (by simp))
 ·intro q hq;rcases eZ.1 hq with hq|hq
  ·exact h.rfar q (by simp[hq])
  ·simp at hq;subst hq;exact c
end
def ug(kind:Int)(W w:World)(g1 g2:Nat)(bs:List (Nat× cH))(rd:List (cG× cH))(l:List Rec)(h:nU W w g1 g2 bs rd l)(hl:l.length≤1000000) :
  Calls prog 167 #[kind,.pointer (some ⟨g1,0,none⟩)] w fun e w'=>e= .returned (.tuple #[])∧nU W w' g1 g2 bs rd (l++ [(kind,[])]):=by
 obtain⟨v,rs,h,rfl⟩:=h;rw[dh]at hl;have c1:=h.S.c 0 0 rfl rfl;have f1:=h.S.f 0 0 rfl rfl;have k:=cQ w (.cells #[kind,.slice none 0 0] 215);have h1:=h.call k;have g:=Rd.lit w #[kind,.slice none 0 0] 215;go_in;go_wp2_with (at_builtin;refine dK rfl Y0 (.tmp 3) (.tmp 6) rfl W.heap.size rfl h1.own (m:=1) rfl (by simp) g (by simp[Value.oneCell']) (by simp only[maxLen];omega) (by omega) h1.S.b.size (rs.length+1) _ (by omega) rfl ?_;intro v3 w3 a j d i;obtain⟨g3,k3,rfl,_,_,_⟩:=pk a (by omega);have h4:=h1.begun kind a d i;have cc:=d.cell (h1.S.c 0 0 rfl rfl) (fun e=>h1.iX (g1,[v]) (by simp) e.symm);have ff:=((h1.S.box 0 rfl).kept d (fun e=>h1.iX (g1,[v]) (by simp) e.symm) (by simp)).f 0 rfl);go_end0;exact⟨rfl,_,_,h4,by simp[nK]⟩
def Sn(n k:Nat)(W w:World)(g1 g2:Nat)(bs:List (Nat× cH))(rd:List (cG× cH))(l:List Rec)(t:Int)(x:List UInt8)(h:nU W w g1 g2 bs rd (l++ [(t,x)]))(hl:l.length≤1000000)(hx:x.length≤1000)(F:1≤k)(hk:k≤8)(hn:n<256 ^k)(E:n<9223372036854775808) :
  Calls prog 166 #[n,k,.pointer (some ⟨g1,0,none⟩),.pointer (some ⟨g2,0,none⟩)] w fun e w'=>e= .returned (.tuple #[])∧nU W w' g1 g2 bs rd (l++ [(t,x++fi n k)]):=by
 obtain⟨v,rs,h,he⟩:=h;obtain⟨qB,r,rfl⟩:∃qB r,rs=qB++ [r]:=by
  rcases List.eq_nil_or_concat rs with rfl|⟨a,b,e⟩
  ·simp at he
  ·exact⟨a,b,by simpa using e⟩
 rw[ez,gh,nf]at he;obtain⟨rfl,hr⟩:=List.append_inj' he rfl;simp only[dJ,fv]at hr;obtain⟨g,cap,rfl,H,G,j⟩:=pk h.own (by simp);have hlen:(qB++ [r]).length=qB.length+1:=by simp
 rw[hlen]at j h;have B:=(h.recs r (by simp)).ok;obtain⟨t',A,m,c,y⟩:=r;simp only[nK,iP]at hr;obtain⟨rfl,rfl⟩:=hr;obtain⟨p,hm,C,D⟩:=B;simp only at p hm C D;have AU:=AI A m c y n k w p hm (by omega) (by omega);have e1:Mo n k=0:=by unfold Mo;rw[cN (by omega),cU,cR hn]
 have e2:MI y n k=y++fi n k:=by unfold MI;rw[e1,cR rfl,cU]
 rw[e1,e2]at AU;clear e1 e2;replace AU:=φ AU;replace hm:=φ hm;replace hlen:=φ hlen;rw[dh]at hl;have c1:=h.S.c 0 0 rfl rfl;have c2:w.cell? ⟨g,qB.length*2+1,none⟩=some (.slice A m c):=by
  rw[j.cellAt _ (by omega),lO,dY (by rw[qD];omega),qD,show qB.length*2+1 - qB.length*2=1 by omega];rfl
 go_in;go_wp2_with fail;(with_reducible refine AU.out.mono ?_);rintro e w1 ⟨v1,rfl,d,o⟩;have h2:=h.call o;have z:=h.S.b.size;have d2:=h2.S.c 1 0 rfl rfl;have f2:=h2.S.f 1 0 rfl rfl;have c3:=cW o c2;have f3:=(dg j o).frozenAt (qB.length*2+1);generalize (y++fi n k).length=q at d ⊢;obtain⟨A1,k1,rfl,_,_,_⟩:=dN d;have u:=h2.Y1 (r':=⟨t',A1,q,k1,y ++ fi n k⟩) rfl (dx d z) (by
  have l1:=(h.S.box 0 rfl).lt (by simp);have l2:=(h.S.box 1 rfl).lt (by simp);intro x hx e;have s:=(d.lt x.1 e).1;simp only[dA]at hx;rcases hx with rfl|rfl|hx
  ·simp only at s;omega
  ·simp only at s;omega
  ·obtain⟨i,hi,he⟩:=eG hx;have:=(h.S.bx (i+2) x (by simp[cM hi,he])).lt (h.pos x hx);omega)
 clear c1 c2 AU j;go_wp2_with fail;go_end0;exact⟨rfl,_,_,u,by rw[ez];rfl⟩
def sS(z zk:Int)(n k:Nat)(hz:z=n)(a:zk=k)(W w:World)(g1 g2:Nat)(bs:List (Nat× cH))(rd:List (cG× cH))(l:List Rec)(t:Int)(x:List UInt8)(h:nU W w g1 g2 bs rd (l++ [(t,x)]))(hl:l.length≤1000000)(hx:x.length≤1000)(c:1≤k)(hk:k≤8)(hn:n<256 ^k)(b:n<9223372036854775808) :
  Calls prog 166 #[z,zk,.pointer (some ⟨g1,0,none⟩),.pointer (some ⟨g2,0,none⟩)] w fun e w'=>e= .returned (.tuple #[])∧nU W w' g1 g2 bs rd (l++ [(t,x++fi n k)]):=by
 subst hz a;exact Sn n k W w g1 g2 bs rd l t x h hl hx c hk hn b
def yK(A:cG)(n cap:Nat)(l:List Rc)(w:World)(hr:Rd w A (kM l))(u:∀r∈l,WR w r)(hn:l.length=n)(T:n≤1000000) :
  Calls prog 125 #[.slice A n cap] w fun e w'=>
   ∃v,e= .returned (.tuple #[v,.int .i64 (mD (l.map nK))])∧w'.ownsRow w 5 1 v (wT (l.map nK)).length ((wT (l.map nK)).map iZ)∧cI w w':=by
 subst hn;obtain⟨E,hE⟩:=ex (mD (l.map nK))
 obtain⟨R,hR⟩:=ex (wT (l.map nK))
 rw[hE,hR];have hF:Hid (mD ((l.drop 0).map nK)=E):=hE;have P:Hid (E=0→R=fZ (l.map nK)):=fun h=>by rw[←hR];unfold wT;rw[hE,cR h]
 have D:Hid (E≠0→R= []):=fun h=>by rw[←hR];unfold wT;rw[hE,cN h]
 clear hE hR;have S:=(St.start w).read hr;replace u:=φ u;clear hr;go_in;go_wp2_with fail;go_loopw [4,9] (fun v4 v9 wr=>∃(k N:Nat),k≤l.length∧v9= .int .i64 k∧N≤65538*k∧wr.ownsRow w 5 1 v4 N ((fZ ((l.take k).map nK)).map iZ)∧Hid (mD ((l.drop k).map nK)=E)∧St w wr [] [(A,kM l)]) (fun v4 v9 _=>l.length - (intOf v9).toNat)
 case atStart=>exact⟨0,0,by omega,rfl,by omega,cn,hF,S⟩
 case round=>
  clear S hF;obtain⟨k,N,hk,rfl,hN,d,x,S⟩:=hrel
  by_cases hkn:k<l.length
  ·obtain⟨b,off,rfl,c0,c1⟩:=DE (S.r 0 rfl) hkn;have a:=CX l k hkn;have f:=yH l k hkn;have G:=u.out l[k] (di hkn);rw[x.out]at a;generalize l[k]=r at c0 c1 a f G;obtain⟨t,B,m,c,bs⟩:=r;obtain⟨rd,hl,I,L⟩:=G;simp only at rd hl I L a c0 c1;rw[hl]at a;change Hid _ at f hl;clear x
   by_cases h1:t<1
   ·rw[cR (.inl h1)]at a;obtain rfl:E=1:=a;obtain rfl:=D.out (by omega);go_wp2;go_ret2;exact⟨_,rfl,cn,(S.alloc _).b⟩
   by_cases h2:255<t
   ·rw[cR (.inr h2)]at a;obtain rfl:E=1:=a;obtain rfl:=D.out (by omega);go_wp2;go_ret2;exact⟨_,rfl,cn,(S.alloc _).b⟩
   rw[cN (by omega)]at a
   by_cases h3:65535<m
   ·rw[cR h3]at a;obtain rfl:E=6:=a;obtain rfl:=D.out (by omega);go_wp2;go_ret2;exact⟨_,rfl,cn,(S.alloc _).b⟩
   rw[cN h3]at a;have Q:Hid (mD ((l.drop (k+1)).map nK)=E):=a.symm;clear a;have O:Hid (List.map iZ (fZ ((l.take k).map nK))++ [.int .u8 t,.int .u8 ((m:Int) / 256),.int .u8 ((m:Int) % 256)]++bs.map iZ=List.map iZ (fZ ((l.take (k+1)).map nK))):=by
    show _=_
    rw[f.out,ez,dI]
    congr 1
    simp only[kj,nK,hl.out,ez,gh,nf];have e1:iZ (UInt8.ofNat t.toNat)= .int .u8 t:=qt (by omega) (by omega);have e2:iZ (UInt8.ofNat (m / 256))= .int .u8 ((m:Int) / 256):=by
     rw[←tI,ma];congr 1;omega
    have e3:iZ (UInt8.ofNat m)= .int .u8 ((m:Int) % 256):=by
     rw[←tI,ma]
    rw[e1,e2,e3]
   have C:=(cQ wr (.cells #[t,.slice B m c] 215))
   have z:=C.trans ((cQ (wr.alloc (.cells #[t,.slice B m c] 215)) (.cells #[.int .u8 t,.int .u8 ((m:Int) / 256),.int .u8 ((m:Int) % 256)] 5)).mono C.size);have i:=dg d z;have p:=Rd.lit (wr.alloc (.cells #[t,.slice B m c] 215)) #[.int .u8 t,.int .u8 ((m:Int) / 256),.int .u8 ((m:Int) % 256)] 5;rw[fD,Array.toList]at p;have S1:=S.call z;have F:=S1.b.size;have M:=(fq.new wr #[t,.slice B m c] 215).alloc (.cells #[.int .u8 t,.int .u8 ((m:Int) / 256),.int .u8 ((m:Int) % 256)] 5);have J:=fun g (e:u4.ownBlock=some g)=>(d.lt g e).2
   clear d f C;go_wp2_with (first
    |(at_builtin;refine dK rfl jm (.tmp 25) (.tmp 38) rfl w rfl i (m:=3) rfl (by simp) p (by simp[Value.oneCell']) (by simp only[maxLen];omega) (by omega) F (N+3) _ (by omega) rfl ?_;intro v3 w3 s j K _;have x1:=K.cell (M.c 1 rfl) (fun e=>absurd (J _ e.symm) (Nat.lt_irrefl _));have o:=S1.b.trans j;have H:=rd.below o;replace S:St w w3 [] [(some ⟨b,off,none⟩,kM l)]:=⟨o,by simp,S.rd⟩;clear i p S1 z F j)
    | (at_builtin; refine dK rfl jm (.tmp 40) (.tmp 42) rfl w rfl s (m:=m) rfl (by simp [hl.out]) H (ni _) (by simp only [maxLen]; omega) (by omega) o.size (N + 3 + m) _ (by omega) O ?_; intro v4 w4 q y _ _))
   replace S:St w w4 [] [(some ⟨b,off,none⟩,kM l)]:=⟨o.trans y,by simp,S.rd⟩
   go_roundw
   case rel=>exact⟨k+1,N+3+m,by omega,by go_num,by omega,q,Q,S⟩
   case measure=>simp[intOf];omega
  ·obtain rfl:k=l.length:=by omega
   obtain rfl:E=0:=by rw[←x.out,List.drop_length];rfl
   obtain rfl:=P.out rfl;rw[dE]at d;go_wp2;go_ret2;refine⟨_,rfl,?_,S.b⟩
   have:=d.1;rw[dh,BZ]at this;rw[this];exact d
abbrev We(o s a:Int)(ov:Bool)(A:cG)(n c:Nat)(B:cG)(m d:Nat):cH:=[o,s,a,ov,.slice A n c,.slice B m d]
def pX(o s a:Int)(ov:Bool)(f:List Ad)(pre:List Pf)(A:cG)(n c:Nat)(B:cG)(m d:Nat)(w:World)(hn:f.length=n)(hm:pre.length=m)(hA:Rd w A (jN f))(hB:Rd w B (jU pre))(hu:∀x∈pre,x.1<4294967296) :
  Calls prog 124 #[ig o s a ov A n c B m d] w fun e w'=>
   ∃v,e= .returned (.tuple #[v,(qL ⟨o,s,a,ov,f,pre⟩)])∧w'.ownsRow w 5 1 v (mv ⟨o,s,a,ov,f,pre⟩).length ((mv ⟨o,s,a,ov,f,pre⟩).map iZ)∧cI w w':=by
 have S0:St w (w.alloc (Wf o s a ov A n c B m d)) [(w,We o s a ov A n c B m d)] [(A,jN f),(B,jU pre)]:=((((St.start w).read hB).read hA).new #[o,s,a,ov,.slice A n c,.slice B m d] 41)
 have L:=fq.new w #[o,s,a,ov,.slice A n c,.slice B m d] 41;obtain⟨c0,c1,c2,c3,c4,c5⟩:=L.b6;have V:=i7 o s a ov f pre A n c B m d (w.alloc (Wf o s a ov A n c B m d)) hn hm (S0.r 0 rfl) (S0.r 1 rfl) hu;have I:=cQ w (Wf o s a ov A n c B m d);clear L
 by_cases hv:dS ⟨o,s,a,ov,f,pre⟩
 rotate_left
 ·have e0:=uZ hv;have e1:qL ⟨o,s,a,ov,f,pre⟩=1:=by unfold qL;rw[e0];rfl
  have e2:mv ⟨o,s,a,ov,f,pre⟩= []:=by unfold mv;rw[e0];rfl
  rw[e1,e2];rw[e0]at V;clear e0 e1 e2;replace V:=φ V;go_in;go_wp2_with fail;refine V.out.mono ?_;rintro e w1 ⟨rfl,z⟩;go_wp2;go_ret2;exact⟨_,rfl,cn,I.trans (z.mono I.size)⟩
 have e0:=nA hv;have e1:qL ⟨o,s,a,ov,f,pre⟩=0:=by unfold qL;rw[e0];rfl
 have e2:mv ⟨o,s,a,ov,f,pre⟩=gv ⟨o,s,a,ov,f,pre⟩:=by unfold mv;rw[e0];rfl
 rw[e1,e2];rw[e0]at V;clear e0 e1 e2;replace V:=φ V;go_in;go_wp2_with fail;refine V.out.mono ?_;rintro e w1 ⟨rfl,z⟩;go_wp2_with fail;have E0:=nU.start (S0.call z) (by simp) 211 32;have hg:w.heap.size<w1.heap.size:=by have:=z.size;simp at this;omega
 generalize (w1.alloc (.cells #[sn] 211)).alloc (.cells #[i0] 32)=w2 at *;generalize w1.heap.size=g1 at *;clear c0 c1 c2 c3 c4 c5 V I z S0;obtain⟨⟨U,T⟩,⟨Q,P⟩,⟨Y,X⟩,K,J,_,D,C⟩:=hv;simp only at U T Q P Y X K J D C;rw[hn]at K D;rw[hm]at J C;change Hid _ at hn hm hu D C;refine (ug _ _ _ _ _ _ _ _ E0 (by simp)).mono ?_;clear E0;rintro e w3 ⟨rfl,E1⟩;have c0:=E1.c 0 0 rfl rfl;go_wp2_with fail;refine (sS o 2 o.toNat 2 (by omega) rfl _ _ _ _ _ _ _ _ _ E1 (by simp) (by simp) (by omega) (by omega) (by omega) (by omega)).mono ?_;clear E1 c0;rintro e w4 ⟨rfl,E1⟩;have c0:=E1.c 0 1 rfl rfl;go_wp2_with fail;refine (sS s 4 s.toNat 4 (by omega) rfl _ _ _ _ _ _ _ _ _ E1 (by simp) (by simp[eQ]) (by omega) (by omega) (by omega) (by omega)).mono ?_;clear E1 c0;rintro e w5 ⟨rfl,E1⟩;have c0:=E1.c 0 2 rfl rfl;go_wp2_with fail;refine (sS a 2 a.toNat 2 (by omega) rfl _ _ _ _ _ _ _ _ _ E1 (by simp) (by simp[eQ]) (by omega) (by omega) (by omega) (by omega)).mono ?_;clear E1 c0;rintro e w6 ⟨rfl,E1⟩;have c0:=E1.c 0 3 rfl rfl;go_upto_if 34 with fail;go_cut [] (fun wx=>nU w wx g1 (g1+1) [(w,We o s a ov A n c B m d)] [(A,jN f),(B,jU pre)] ([]++ [(1,[]++fi o.toNat 2++fi s.toNat 4++fi a.toNat 2++fi (bit ov) 1)]))
 case first=>
  cases ov
  ·go_wp2_with fail;refine (sS 0 1 0 1 rfl rfl _ _ _ _ _ _ _ _ _ E1 (by simp) (by simp[eQ]) (by omega) (by omega) (by omega) (by omega)).mono ?_;rintro e w7 ⟨rfl,E2⟩;go_wp2;go_meet;exact E2
  ·go_wp2_with fail;refine (sS 1 1 1 1 rfl rfl _ _ _ _ _ _ _ _ _ E1 (by simp) (by simp[eQ]) (by omega) (by omega) (by omega) (by omega)).mono ?_;rintro e w7 ⟨rfl,E2⟩;go_wp2;go_meet;exact E2
 case rest=>
 clear E1 c0;have E1:nU w wc g1 (g1+1) [(w,We o s a ov A n c B m d)] [(A,jN f),(B,jU pre)] (jA ⟨o,s,a,ov,f,pre⟩ :: (f.take 0).map uU):=hcut;clear hcut;have c4:=E1.c 0 4 rfl rfl;go_wp2_with fail;clear c4;go_loopw [42] (fun l wr=>∃k:Nat,l= .int .i64 k∧k≤n∧nU w wr g1 (g1+1) [(w,We o s a ov A n c B m d)] [(A,jN f),(B,jU pre)] (jA ⟨o,s,a,ov,f,pre⟩ :: (f.take k).map uU)) (fun l _=>n - (intOf l).toNat)
 case atStart=>exact⟨0,rfl,by omega,E1⟩
 case round=>
  clear E1;obtain⟨k,rfl,hk,E1⟩:=hrel
  by_cases hkn:k<n
  ·obtain⟨b,off,rfl,h⟩:=se (E1.r 0 rfl) (by have:=hn.out;omega);have j:k<f.length:=by have:=hn.out;omega
   obtain⟨x0,x1,x2⟩:=h k j;have i:=GI ⟨o,s,a,ov,f,pre⟩ k j;simp only at i;obtain⟨⟨l0,l3⟩,_,⟨l1,l4⟩,⟨l2,l5⟩,_⟩:=D.out k f[k] hkn (cM j);clear h;generalize f[k]=x at x0 x1 x2 i l0 l1 l2 l3 l4 l5;replace i:=φ i;go_wp2_with fail;have E2:=E1.new #[x.1,x.2.1,x.2.2] 169 (by simp);clear E1 x0 x1 x2;generalize wr.alloc (.cells #[x.1,x.2.1,x.2.2] 169)=w3 at *;generalize wr.heap.size=g3 at *;have g:(jA ⟨o,s,a,ov,f,pre⟩ :: (f.take k).map uU).length≤1000000:=by simp;omega
   refine (ug _ _ _ _ _ _ _ _ E2 g).mono ?_;clear E2;rintro e w4 ⟨rfl,E1⟩;have c0:=E1.c 0 0 rfl rfl;go_wp2_with fail;refine (sS x.1 2 x.1.toNat 2 (by omega) rfl _ _ _ _ _ _ _ _ _ E1 g (by simp) (by omega) (by omega) (by omega) (by omega)).mono ?_;clear E1 c0;rintro e w5 ⟨rfl,E1⟩;have c0:=E1.c 0 1 rfl rfl;go_wp2_with fail;refine (sS x.2.1 2 x.2.1.toNat 2 (by omega) rfl _ _ _ _ _ _ _ _ _ E1 g (by simp[eQ]) (by omega) (by omega) (by omega) (by omega)).mono ?_;clear E1 c0;rintro e w6 ⟨rfl,E1⟩;have c0:=E1.c 0 2 rfl rfl;go_wp2_with fail;refine (sS x.2.2 2 x.2.2.toNat 2 (by omega) rfl _ _ _ _ _ _ _ _ _ E1 g (by simp[eQ]) (by omega) (by omega) (by omega) (by omega)).mono ?_;clear E1 c0;rintro e w7 ⟨rfl,E1⟩;go_wp2;go_roundw
   case rel=>exact⟨k+1,by go_num,by omega,by rw[i.out];exact E1.drop _ (by simp)⟩
   case measure=>simp[intOf];omega
  ·obtain rfl:k=n:=by omega
   rw[dn (by have:=hn.out;omega)]at E1;have c5:=E1.c 0 5 rfl rfl;go_wp2_with fail;clear c5;replace E1:nU w wr g1 (g1+1) [(w,We o s a ov A k c B m d)] [(A,jN f),(B,jU pre)] (jA ⟨o,s,a,ov,f,pre⟩ :: (f.map uU++(pre.take 0).map yC)):=by simpa using E1
   go_loopw [64] (fun l wr=>∃k2:Nat,l= .int .i64 k2∧k2≤m∧nU w wr g1 (g1+1) [(w,We o s a ov A k c B m d)] [(A,jN f),(B,jU pre)] (jA ⟨o,s,a,ov,f,pre⟩ :: (f.map uU++(pre.take k2).map yC))) (fun l _=>m - (intOf l).toNat)
   case atStart=>exact⟨0,rfl,by omega,E1⟩
   case round=>
    clear E1;obtain⟨k2,rfl,hk,E1⟩:=hrel;have u:f.length=k:=hn.out
    by_cases hkn:k2<m
    ·obtain⟨b,off,rfl,h⟩:=yz (E1.r 1 rfl) (by have:=hm.out;omega);have j:k2<pre.length:=by have:=hm.out;omega
     obtain⟨x0,x1⟩:=h k2 j;have i:=Fy ⟨o,s,a,ov,f,pre⟩ k2 j;simp only at i;have hP:=(C k2 pre[k2] hkn (cM j)).1;have hU:=hu.out pre[k2] (di j);unfold mR at hP;rw[ie]at hP;obtain⟨l0,l3,_⟩:=hP;clear h;generalize pre[k2]=x at x0 x1 i l0 l3 hU;replace i:=φ i;have g:(jA ⟨o,s,a,ov,f,pre⟩ :: (f.map uU++(pre.take k2).map yC)).length≤1000000:=by simp;omega
     change Hid _ at g u;go_wp2_with fail;have E2:=E1.new #[.int .u32 (x.1:Int),x.2] 181 (by simp);clear E1 x0 x1;generalize wr.alloc (.cells #[.int .u32 (x.1:Int),x.2] 181)=w3 at *;generalize wr.heap.size=g3 at *;refine (ug _ _ _ _ _ _ _ _ E2 g.out).mono ?_;clear E2;rintro e w4 ⟨rfl,E1⟩;have c0:=E1.c 0 0 rfl rfl;go_wp2_with fail;refine (sS (x.1:Int) 4 x.1 4 rfl rfl _ _ _ _ _ _ _ _ _ E1 g (by simp) (by omega) (by omega) (by omega) (by omega)).mono ?_;clear E1 c0;rintro e w5 ⟨rfl,E1⟩;have c0:=E1.c 0 1 rfl rfl;go_wp2_with fail;refine (sS x.2 1 x.2.toNat 1 (by omega) rfl _ _ _ _ _ _ _ _ _ E1 g (by simp[eQ]) (by omega) (by omega) (by omega) (by omega)).mono ?_;clear E1 c0;rintro e w6 ⟨rfl,E1⟩;go_wp2;go_roundw
     case rel=>exact⟨k2+1,by go_num,by omega,by rw[i.out];exact E1.drop _ (by simp)⟩
     case measure=>simp[intOf];omega
    ·obtain rfl:k2=m:=by omega
     rw[dn (by have:=hm.out;omega)]at E1;have H:pre.length=k2:=hm.out;have g:(jA ⟨o,s,a,ov,f,pre⟩ :: (f.map uU++pre.map yC)).length≤1000000:=by simp;omega
     have p:=lS ⟨o,s,a,ov,f,pre⟩;simp only[u,H]at p;have hR:=F7 ⟨o,s,a,ov,f,pre⟩;have hE:=Ab ⟨o,s,a,ov,f,pre⟩;have t:(nT ⟨o,s,a,ov,f,pre⟩).length=k+k2+2:=by simp[nT,u,H];omega
     change Hid _ at g hR hE t p;clear u H;go_wp2_with fail;refine (ug _ _ _ _ _ _ _ _ E1 g.out).mono ?_;clear E1;rintro e w4 ⟨rfl,E1⟩;go_wp2_with fail;refine (sS 0 2 0 2 rfl rfl _ _ _ _ _ _ _ _ _ E1 g (by simp) (by omega) (by omega) (by omega) (by omega)).mono ?_;clear E1 g;rintro e w5 ⟨rfl,E1⟩;replace E1:nU w w5 g1 (g1+1) [(w,We o s a ov A k c B k2 d)] [(A,jN f),(B,jU pre)] (nT ⟨o,s,a,ov,f,pre⟩):=E1;obtain⟨v,rs,E1,hd⟩:=E1;generalize nT ⟨o,s,a,ov,f,pre⟩=LR at hR hE t hd;have R:rs.length≤1000000:=by
      have:=t.out;rw[←hd,dh]at this;omega
     obtain⟨A1,k1,rfl,rdv,_,_⟩:=dN E1.own;have CE:=yK A1 rs.length k1 rs w5 rdv (fun r hr=>(E1.recs r hr).ok) rfl R;rw[hd,hE.out,hR.out]at CE;replace CE:=φ CE;clear hd hE hR t rdv;have c1:=E1.S.c 0 0 rfl rfl;go_wp2_with fail;refine CE.out.mono ?_;rintro e w6 ⟨v6,rfl,G,M⟩;have y:=E1.S.b.trans (M.mono E1.S.b.size);have c2:=(E1.S.call M).c 1 0 rfl rfl;obtain⟨A6,k6,rfl,N,_,_⟩:=dN G;have SE:=NJ A6 (gq ⟨o,s,a,ov,f,pre⟩).length k6 ((gq ⟨o,s,a,ov,f,pre⟩).length - 2) (gq ⟨o,s,a,ov,f,pre⟩) w6 N rfl (by rw[p.out];omega) (by rw[p.out];omega);have aa:(gq ⟨o,s,a,ov,f,pre⟩).length≤1000000:=by rw[p.out];omega
     have Z:2≤(gq ⟨o,s,a,ov,f,pre⟩).length:=by rw[p.out];omega
     have E:(gv ⟨o,s,a,ov,f,pre⟩).length=(gq ⟨o,s,a,ov,f,pre⟩).length:=by rw[tY,lS]
     replace E:=φ E;have O:Hid (kE (gq ⟨o,s,a,ov,f,pre⟩) ((gq ⟨o,s,a,ov,f,pre⟩).length - 2)=gv ⟨o,s,a,ov,f,pre⟩):=rfl;clear c1 CE;rw[O.out]at SE;generalize (gq ⟨o,s,a,ov,f,pre⟩).length=q at *;have hq:((q - 2:Nat):Int)=(q:Int) - 2:=by omega
     replace SE:=φ (SE _ hq.symm);clear hq;go_wp2_with fail;refine SE.out.mono ?_;rintro e w7 ⟨v7,rfl,F,W⟩;go_wp2;go_ret2;exact⟨_,rfl,by rw[E.out];exact dx F (y.size),y.trans (W.mono y.size)⟩
end Go.Proofs.YtehimhbgakpenaaGreat
