/- Lemmas. -/
import Derived.Test.YtehimhbgakpenaaGreatak
import Derived.Test.YtehimhbgakpenaaGreatU
import Derived.Test.YtehimhbgakpenaaGreatX
set_option linter.all false
set_option maxRecDepth 100000
set_option maxHeartbeats 16000000
namespace Go.Proofs.YtehimhbgakpenaaGreat.Fd
open Go.RowKit Go.Maps Go.Sort
def vi{α:Type}{r:α→α→Prop}(d:∀a,¬r a a)(tr:∀a b c,r a b→r b c→r a c):∀ {l m:List α},l.Pairwise r→m.Pairwise r→(∀x,x∈l↔x∈m)→l=m
 | [],[],_,_,_=>rfl
 | [],b :: m,_,_,h=>absurd ((h b).2 (by simp)) (by simp)
 |a :: l,[],_,_,h=>absurd ((h a).1 (by simp)) (by simp)
 |a :: l,b :: m,hl,hm,h=>by
   have g:=oI.1 hl;have f:=oI.1 hm;have i:a=b:=by
    rcases dA.1 ((h a).1 (by simp))with e|e
    ·exact e
    ·rcases dA.1 ((h b).2 (by simp))with e2|e2
     ·exact e2.symm
     ·exact absurd (tr _ _ _ (g.1 b e2) (f.1 a e)) (d a)
   subst i;have:l=m:=vi d tr g.2 f.2 fun x=>by
    constructor
    ·intro hx;rcases dA.1 ((h x).1 (fy _ hx))with e|e
     ·subst e;exact absurd (g.1 x hx) (d x)
     ·exact e
    ·intro hx;rcases dA.1 ((h x).2 (fy _ hx))with e|e
     ·subst e;exact absurd (f.1 x hx) (d x)
     ·exact e
   rw[this]
def D2{α:Type}{p:α→Bool}{l:List α}{x s:α}:s∈ins p l x↔s=x∨s∈l:=by
 induction l with
 |nil=>simp[ins]
 |cons t l ih=>
   unfold ins;split
   ·simp
   ·simp only[dA,ih];constructor
    ·rintro(h|h|h)
     ·exact .inr (.inl h)
     ·exact .inl h
     ·exact .inr (.inr h)
    ·rintro(h|h|h)
     ·exact .inr (.inl h)
     ·exact .inl h
     ·exact .inr (.inr h)
def vw{α:Type}{r:α→α→Prop}{p:α→Bool}{x:α}(tr:∀a b c,r a b→r b c→r a c):∀ {l:List α},l.Pairwise r→(∀s∈l,p s=true→r x s)→(∀s∈l,p s=false→r s x)→(ins p l x).Pairwise r
 | [],_,_,_=>by simp[ins]
 |t :: l,hl,h1,h2=>by
   have d:=oI.1 hl;unfold ins;split
   ·next hp=>
    have f:=h1 t (by simp) hp;refine oI.2 ⟨fun s hs=>?_,hl⟩;rcases dA.1 hs with e|e
    ·rw[e];exact f
    ·exact tr _ _ _ f (d.1 s e)
   ·next hp=>
    refine oI.2 ⟨fun s hs=>?_,vw tr d.2 (fun s hs=>h1 s (fy _ hs)) (fun s hs=>h2 s (fy _ hs))⟩;rcases D2.1 hs with e|e
    ·rw[e];exact h2 t (by simp) (by simpa using hp)
    ·exact d.1 s e
def ui(N:Fn)(q o:Nat):Option Hd:=(N q).bind fun D=>D o
def LM(s t:It):Prop:=s.q<t.q∨(s.q=t.q∧s.x.y.o<t.x.y.o)
def Wg(a b c:It)(h1:LM a b)(h2:LM b c):LM a c:=by unfold LM at *;omega
structure Rel (N:Fn) (R:RF):Prop where
 ls:R.ls=iA N
 so:R.dP.Pairwise LM
 mem:∀s∈R.dP,∃q o:Nat,s.q=(q:Int)∧s.x.y.o=(o:Int)∧q<256∧o<64∧ui N q o=some ⟨s.x.y,max 0 (s.t - R.now)⟩
 all:∀q o:Nat,q<256→o<64→ ∀h,ui N q o=some h→ ∃s∈R.dP,s.q=(q:Int)∧s.x.y.o=(o:Int)
def Rel.get{N:Fn}{R:RF}(h:Rel N R){q o:Nat}(hq:q<256)(ho:o<64) :
  (ui N q o=none∧CG R.dP q o=none)∨ ∃s,s∈R.dP∧CG R.dP q o=some s∧s.q=(q:Int)∧s.x.y.o=(o:Int)∧ui N q o=some ⟨s.x.y,max 0 (s.t - R.now)⟩:=by
 have key:∀s,CG R.dP q o=some s→s∈R.dP∧s.q=(q:Int)∧s.x.y.o=(o:Int)∧ui N q o=some ⟨s.x.y,max 0 (s.t - R.now)⟩:=fun s hs=>by
  have hm:=vK hs;have hg:=List.find?_some hs;unfold JR at hg;simp only[dD,ji]at hg;obtain⟨q',o',e1,e2,_,_,e3⟩:=h.mem s hm;have:q'=q:=by omega
  have:o'=o:=by omega
  subst q' o';exact⟨hm,hg.1,hg.2,e3⟩
 cases hs:CG R.dP q o with
 |some s=>exact .inr ⟨s,(key s hs).1,rfl,(key s hs).2.1,(key s hs).2.2.1,(key s hs).2.2.2⟩
 |none=>
   refine .inl ⟨?_,rfl⟩;cases ha:ui N q o with
   |none=>rfl
   |some hd=>
     obtain⟨s,hm,e1,e2⟩:=h.all q o hq ho hd ha;have:=GY.1 hs s hm;unfold JR at this;rw[e1,e2]at this;simp at this
def uh{N:Fn}{i:Nat}{D:Db}{q o:Nat}:ui (eY N i D) q o=if q=i then D o else ui N q o:=by
 unfold ui eY
 by_cases h:q=i
 ·rw[cR h,cR h];rfl
 ·rw[cN h,cN h]
def wJ{N:Fn}{i:Nat}{D:Db}(h:(N i).isSome=true):iA (eY N i D)=iA N:=by
 unfold iA;refine gN fun z _=>?_
 unfold eY
 by_cases e:z.toNat=i
 ·rw[cR e,e,h];rfl
 ·rw[cN e]
def pD{N:Fn}{q o:Nat}{D:Db}(h:N q=some D):ui N q o=D o:=by unfold ui;rw[h];rfl
def vo{l:List It}{q o:Int}{s:It}:s∈wo q o l↔s∈l∧(s.q≠q∨(0≤o∧s.x.y.o≠o)):=by
 unfold wo W6;rw[dW];simp
def DU{l:List It}{x s:It}:s∈wi l x↔s=x∨s∈l:=D2
def xy{l:List It}{q o:Int}(h:l.Pairwise LM):(wo q o l).Pairwise LM:=h.filter _
def Kl{l:List It}{x:It}(h:l.Pairwise LM)(a:∀s∈l,¬(s.q=x.q∧s.x.y.o=x.x.y.o)):(wi l x).Pairwise LM:=by
 refine vw Wg h (fun s hs hp=>?_) (fun s hs hp=>?_)
 ·unfold uY at hp;simp only[sE,dD,fa,ji]at hp;unfold LM;omega
 ·have:=a s hs;unfold uY at hp;simp only[mJ,YO,ja,kL,ne_eq]at hp;unfold LM;omega
def Rel.put{N:Fn}{R:RF}(h:Rel N R){q o:Nat}(hq:q<256)(ho:o<64){D:Db}(hD:N q=some D){a:Lx}(g:a.y.o=(o:Int)) :
  Rel (eY N q (fun i=>if i=o then some ⟨a.y,0⟩else D i)) ⟨R.iv,R.now,R.ls,wi (wo q a.y.o R.dP) ⟨q,a,R.now⟩⟩:=by
 refine⟨h.ls.trans (wJ (by rw[hD];rfl)).symm,Kl (xy h.so) (fun s hs=>?_),fun s hs=>?_,fun q' o' c d hd b=>?_⟩
 ·have:=(vo.1 hs).2;simp only;omega
 ·rcases DU.1 hs with rfl|hs
  ·refine⟨q,o,rfl,g,hq,ho,?_⟩
   rw[uh,cR rfl,cR rfl];simp
  ·obtain⟨hs,hk⟩:=vo.1 hs;obtain⟨q',o',e1,e2,c,d,b⟩:=h.mem s hs;refine⟨q',o',e1,e2,c,d,?_⟩
   rw[uh];split
   ·next e=>
    subst e;rw[cN (by omega),←pD hD];exact b
   ·exact b
 ·rw[uh]at b
  by_cases e:q'=q∧o'=o
  ·exact⟨⟨q,a,R.now⟩,DU.2 (.inl rfl),by simp only[e.1],by simp only[g,e.2]⟩
  ·have f:ui N q' o'=some hd:=by
    split at b
    ·next e2=>
     subst e2;rw[cN (by omega)]at b;rw[pD hD];exact b
    ·exact b
   obtain⟨s,hs,e1,e2⟩:=h.all q' o' c d hd f;exact⟨s,DU.2 (.inr (vo.2 ⟨hs,by omega⟩)),e1,e2⟩
def Rel.less{N:Fn}{R:RF}(h:Rel N R){q o:Nat}(hq:q<256){D:Db}(hD:N q=some D) :
  Rel (eY N q (fun i=>if i=o then none else D i)) ⟨R.iv,R.now,R.ls,wo q (o:Int) R.dP⟩:=by
 refine⟨h.ls.trans (wJ (by rw[hD];rfl)).symm,xy h.so,fun s hs=>?_,fun q' o' b c hd a=>?_⟩
 ·obtain⟨hs,hk⟩:=vo.1 hs;obtain⟨q',o',e1,e2,b,c,a⟩:=h.mem s hs;refine⟨q',o',e1,e2,b,c,?_⟩
  rw[uh];split
  ·next e=>
   subst e;rw[cN (by omega),←pD hD];exact a
  ·exact a
 ·rw[uh]at a;have d:ui N q' o'=some hd∧ ¬(q'=q∧o'=o):=by
   split at a
   ·next e2=>
    subst e2;split at a
    ·cases a
    ·next e3=>exact⟨by rw[pD hD];exact a,fun e=>e3 e.2⟩
   ·next e2=>exact⟨a,fun e=>e2 e.1⟩
  obtain⟨s,hs,e1,e2⟩:=h.all q' o' b c hd d.1;exact⟨s,vo.2 ⟨hs,by omega⟩,e1,e2⟩
def tM{N:Fn}{q:Nat}{D:Db}(h:N q=some D):eY N q D=N:=by
 funext j
 unfold eY
 by_cases e:j=q
 ·subst e;rw[if_pos rfl,h]
 ·rw[if_neg e]
def Rel.offer{N:Fn}{R:RF}(h:Rel N R){q:Nat}(hq:q<256){D:Db}(hD:N q=some D){a:Lx}(d:dS a.y) :
  Rel (eY N q (mu D a.y)) (kN R q a):=by
 have ho:=d.1;obtain⟨o,c⟩:=de ho.1;have b:o<64:=by omega
 have e:(BM R q a.y=true∧zQ D a.y=false)∨(BM R q a.y=false∧zQ D a.y=true):=by
  unfold BM zQ;rw[c,cU,←pD (o:=o) hD];rcases h.get hq b with ⟨e1,e2⟩|⟨s,_,e1,_,_,e2⟩
  ·rw[e1,e2];exact .inr ⟨rfl,rfl⟩
  ·rw[e1,e2]
   by_cases h9:kO a.y s.x.y≤0
   ·exact .inl ⟨by simpa using h9,by simp;omega⟩
   ·exact .inr ⟨by simpa using h9,by simp;omega⟩
 rcases e with ⟨e1,e2⟩|⟨e1,e2⟩
 ·rw[show mu D a.y=D from by unfold mu;rw[cN (by rw[e2];simp)],tM hD,show kN R q a=R from by unfold kN;rw[cR e1]];exact h
 ·rw[show mu D a.y=fun i=>if i=o then some ⟨a.y,0⟩else D i from by unfold mu;rw[cR e2,show a.y.o.toNat=o by rw[c];rfl],show kN R q a=⟨R.iv,R.now,R.ls,wi (wo q a.y.o R.dP) ⟨q,a,R.now⟩⟩from by unfold kN;rw[cN (by rw[e1];simp)]];exact h.put hq b hD c
def Rel.ext{N N':Fn}{R:RF}(h:Rel N R)(e:∀i,i<256→N' i=N i):Rel N' R:=by
 have ea:∀q o,q<256→ui N' q o=ui N q o:=fun q o hq=>by unfold ui;rw[e q hq]
 refine⟨?_,h.so,fun s hs=>?_,fun q o hq ho hd a=>h.all q o hq ho hd (by rw[←ea q o hq];exact a)⟩
 ·rw[h.ls];unfold iA;refine gN fun z hz=>?_
  obtain⟨k,hk,rfl⟩:=dL.1 hz;rw[cU,e k (ec.1 hk)]
 ·obtain⟨q,o,e1,e2,hq,ho,a⟩:=h.mem s hs;exact⟨q,o,e1,e2,hq,ho,by rw[ea q o hq];exact a⟩
def Wa{N:Fn}{q:Nat}:EC (q:Int) (iA N)=iA (gx N q):=by
 unfold EC iA;rw[ZS];refine gN fun z hz=>?_
 obtain⟨k,hk,rfl⟩:=dL.1 hz;rw[cU];unfold gx
 by_cases e:k=q
 ·subst e;simp
 ·rw[cN e];have:((k:Int) !=(q:Int))=true:=by simp;omega
  rw[this,gi]
def AF{N:Fn}{i q o:Nat}:ui (gx N i) q o=if q=i then none else ui N q o:=by
 unfold ui gx
 by_cases h:q=i
 ·rw[cR h,cR h];rfl
 ·rw[cN h,cN h]
def Rel.down{N:Fn}{R:RF}(h:Rel N R)(q:Nat):Rel (gx N q) (xx R q):=by
 refine⟨?_,xy h.so,fun s hs=>?_,fun q' o' b c hd a=>?_⟩
 ·show EC q R.ls=_
  rw[h.ls,Wa]
 ·obtain⟨hs,hk⟩:=vo.1 hs;obtain⟨q',o',e1,e2,b,c,a⟩:=h.mem s hs;refine⟨q',o',e1,e2,b,c,?_⟩
  rw[AF,cN (by omega)];exact a
 ·rw[AF]at a;split at a
  ·cases a
  ·next e=>
   obtain⟨s,hs,e1,e2⟩:=h.all q' o' b c hd a;exact⟨s,vo.2 ⟨hs,by omega⟩,e1,e2⟩
def Tk{N:Fn}{q:Nat}(hq:q<256){D:Db}:ins (CI q) (iA (gx N q)) q=iA (eY N q D):=by
 have d:∀a:Int,¬a<a:=fun a h=>by omega
 refine vi (r:=fun a b:Int=>a<b) d (fun a b c h1 h2=>by omega) (vw (fun a b c h1 h2=>by omega) (rP _) (fun s hs hp=>by unfold CI at hp;simpa using hp) (fun s hs hp=>?_)) (rP _) fun x=>?_
 ·have hm:=(jQ s).1 hs;unfold CI at hp;simp only[ja]at hp;have:s≠(q:Int):=fun e=>by
   have:=hm.2;rw[e,cU]at this;simp[gx]at this
  omega
 ·rw[D2,jQ,jQ];constructor
  ·rintro(rfl|⟨h1,h2⟩)
   ·exact⟨⟨by omega,by omega⟩,by rw[cU];simp[eY]⟩
   ·refine⟨h1,?_⟩
    unfold gx at h2;unfold eY;split at h2
    ·cases h2
    ·next e=>rw[cN e];exact h2
  ·rintro⟨h1,h2⟩
   by_cases e:x.toNat=q
   ·exact .inl (by omega)
   ·right;refine⟨h1,?_⟩
    unfold eY at h2;rw[cN e]at h2;unfold gx;rw[cN e];exact h2
def Rel.up0{N:Fn}{R:RF}(h:Rel N R){q:Nat}(hq:q<256):Rel (eY N q (fun _=>none)) (nY R q):=by
 have hd:=h.down q;have ea:∀q' o',ui (eY N q (fun _=>none)) q' o'=ui (gx N q) q' o':=fun q' o'=>by rw[uh,AF]
 refine⟨?_,hd.so,fun s hs=>?_,fun q' o' b c d a=>hd.all q' o' b c d (by rw[←ea];exact a)⟩
 ·show ins (CI q) (xx R q).ls q=_
  rw[hd.ls,Tk hq]
 ·obtain⟨q',o',e1,e2,h1,h2,a⟩:=hd.mem s hs;exact⟨q',o',e1,e2,h1,h2,by rw[ea];exact a⟩
def NF{N:Fn}{q:Nat}{D E:Db}:eY (eY N q D) q E=eY N q E:=by
 funext j
 unfold eY
 by_cases e:j=q
 ·rw[if_pos e,if_pos e]
 ·rw[if_neg e,if_neg e,if_neg e]
def Rel.offers{N:Fn}{q:Nat}(hq:q<256):∀(l:List Lx) {D:Db} {R:RF},Rel (eY N q D) R→(∀s∈l,dS s.y)→Rel (eY N q (pJ D (pz l))) (l.foldl (fun R a=>kN R q a) R)
 | [],D,R,h,_=>h
 |a :: l,D,R,h,hv=>by
   have h2:=h.offer (q:=q) hq (D:=D) (by simp[eY]) (hv a (by simp));rw[NF]at h2;exact Rel.offers hq l h2 fun s hs=>hv s (fy _ hs)
def Rel.up{N:Fn}{R:RF}(h:Rel N R){q:Nat}(hq:q<256){l:List Lx}(hv:∀s∈l,dS s.y):Rel (eY N q (pJ (fun _=>none) (pz l))) (Bo R q l) :=
 Rel.offers hq l (h.up0 hq) hv
def Rel.spread{N:Fn}{R:RF}(h:Rel N R){a:Lx}(f:dS a.y)(ex:Int):Rel (zv N a.y ex) (EW R a ex):=by
 have key:∀k,k≤(iA N).length→Rel (pK (mj a.y ex) N k) (((iA N).take k).foldl (EU a ex) R):=fun k=>by
  induction k with
  |zero=>intro _;rw[CM];exact h
  |succ k ih=>
    intro hk;have ih:=ih (by omega);have d:k< (iA N).length:=by omega
    rw[xT (EU a ex) R (iA N) k d];generalize ((iA N).take k).foldl (EU a ex) R=Rk at *;have c:=(jQ (N:=N) (iA N)[k]).1 (di d);obtain⟨q,hq⟩:=de c.1.1;have b:q<256:=by have:=c.1.2;omega
    obtain⟨D,hD⟩:=dC.1 (show(N q).isSome=true by have:=c.2;rwa[hq,cU]at this);rw[CN (mj a.y ex) N k d q hq hD,hq];have e:pK (mj a.y ex) N k q=some D:=by rw[JS (mj a.y ex) N k d q hq,hD]
    generalize pK (mj a.y ex) N k=Nk at *
    by_cases hex:((q:Int) !=ex)=true
    ·rw[show mj a.y ex q D=mu D a.y from by unfold mj;rw[cR hex],show EU a ex Rk q=kN Rk q a from by unfold EU;rw[cR hex]];exact ih.offer b e f
    ·have j:ex=(q:Int):=by simp at hex;exact hex.symm
     obtain⟨o,g⟩:=de f.1.1;have l:o<64:=by have:=f.1;omega
     have e0:Vn Rk ex a.y=N0 D a.y:=by
      unfold Vn N0;rw[j,g,cU,←pD (o:=o) e];rcases ih.get b l with ⟨e1,e2⟩|⟨s,_,e1,_,_,e2⟩
      ·rw[e1,e2]
      ·rw[e1,e2]
     have e1:mj a.y ex q D=QQ D a.y:=by unfold mj;rw[cN hex]
     have e2:EU a ex Rk q=if N0 D a.y=true then⟨Rk.iv,Rk.now,Rk.ls,wo ex a.y.o Rk.dP⟩else Rk:=by unfold EU;rw[cN hex,e0]
     rw[e1,e2]
     by_cases hr:N0 D a.y=true
     ·rw[cR hr,show QQ D a.y=fun i=>if i=o then none else D i from by unfold QQ;rw[cR hr,g,cU],j,g];exact ih.less b e
     ·rw[cN hr,show QQ D a.y=D from by unfold QQ;rw[cN hr],tM e];exact ih
 have:=key (iA N).length cj;rw[dE]at this;unfold EW;rw[h.ls];exact this.ext fun i hi=>by rw[Gh _ _ _ hi];rfl
def HA(x y:La):kS x y=kS y x:=by
 rw[ga];unfold kS;simp only[dD,ji,wW];constructor
 ·rintro⟨h1,h2,h3,h4,h5,h6⟩;exact⟨h1.symm,h2.symm,h3.symm,h4.symm,h5.symm,h6.symm⟩
 ·rintro⟨h1,h2,h3,h4,h5,h6⟩;exact⟨h1.symm,h2.symm,h3.symm,h4.symm,h5.symm,h6.symm⟩
def Rel.Wo{N:Fn}{R:RF}(h:Rel N R){q:Nat}{z:Int}(hz:¬(0≤z∧z<64)):CG R.dP q z=none:=by
 cases hs:CG R.dP q z with
 |none=>rfl
 |some s=>
   have hm:=vK hs;have hg:=List.find?_some hs;unfold JR at hg;simp only[dD,ji]at hg;obtain⟨q',o',e1,e2,_,h4,_⟩:=h.mem s hm;omega
def Rel.Zk{N:Fn}{R:RF}(h:Rel N R){q:Nat}(hq:q<256){D:Db}(hD:N q=some D)(a:La) :
  QA R q a=vE D a∧Rel (eY N q (pN D a)) (Bw R q a):=by
 by_cases hz:0≤a.o∧a.o<64
 ·obtain⟨o,b⟩:=de hz.1;have c:o<64:=by omega
  have e0:QA R q a=vE D a:=by
   unfold QA vE dO;rw[cR hz,b,cU,←pD (o:=o) hD];rcases h.get hq c with ⟨e1,e2⟩|⟨s,_,e1,_,_,e2⟩
   ·rw[e1,e2]
   ·rw[e1,e2];exact HA _ _
  refine⟨e0,?_⟩
  by_cases hb:vE D a=true
  ·rw[show pN D a=fun i=>if i=o then none else D i from by unfold pN;rw[cR hb,b,cU],show Bw R q a=⟨R.iv,R.now,R.ls,wo q (o:Int) R.dP⟩from by unfold Bw;rw[cR (by rw[e0];exact hb),b]];exact h.less hq hD
  ·rw[show pN D a=D from by unfold pN;rw[cN hb],show Bw R q a=R from by unfold Bw;rw[cN (by rw[e0];exact hb)],tM hD];exact h
 ·have e1:vE D a=false:=by unfold vE dO;rw[cN hz]
  have e2:QA R q a=false:=by unfold QA;rw[h.Wo hz]
  refine⟨by rw[e1,e2],?_⟩
  rw[show pN D a=D from by unfold pN;rw[cN (by rw[e1];simp)],show Bw R q a=R from by unfold Bw;rw[cN (by rw[e2];simp)],tM hD];exact h
def JI{N:Fn}(F:Db→Db):iA (fun i=>(N i).map F)=iA N:=by
 unfold iA;refine gN fun z _=>?_
 simp
def J1{N:Fn}{F:Hd→Hd}{q o:Nat}:ui (fun i=>(N i).map fun D=>fun o=>(D o).map F) q o=(ui N q o).map F:=by
 unfold ui;dsimp only;cases N q<;>rfl
def Rel.tick{N:Fn}{R:RF}(h:Rel N R){n:Int}(hn:0<n):Rel (ve n N) ⟨R.iv,R.now+n,R.ls,R.dP⟩:=by
 have ea:∀q o,ui (ve n N) q o=(ui N q o).map (Rp n):=fun q o=>J1
 refine⟨h.ls.trans (JI _).symm,h.so,fun s hs=>?_,fun q o hq ho hd a=>?_⟩
 ·obtain⟨q,o,e1,e2,hq,ho,a⟩:=h.mem s hs;refine⟨q,o,e1,e2,hq,ho,?_⟩
  rw[ea,a];simp only[Option.map_some,Rp,dB,Hd.mk.injEq,fE];omega
 ·rw[ea]at a;cases h9:ui N q o with
  |none=>rw[h9]at a;cases a
  |some h8=>exact h.all q o hq ho h8 h9
def oo(iv now:Int)(s:It):(yB iv now s).q=s.q∧(yB iv now s).x=s.x:=by unfold yB;split<;>exact⟨rfl,rfl⟩
def Rel.Y4{N:Fn}{R:RF}(h:Rel N R)(f:0≤R.iv):Rel (wB R.iv N) (MF R):=by
 have ea:∀q o,ui (wB R.iv N) q o=(ui N q o).map (DJ R.iv):=fun q o=>J1
 refine⟨h.ls.trans (JI _).symm,?_,fun s hs=>?_,fun q o hq ho hd c=>?_⟩
 ·show(R.dP.map (yB R.iv R.now)).Pairwise LM
  rw[gM];refine h.so.imp fun {a b} e=>?_
  unfold LM at *;rw[(oo _ _ a).1,(oo _ _ a).2,(oo _ _ b).1,(oo _ _ b).2];exact e
 ·obtain⟨s0,d,rfl⟩:=dL.1 (show s∈R.dP.map (yB R.iv R.now)from hs);obtain⟨q,o,e1,e2,hq,ho,c⟩:=h.mem s0 d;refine⟨q,o,by rw[(oo _ _ s0).1];exact e1,by rw[(oo _ _ s0).2];exact e2,hq,ho,?_⟩
  rw[ea,c,(oo _ _ s0).2];simp only[Option.map_some,dB,DJ];show _=(⟨s0.x.y,max 0 ((yB R.iv R.now s0).t - R.now)⟩:Hd)
  unfold yB BS
  by_cases ht:s0.t≤R.now
  ·rw[cN (by omega),cR (by simpa using ht)];simp only[Hd.mk.injEq,fE];omega
  ·rw[cR (by omega),cN (by simpa using ht)]
 ·rw[ea]at c;cases h9:ui N q o with
  |none=>rw[h9]at c;cases c
  |some h8=>
    obtain⟨s,hs,e1,e2⟩:=h.all q o hq ho h8 h9;exact⟨yB R.iv R.now s,dL.2 ⟨s,hs,rfl⟩,by rw[(oo _ _ s).1];exact e1,by rw[(oo _ _ s).2];exact e2⟩
def Aq{α β:Type}{f g:α→Option β}:∀ {l:List α},(∀x∈l,f x=g x)→l.filterMap f=l.filterMap g
 | [],_=>rfl
 |a :: l,h=>by
   have ih:=Aq (l:=l) fun x hx=>h x (fy _ hx)
   simp only[List.filterMap_cons,h a (by simp),ih]
def VJ(a b:Int× La):Prop:=a.1<b.1∨(a.1=b.1∧a.2.o<b.2.o)
def SH(a:Int× La):¬VJ a a:=fun h=>by unfold VJ at h;omega
def VH(a b c:Int× La)(h1:VJ a b)(h2:VJ b c):VJ a c:=by unfold VJ at *;omega
def JU(N:Fn):List (Int× La):=(iA N).flatMap fun q=>match N q.toNat with|some D=>(Ox D).map fun x=>(q,x)|none=>[]
def Rel.VO{N:Fn}{R:RF}(h:Rel N R){q o:Nat}(hq:q<256)(ho:o<64){hd:Hd}(a:ui N q o=some hd):hd.x.o=(o:Int):=by
 rcases h.get hq ho with ⟨e1,_⟩|⟨s,_,_,_,e3,e4⟩
 ·rw[a]at e1;cases e1
 ·rw[a]at e4;injection e4 with e4
  rw[e4];exact e3
def wR(N:Fn)(G:Hd→Option La):List (Int× La):=(iA N).flatMap fun q=>match N q.toNat with|some D=>(eR D).filterMap fun o=>(D o.toNat).bind fun h=>(G h).map fun x=>(q,x)|none=>[]
def LY{N:Fn}{G:Hd→Option La}{p:Int× La}:p∈wR N G↔ ∃q o:Nat,q<256∧o<64∧p.1=(q:Int)∧ ∃h,ui N q o=some h∧G h=some p.2:=by
 unfold wR;rw[List.mem_flatMap];constructor
 ·rintro⟨z,hz,hp⟩;have hm:=(jQ z).1 hz;obtain⟨q,rfl⟩:=de hm.1.1;rw[cU]at hp;cases hN:N q with
  |none=>rw[hN]at hp;simp at hp
  |some D=>
    rw[hN]at hp;obtain⟨y,hy,hp⟩:=lv.1 hp;have a:=(jf y).1 hy;obtain⟨o,rfl⟩:=de a.1.1;rw[cU]at hp;cases hD:D o with
    |none=>rw[hD]at hp;simp at hp
    |some h=>
      rw[hD]at hp;simp only[Option.bind_some,fW]at hp;obtain⟨x,hx,rfl⟩:=hp;exact⟨q,o,by omega,by omega,rfl,h,by rw[pD hN];exact hD,hx⟩
 ·rintro⟨q,o,hq,ho,h1,h,hat,hG⟩;cases hN:N q with
  |none=>unfold ui at hat;rw[hN]at hat;cases hat
  |some D=>
    rw[pD hN]at hat;refine⟨(q:Int),(jQ _).2 ⟨⟨by omega,by omega⟩,by rw[cU,hN];rfl⟩,?_⟩
    rw[cU,hN];refine lv.2 ⟨(o:Int),(jf _).2 ⟨⟨by omega,by omega⟩,by rw[cU,hat];rfl⟩,?_⟩;rw[cU,hat];simp only[Option.bind_some,hG,Option.map_some];rw[←h1]
def D8{N:Fn}{R:RF}(h:Rel N R){G:Hd→Option La}(hG:∀hd x,G hd=some x→x=hd.x):(wR N G).Pairwise VJ:=by
 unfold wR;rw[List.pairwise_flatMap];refine⟨fun z hz=>?_,(rP N).imp fun {a b} c x hx y hy=>?_⟩
 ·have hm:=(jQ z).1 hz;obtain⟨q,rfl⟩:=de hm.1.1;rw[cU];cases hN:N q with
  |none=>simp
  |some D=>
    simp only;rw[List.pairwise_filterMap];refine(pW D).imp_of_mem fun {a b} ha hb c x hx y hy=>?_
    have f:=(jf a).1 ha;have e:=(jf b).1 hb;obtain⟨o,rfl⟩:=de f.1.1;obtain⟨o',rfl⟩:=de e.1.1;rw[cU]at hx hy;cases hD:D o with
    |none=>rw[hD]at hx;simp at hx
    |some h1=>
      cases hD':D o' with
      |none=>rw[hD']at hy;simp at hy
      |some h2=>
        rw[hD]at hx;rw[hD']at hy;simp only[Option.bind_some,fW]at hx hy;obtain⟨u,hu,rfl⟩:=hx;obtain⟨u',d,rfl⟩:=hy;have q1:=h.VO (q:=q) (o:=o) (by omega) (by omega) (hd:=h1) (by rw[pD hN];exact hD);have q2:=h.VO (q:=q) (o:=o') (by omega) (by omega) (hd:=h2) (by rw[pD hN];exact hD');right;rw[hG h1 u hu,hG h2 u' d];simp only[fE];omega
 ·left;have e1:x.1=a:=by
   split at hx
   ·obtain⟨o,_,hx⟩:=lv.1 hx;rw[ym]at hx;obtain⟨_,_,hx⟩:=hx;rw[fW]at hx;obtain⟨_,_,rfl⟩:=hx;rfl
   ·simp at hx
  have e2:y.1=b:=by
   split at hy
   ·obtain⟨o,_,hy⟩:=lv.1 hy;rw[ym]at hy;obtain⟨_,_,hy⟩:=hy;rw[fW]at hy;obtain⟨_,_,rfl⟩:=hy;rfl
   ·simp at hy
  rw[e1,e2];exact c
def CP{N:Fn}{R:RF}(h:Rel N R){G:Hd→Option La}(hG:∀hd x,G hd=some x→x=hd.x)(p:It→Bool)(hp:∀s,p s=(G ⟨s.x.y,max 0 (s.t - R.now)⟩).isSome) :
  (R.dP.filter p).map (fun s=>(s.q,s.x.y))=wR N G:=by
 refine vi SH VH ?_ (D8 h hG) fun x=>?_
 ·rw[gM];exact(h.so.filter p).imp fun {a b} e=>e
 ·rw[LY,dL];constructor
  ·rintro⟨s,hs,rfl⟩;obtain⟨hs,d⟩:=dW.1 hs;obtain⟨q,o,e1,e2,hq,ho,c⟩:=h.mem s hs;rw[hp]at d;obtain⟨x,hx⟩:=dC.1 d;exact⟨q,o,hq,ho,e1,_,c,by rw[hx,hG _ _ hx]⟩
  ·rintro⟨q,o,hq,ho,e1,hd,c,hg⟩;rcases h.get hq ho with ⟨e2,_⟩|⟨s,hs,_,e3,e4,e5⟩
   ·rw[c]at e2;cases e2
   ·rw[c]at e5;injection e5 with e5
    subst e5;refine⟨s,dW.2 ⟨hs,by rw[hp,hg];rfl⟩,?_⟩
    have:=hG _ _ hg;simp only at this;rw[←this,e3,←e1]
def Iz(N:Fn):wR N (fun h=>some h.x)=JU N:=by
 unfold wR JU
 congr 1
 funext q
 cases N q.toNat with
 |none=>rfl
 |some D=>
   simp only;unfold Ox;rw[List.map_map,←List.filterMap_eq_map];refine Aq fun o ho=>?_
   have:=(jf o).1 ho;obtain⟨h,hh⟩:=Option.isSome_iff_exists.1 this.2;simp[hh,eX]
def Iy(N:Fn):wR N (fun h=>if 0<h.l then none else some h.x)=oU N (iA N):=by
 unfold wR oU
 congr 1
 funext q
 cases N q.toNat with
 |none=>rfl
 |some D=>
   simp only;unfold si;refine Aq fun o ho=>?_
   unfold due;cases D o.toNat with
   |none=>rfl
   |some h=>simp only[Option.bind_some]
def Rel.list{N:Fn}{R:RF}(h:Rel N R):R.dP.map (fun s=>(s.q,s.x.y))=JU N:=by
 rw[←Iz,←CP h (G:=fun h=>some h.x) (fun hd x e=>by injection e with e;exact e.symm) (fun _=>true) (fun s=>rfl)];rw[List.filter_eq_self.2 (fun _ _=>rfl)]
def Rel.send{N:Fn}{R:RF}(h:Rel N R):(QU R).map (fun s=>(s.q,s.x.y))=oU N (iA N):=by
 rw[←Iy];unfold QU;refine CP h (fun hd x e=>?_) (BS R.now) (fun s=>?_)
 ·split at e
  ·cases e
  ·injection e with e;exact e.symm
 ·unfold BS
  by_cases ht:s.t≤R.now
  ·rw[cN (by simp only;omega)];simpa using ht
  ·rw[cR (by simp only;omega)];simpa using ht
def Gl{α β:Type}{f:α→List β}{m:Nat}(h:∀a,(f a).length≤m):∀l:List α,(l.flatMap f).length≤l.length*m
 | []=>by simp
 |a :: l=>by
   have:=Gl h l;have:=h a;rw[ZX,cX,dG,oQ];omega
def Rel.len{N:Fn}{R:RF}(h:Rel N R):R.dP.length≤16384:=by
 have e:(R.dP.map (fun s=>(s.q,s.x.y))).length=R.dP.length:=by simp
 rw[←e,h.list];unfold JU;refine cZ (Gl (m:=64) (fun q=>?_) _) (by have:=wK N;omega);split
 ·unfold Ox;simp only[dh];exact lg _
 ·simp
def Rel.lsl{N:Fn}{R:RF}(h:Rel N R):R.ls.length≤256:=by rw[h.ls];exact wK N
section
variable {P:Lx → Prop} {R:RF}
def Dm(h:∀s∈R.dP,P s.x)(q o:Int):∀s∈wo q o R.dP,P s.x:=fun s hs=>h s (dW.1 hs).1
def wG(h:∀s∈R.dP,P s.x)(q:Int){a:Lx}(ha:P a):∀s∈(kN R q a).dP,P s.x:=by
 unfold kN;split
 ·exact h
 ·intro s hs;rcases DU.1 hs with rfl|hs
  ·exact ha
  ·exact Dm h _ _ s hs
def Ec(h:∀s∈R.dP,P s.x)(q:Int):∀s∈(xx R q).dP,P s.x:=Dm h q (-1)
def Ej(h:∀s∈R.dP,P s.x)(q:Int)(a:La):∀s∈(Bw R q a).dP,P s.x:=by
 unfold Bw;split
 ·exact Dm h q a.o
 ·exact h
def XF(iv now:Int)(s:It):(yB iv now s).x=s.x:=by unfold yB;split<;>rfl
def Sy(h:∀s∈R.dP,P s.x):∀s∈(MF R).dP,P s.x:=fun s hs=>by
 obtain⟨t,ht,rfl⟩:=dL.1 hs;rw[XF];exact h t ht
def Sw(h:∀s∈R.dP,P s.x):∀s∈QU R,P s.x:=fun s hs=>h s (dW.1 hs).1
def wP(f:RF→Int→RF)(hf:∀R q,(∀s∈R.dP,P s.x)→ ∀s∈(f R q).dP,P s.x):∀(l:List Int) (R:RF),(∀s∈R.dP,P s.x)→ ∀s∈(l.foldl f R).dP,P s.x
 | [],R,h=>h
 |q :: l,R,h=>by
   rw[lL];exact wP f hf l _ (hf R q h)
def Rg(h:∀s∈R.dP,P s.x)(q:Int)(l:List Lx)(hl:∀a∈l,P a):∀s∈(Bo R q l).dP,P s.x:=by
 unfold Bo;have h0:∀s∈(nY R q).dP,P s.x:=Ec h q
 revert h0
 generalize nY R q=R0;clear h
 induction l generalizing R0 with
 |nil=>exact fun h=>h
 |cons a l ih=>
   intro h;rw[lL];exact ih (fun b hb=>hl b (fy _ hb)) _ (wG h q (hl a (by simp)))
def yT(h:∀s∈R.dP,P s.x){a:Lx}(ha:P a)(ex:Int):∀s∈(EW R a ex).dP,P s.x:=by
 unfold EW;refine wP _ (fun R q hR=>?_) _ R h;unfold EU;split
 ·exact wG hR q ha
 ·split
  ·exact Dm hR ex a.y.o
  ·exact hR
end
def wF(R:RF)(q:Int)(a:Lx):(kN R q a).iv=R.iv∧(kN R q a).now=R.now:=by unfold kN;split<;>exact⟨rfl,rfl⟩
def IM(R:RF)(q:Int)(a:La):(Bw R q a).iv=R.iv∧(Bw R q a).now=R.now:=by unfold Bw;split<;>exact⟨rfl,rfl⟩
def JT(f:RF→Int→RF)(hf:∀R q,(f R q).iv=R.iv∧(f R q).now=R.now):∀(l:List Int) (R:RF),(l.foldl f R).iv=R.iv∧(l.foldl f R).now=R.now
 | [],R=>⟨rfl,rfl⟩
 |q :: l,R=>by
   rw[lL];obtain⟨h1,h2⟩:=JT f hf l (f R q);exact⟨h1.trans (hf R q).1,h2.trans (hf R q).2⟩
def Ve(R:RF)(q:Int)(l:List Lx):(Bo R q l).iv=R.iv∧(Bo R q l).now=R.now:=by
 unfold Bo;have h0:(nY R q).iv=R.iv∧(nY R q).now=R.now:=⟨rfl,rfl⟩
 revert h0
 generalize nY R q=R0
 induction l generalizing R0 with
 |nil=>exact fun h=>h
 |cons a l ih=>
   intro h;rw[lL];exact ih _ ⟨(wF R0 q a).1.trans h.1,(wF R0 q a).2.trans h.2⟩
def zy(R:RF)(a:Lx)(ex:Int):(EW R a ex).iv=R.iv∧(EW R a ex).now=R.now:=by
 unfold EW;refine JT _ (fun R q=>?_) _ R;unfold EU;split
 ·exact wF _ _ _
 ·split<;>exact⟨rfl,rfl⟩
end Go.Proofs.YtehimhbgakpenaaGreat.Fd
