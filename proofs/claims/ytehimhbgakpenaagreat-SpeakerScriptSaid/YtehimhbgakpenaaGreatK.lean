/- Lemmas. -/
import Derived.Deep.DrawnRows
import Derived.Deep.CutBlock
import Derived.Lib.BytesEntry
import Derived.Test.YtehimhbgakpenaaGreatI
import Derived.Test.YtehimhbgakpenaaGreatJ
set_option linter.all false
set_option maxRecDepth 100000
set_option maxHeartbeats 16000000
namespace Go.Proofs.YtehimhbgakpenaaGreat
open Go.RowKit Go.Sort Go.Proofs.Tryz
def Zf(a:Nat)(ha:a<4294967296):bits .and .u32 (a:Int) 1=((a % 2:Nat):Int):=by
 show IntKind.u32.wrap ((BitVec.ofInt 32 (a:Int)&&&BitVec.ofInt 32 1).toNat:Int)=_
 have e:(BitVec.ofInt 32 (a:Int)&&&BitVec.ofInt 32 1).toNat=a % 2:=by
  rw[BitVec.toNat_and,Qs a 32 (by omega),show(BitVec.ofInt 32 1).toNat=2 ^1 - 1 from rfl,MA]
 rw[e,QY];omega
def Tf(x j:Nat):x % 2 ^(j+1)=x % 2 ^j+2 ^j*(x / 2 ^j % 2):=by rw[IY,Nat.mod_mul]
def Fi(x:Nat)(l:Int)(hx:x<4294967296)(w:World):Calls prog 87 #[.agg #[.int .u32 x,l]] w fun e w'=>e= .returned (.bool (mR x l))∧cI w w':=by
 have c:=cQ w (.cells #[.int .u32 x,l] 181);have d:=fq.new w #[.int .u32 x,l] 181;have c0:=d.b2;clear d
 by_cases h1:l<0
 ·have e:mR x l=false:=by unfold mR;simp;omega
  rw[e];clear e;go_in;go_wp2;go_ret;exact⟨rfl,c⟩
 by_cases h2:32<l
 ·have e:mR x l=false:=by unfold mR;simp;omega
  rw[e];clear e;go_in;go_wp2;go_ret;exact⟨rfl,c⟩
 obtain⟨l,rfl⟩:∃j:Nat,l=j:=⟨l.toNat,by omega⟩
 have e:mR x l=decide (x % 2 ^(32 - l)=0):=by
  unfold mR;rw[cU,ga,ie,ie];omega
 rw[e];clear e;obtain⟨r,hr⟩:=ex (decide (x % 2 ^(32 - l)=0))
 rw[hr];replace hr:=φ hr;go_in;go_wp2_with fail;go_loop [3] (fun v3=>∃i:Nat,l≤i∧i≤32∧v3= .int .i64 i∧Hid (x % 2 ^(32 - l)=x % 2 ^(32 - i))) (fun v3=>32 - (intOf v3).toNat)
 case atStart=>exact⟨l,by omega,by omega,rfl,rfl⟩
 case round=>
  obtain⟨i,o,n,rfl,hm⟩:=hrel
  by_cases hi:i<32
  ·obtain⟨j,hj⟩:∃j,i+j=31:=⟨31 - i,by omega⟩
   have m:(31:Int) - (i:Int)=(j:Int):=by omega
   have hb:=Tf x j;have hd:((x:Int) / 2 ^j)=((x / 2 ^j:Nat):Int):=by
    rw[yr,QN];rfl
   have g:x / 2 ^j<4294967296:=oH (Nat.div_le_self _ _) hx;have ha:=Zf (x / 2 ^j) g;rw[←hd]at ha;have a:=hm.out;rw[show 32 - i=j+1 by omega,hb]at a;have k:0<2 ^j:=Zv (by omega);have h:j<32:=by omega
   by_cases hbit:x / 2 ^j % 2=1
   ·rw[hbit]at a ha;obtain rfl:r=false:=by
     rw[←hr.out,a];simp
    clear hb hd hm a hbit hj;go_wp2;go_ret;exact⟨rfl,c⟩
   ·have b:x / 2 ^j % 2=0:=by omega
    rw[b]at a ha;have f:Hid (x % 2 ^(32 - l)=x % 2 ^(32 - (i+1))):=by
     show _=_
     rw[a,show 32 - (i+1)=j by omega];omega
    clear hb hd hm a hbit b;go_wp2;go_round
    case rel=>exact⟨i+1,by omega,by omega,by go_num,f⟩
    case measure=>simp[intOf];omega
  ·obtain rfl:i=32:=by omega
   obtain rfl:r=true:=by
    rw[←hr.out,hm.out];simp[Nat.mod_one]
   go_wp2;go_ret;exact⟨rfl,c⟩
def yZ{x l y m:Int}:qi x l y m<0↔(x<y∨x=y∧l<m):=by
 unfold qi Xa kU
 repeat' split
 all_goals omega
def vk(o s a:Int)(ov:Bool)(g:List Ad)(pre:List Pf)(A:cG)(n c:Nat)(B:cG)(m d:Nat)(w:World)(hn:g.length=n)(hm:pre.length=m)(W:n≤9223372036854775807)(X:m≤9223372036854775807)(hA:Rd w A (jN g))(hB:Rd w B (jU pre))(hu:∀x∈pre,x.1<4294967296) :
  Calls prog 51 #[ig o s a ov A n c B m d] w fun e w'=>e= .returned (.bool (vB ⟨o,s,a,ov,g,pre⟩))∧cI w w':=by
 obtain⟨R,hR⟩:=ex (vB ⟨o,s,a,ov,g,pre⟩)
 rw[hR];replace hR:=φ hR;have S:=fq.new w #[o,s,a,ov,.slice A n c,.slice B m d] 41;obtain⟨c0,c1,c2,c3,c4,c5⟩:=S.b6;clear S;replace hu:=φ hu;have S0:St w (w.alloc (Wf o s a ov A n c B m d)) [(w,[o,s,a,ov,.slice A n c,.slice B m d])] [(A,jN g),(B,jU pre)]:=((((St.start w).read hB).read hA).new #[o,s,a,ov,.slice A n c,.slice B m d] 41)
 clear hA hB;go_in;go_wp2_with fail
 all_goals first
  |(go_ret;exact⟨fg ((uZ (fun h=>by obtain⟨h1,h2,h3,h4,h5,_⟩:=h;simp only at h1 h2 h3 h4 h5;omega)).symm.trans hR),cQ w _⟩)
  |skip
 have q0:¬o<0:=by omega
 have q1:¬63<o:=by omega
 have q2:¬s<1:=by omega
 have q3:¬1073741824<s:=by omega
 have q4:¬a<0:=by omega
 have q5:¬3600<a:=by omega
 have q6:¬256<n:=by omega
 have q7:¬64<m:=by omega
 have hL:Hid (∀b,(b=true→(mz o g n∧mY pre m)∧(a=3600→ov=false∧n=0∧m=0))→(b=false→ ¬((mz o g n∧mY pre m)∧(a=3600→ov=false∧n=0∧m=0)))→b=R):=by
  intro b h1 h2;cases b with
  |true=>
    obtain⟨⟨g1,g2⟩,g3⟩:=h1 rfl;exact(nA ⟨⟨by simp only;omega,by simp only;omega⟩,⟨by simp only;omega,by simp only;omega⟩,⟨by simp only;omega,by simp only;omega⟩,by simp only;omega,by simp only;omega,fun e=>⟨(g3 e).1,dy (by have:=(g3 e).2.1;simp only;omega),dy (by have:=(g3 e).2.2;simp only;omega)⟩,by simp only;rw[hn];exact g1,by simp only;rw[hm];exact g2⟩).symm.trans hR
  | false=>exact (uZ (fun h=>h2 rfl (by
    obtain⟨_,_,_,_,_,e3,e1,e2⟩:=h;simp only[hn,hm]at e1 e2;refine⟨⟨e1,e2⟩,fun e=>?_⟩
    obtain⟨f1,f2,f3⟩:=e3 e;simp only at f1 f2 f3;subst f2 f3;exact ⟨f1,hn.symm,hm.symm⟩))).symm.trans hR
 clear q0 q1 q2 q3 q4 q5 q6 q7;change Hid _ at hn hm;generalize w.alloc (.cells #[o,s,a,ov,.slice A n c,.slice B m d] 41)=w1 at *;clear c0 c1 c2 c3 c4 c5;go_loopw [3] (fun v3 wr=>∃k:Nat,v3= .int .i64 k∧k≤n∧Hid (mz o g k)∧St w wr [(w,[o,s,a,ov,.slice A n c,.slice B m d])] [(A,jN g),(B,jU pre)]) (fun v3 _=>n - (intOf v3).toNat)
 case atStart=>exact⟨0,rfl,by omega,fun k x hk=>absurd hk (by omega),S0⟩
 case round=>
  obtain⟨k,rfl,hk,p,S⟩:=hrel;clear S0
  by_cases hkn:k<n
  ·obtain⟨b,off,rfl,f⟩:=se (S.r 0 rfl) (by have:=hn.out;omega);have c4:=S.c 0 4 rfl rfl;have M:k<g.length:=by have:=hn.out;omega
   obtain⟨x0,x1,x2⟩:=f k M;obtain⟨x,hx⟩:=ex (g[k]'M)
   rw[hx]at x0 x1 x2;have t:g[k]?=some x:=by rw[cM M,hx]
   have l:Hid (¬((0≤x.2.1∧x.2.1≤255)∧x.1≠o∧(0≤x.1∧x.1≤63)∧(1≤x.2.2∧x.2.2≤65535)∧(∀y,0<k→g[k - 1]?=some y→y.2.1<x.2.1))→false=R):=fun h=>hL false (fun e=>by cases e) (fun _ e=>h (e.1.1 k x hkn t))
   have E:Hid ((0≤x.2.1∧x.2.1≤255)∧x.1≠o∧(0≤x.1∧x.1≤63)∧(1≤x.2.2∧x.2.2≤65535)∧(∀y,0<k→g[k - 1]?=some y→y.2.1<x.2.1)→mz o g (k+1)):=fun h=>p.out.snoc t h.1 h.2.1 h.2.2.1 h.2.2.2.1 h.2.2.2.2
   clear p;change Hid _ at hx t f;go_wp2_with fail;have S2:=S.new #[x.1,x.2.1,x.2.2] 169;have u:=cQ wr (.cells #[x.1,x.2.1,x.2.2] 169);clear c4 x0 x1 x2;generalize wr.alloc (.cells #[x.1,x.2.1,x.2.2] 169)=w2 at *;generalize T:wr.heap.size=g2 at S2 ⊢;obtain⟨d0,d1,d2⟩:=(S2.box 0 rfl).b3;have c4:=S2.c 1 4 rfl rfl;have c0:=S2.c 1 0 rfl rfl
   by_cases p0:x.2.1<0
   ·have e0:decide (x.2.1<0)=true:=by simpa using p0
    replace p0:=φ p0;go_quiet (fail);go_wp2;go_ret;exact⟨fg (l (fun h=>by have p0:=p0.out;have:=h.1;omega)),below_drewN S2.b nq⟩
   have e0:decide (x.2.1<0)=false:=by simpa using p0
   by_cases p1:255<x.2.1
   ·have e1:decide (255<x.2.1)=true:=by simpa using p1
    replace p1:=φ p1;go_quiet (fail);go_wp2;go_ret;exact⟨fg (l (fun h=>by have p1:=p1.out;have:=h.1;omega)),below_drewN S2.b nq⟩
   have e1:decide (255<x.2.1)=false:=by simpa using p1
   by_cases p2:x.1<0
   ·have e2:decide (x.1<0)=true:=by simpa using p2
    replace p2:=φ p2;go_quiet (fail);go_wp2;go_ret;exact⟨fg (l (fun h=>by have p2:=p2.out;have:=h.2.2.1;omega)),below_drewN S2.b nq⟩
   have e2:decide (x.1<0)=false:=by simpa using p2
   by_cases p3:63<x.1
   ·have e3:decide (63<x.1)=true:=by simpa using p3
    replace p3:=φ p3;go_quiet (fail);go_wp2;go_ret;exact⟨fg (l (fun h=>by have p3:=p3.out;have:=h.2.2.1;omega)),below_drewN S2.b nq⟩
   have e3:decide (63<x.1)=false:=by simpa using p3
   by_cases p4:x.1=o
   ·have e4:(x.1==o)=true:=by simpa using p4
    replace p4:=φ p4;go_quiet (fail);go_wp2;go_ret;exact⟨fg (l (fun h=>by have p4:=p4.out;exact h.2.1 p4)),below_drewN S2.b nq⟩
   have e4:(x.1==o)=false:=by simpa using p4
   by_cases p5:x.2.2<1
   ·have e5:decide (x.2.2<1)=true:=by simpa using p5
    replace p5:=φ p5;go_quiet (fail);go_wp2;go_ret;exact⟨fg (l (fun h=>by have p5:=p5.out;have:=h.2.2.2.1;omega)),below_drewN S2.b nq⟩
   have e5:decide (x.2.2<1)=false:=by simpa using p5
   by_cases p6:65535<x.2.2
   ·have e6:decide (65535<x.2.2)=true:=by simpa using p6
    replace p6:=φ p6;go_quiet (fail);go_wp2;go_ret;exact⟨fg (l (fun h=>by have p6:=p6.out;have:=h.2.2.2.1;omega)),below_drewN S2.b nq⟩
   have e6:decide (65535<x.2.2)=false:=by simpa using p6
   rcases fF k with D|I
   ·have hd:decide ((0:Int)< (k:Int))=false:=by simp[D]
    have q:∀y,0<k→g[k - 1]?=some y→y.2.1<x.2.1:=fun y h=>absurd h (by omega)
    go_quiet (fail);go_wp2;go_round
    case rel=>exact⟨k+1,by go_num,by omega,E ⟨by omega,p4,by omega,by omega,q⟩,(S2.drewN nq).dX _ (by simp)⟩
    case measure=>simp[intOf];omega
   ·obtain⟨j,hj⟩:∃j,j+1=k:=⟨k - 1,by omega⟩
    have hd:decide ((0:Int)< (k:Int))=true:=by simp;omega
    have hw:IntKind.i64.wrap ((k:Int) - 1)=(j:Int):=by rw[show(k:Int) - 1=(j:Int)by omega,zf];omega
    have Y:j<n:=by omega
    obtain⟨y,hy⟩:∃y,g[j]'(by have:=hn.out;omega)=y:=⟨_,rfl⟩
    have C:g[k - 1]?=some y:=by rw[←hj,uF,cM (by have:=hn.out;omega),hy]
    obtain⟨_,y1,_⟩:=f.out j (by have:=hn.out;omega);rw[hy]at y1;have y1:=cW (show cI wr w2 from u) y1
    by_cases L:y.2.1<x.2.1
    ·have q:∀y,0<k→g[k - 1]?=some y→y.2.1<x.2.1:=fun z _ h=>by rw[C]at h;injection h with h;rw[←h];exact L
     have U:decide (x.2.1≤y.2.1)=false:=by simp;omega
     go_quiet (fail);go_wp2;go_round
     case rel=>exact⟨k+1,by go_num,by omega,E ⟨by omega,p4,by omega,by omega,q⟩,(S2.drewN nq).dX _ (by simp)⟩
     case measure=>simp[intOf];omega
    ·have U:decide (x.2.1≤y.2.1)=true:=by simp;omega
     go_quiet (fail);go_wp2;go_ret;exact⟨fg (l (fun h=>by have:=h.2.2.2.2 y I C;omega)),below_drewN S2.b nq⟩
  ·obtain rfl:k=n:=by omega
   have c4:=S.c 0 4 rfl rfl;go_wp2_with fail;clear c4;go_loopw [5] (fun F wr=>∃i:Nat,F= .int .i64 i∧i≤m∧Hid (mY pre i)∧St w wr [(w,[o,s,a,ov,.slice A k c,.slice B m d])] [(A,jN g),(B,jU pre)]) (fun F _=>m - (intOf F).toNat)
   case atStart=>exact⟨0,rfl,by omega,fun k x hk=>absurd hk (by omega),S⟩
   case round=>
    clear S;obtain⟨i,rfl,hi,K,S⟩:=hrel
    by_cases him:i<m
    ·obtain⟨b,off,rfl,f⟩:=yz (S.r 1 rfl) (by have:=hm.out;omega);have c5:=S.c 0 5 rfl rfl;have O:i<pre.length:=by have:=hm.out;omega
     obtain⟨x0,x1⟩:=f i O;obtain⟨x,hx⟩:=ex (pre[i]'O)
     rw[hx]at x0 x1;have t:pre[i]?=some x:=by rw[cM O,hx]
     have Q:x.1<4294967296:=hu.out x (eu t);have l:Hid (¬(mR x.1 x.2=true∧(∀y,0<i→pre[i - 1]?=some y→qi y.1 y.2 x.1 x.2<0))→false=R):=fun h=>hL false (fun e=>by cases e) (fun _ e=>h (e.1.2 i x him t))
     have E:Hid (mR x.1 x.2=true∧(∀y,0<i→pre[i - 1]?=some y→qi y.1 y.2 x.1 x.2<0)→mY pre (i+1)):=fun h=>K.out.snoc t h.1 h.2
     clear K;change Hid _ at hx t f;go_wp2_with fail;have S2:=S.new #[.int .u32 (x.1:Int),x.2] 181;have u:=cQ wr (.cells #[.int .u32 (x.1:Int),x.2] 181);clear c5 x0 x1;generalize wr.alloc (.cells #[.int .u32 (x.1:Int),x.2] 181)=w2 at *;generalize T:wr.heap.size=g2 at S2 ⊢;have V:=Fi x.1 x.2 Q w2;obtain⟨b1,v⟩:=ex (mR x.1 x.2)
     rw[v]at V;refine V.mono ?_;rintro e w3 ⟨rfl,J⟩;have S3:=S2.call J;clear V;cases b1 with
     |false=>
       go_wp2;go_ret;exact⟨fg (l (fun h=>by rw[v]at h;cases h.1)),S3.b⟩
     |true=>
       replace v:=φ v;go_wp2_with fail;have d0:=(S3.box 0 rfl).b2;have c5:=S3.c 1 5 rfl rfl;rcases fF i with D|I
       ·have hd:decide ((0:Int)< (i:Int))=false:=by simp[D]
        have q:∀y,0<i→pre[i - 1]?=some y→qi y.1 y.2 x.1 x.2<0:=fun y h=>absurd h (by omega)
        replace q:=φ q;go_quiet (fail);go_wp2;go_round
        case rel=>exact⟨i+1,by go_num,by omega,E ⟨v,q⟩,(S3.drewN nq).dX _ (by simp)⟩
        case measure=>simp[intOf];omega
       ·obtain⟨j,hj⟩:∃j,j+1=i:=⟨i - 1,by omega⟩
        have hd:decide ((0:Int)< (i:Int))=true:=by simp;omega
        have hw:IntKind.i64.wrap ((i:Int) - 1)=(j:Int):=by rw[show(i:Int) - 1=(j:Int)by omega,zf];omega
        have Z:j<m:=by omega
        have N:j<pre.length:=by have:=hm.out;omega
        obtain⟨y,hy⟩:=ex (pre[j]'N)
        have C:pre[i - 1]?=some y:=by rw[←hj,uF,cM N,hy]
        obtain⟨y0,y1⟩:=f.out j N;rw[hy]at y0 y1;have y0:=cW (show cI wr w3 from u.trans (J.mono u.size)) y0;have y1:=cW (show cI wr w3 from u.trans (J.mono u.size)) y1;have G:Hid (qi y.1 y.2 x.1 x.2<0→ ∀y,0<i→pre[i - 1]?=some y→qi y.1 y.2 x.1 x.2<0):=fun L z _ h=>by rw[C]at h;injection h with h;rw[←h];exact L
        have H:Hid (¬(qi y.1 y.2 x.1 x.2<0)→false=R):=fun h=>l (fun h2=>h (h2.2 y I C))
        clear hy C J u S2 hj l S
        by_cases p0:x.1<y.1
        ·have q0:decide (x.1<y.1)=true:=by simpa using p0
         go_quiet (fail);go_wp2;go_ret;have h9:¬qi y.1 y.2 x.1 x.2<0:=fun h=>by have:=yZ.1 h;omega
         exact⟨fg (H (by simpa using h9)),below_drewN S3.b nq⟩
        have q0:decide (x.1<y.1)=false:=by simpa using p0
        by_cases p1:x.1=y.1
        ·have q1:((x.1:Int)==(y.1:Int))=true:=by rw[p1];exact rh _
         replace p1:=φ p1
         by_cases p2:x.2≤y.2
         ·have q2:decide (x.2≤y.2)=true:=by simpa using p2
          go_quiet (fail);go_wp2;go_ret;have h9:¬qi y.1 y.2 x.1 x.2<0:=fun h=>by have:=yZ.1 h;have:=p1.out;omega
          exact⟨fg (H (by simpa using h9)),below_drewN S3.b nq⟩
         ·have q2:decide (x.2≤y.2)=false:=by simpa using p2
          go_quiet (fail);go_wp2;go_round
          case rel=>exact⟨i+1,by go_num,by omega,E ⟨v,G (yZ.2 (by have:=p1.out;omega))⟩,(S3.drewN nq).dX _ (by simp)⟩
          case measure=>simp[intOf];omega
        ·have q1:((x.1:Int)==(y.1:Int))=false:=by simp;omega
         go_quiet (fail);go_wp2;go_round
         case rel=>exact⟨i+1,by go_num,by omega,E ⟨v,G (yZ.2 (by omega))⟩,(S3.drewN nq).dX _ (by simp)⟩
         case measure=>simp[intOf];omega
    ·obtain rfl:i=m:=by omega
     obtain⟨-,-,c2,c3,c4,c5⟩:=(S.box 0 rfl).b6;replace p:=φ p;have hF:¬(a=3600→ov=false∧k=0∧i=0)→R=false:=fun h=>(hL false (fun e=>by cases e) (fun _ e=>h e.2)).symm
     have hT:(a=3600→ov=false∧k=0∧i=0)→R=true:=fun h=>(hL true (fun _=>⟨⟨p,K⟩,h⟩) (fun e=>by cases e)).symm
     clear hL
     by_cases p0:a=3600
     ·subst p0;cases ov with
      |true=>
        obtain rfl:R=false:=hF (fun h=>by have:=(h rfl).1;cases this);clear hF hT;go_wp2;go_ret;exact⟨rfl,S.b⟩
      |false=>
        rcases fF k with D|I
        ·subst D;rcases fF i with P|aa
         ·subst P;obtain rfl:R=true:=hT (fun _=>⟨rfl,rfl,rfl⟩);clear hF hT;go_wp2;go_ret;exact⟨rfl,S.b⟩
         ·have P:((i:Int)==0)=false:=by simp;omega
          obtain rfl:R=false:=hF (fun h=>by have:=(h rfl).2.2;omega);clear hF hT;go_wp2;go_ret;exact⟨rfl,S.b⟩
        ·have D:((k:Int)==0)=false:=by simp;omega
         obtain rfl:R=false:=hF (fun h=>by have:=(h rfl).2.1;omega);clear hF hT;go_wp2;go_ret;exact⟨rfl,S.b⟩
     ·obtain rfl:R=true:=hT (fun h=>absurd h p0);clear hF hT;go_wp2;go_ret;exact⟨rfl,S.b⟩
attribute [local go_sem ↓] Go.wp_at_zero Go.wp_at_succ
def dQ{w:World}{base:Nat}{e:TypeId}{size:Nat}{A:cG}{n c:Nat}{xs:cH}(h:w.ownsRow base e size (.slice A n c) n xs):Rd w A xs:=by
 obtain⟨A',c',e,r,_⟩:=dN h;simp only[dp,fE]at e;obtain⟨rfl,rfl⟩:=e;exact r
def Wi(bs:List UInt8):Lib.bytesOf (bs.map fun b=>(b.toNat:Int))=bs:=by
 induction bs with
 |nil=>rfl
 |cons b bs ih=>
   simp only[Lib.bytesOf,gh,jv]at ih ⊢;rw[ih];simp
def yw{P:Program}(w:World)(A:cG)(n c:Nat)(bs:List UInt8)(h:Bs w A bs)(hn:bs.length=n):(Extern.Bytes.bytesOf (.slice A n c)).run P w= .ok ⟨bs.toArray⟩ w:=by
 subst hn;rcases A with _|ad
 ·have:=Rd.tW h;have e:bs= []:=by simpa using this
  subst e;rfl
 ·have hl:=Lib.run_loadBytesX (P:=P) w (bs.map fun b=>(b.toNat:Int)) ad .empty (fun j x hj=>by
   rw[eJ]at hj;obtain⟨b,hb,rfl⟩:=fW.1 hj;obtain⟨a,e,hc⟩:=h (by rw[dh];have:=(dj.1 hb).1;omega);injection e with e
   subst e;exact hc j _ (by rw [eJ,hb]; rfl))
  rw[dh,Wi]at hl;show(Extern.Bytes.loadBytes ad bs.length .empty).run P w=_
  rw[hl]
  congr 1
  apply ByteArray.ext;show(#[]:Array UInt8)++bs.toArray=bs.toArray
  simp
def xD{P:Program}(w:World)(A B:cG)(n c m d:Nat)(xs ys:List UInt8)(hx:Bs w A xs)(hn:xs.length=n)(hy:Bs w B ys)(hm:ys.length=m) :
  (Extern.BytealgCompare.compare #[.slice A n c,.slice B m d]).run P w= .ok (.int .i64 (Lib.compareBytes xs ys)) w:=by
 change Sem.run P (do pure (goInt (Extern.BytealgCompare.cmp (←Extern.Bytes.bytesOf (.slice A n c)) (←Extern.Bytes.bytesOf (.slice B m d))))) w=_;simp only[BF,Sem.run_pure,yw w A n c xs hx hn,yw w B m d ys hy hm,Result.andThen];rw[Lib.cmp_eq];rfl
def Eh(w:World)(A B:cG)(n c m d:Nat)(xs ys:List UInt8)(hx:Bs w A xs)(hn:xs.length=n)(hy:Bs w B ys)(hm:ys.length=m) :
  Calls prog 180 #[.slice A n c,.slice B m d] w fun e w'=>e= .returned (.int .i64 (Lib.compareBytes xs ys))∧w=w':=by
 have R:=xD (P:=prog) w A B n c m d xs ys hx hn hy hm;go_in;go_wp2;rw[run_callFunc_extern func196 (by kernel_rfl) (by kernel_rfl) (by kernel_rfl) (e:=Extern.BytealgCompare.compare) (by kernel_rfl),R];simp only[Result.andThen];rw[Oper.upon_value];go_wp2;go_ret;exact⟨rfl,rfl⟩
def rI{w:World}{base:Nat}{e:TypeId}{size:Nat}{A:cG}{n c:Nat}{xs:cH}(h:w.ownsRow base e size (.slice A n c) n xs):Rd w A xs:=by
 obtain⟨A',c',e,r,_⟩:=dN h;simp only[dp,fE]at e;obtain⟨rfl,rfl⟩:=e;exact r
def oE(x:La):La:={ x with a:=0 }
noncomputable def kO(x y:La):Int :=
 if vB x=true∧vB y=true then
  if x.s=y.s then if (x.a==3600)=(y.a==3600)then Lib.compareBytes (gv (oE x)) (gv (oE y))else if (x.a==3600)=true then 1 else -1
  else kU x.s y.s
 else 0
def rU{x:La}(h:dS x):dS (oE x):=by
 obtain⟨h1,h2,h3,h4,h5,h6,h7,h8⟩:=h;exact⟨h1,h2,⟨by simp[oE],by simp[oE]⟩,h4,h5,fun e=>by simp[oE]at e,h7,h8⟩
def rN(w:World)(v u:Value)(x y:La)(hx:eU w v x)(hy:eU w u y):Calls prog 149 #[v,u] w fun e w'=>e= .returned (.int .i64 (kO x y))∧cI w w':=by
 obtain⟨A,c,B,d,rfl,rA,rB,h1,h2,h3,h4,hu⟩:=hx;obtain⟨A',c',B',d',rfl,q,p,T,N,R,M,G⟩:=hy;unfold maxLen at h2 h4 N M;have S:=((((((St.start w).read p).read q).read rB).read rA).nw #[x.o,x.s,x.a,x.ov,.slice A x.adj.length c,.slice B x.pre.length d] 41 w).nw #[y.o,y.s,y.a,y.ov,.slice A' y.adj.length c',.slice B' y.pre.length d'] 41 (w.heap.size+1);have VX:=fun W (hb:cI w W)=>i7 x.o x.s x.a x.ov x.adj x.pre A _ c B _ d W rfl rfl (rA.below hb) (rB.below hb) hu
 have VY:=fun W (hb:cI w W)=>i7 y.o y.s y.a y.ov y.adj y.pre A' _ c' B' _ d' W rfl rfl (q.below hb) (p.below hb) G
 rw[show(⟨x.o,x.s,x.a,x.ov,x.adj,x.pre⟩:La)=x from rfl]at VX;rw[show(⟨y.o,y.s,y.a,y.ov,y.adj,y.pre⟩:La)=y from rfl]at VY;have EX:=fun W (hb:cI w W)=>pX x.o x.s 0 x.ov x.adj x.pre A _ c B _ d W rfl rfl (rA.below hb) (rB.below hb) hu
 have EY:=fun W (hb:cI w W)=>pX y.o y.s 0 y.ov y.adj y.pre A' _ c' B' _ d' W rfl rfl (q.below hb) (p.below hb) G
 rw[show(⟨x.o,x.s,0,x.ov,x.adj,x.pre⟩:La)=oE x from rfl]at EX;rw[show(⟨y.o,y.s,0,y.ov,y.adj,y.pre⟩:La)=oE y from rfl]at EY;obtain⟨c0,c1,c2,c3,c4,c5⟩:=(S.box 1 rfl).b6;clear rA rB q p;have C:vB x=true→mv (oE x)=gv (oE x):=fun h=>by unfold mv;rw[nA (rU (gH.1 h))];rfl
 have t:vB y=true→mv (oE y)=gv (oE y):=fun h=>by unfold mv;rw[nA (rU (gH.1 h))];rfl
 unfold kO;generalize gv (oE x)=ex at *;generalize gv (oE y)=ey at *;generalize qL (oE x)=V at *;generalize qL (oE y)=U at *;generalize mv (oE x)=lx at *;generalize mv (oE y)=ly at *;generalize L:vB x=bx at *;generalize K:vB y=J at *
 clear L K;generalize x.adj.length=n at *;generalize x.pre.length=m at *;generalize y.adj.length=n' at *;generalize y.pre.length=m' at *;obtain⟨o,s,a,ov,X,pre⟩:=x;obtain⟨o',s',a',Q,P,O⟩:=y;simp only at *;have k:=VX _ S.b;replace k:=φ k;replace VX:=φ VX;replace VY:=φ VY;replace EX:=φ EX;replace EY:=φ EY;replace C:=φ C;replace t:=φ t;clear hu G;cases bx with
 |false=>
   rw[cN (by simp)];go_in;go_wp2_with fail;(with_reducible refine k.out.mono ?_);rintro e w2 ⟨rfl,hb⟩;replace S:=S.call hb;clear c0 k;go_wp2;go_ret;exact⟨rfl,S.b⟩
 |true=>
 obtain⟨r,hr⟩:∃r:Int,(if true=true∧J=true then(if s=s' then(if (a==3600)=(a'==3600)then Lib.compareBytes ex ey else if (a==3600)=true then(1:Int)else -1)else kU s s')else 0)=r:=⟨_,rfl⟩
 rw[hr];replace hr:=φ hr;go_in;go_wp2_with fail;(with_reducible refine k.out.mono ?_);rintro e w2 ⟨rfl,hb⟩;replace S:=S.call hb;clear c0 k hb;obtain⟨d0,d1,d2,d3,d4,d5⟩:=(S.box 0 rfl).b6;have D:=VY.out _ S.b;replace D:=φ D;go_wp2_with fail;(with_reducible refine D.out.mono ?_);rintro e w3 ⟨rfl,hb⟩;replace S:=S.call hb;clear d0 D hb VX VY;cases J with
 |false=>
   obtain rfl:0=r:=by have:=hr.out;rwa[cN (by simp)]at this
   go_wp2;go_ret;exact⟨rfl,S.b⟩
 |true=>
 have i:=hr.out;rw[cR (by simp)]at i;clear hr;have c1:=S.c 1 1 rfl rfl;have d1:=S.c 0 1 rfl rfl
 by_cases hs:s=s'
 rotate_left
 ·rw[cN hs]at i;replace i:=φ i;have e2:(s !=s')=true:=by simpa using hs
  clear hs;go_wp2_with fail;(with_reducible refine(AA _ _ _).mono ?_);rintro e w4 ⟨rfl,rfl⟩;go_wp2;go_ret;exact⟨tR i.out,S.b⟩
 subst hs;rw[cR rfl]at i;obtain⟨pa,I⟩:∃z,(a==3600)=z:=⟨_,rfl⟩
 obtain⟨pb,H⟩:∃z,(a'==3600)=z:=⟨_,rfl⟩
 rw[I,H]at i;have c2:=S.c 1 2 rfl rfl;have d2:=S.c 0 2 rfl rfl
 by_cases hp:pa=pb
 rotate_left
 ·rw[cN hp]at i;cases pa
  all_goals
   cases pb
   all_goals
    first
    |exact absurd rfl hp
    |skip
  ·obtain rfl:-1=r:=by simpa using i
   clear hp i;go_wp2_with fail;go_quiet (fail);go_wp2;go_ret;exact⟨rfl,below_drewN S.b nq⟩
  ·obtain rfl:1=r:=by simpa using i
   clear hp i;go_wp2_with fail;go_quiet (fail);go_wp2;go_ret;exact⟨rfl,below_drewN S.b nq⟩
 subst hp;rw[cR rfl]at i;replace i:=φ i;go_wp2_with fail;go_quiet (fail);replace S:=S.drewN nq;generalize w3.drewN nq=w4 at *;clear I H;obtain rfl:=C.out trivial;obtain rfl:=t.out trivial;clear C t;have c0:=(S.box 1 rfl).b6;have d2:=S.c 0 2 rfl rfl;have f2:=S.f 1 2 rfl rfl;have g2:=S.f 0 2 rfl rfl;have S2:=(S.set 1 2 (.int .i64 0) (g:=w.heap.size) rfl (by simp) cj (by simp) _ rfl).set 0 2 (.int .i64 0) (g:=w.heap.size+1) rfl (by simp) (by omega) (by simp) _ rfl;have F:=EX.out _ S2.b;replace F:=φ F;go_wp2_with fail;(with_reducible refine F.out.mono ?_);rintro e w5 ⟨v5,rfl,j,hb⟩;replace S2:=S2.call hb;clear c0 f2 g2 F hb S;obtain⟨A5,a5,rfl,_,_,_⟩:=dN j;have d0:=(S2.box 0 rfl).b6;have E:=EY.out _ S2.b;replace E:=φ E;go_wp2_with fail;(with_reducible refine E.out.mono ?_);rintro e w6 ⟨v6,rfl,l,hb⟩;replace S2:=S2.call hb;have j:=dg j hb;clear d0 E hb EX EY;obtain⟨A6,a6,rfl,_,_,_⟩:=dN l;have BC:=Eh w6 A5 A6 _ a5 _ a6 lx ly (rI j) rfl (rI l) rfl;replace BC:=φ BC;go_wp2_with fail;(with_reducible refine BC.out.mono ?_);rintro e w7 ⟨rfl,rfl⟩;go_wp2;go_ret;exact⟨tR i.out,S2.b⟩
def F5:∀(a b:List UInt8),Op.bytesLess a b=(Lib.compareBytes a b== -1)
 | [],[]=>rfl
 | [],_ :: _=>rfl
 |_ :: _,[]=>rfl
 |x :: a,y :: b=>by
   unfold Op.bytesLess Lib.compareBytes
   by_cases h1:x<y
   ·simp[h1]
   ·by_cases h2:y<x
    ·have:x≠y:=fun e=>by subst e;exact absurd h2 (QM x)
     simp[h1,h2,this]
    ·have e:x=y:=ZW (IX.1 h2) (IX.1 h1);subst e;simp[F5 a b]
def JY:∀(a b:List UInt8),Lib.compareBytes a b=0↔a=b
 | [],[]=>by simp[Lib.compareBytes]
 | [],_ :: _=>by simp[Lib.compareBytes]
 |_ :: _,[]=>by simp[Lib.compareBytes]
 |x :: a,y :: b=>by
   unfold Lib.compareBytes
   by_cases h1:x<y
   ·have:x≠y:=fun e=>by subst e;exact absurd h1 (QM x)
    simp[h1,this]
   ·by_cases h2:y<x
    ·have:x≠y:=fun e=>by subst e;exact absurd h2 (QM x)
     simp[h1,h2,this]
    ·have e:x=y:=ZW (IX.1 h2) (IX.1 h1);subst e;simp[JY a b]
def Qo:∀(a b:List UInt8),Lib.compareBytes a b= -1∨Lib.compareBytes a b=0∨Lib.compareBytes a b=1
 | [],[]=>by simp[Lib.compareBytes]
 | [],_ :: _=>by simp[Lib.compareBytes]
 |_ :: _,[]=>by simp[Lib.compareBytes]
 |x :: a,y :: b=>by
   unfold Lib.compareBytes;have:=Qo a b;split
   ·simp
   ·split
    ·simp
    ·exact this
def kF(w:World)(v u:Value)(x y:La)(hx:eU w v x)(hy:eU w u y):Calls prog 154 #[v,u] w fun e w'=>e= .returned (.int .i64 (kO x y))∧cI w w':=by
 obtain⟨A,c,B,d,rfl,rA,rB,h1,h2,h3,h4,hu⟩:=hx;obtain⟨A',c',B',d',rfl,l,k,ae,ab,ad,aa,C⟩:=hy;unfold maxLen at h2 h4 ab aa;have S:=((((((St.start w).read k).read l).read rB).read rA).nw #[x.o,x.s,x.a,x.ov,.slice A x.adj.length c,.slice B x.pre.length d] 41 w).nw #[y.o,y.s,y.a,y.ov,.slice A' y.adj.length c',.slice B' y.pre.length d'] 41 (w.heap.size+1);have VX:=fun W (hb:cI w W)=>vk x.o x.s x.a x.ov x.adj x.pre A _ c B _ d W rfl rfl (by omega) (by omega) (rA.below hb) (rB.below hb) hu
 have VY:=fun W (hb:cI w W)=>vk y.o y.s y.a y.ov y.adj y.pre A' _ c' B' _ d' W rfl rfl (by omega) (by omega) (l.below hb) (k.below hb) C
 rw[show(⟨x.o,x.s,x.a,x.ov,x.adj,x.pre⟩:La)=x from rfl]at VX;rw[show(⟨y.o,y.s,y.a,y.ov,y.adj,y.pre⟩:La)=y from rfl]at VY;have EX:=fun(h:dS x) W (hb:cI w W)=>sQ x.o x.s 0 x.ov x.adj x.pre A _ c B _ d W rfl rfl (rA.below hb) (rB.below hb) hu (rU h)
 have EY:=fun(h:dS y) W (hb:cI w W)=>sQ y.o y.s 0 y.ov y.adj y.pre A' _ c' B' _ d' W rfl rfl (l.below hb) (k.below hb) C (rU h)
 rw[show(⟨x.o,x.s,0,x.ov,x.adj,x.pre⟩:La)=oE x from rfl]at EX;rw[show(⟨y.o,y.s,0,y.ov,y.adj,y.pre⟩:La)=oE y from rfl]at EY;obtain⟨c0,c1,c2,c3,c4,c5⟩:=(S.box 1 rfl).b6;clear rA rB l k;have p:vB x=true→vB y=true→(1≤x.s∧x.s≤1073741824)∧1≤y.s∧y.s≤1073741824:=fun h1 h2=>⟨(gH.1 h1).2.1,(gH.1 h2).2.1⟩
 unfold kO;generalize gv (oE x)=lx at *;generalize gv (oE y)=ly at *;generalize Q:vB x=bx at *;generalize O:vB y=H at *
 replace EX:bx=true→_:=fun h=>EX (gH.1 (Q.trans h))
 replace EY:H=true→_:=fun h=>EY (gH.1 (O.trans h))
 clear Q O;generalize x.adj.length=n at *;generalize x.pre.length=m at *;generalize y.adj.length=n' at *;generalize y.pre.length=m' at *;obtain⟨o,s,a,ov,ac,pre⟩:=x;obtain⟨o',s',a',X,U,M⟩:=y;simp only at *;have j:=VX _ S.b;change Hid _ at VX VY p;replace j:=φ j;replace EX:=φ EX;replace EY:=φ EY;clear hu C;cases bx with
 |false=>
   rw[cN (by simp)];go_in;go_wp2_with fail;(with_reducible refine j.out.mono ?_);rintro e w2 ⟨rfl,hb⟩;replace S:=S.call hb;clear c0 j;go_wp2;go_ret;exact⟨rfl,S.b⟩
 |true=>
 obtain⟨r,hr⟩:∃r:Int,(if true=true∧H=true then(if s=s' then(if (a==3600)=(a'==3600)then Lib.compareBytes lx ly else if (a==3600)=true then(1:Int)else -1)else kU s s')else 0)=r:=⟨_,rfl⟩
 rw[hr];replace hr:=φ hr;replace EX:=EX.out rfl;replace EX:=φ EX;go_in;go_wp2_with fail;(with_reducible refine j.out.mono ?_);rintro e w2 ⟨rfl,hb⟩;replace S:=S.call hb;clear c0 j hb;obtain⟨d0,d1,d2,d3,d4,d5⟩:=(S.box 0 rfl).b6;have q:=VY.out _ S.b;replace q:=φ q;go_wp2_with fail;(with_reducible refine q.out.mono ?_);rintro e w3 ⟨rfl,hb⟩;replace S:=S.call hb;clear d0 q hb VX VY;cases H with
 |false=>
   obtain rfl:0=r:=by have:=hr.out;rwa[cN (by simp)]at this
   go_wp2;go_ret;exact⟨rfl,S.b⟩
 |true=>
 have i:=hr.out;rw[cR (by simp)]at i;replace EY:=EY.out (by first|rfl|trivial);replace EY:=φ EY;obtain⟨⟨u1,u2⟩,u3,u4⟩:=p.out (by first|rfl|trivial) (by first|rfl|trivial);clear hr p;have c1:=S.c 1 1 rfl rfl;have d1:=S.c 0 1 rfl rfl
 by_cases hs:s=s'
 rotate_left
 ·rw[cN hs]at i;have Y:Hid (kU (s - s') 0=r):=by
   show _=_
   rw[←i];unfold kU;split<;>split<;>(first|rfl|omega)<;>split<;>(first|rfl|omega)
  clear i;have e2:(s !=s')=true:=by simpa using hs
  clear hs;go_wp2_with fail;(with_reducible refine(Nz _ _).mono ?_);rintro e w4 ⟨rfl,rfl⟩;go_wp2;go_ret;exact⟨tR Y.out,S.b⟩
 subst hs;rw[cR rfl]at i;obtain⟨pa,E⟩:=ex (a==3600)
 obtain⟨pb,D⟩:=ex (a'==3600)
 rw[E,D]at i;have c2:=S.c 1 2 rfl rfl;have d2:=S.c 0 2 rfl rfl
 by_cases hp:pa=pb
 rotate_left
 ·rw[cN hp]at i;cases pa
  all_goals
   cases pb
   all_goals
    first
    |exact absurd rfl hp
    |skip
  ·obtain rfl:-1=r:=by simpa using i
   clear hp i;go_wp2;go_ret;exact⟨rfl,S.b⟩
  ·obtain rfl:1=r:=by simpa using i
   clear hp i;go_wp2;go_ret;exact⟨rfl,S.b⟩
 subst hp;rw[cR rfl]at i;replace i:=φ i;have N:(pa !=pa)=false:=by simp
 have f2:=S.f 1 2 rfl rfl;have g2:=S.f 0 2 rfl rfl;have S2:=(S.s 1 2 i0).s 0 2 i0;have S3:St w ((w3.setCell ⟨w,2,none⟩ i0).setCell ⟨w.heap.size+1,2,none⟩ i0) [(w.heap.size+1,[o',s,i0,X,.slice A' n' c',.slice B' m' d']),(w,[o,s,i0,ov,.slice A n c,.slice B m d])] [(A,jN ac),(B,jU pre),(A',jN U),(B',jU M)]:=S2;clear S2;go_upto_region 10 with fail;generalize (w3.setCell ⟨w,2,none⟩ i0).setCell ⟨w.heap.size+1,2,none⟩ i0=w4 at *;clear f2 g2 S;go_cut [5,6] (fun v5 v6 wx=>v5= .string ⟨lx.toArray⟩∧v6= .string ⟨ly.toArray⟩∧cI w wx)
 case first=>
  have c0:=(S3.box 1 rfl).b6;have d0:=(S3.box 0 rfl).b6;have t:=fun W A4 a4 (h:Bs W A4 lx)=>lI (P:=prog) W (src:=89) (dst:=9) (e:=5) underlying89 underlying5 underlying9 (cap:=a4) h rfl
  have I:=fun W A4 a4 (h:Bs W A4 ly)=>lI (P:=prog) W (src:=89) (dst:=9) (e:=5) underlying89 underlying5 underlying9 (cap:=a4) h rfl
  change Hid _ at t I;have T4:=S3.drew;have K:True:=trivial;have J:True:=trivial;clear S3 i E D N;go_region_law
   (first
    |(clear K;rw[cR (by simp[Region.wanted])];go_simp;(with_reducible refine(EX.out _ T4.b).mono ?_);rintro e w5 ⟨v5,rfl,G,Z⟩;have T5:=T4.call Z;obtain⟨A5,a5,rfl,L,_,_⟩:=dN G;have ah:=t.out _ _ a5 L;have x0:=(T5.box 0 rfl).b6;dsimp only)
    | (clear J; rw [cR (by simp [Region.wanted])]; go_simp; (with_reducible refine (EY.out _ T5.b).mono ?_); rintro e w6 ⟨v6,rfl,F,T⟩; have T6:=T5.call T; obtain ⟨A6,a6,rfl,V,_,_⟩:=dN F; have af:=t.out _ _ a5 (L.below T); have ag:=I.out _ _ a6 V; dsimp only))
  all_goals
   go_wp2;go_meet;exact⟨rfl,rfl,T6.b⟩
 case rest=>
 obtain⟨rfl,rfl,hb⟩:=hcut;clear EX EY E D N S3;have hl:=F5 lx ly;have h0:=JY lx ly;have R:=Qo lx ly;rw[i.out]at hl h0 R;rcases R with rfl|rfl|rfl
 ·have e1:(lx==ly)=false:=by rw[kL];intro e;have:=h0.2 e;omega
  have e2:Op.bytesLess lx ly=true:=by rw[hl];rfl
  clear hl h0 i;go_wp2;go_ret;exact⟨rfl,hb⟩
 ·obtain rfl:=h0.1 rfl;have e2:Op.bytesLess lx lx=false:=by rw[hl];rfl
  clear hl h0 i;go_wp2;go_ret;exact⟨rfl,hb⟩
 ·have e1:(lx==ly)=false:=by rw[kL];intro e;have:=h0.2 e;omega
  have e2:Op.bytesLess lx ly=false:=by rw[hl];rfl
  clear hl h0 i;go_wp2;go_ret;exact⟨rfl,hb⟩
def me(w:World)(v:Value)(x:La)(h:eU w v x):Calls prog 126 #[v] w fun e w'=>e= .returned (.bool (vB x))∧cI w w':=by
 obtain⟨A,c,B,d,rfl,rA,rB,h1,h2,h3,h4,hu⟩:=h;exact i7 x.o x.s x.a x.ov x.adj x.pre A _ c B _ d w rfl rfl rA rB hu
def lN(w:World)(v:Value)(x:La)(h:eU w v x):Calls prog 51 #[v] w fun e w'=>e= .returned (.bool (vB x))∧cI w w':=by
 obtain⟨A,c,B,d,rfl,rA,rB,h1,h2,h3,h4,hu⟩:=h;unfold maxLen at h2 h4;exact vk x.o x.s x.a x.ov x.adj x.pre A _ c B _ d w rfl rfl (by omega) (by omega) rA rB hu
def Kd(w:World)(x:La)(e:Ending)(w':World):Prop :=
 ∃A c,e= .returned (.tuple #[.slice A (mv x).length c,(qL x)])∧w'.ownsRow w 5 1 (.slice A (mv x).length c) (mv x).length ((mv x).map iZ)∧cI w w'
def Wv(w:World)(v:Value)(x:La)(h:eU w v x):Calls prog 124 #[v] w (Kd w x):=by
 obtain⟨A,c,B,d,rfl,rA,rB,h1,h2,h3,h4,hu⟩:=h;refine(pX x.o x.s x.a x.ov x.adj x.pre A _ c B _ d w rfl rfl rA rB hu).mono ?_;rintro e w' ⟨v,he,b,hb⟩;obtain⟨A',c',rfl,_⟩:=dN b;exact⟨A',c',he,b,hb⟩
def GN(w:World)(x:La)(e:Ending)(w':World):Prop :=
 ∃A c,e= .returned (.slice A (gv x).length c)∧w'.ownsRow w 5 1 (.slice A (gv x).length c) (gv x).length ((gv x).map iZ)∧cI w w'
def R8(w:World)(v:Value)(x:La)(h:eU w v x)(hv:dS x):Calls prog 137 #[v] w (GN w x):=by
 obtain⟨A,c,B,d,rfl,rA,rB,h1,h2,h3,h4,hu⟩:=h;refine(sQ x.o x.s x.a x.ov x.adj x.pre A _ c B _ d w rfl rfl rA rB hu hv).mono ?_;rintro e w' ⟨v,he,b,hb⟩;obtain⟨A',c',rfl,_⟩:=dN b;exact⟨A',c',he,b,hb⟩
def eU.ok{w:World}{v:Value}{x:La}(h:eU w v x):∀p∈x.pre,p.1<4294967296:=by
 obtain⟨A,c,B,d,_,_,_,_,_,_,_,hu⟩:=h;exact hu
def eU.form{w:World}{v:Value}{x:La}(h:eU w v x):∃A c B d,v=ig x.o x.s x.a x.ov A x.adj.length c B x.pre.length d:=by
 obtain⟨A,c,B,d,hv,_⟩:=h;exact⟨A,c,B,d,hv⟩
def eU.open{w:World}{v:Value}{x:La}(h:eU w v x):∃A c B d,v=ig x.o x.s x.a x.ov A x.adj.length c B x.pre.length d∧Hid (∀W',cI w W'→eU W' (ig x.o x.s x.a x.ov A x.adj.length c B x.pre.length d) x):=by
 obtain⟨A,c,B,d,hv⟩:=h.form;subst hv;exact⟨A,c,B,d,rfl,fun W' hb=>h.below hb⟩
def fh.open{w:World}{base:Nat}{v:Value}{x:La}(h:fh w base v x):∃A c B d,v=ig x.o x.s x.a x.ov A x.adj.length c B x.pre.length d∧Hid (∀W',cI w W'→eU W' (ig x.o x.s x.a x.ov A x.adj.length c B x.pre.length d) x):=h.at.open
def St.lt{W w:World}{bs:List (Nat× cH)}{rs:List (cG× cH)}(S:St W w bs rs)(i:Nat){g:Nat}{cs:cH}(hi:bs[i]?=some (g,cs))(hn:0<cs.length):g<w:=(S.box i hi).lt hn
def eU.mK{w:World}{o s a:Int}{ov:Bool}{A:cG}{n c:Nat}{B:cG}{m d:Nat}{x:La}(h:eU w (ig o s a ov A n c B m d) x)(o' s' a':Int)(b:Bool) :
  eU w (ig o' s' a' b A n c B m d) ⟨o',s',a',b,x.adj,x.pre⟩:=by
 obtain⟨A9,c9,B9,d9,e9,r1,r2,l1,l2,l3,l4,hu⟩:=h;simp only[ig,eE,eS,dJ,dp,fv]at e9;obtain⟨_,_,_,_,⟨rfl,rfl,rfl⟩,rfl,rfl,rfl⟩:=e9;exact⟨_,_,_,_,rfl,r1,r2,l1,l2,l3,l4,hu⟩
def eU.opened{w:World}{v:Value}{x:La}(h:eU w v x):∃A c B d,v=ig x.o x.s x.a x.ov A x.adj.length c B x.pre.length d∧eU w (ig x.o x.s x.a x.ov A x.adj.length c B x.pre.length d) x:=by
 obtain⟨A,c,B,d,hv⟩:=h.form;subst hv;exact⟨A,c,B,d,rfl,h⟩
def py(f:Nat)(hf:f=105∨f=178)(w:World)(v:Value)(x:La)(h:eU w v x)(k:x.adj.length≤1000000)(j:x.pre.length≤1000000) :
  Calls prog f #[v] w fun e w'=>∃v',e= .returned v'∧fh w' w v' x∧cI w w':=by
 obtain⟨A,c,B,d,rfl,rA,rB,h1,h2,h3,h4,hu⟩:=h;have S:=((((St.start w).read rB).read rA).nw #[x.o,x.s,x.a,x.ov,.slice A x.adj.length c,.slice B x.pre.length d] 41 w).nw #[i0,i0,i0,false,sn,sn] 41 (w.heap.size+1);have C1:=fun W (h:Rd W A (jN x.adj))=>Gv W A _ c x.adj h rfl k
 have C2:=fun W (h:Rd W B (jU x.pre))=>AB W B _ d x.pre h rfl j
 have i:∀W' A' c' B' d',W'.ownsRow w 169 3 (.slice A' x.adj.length c') x.adj.length (jN x.adj)→W'.ownsRow w 181 2 (.slice B' x.pre.length d') x.pre.length (jU x.pre)→fh W' w (ig x.o x.s x.a x.ov A' x.adj.length c' B' x.pre.length d') x:=fun W' A' c' B' d' a b=>⟨A',c',B',d',rfl,a,b,hu⟩
 clear rA rB hu;replace C1:=φ C1;replace C2:=φ C2;replace i:=φ i;generalize x.adj.length=n at *;generalize x.pre.length=m at *;generalize x.ov=ov at *;generalize x.o=o at *;generalize x.s=s at *;generalize x.a=ag at *;obtain⟨a0,a1,a2,a3,a4,a5⟩:=(S.box 1 rfl).b6
 rcases hf with rfl|rfl
 all_goals
  go_in;go_wp2_with fail;refine (C1 _ (S.r 0 rfl)).mono ?_;rintro e w1 ⟨A1,c1,rfl,o1,hb⟩;clear a0;replace S:=S.call hb;clear hb C1;simp only[fD]at o1;have f1:=S.f 1 4 rfl rfl;obtain⟨a0,a1,a2,a3,a4,a5⟩:=(S.box 1 rfl).b6;have S2:=S.s 1 4 (.slice A1 n c1);replace o1:=cV (a:=⟨w,4,none⟩) o1 (by simp only;omega) (.slice A1 n c1);have l:=S2.b.size;have p:=S2.lt 0 rfl (by simp);go_wp2_with fail;generalize w1.setCell ⟨w,4,none⟩ (.slice A1 n c1)=w2 at *;refine (C2 _ (S2.r 1 rfl)).mono ?_;rintro e w3 ⟨B1,d1,rfl,o2,hb⟩;clear a0 f1 C2 S;replace o1:=dg o1 hb;replace S2:=S2.call hb;clear hb;have f2:=S2.f 1 5 rfl rfl;have e0:=(S2.box 0 rfl).f6;have a0:=(S2.box 1 rfl).b6;have b0:=(S2.box 0 rfl).b6;have S9:=(S2.s 1 5 (.slice B1 m d1)).wg o s ag ov (.slice A1 n c1) (.slice B1 m d1) (by omega) (by simp);have o3:=jW (cV (a:=⟨w,5,none⟩) o1 (by simp only;omega) (.slice B1 m d1)) (g:=w.heap.size+1) (by omega) (.int .i64 o) (.int .i64 s) (.int .i64 ag) (.bool ov) (.slice A1 n c1) (.slice B1 m d1);have o4:=jW (cV (a:=⟨w,5,none⟩) o2 (by simp only;omega) (.slice B1 m d1)) (g:=w.heap.size+1) (by omega) (.int .i64 o) (.int .i64 s) (.int .i64 ag) (.bool ov) (.slice A1 n c1) (.slice B1 m d1);have hf:=i.out _ _ _ _ _ (dx o3 (by omega)) (dx o4 (by omega));have hb9:=S9.b;go_wp2;exact dc (v:=ig o s ag ov A1 n c1 B1 m d1) (by simp[results,results105,results178,go_sem,b0]) rfl ⟨_,rfl,hf,hb9⟩
end Go.Proofs.YtehimhbgakpenaaGreat
