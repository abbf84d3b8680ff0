/- Lemmas. -/
import Derived.Deep.DeepCutAuto
import Derived.Test.YtehimhbgakpenaaGreatC
set_option linter.all false
set_option maxRecDepth 100000
set_option maxHeartbeats 16000000
namespace Go.Proofs.YtehimhbgakpenaaGreat
open Go.RowKit Go.Proofs.Tryz
def IE(m j:Nat):((m / 256 ^j:Nat):Int) / 256=((m / 256 ^(j+1):Nat):Int):=by
 rw[show(256:Int)=((256:Nat):Int)from rfl,←yr,Nat.div_div_eq_div_mul,IY]
def zR(m k:Nat)(w:World)(hm:m<18446744073709551616)(hk:k≤8) :
  Calls prog 136 #[.int .u64 m,k] w fun e w'=>
   ∃v,e= .returned v∧w'.ownsRow w 5 1 v k ((fi m k).map iZ)∧cI w w':=by
 have l:(Instr.makeSlice 89 (.int .i64 (k:Int)) (.int .i64 (k:Int))).run prog w=_:=oM jm rfl .i64 .i64 k k (by omega) (by omega) (by omega) w;have a:=OE w (.int .u8 0) k 5 (by simp only[maxLen];omega);have h:=cQ w (.cells (ia (.int .u8 0) k) 5);have f:List.replicate k (.int .u8 0)=(List.replicate k (0:UInt8)++(fi m k).drop k).map iZ:=by
  rw[gG (by rw[eQ];exact cj)];simp[iZ]
 rw[f]at a;clear f;go_in;go_wp2_with fail;clear l;go_loopw [0,6] (fun v0 v6 wr=>∃j i:Nat,j+i=k∧v6= .int .i64 ((i:Int) - 1)∧v0= .int .u64 ((m / 256 ^j:Nat):Int)∧wr.ownsRow w 5 1 (.slice (some ⟨w,0,none⟩) k k) k ((List.replicate i (0:UInt8)++(fi m k).drop i).map iZ)∧cI w wr) (fun _ v6 _=>(intOf v6+1).toNat)
 case atStart=>exact⟨0,k,by omega,rfl,by simp,a,h⟩
 case round=>
  clear a h;obtain⟨j,i,o,rfl,rfl,b,hb⟩:=hrel;rcases i with _|i
  ·go_wp2;go_ret;exact⟨_,rfl,by simpa using b,hb⟩
  ·have hi:((i+1:Nat):Int) - 1=i:=by omega
   rw[hi];have c:=IE m j;have n:m / 256 ^j<18446744073709551616:=oH (Nat.div_le_self _ _) hm;have g:=b.stored i (.int .u8 (((m / 256 ^j:Nat):Int) % 256));have d:Hid (((List.replicate (i+1) (0:UInt8)++(fi m k).drop (i+1)).map iZ).set i (.int .u8 (((m / 256 ^j:Nat):Int) % 256))=(List.replicate i (0:UInt8)++(fi m k).drop i).map iZ):=by
    show _=_
    rw[←ma,tI,←pQ]
    congr 1
    rw[Zx,dI,iJ _ _ (by simp),List.length_replicate,Yx]
    congr 1
    rw[iG (show i< (fi m k).length by rw[eQ];omega),FU,show k - 1 - i=j by omega];rfl
   have cc:=b.cellAt i (by omega);rw[cM (by simp;rw[eQ];omega)]at cc;have ff:=b.frozenAt i;replace c:=φ c;generalize (m / 256 ^j)=q at c n g d ⊢;clear hi;go_wp2;go_roundw
   case rel=>
    refine⟨j+1,i,by omega,rfl,by rw[c.out],?_,hb.setCell (p:=⟨w,i,none⟩) cj _⟩
    rw[←d.out];exact g.1
   case measure=>simp[intOf]
def On:List (Nat× Nat)→cH
 | []=>[]
 |x :: l=>.int .i64 (x.1:Int) :: .int .i64 (x.2:Int) :: On l
def Jw(l:List (Nat× Nat)):(On l).length=l.length*2:=by
 induction l with
 |nil=>rfl
 |cons r l ih=>simp only[On,List.length_cons,ih];omega
def Sr(l:List (Nat× Nat)):∀(k:Nat) (hk:k<l.length),(On l)[2*k]?=some (.int .i64 (l[k].1:Int))∧(On l)[2*k+1]?=some (.int .i64 (l[k].2:Int)):=by
 induction l with
 |nil=>intro k hk;simp at hk
 |cons r l ih=>
   intro k hk;cases k with
   |zero=>exact⟨rfl,rfl⟩
   |succ k=>
     obtain⟨h1,h2⟩:=ih k (by simpa using hk);rw[show 2*(k+1)=2*k+1+1 by omega];exact⟨by simpa[On]using h1,by simpa[On]using h2⟩
def XA{w:World}{A:cG}{l:List (Nat× Nat)}(h:Rd w A (On l))(hn:0<l.length) :
  ∃b off,A=some ⟨b,off,none⟩∧ ∀k (hk:k<l.length),w.cell? ⟨b,off+k*2,none⟩=some (.int .i64 (l[k].1:Int))∧w.cell? ⟨b,off+k*2+1,none⟩=some (.int .i64 (l[k].2:Int)):=by
 obtain⟨b,off,e,hc⟩:=gE h (by rw[Jw];omega);refine⟨b,off,e,fun k hk=>?_⟩
 obtain⟨h1,h2⟩:=Sr l k hk;exact⟨hc _ _ (by rw[gl];exact h1),by rw[iS];exact hc _ _ (by rw[gl];exact h2)⟩
def rS:List (Nat× Nat)→List UInt8
 | []=>[]
 |x :: l=>fi x.1 x.2++rS l
def Gk(a b:List (Nat× Nat)):rS (a++b)=rS a++rS b:=by
 induction a with
 |nil=>rfl
 |cons r a ih=>simp only[List.cons_append,rS,ih,dI]
def LX(l:List (Nat× Nat))(k:Nat)(hk:k<l.length):rS (l.take (k+1))=rS (l.take k)++fi l[k].1 l[k].2:=by
 rw[cT hk,Gk];simp[rS]
def sP(A:cG)(n cap:Nat)(l:List (Nat× Nat))(w:World)(hr:Rd w A (On l))(hn:l.length=n)(F:n≤1000)(j:∀x∈l,x.1<9223372036854775808∧x.2≤8) :
  Calls prog 174 #[.slice A n cap] w fun e w'=>
   ∃v,e= .returned v∧w'.ownsRow w 5 1 v (rS l).length ((rS l).map iZ)∧cI w w':=by
 have S:=(St.start w).read hr;replace j:=φ j;clear hr;replace hn:=φ hn;go_in;go_wp2_with fail;go_loopw [3,4] (fun v3 v4 wr=>∃(k N:Nat),k≤n∧v4= .int .i64 k∧N≤8*k∧wr.ownsRow w 5 1 v3 N ((rS (l.take k)).map iZ)∧St w wr [] [(A,On l)]) (fun v3 v4 _=>n - (intOf v4).toNat)
 case atStart=>exact⟨0,0,by omega,rfl,by omega,cn,S⟩
 case round=>
  clear S;obtain⟨k,N,hk,rfl,hN,a,S⟩:=hrel
  by_cases hkn:k<n
  ·have q:k<l.length:=by have:=hn.out;omega
   obtain⟨b,off,rfl,c⟩:=XA (S.r 0 rfl) (by omega);obtain⟨c0,c1⟩:=c k q;have hx:=j.out l[k] (di q);have f:=LX l k q;clear c;generalize l[k]=x at c0 c1 hx f;obtain⟨m,z⟩:=x;simp only at c0 c1 hx f;obtain⟨hm,hz⟩:=hx;replace f:=φ f;have y:=S.b.size;go_wp2_with fail;have D:m<18446744073709551616:=by omega
   have E:IntKind.u64.wrap (m:Int)=(m:Int):=by rw[ze];omega
   have f1:((fi m z).map iZ).length=z*1:=by simp[eQ]
   have f2:N+z≤maxLen:=by simp only[maxLen];omega
   have f3:(N+z)*1≤140737488355328:=by omega
   obtain⟨e0,e1⟩:w.cell? ⟨b,off+k*2,none⟩=some (.int .i64 (m:Int))∧w.cell? ⟨b,off+k*2+1,none⟩=some (.int .i64 (z:Int)):=by
    obtain⟨ad,s,B⟩:=(S.rd 0 _ rfl).block (by rw[Jw];omega);injection s with s
    subst s;exact⟨(S.b.cell (p:=⟨b,off+k*2,none⟩) B).symm.trans c0,(S.b.cell (p:=⟨b,off+k*2+1,none⟩) B).symm.trans c1⟩
   replace f1:=φ f1;have t:True:=trivial;go_region_held3 (fun w'=>w'.cell? ⟨b,off+k*2,none⟩=some (.int .i64 (m:Int))∧w'.cell? ⟨b,off+k*2+1,none⟩=some (.int .i64 (z:Int))) (first|assumption|go_keep)
    (first
     |(clear t;go_at_call 136;(with_reducible refine(zR m z _ D hz).mono ?_);rintro e w1 ⟨v1,rfl,g,d⟩;obtain⟨A1,k1,rfl,u,_,_⟩:=dN g;have d0:=cW d c0;have d1:=cW d c1)
     | (have o1:=dg (show wr.drew.ownsRow w 5 1 u3 N ((rS (l.take k)).map iZ) from a) d; have s1:=cZ y d.size; refine fJ (o:=⟨some 24,_,_,_,_,_⟩) rfl jm (.tmp 11) (.tmp 23) (by rfl) w (by rfl) o1 (by rfl) f1.out u (ni _) f2 f3 s1 (N + z) ((rS (l.take (k + 1))).map iZ) rfl (by rw [f.out,ez]) ?_; intro v2 w2 i h C _; have bb:=(S.drew.b.trans (d.mono y)).trans h; have d2:=cW bb e0; have d3:=cW bb e1))
   clear g u d h C o1 s1 d0 d1 d2 d3 a c0 c1;replace bb:St w w2 [] [(some ⟨b,off,none⟩,On l)]:=⟨bb,by simp,S.rd⟩
   go_wp2;go_roundw
   case rel=>exact⟨k+1,N+z,by omega,by go_num,by omega,i,bb⟩
   case measure=>simp[intOf];omega
  ·obtain rfl:k=n:=by omega
   rw[dn (by have:=hn.out;omega)]at a;go_wp2;go_ret;exact⟨_,rfl,by have:=a.1;rw[dh,BZ]at this;rw[this];exact a,S.b⟩
def HG(A:cG)(n cap:Nat)(bs:List UInt8)(w:World)(hb:Bs w A bs)(hn:bs.length=n)(hl:n≤1000000000) :
  Calls prog 193 #[.slice A n cap] w fun e w'=>e= .returned (.tuple #[(BQ bs),(IA bs)])∧w=w':=by
 subst hn;go_in;go_wp2;go_loop [4,5,6] (fun v0 v1 a=>∃ (k:Nat) (f s:Int),k ≤ bs.length ∧ 0 ≤ f ∧ f < 255 ∧ 0 ≤ s ∧ s < 255 ∧ a = .int .i64 k ∧ v0 = .int .i64 f ∧ v1 = .int .i64 s ∧
  Hid (f = sm (bs.take k) % 255) ∧ Hid (s = (wt (bs.take k) + ((bs.length:Int) - k) * sm (bs.take k)) % 255)) (fun _ _ i=>bs.length - (intOf i).toNat)
 case atStart=>exact⟨0,0,0,jw _,by omega,by omega,by omega,by omega,rfl,rfl,rfl,by simp[sm,Hid],by simp[sm,wt,Hid]⟩
 case round=>
  obtain⟨k,f,s,hk,j,h,g,c,rfl,rfl,rfl,HF,HS⟩:=hrel
  by_cases hlt:k<bs.length
  ·obtain⟨ad,rfl,hc⟩:=hb.get hlt;have l:=bs[k].toNat_lt;have b5:0≤((bs.length:Int) - k) % 255∧((bs.length:Int) - k) % 255<255:=by omega
   have b6:0≤((bs.length:Int) - k) % 255*(bs[k].toNat:Int)∧((bs.length:Int) - k) % 255*(bs[k].toNat:Int)≤254*255 :=
    ⟨Cb b5.1 (by omega),Cc (by omega) (by omega) (by omega) (by omega)⟩
   go_wp2;go_round
   case rel=>
    refine⟨k+1,_,_,by omega,?_,?_,?_,?_,by go_num,rfl,rfl,?_,?_⟩
    ·omega
    ·omega
    ·omega
    ·omega
    ·rw[HF.out,Dw bs hlt];show _ % 255=_ % 255;omega
    ·rw[HS.out,I8 bs hlt,Dw bs hlt];show _ % 255=_ % 255;generalize sm (bs.take k)=S;generalize wt (bs.take k)=T;generalize (bs[k].toNat:Int)=b;generalize hd:(bs.length:Int) - k=d;have e:(bs.length:Int) - ((k+1:Nat):Int)=d - 1:=by omega
     rw[e,Int.sub_mul,MO,I4,WZ,←I4,I4,I3,WZ,←I3,←I4]
     congr 1;omega
   case measure=>simp[intOf];omega
  ·go_wp2;go_ret2;obtain rfl:k=bs.length:=by omega
   rw[dE]at HF HS;refine⟨YZ HF ?_,rfl⟩
   rw[HS.out,Int.sub_self];simp[IA]
def RQ(s L x y M f p q:Int)(hy:y= -f - x+255*q)(hL:L=M+1 - 255*p):s+L*x+(L+254)*y=(s+x - M*f)+255*(-p*x+(1-p)*(-f-x)+(M+255-255*p)*q):=by
 subst hy hL
 grind
def KE(bs:List UInt8)(k:Nat)(x:Int)(h0:0≤x)(h1:x<255) :
  (((IA (fk bs k)+((bs.length:Int) - k) % 255*x+(((bs.length:Int) - k) % 255+254)*((510 - BQ (fk bs k) - x) % 255)) % 255==0)=true)↔x=jL bs k:=by
 rw[ji];unfold jL;generalize BQ (fk bs k)=f;generalize IA (fk bs k)=s;generalize hd:(bs.length:Int) - k=d;obtain⟨q,hq⟩:∃q,(510 - f - x) % 255= -f - x+255*q:=⟨2 - (510 - f - x) / 255,by omega⟩
 obtain⟨p,hp⟩:∃p,d % 255=(d - 1) % 255+1 - 255*p:=⟨((d - 1) % 255+1 - d % 255) / 255,by omega⟩
 rw[RQ s (d % 255) x _ ((d - 1) % 255) f p q hq hp];generalize (d - 1) % 255*f=z;generalize -p*x+(1 - p)*(-f - x)+((d - 1) % 255+255 - 255*p)*q=u;omega
def NK(bs:List UInt8)(k:Nat):(510 - BQ (fk bs k) - jL bs k) % 255=kR bs k:=by
 unfold kR;omega
def KN(A:cG)(n cap k:Nat)(bs:List UInt8)(w:World)(hb:Bs w A bs)(hn:bs.length=n)(hl:n≤1000000000)(hk:k+2≤n)(at_:Int)(K:at_=k) :
  Calls prog 175 #[.slice A n cap,at_] w fun e w'=>∃v,e= .returned v∧
   w'.ownsRow w 5 1 v n ((kE bs k).map iZ)∧cI w w':=by
 subst hn;subst K;have d:=lQ w 5 1;have o:=kQ w (.cells #[] 5);have B:=hb.below o;go_in;go_wp2_with (at_builtin;refine dK rfl jm (.tmp 11) (.tmp 12) rfl w rfl d (m:=bs.length) rfl (by simp) B (ni _) (by simp only[maxLen];omega) (by omega) o.size bs.length (bs.map iZ) (by omega) (by simp) ?_;intro v1 w1 r j _ _;have u:=o.trans j;obtain⟨g,c1,rfl,l,M,b⟩:=pk r (by omega);have I:=sV b (k:=k) (by omega);have H:=sV b (k:=k+1) (by omega);have F:=b.frozenAt k;have E:=b.frozenAt (k+1));have a:=((b.stored k (.int .u8 0)).1.stored (k+1) (.int .u8 0)).1;have i:=(u.setCell (p:=⟨g,k,none⟩) l (.int .u8 0)).setCell (p:=⟨g,k+1,none⟩) l (.int .u8 0);generalize (w1.setCell ⟨g,k,none⟩ (.int .u8 0)).setCell ⟨g,k+1,none⟩ (.int .u8 0)=w2 at a i ⊢;rw[show((bs.map iZ).set k (.int .u8 0)).set (k+1) (.int .u8 0)=(fk bs k).map iZ from by simp[fk,pQ,iZ]]at a;clear b r u j I H F E d o B;have D:(fk bs k).length=bs.length:=by simp[fk]
 obtain⟨A3,c3,G,C,_,_⟩:=dN a;simp only[dp,fE]at G;obtain⟨rfl,rfl⟩:=G;have SU:=HG _ _ c1 (fk bs k) w2 C D hl;refine SU.mono ?_;rintro e w' ⟨rfl,rfl⟩;have b1:=PW (fk bs k);have b2:=PV (fk bs k);have b3:=zC bs k;have b4:=zB bs k;have hT:Hid (∀x:Int,0≤x→x<255→_):=fun x h0 h1=>KE bs k x h0 h1
 have hY:Hid _:=NK bs k;obtain⟨z0,I⟩:∃z,Cv w2 g k z:=⟨_,sV a (k:=k) (by omega)⟩
 obtain⟨z1,H⟩:∃z,Cv w2 g (k+1) z:=⟨_,sV a (k:=k+1) (by omega)⟩
 have F:=a.frozenAt k;have E:=a.frozenAt (k+1);have b0:(0:Int)≤(bs.length:Int) - k:=by omega
 clear SU D C;have t:Hid (∃v,Value.slice (some ⟨g,0,none⟩) bs.length c1=v∧((w2.setCell ⟨g,k,none⟩ (.int .u8 (jL bs k))).setCell ⟨g,k+1,none⟩ (.int .u8 (kR bs k))).ownsRow w 5 1 v bs.length ((kE bs k).map iZ)∧cI w ((w2.setCell ⟨g,k,none⟩ (.int .u8 (jL bs k))).setCell ⟨g,k+1,none⟩ (.int .u8 (kR bs k)))):=by
  have c:=((a.stored k (.int .u8 (jL bs k))).1.stored (k+1) (.int .u8 (kR bs k))).1;rw [show (((fk bs k).map iZ).set k (.int .u8 (jL bs k))).set (k + 1) (.int .u8 (kR bs k)) = (kE bs k).map iZ from by
   simp [kE,pQ,qt b3.1 (by omega:jL bs k < 256),qt b4.1 (by omega:kR bs k < 256)]] at c
  exact⟨_,rfl,c,(i.setCell (p:=⟨g,k,none⟩) l _).setCell (p:=⟨g,k+1,none⟩) l _⟩
 generalize BQ (fk bs k)=f at *;generalize IA (fk bs k)=s at *;generalize jL bs k=X at *;generalize kR bs k=Y at *;have b5:0≤((bs.length:Int) - k) % 255∧((bs.length:Int) - k) % 255<255:=by omega
 go_wp2_with fail;generalize ((bs.length:Int) - k) % 255=L at *;go_loop [9] (fun v9=>∃x:Nat,v9= .int .i64 x∧(x:Int)≤X) (fun v9=>(X+1 - intOf v9).toNat)
 case atStart=>exact⟨0,rfl,by omega⟩
 case round=>
  obtain⟨x,rfl,hx⟩:=hrel;have y:(x:Int)<255:=by omega
  have b6:0≤L*(x:Int)∧L*(x:Int)≤254*254:=⟨Cb b5.1 (by omega),Cc (by omega) (by omega) (by omega) (by omega)⟩
  have b7:0≤(510 - f - (x:Int)) % 255∧(510 - f - (x:Int)) % 255<255:=by omega
  have b8:0≤(L+254)*((510 - f - (x:Int)) % 255)∧(L+254)*((510 - f - (x:Int)) % 255)≤508*254:=⟨Cb (by omega) b7.1,Cc (by omega) (by omega) b7.1 (by omega)⟩
  have q:=hT.out x (by omega) y
  by_cases hxx:(x:Int)=X
  ·have ht:=q.2 hxx;subst hxx;obtain rfl:=hY.out;clear q hT hY;go_wp2_with fail;obtain⟨v,hv,J⟩:=t.out;subst hv;clear t;go_ret;exact⟨_,rfl,J⟩
  ·have ht:¬_:=fun h=>hxx (q.1 h)
   rw[yt]at ht;clear q;go_wp2;go_round
   case rel=>exact⟨x+1,by go_num,by omega⟩
   case measure=>simp[intOf];omega
def wm(A:cG)(n cap:Nat)(l:List Rc)(w:World)(hr:Rd w A (kM l))(u:∀r∈l,WR w r)(hn:l.length=n)(Q:n≤1000000) :
  Calls prog 138 #[.slice A n cap] w fun e w'=>
   ∃v,e= .returned (.tuple #[v,.int .i64 (mD (l.map nK))])∧w'.ownsRow w 5 1 v (wT (l.map nK)).length ((wT (l.map nK)).map iZ)∧cI w w':=by
 subst hn;obtain⟨E,hE⟩:=ex (mD (l.map nK))
 obtain⟨R,hR⟩:=ex (wT (l.map nK))
 rw[hE,hR];have hF:Hid (mD ((l.drop 0).map nK)=E):=hE;have O:Hid (E=0→R=fZ (l.map nK)):=fun h=>by rw[←hR];unfold wT;rw[hE,cR h]
 have D:Hid (E≠0→R= []):=fun h=>by rw[←hR];unfold wT;rw[hE,cN h]
 clear hE hR;have S:=(St.start w).read hr;replace u:=φ u;clear hr;go_in;go_wp2_with fail;go_loopw [4,5] (fun v4 v9 wr=>∃(k N:Nat),k≤l.length∧v9= .int .i64 k∧N≤65538*k∧wr.ownsRow w 5 1 v4 N ((fZ ((l.take k).map nK)).map iZ)∧Hid (mD ((l.drop k).map nK)=E)∧St w wr [] [(A,kM l)]) (fun v4 v9 _=>l.length - (intOf v9).toNat)
 case atStart=>exact⟨0,0,by omega,rfl,by omega,cn,hF,S⟩
 case round=>
  clear S hF;obtain⟨k,N,hk,rfl,hN,d,x,S⟩:=hrel
  by_cases hkn:k<l.length
  ·obtain⟨b,off,rfl,c0,c1⟩:=DE (S.r 0 rfl) hkn;have a:=CX l k hkn;have f:=yH l k hkn;have G:=u.out l[k] (di hkn);rw[x.out]at a;generalize l[k]=r at c0 c1 a f G;obtain⟨t,B,m,c,bs⟩:=r;obtain⟨rd,hl,J,L⟩:=G;simp only at rd hl J L a c0 c1;rw[hl]at a;change Hid _ at f hl;clear x
   by_cases h1:t<1
   ·rw[cR (.inl h1)]at a;obtain rfl:E=1:=a;obtain rfl:=D.out (by omega);go_wp2;go_ret2;exact⟨_,rfl,cn,S.b⟩
   by_cases h2:255<t
   ·rw[cR (.inr h2)]at a;obtain rfl:E=1:=a;obtain rfl:=D.out (by omega);go_wp2;go_ret2;exact⟨_,rfl,cn,S.b⟩
   rw[cN (by omega)]at a
   by_cases h3:65535<m
   ·rw[cR h3]at a;obtain rfl:E=6:=a;obtain rfl:=D.out (by omega);go_wp2;go_ret2;exact⟨_,rfl,cn,S.b⟩
   rw[cN h3]at a;have P:Hid (mD ((l.drop (k+1)).map nK)=E):=a.symm;clear a;have M:Hid (List.map iZ (fZ ((l.take k).map nK))++ [.int .u8 t,.int .u8 ((m:Int) / 256),.int .u8 ((m:Int) % 256)]++bs.map iZ=List.map iZ (fZ ((l.take (k+1)).map nK))):=by
    show _=_
    rw[f.out,ez,dI]
    congr 1
    simp only[kj,nK,hl.out,ez,gh,nf];have e1:iZ (UInt8.ofNat t.toNat)= .int .u8 t:=qt (by omega) (by omega);have e2:iZ (UInt8.ofNat (m / 256))= .int .u8 ((m:Int) / 256):=by
     rw[←tI,ma];congr 1;omega
    have e3:iZ (UInt8.ofNat m)= .int .u8 ((m:Int) % 256):=by
     rw[←tI,ma]
    rw[e1,e2,e3]
   have z:=cQ wr (.cells #[.int .u8 t,.int .u8 ((m:Int) / 256),.int .u8 ((m:Int) % 256)] 5);have g:=dg d z;have o:=Rd.lit wr #[.int .u8 t,.int .u8 ((m:Int) / 256),.int .u8 ((m:Int) % 256)] 5;rw[Array.toList]at o;have S1:=S.call z;have F:=S1.b.size;have H:=(S.rd 0 _ rfl).block (by rw[qD];omega);have d1:Cv w b (off+k*2+1) (.slice B m c):=by
    obtain⟨ad,C,K⟩:=H;injection C with C
    subst C;exact(S.b.cell (p:=⟨b,off+k*2+1,none⟩) K).symm.trans c1
   clear d f H;go_wp2_with (first
    |(at_builtin;refine dK rfl jm (.tmp 35) (.tmp 48) rfl w rfl g (m:=3) rfl (by simp) o (by simp[Value.oneCell']) (by simp only[maxLen];omega) (by omega) F (N+3) _ (by omega) rfl ?_;intro v3 w3 s i _ _;have j:=S1.b.trans i;have x1:=cW j d1;have I:=rd.below j;replace S:St w w3 [] [(some ⟨b,off,none⟩,kM l)]:=⟨j,by simp,S.rd⟩;clear g o S1 z F i)
    | (at_builtin; refine dK rfl jm (.tmp 50) (.tmp 55) rfl w rfl s (m:=m) rfl (by simp [hl.out]) I (ni _) (by simp only [maxLen]; omega) (by omega) j.size (N + 3 + m) _ (by omega) M ?_; intro v4 w4 q y _ _))
   replace S:St w w4 [] [(some ⟨b,off,none⟩,kM l)]:=⟨j.trans y,by simp,S.rd⟩
   go_roundw
   case rel=>exact⟨k+1,N+3+m,by omega,by go_num,by omega,q,P,S⟩
   case measure=>simp[intOf];omega
  ·obtain rfl:k=l.length:=by omega
   obtain rfl:E=0:=by rw[←x.out,List.drop_length];rfl
   obtain rfl:=O.out rfl;rw[dE]at d;go_wp2;go_ret2;refine⟨_,rfl,?_,S.b⟩
   have:=d.1;rw[dh,BZ]at this;rw[this];exact d
def NX:iF prog 249 248 (.agg #[.int .i64 0,.slice none 0 0]) 2 32:=⟨underlying249,by kernel_rfl,rfl,by omega⟩
structure AQ (W w:World) (T:TypeId) (v:Value) (l:List Rec) (rs:List Rc):Prop where
 own:w.ownsRow W T 2 v rs.length (kM rs)
 recs:∀r∈rs,gK w W 5 r
 says:rs.map nK=l
def AQ.add{W w w1 w2:World}{T:TypeId}{v v':Value}{l:List Rec}{rs:List Rc}(h:AQ W w T v l rs)(hT:5≠T)(hb:cI w w1)(r:Rc)(hr:gK w1 W.heap.size 5 r)
  (ho:w2.ownsRow W.heap.size T 2 v' (rs.length+1) (kM rs++ [.int .i64 r.t,.slice r.A r.n r.c])) (hg:w1.grownBy w2 v.ownBlock) (x:Rec) (hx:nK r=x):AQ W w2 T v' (l++ [x]) (rs++ [r]):=by
 have o1:=dg h.own hb;refine⟨?_,?_,by rw[ez,h.says,←hx];rfl⟩
 ·rw[lO,cX];exact ho
 ·intro q hq;rcases eZ.1 hq with hq|hq
  ·exact((h.recs q hq).below hb).grown o1 hT hg
  ·obtain rfl:=ew.1 hq;exact hr.grown o1 hT hg
def AQ.call{W w w1:World}{T:TypeId}{v:Value}{l:List Rec}{rs:List Rc}(h:AQ W w T v l rs)(hb:cI w w1):AQ W w1 T v l rs:=⟨dg h.own hb,fun r hr=>(h.recs r hr).below hb,h.says⟩
def sQ(o s a:Int)(ov:Bool)(f:List Ad)(pre:List Pf)(A:cG)(n c:Nat)(B:cG)(m d:Nat)(w:World)(hn:f.length=n)(hm:pre.length=m)(hA:Rd w A (jN f))(hB:Rd w B (jU pre))(hu:∀x∈pre,x.1<4294967296)(hv:dS ⟨o,s,a,ov,f,pre⟩) :
  Calls prog 137 #[.agg #[o,s,a,ov,.slice A n c,.slice B m d]] w fun e w'=>
   ∃v,e= .returned v∧w'.ownsRow w 5 1 v (gv ⟨o,s,a,ov,f,pre⟩).length ((gv ⟨o,s,a,ov,f,pre⟩).map iZ)∧cI w w':=by
 obtain⟨w0,U⟩:=ex (w.alloc (.cells #[o,s,a,ov,.slice A n c,.slice B m d] 41))
 have O:Below (w.heap.size) w _:=cQ w (.cells #[o,s,a,ov,.slice A n c,.slice B m d] 41);have S:St w0 w0 [] [(some ⟨w,0,none⟩,[o,s,a,ov,.slice A n c,.slice B m d]),(A,jN f),(B,jU pre)]:=by
  have:=Rd.lit w #[o,s,a,ov,.slice A n c,.slice B m d] 41;rw[U]at this O;exact(((St.start w0).read (hB.below O)).read (hA.below O)).read this
 have W:w0.heap.size=w.heap.size+1:=by rw[←U];simp
 rw[U]at O;obtain⟨⟨aq,ap⟩,⟨ao,am⟩,⟨aw,av⟩,ai,ah,_,T,P⟩:=hv;simp only at aq ap ao am aw av ai ah T P;rw[hn]at ai T;rw[hm]at ah P;change Hid _ at hn hm hu T P W;obtain⟨o',rfl⟩:∃o':Nat,o=o':=⟨o.toNat,by omega⟩
 obtain⟨s',rfl⟩:∃s':Nat,s=s':=⟨s.toNat,by omega⟩
 obtain⟨a',rfl⟩:∃a':Nat,a=a':=⟨a.toNat,by omega⟩
 have c3:=S.rc 0 3 rfl rfl;go_in;go_upto_if 10 with fail;go_cut [3] (fun v3 wx=>v3= .int .i64 (bit ov:Int)∧wx=w0)
 case first=>
  cases ov
  all_goals
   go_wp2;go_meet;exact⟨rfl,rfl⟩
 case rest=>
 obtain⟨rfl,rfl⟩:=hcut;have c0:=S.rc 0 0 rfl rfl;have c1:=S.rc 0 1 rfl rfl;have c2:=S.rc 0 2 rfl rfl;have az:bit ov≤1:=by unfold bit;split<;>omega
 have hF:Hid (rS [(o',2),(s',4),(a',2),(bit ov,1)]=(jA ⟨o',s',a',ov,f,pre⟩).2):=by simp[rS,jA,Hid]
 generalize bit ov=bo at *;go_wp2_with fail;have ac:=cQ wc (.cells #[(o':Int),.int .i64 2,(s':Int),.int .i64 4,(a':Int),.int .i64 2,(bo:Int),.int .i64 1] 77);have F1:=sP (some ⟨wc,0,none⟩) 4 4 [(o',2),(s',4),(a',2),(bo,1)] _ (Rd.lit wc #[(o':Int),.int .i64 2,(s':Int),.int .i64 4,(a':Int),.int .i64 2,(bo:Int),.int .i64 1] 77) rfl (by omega) (by
  intro x hx;simp only[dA,eF,ik]at hx;rcases hx with rfl|rfl|rfl|rfl
  ·exact⟨by simp only;omega,by simp⟩
  ·exact⟨by simp only;omega,by simp⟩
  ·exact⟨by simp only;omega,by simp⟩
  ·exact ⟨by simp only; omega,by simp⟩)
 rw[hF.out]at F1;have aa:=xS ⟨o',s',a',ov,f,pre⟩;rw[aa]at F1;replace aa:=φ aa;(with_reducible refine F1.mono ?_);rintro e w2 ⟨v1,rfl,I,N⟩;obtain⟨A1,k1,rfl,_,_,_⟩:=dN I;replace N:=ac.trans (N.mono ac.size);clear F1 ac hF c0 c1 c2 c3;go_wp2_with fail;have R0:AQ wc (w2.alloc (.cells #[.int .i64 1,.slice A1 9 k1] 248)) 248 (.slice (some ⟨w2,0,none⟩) 1 1) (jA ⟨o',s',a',ov,f,pre⟩ :: (f.take 0).map uU) [⟨1,A1,9,k1,(jA ⟨o',s',a',ov,f,pre⟩).2⟩]:=by
  refine⟨?_,?_,rfl⟩
  ·exact qm w2 #[.int .i64 1,.slice A1 9 k1] 1 N.size (by simp only[maxLen];omega) (by simp)
  ·intro r hr;obtain rfl:=ew.1 hr;have h1:gK w2 wc 5 ⟨1,A1,9,k1,(jA ⟨o',s',a',ov,f,pre⟩).2⟩:=dx I (by simp);exact h1.below (cQ w2 _)
 replace S:St wc (w2.alloc (.cells #[.int .i64 1,.slice A1 9 k1] 248)) [] [(some ⟨w,0,none⟩,[(o':Int),(s':Int),(a':Int),ov,.slice A n c,.slice B m d]),(A,jN f),(B,jU pre)]:=(S.call N).alloc _;clear I U;generalize w2.alloc (.cells #[.int .i64 1,.slice A1 9 k1] 248)=w3 at *;generalize w2.heap.size=g2 at *;clear N;generalize ab:w.heap.size=g at *;replace ab:=φ ab;go_loopw [4,5] (fun v4 v5 wr=>∃(k:Nat) (rs:List Rc),v5= .int .i64 k∧k≤n∧rs.length=k+1∧AQ wc wr 248 v4 (jA ⟨o',s',a',ov,f,pre⟩ :: (f.take k).map uU) rs∧St wc wr [] [(some ⟨g,0,none⟩,[(o':Int),(s':Int),(a':Int),ov,.slice A n c,.slice B m d]),(A,jN f),(B,jU pre)]) (fun _ v5 _=>n - (intOf v5).toNat)
 case atStart=>exact⟨0,_,rfl,by omega,rfl,R0,S⟩
 case round=>
  clear R0 S;obtain⟨k,rs,rfl,hk,h,R,S⟩:=hrel;have c4:=S.rc 0 4 rfl rfl
  by_cases hkn:k<n
  ·have G:k<f.length:=by have:=hn.out;omega
   obtain⟨b,off,rfl,t⟩:=se (S.r 1 rfl) (by omega);obtain⟨x0,x1,x2⟩:=t k G;have u:=GI ⟨o',s',a',ov,f,pre⟩ k G;simp only at u;obtain⟨⟨l0,l3⟩,_,⟨l1,l4⟩,⟨l2,l5⟩,_⟩:=T.out k f[k] hkn (cM G);clear t;generalize f[k]=x at x0 x1 x2 u l0 l1 l2 l3 l4 l5;obtain⟨y0,y1,y2⟩:=x;simp only at x0 x1 x2 u l0 l1 l2 l3 l4 l5;obtain⟨y0,rfl⟩:∃z:Nat,y0=z:=⟨y0.toNat,by omega⟩
   obtain⟨y1,rfl⟩:∃z:Nat,y1=z:=⟨y1.toNat,by omega⟩
   obtain⟨y2,rfl⟩:∃z:Nat,y2=z:=⟨y2.toNat,by omega⟩
   change Hid _ at u h;have C:=S.b.size;go_wp2_with fail;have D:=cQ wr (.cells #[(y0:Int),.int .i64 2,(y1:Int),.int .i64 2,(y2:Int),.int .i64 2] 77);have F2:=sP (some ⟨wr,0,none⟩) 3 3 [(y0,2),(y1,2),(y2,2)] (wr.alloc (.cells #[(y0:Int),.int .i64 2,(y1:Int),.int .i64 2,(y2:Int),.int .i64 2] 77)).drew (Rd.drew (Rd.lit wr #[(y0:Int),.int .i64 2,(y1:Int),.int .i64 2,(y2:Int),.int .i64 2] 77)) rfl (by omega) (by
    intro x hx;simp only[dA,eF,ik]at hx;rcases hx with rfl|rfl|rfl
    ·exact⟨by simp only;omega,by simp⟩
    ·exact⟨by simp only;omega,by simp⟩
    ·exact ⟨by simp only; omega,by simp⟩)
   have Q:rS [(y0,2),(y1,2),(y2,2)]=(uU ((y0:Int),(y1:Int),(y2:Int))).2:=by simp[rS,uU]
   rw[Q,El]at F2;have H:Hid ((2,(uU ((y0:Int),(y1:Int),(y2:Int))).2)=uU ((y0:Int),(y1:Int),(y2:Int))):=rfl;clear Q;generalize (uU ((y0:Int),(y1:Int),(y2:Int))).2=fb at F2 H;replace F2:=φ F2;have f1:rs.length+1≤maxLen:=by simp only[maxLen];have:=h.out;omega
   have f2:(rs.length+1)*32≤140737488355328:=by have:=h.out;omega
   have e4:=S.ZF 0 4 rfl rfl;obtain⟨e0,e1,e2⟩:wc.cell? ⟨b,off+k*3,none⟩=some (.int .i64 (y0:Int))∧wc.cell? ⟨b,off+k*3+1,none⟩=some (.int .i64 (y1:Int))∧wc.cell? ⟨b,off+k*3+2,none⟩=some (.int .i64 (y2:Int)):=by
    obtain⟨ad,J,K⟩:=(S.rd 1 _ rfl).block (by rw[lC];omega);injection J with J
    subst J;exact⟨(S.b.cell (p:=⟨b,off+k*3,none⟩) K).symm.trans x0,(S.b.cell (p:=⟨b,off+k*3+1,none⟩) K).symm.trans x1,(S.b.cell (p:=⟨b,off+k*3+2,none⟩) K).symm.trans x2⟩
   have bW:cI wc (wr.alloc (.cells #[(y0:Int),.int .i64 2,(y1:Int),.int .i64 2,(y2:Int),.int .i64 2] 77)).drew:=(S.b.trans (D.mono C)).drew;have L:True:=trivial;go_region_held3 (fun w'=>w'.cell? ⟨g,4,none⟩=some (.slice (some ⟨b,off,none⟩) n c)∧w'.cell? ⟨b,off+k*3,none⟩=some (.int .i64 (y0:Int))∧w'.cell? ⟨b,off+k*3+1,none⟩=some (.int .i64 (y1:Int))∧w'.cell? ⟨b,off+k*3+2,none⟩=some (.int .i64 (y2:Int))) (first|assumption|go_keep)
    (first
     |(clear L;(with_reducible refine F2.out.mono ?_);rintro e w4 ⟨v4,rfl,l,E⟩;obtain⟨A4,k4,rfl,_,_,_⟩:=dN l;have b4:=bW.trans (E.mono bW.size);have d4:=cW b4 e4;have d0:=cW b4 e0;have d1:=cW b4 e1;have d2:=cW b4 e2)
     | (have b5:=(D.drew.trans (E.mono D.drew.size)).trans ((cQ w4 (.cells #[.int .i64 2,.slice A4 6 k4] 248)).mono (cZ D.drew.size E.size)); have o1:=(R.call b5).own; have s1:=cZ C b5.size; refine fJ (o:=⟨some 59,_,_,_,_,_⟩) rfl NX (.tmp 33) (.tmp 58) (by rfl) wc (by rfl) o1 (m:=1) (by rfl) rfl (Rd.lit w4 #[.int .i64 2,.slice A4 6 k4] 248) (by simp [Value.oneCell']) f1 f2 s1 (rs.length + 1) _ rfl rfl ?_; intro v6 w6 i j y _; have b6:=(S.b.trans (b5.mono C)).trans j; have q4:=cW b6 e4; have q0:=cW b6 e0; have q1:=cW b6 e1; have q2:=cW b6 e2))
   have F:gK (w4.alloc (.cells #[.int .i64 2,.slice A4 6 k4] 248)) wc 5 ⟨2,A4,6,k4,fb⟩:=gK.below (dx l bW.size:gK w4 wc 5 ⟨2,A4,6,k4,fb⟩) (cQ w4 _);have R6:=R.add (by decide) b5 ⟨2,A4,6,k4,fb⟩ F i y _ H.out;rw[←u.out]at R6;replace S:St wc w6 [] _:=⟨b6,by simp,S.rd⟩
   clear R i y F l E b4 b5 b6 o1 s1 j q4 q0 q1 q2 d4 d0 d1 d2 e4 e0 e1 e2 bW F2 D c4 x0 x1 x2;go_wp2;go_roundw
   case rel=>exact⟨k+1,_,by go_num,by omega,by have:=h.out;simp;omega,R6,S⟩
   case measure=>simp[intOf];omega
  ·obtain rfl:k=n:=by omega
   rw[dn (by have:=hn.out;omega)]at R;go_wp2_with fail;replace R:AQ wc wr 248 u4 (jA ⟨o',s',a',ov,f,pre⟩ :: (f.map uU++(pre.take 0).map yC)) rs:=by simpa using R
   clear c4;go_loopw [4,6] (fun v4 v5 wr=>∃(k2:Nat) (rs:List Rc),v5= .int .i64 k2∧k2≤m∧rs.length=k+k2+1∧AQ wc wr 248 v4 (jA ⟨o',s',a',ov,f,pre⟩ :: (f.map uU++(pre.take k2).map yC)) rs∧St wc wr [] [(some ⟨g,0,none⟩,[(o':Int),(s':Int),(a':Int),ov,.slice A k c,.slice B m d]),(A,jN f),(B,jU pre)]) (fun _ v5 _=>m - (intOf v5).toNat)
   case atStart=>exact⟨0,_,rfl,by omega,by omega,R,S⟩
   case round=>
    clear R S h;obtain⟨k2,rs,rfl,aB,h,R,S⟩:=hrel;have c5:=S.rc 0 5 rfl rfl
    by_cases hkn2:k2<m
    ·have G:k2<pre.length:=by have:=hm.out;omega
     obtain⟨b,off,rfl,t⟩:=yz (S.r 2 rfl) (by omega);obtain⟨x0,x1⟩:=t k2 G;have u:=Fy ⟨o',s',a',ov,f,pre⟩ k2 G;simp only at u;have hP:=(P.out k2 pre[k2] hkn2 (cM G)).1;have hU:=hu.out pre[k2] (di G);unfold mR at hP;rw[ie]at hP;obtain⟨l0,l3,_⟩:=hP;clear t;generalize pre[k2]=x at x0 x1 u l0 l3 hU;obtain⟨y0,y1⟩:=x;simp only at x0 x1 u l0 l3 hU;obtain⟨y1,rfl⟩:∃z:Nat,y1=z:=⟨y1.toNat,by omega⟩
     change Hid _ at u h;have C:=S.b.size;go_wp2_with fail;have D:=cQ wr (.cells #[(y0:Int),.int .i64 4,(y1:Int),.int .i64 1] 77);have F2:=sP (some ⟨wr,0,none⟩) 2 2 [(y0,4),(y1,1)] (wr.alloc (.cells #[(y0:Int),.int .i64 4,(y1:Int),.int .i64 1] 77)).drew (Rd.drew (Rd.lit wr #[(y0:Int),.int .i64 4,(y1:Int),.int .i64 1] 77)) rfl (by omega) (by
      intro x hx;simp only[dA,eF,ik]at hx;rcases hx with rfl|rfl
      ·exact⟨by simp only;omega,by simp⟩
      ·exact ⟨by simp only; omega,by simp⟩)
     have Q:rS [(y0,4),(y1,1)]=(yC (y0,(y1:Int))).2:=by simp[rS,yC]
     rw[Q,DO]at F2;have H:Hid ((3,(yC (y0,(y1:Int))).2)=yC (y0,(y1:Int))):=rfl;clear Q;generalize (yC (y0,(y1:Int))).2=fb at F2 H;replace F2:=φ F2;have f1:rs.length+1≤maxLen:=by simp only[maxLen];have:=h.out;omega
     have f2:(rs.length+1)*32≤140737488355328:=by have:=h.out;omega
     have e4:=S.ZF 0 5 rfl rfl;obtain⟨e0,e1⟩:wc.cell? ⟨b,off+k2*2,none⟩=some (.int .u32 (y0:Int))∧wc.cell? ⟨b,off+k2*2+1,none⟩=some (.int .i64 (y1:Int)):=by
      obtain⟨ad,J,K⟩:=(S.rd 2 _ rfl).block (by rw[gn];omega);injection J with J
      subst J;exact⟨(S.b.cell (p:=⟨b,off+k2*2,none⟩) K).symm.trans x0,(S.b.cell (p:=⟨b,off+k2*2+1,none⟩) K).symm.trans x1⟩
     have bW:cI wc (wr.alloc (.cells #[(y0:Int),.int .i64 4,(y1:Int),.int .i64 1] 77)).drew:=(S.b.trans (D.mono C)).drew;have aA:IntKind.i64.wrap (y0:Int)=(y0:Int):=kV _ (by omega);have L:True:=trivial;go_region_held3 (fun w'=>w'.cell? ⟨g,5,none⟩=some (.slice (some ⟨b,off,none⟩) m d)∧w'.cell? ⟨b,off+k2*2,none⟩=some (.int .u32 (y0:Int))∧w'.cell? ⟨b,off+k2*2+1,none⟩=some (.int .i64 (y1:Int))) (first|assumption|go_keep)
      (first
       |(clear L;(with_reducible refine F2.out.mono ?_);rintro e w4 ⟨v4,rfl,l,E⟩;obtain⟨A4,k4,rfl,_,_,_⟩:=dN l;have b4:=bW.trans (E.mono bW.size);have d4:=cW b4 e4;have d0:=cW b4 e0;have d1:=cW b4 e1)
       | (have b5:=(D.drew.trans (E.mono D.drew.size)).trans ((cQ w4 (.cells #[.int .i64 3,.slice A4 5 k4] 248)).mono (cZ D.drew.size E.size)); have o1:=(R.call b5).own; have s1:=cZ C b5.size; refine fJ (o:=⟨some 87,_,_,_,_,_⟩) rfl NX (.tmp 67) (.tmp 86) (by rfl) wc (by rfl) o1 (m:=1) (by rfl) rfl (Rd.lit w4 #[.int .i64 3,.slice A4 5 k4] 248) (by simp [Value.oneCell']) f1 f2 s1 (rs.length + 1) _ rfl rfl ?_; intro v6 w6 i j y _; have b6:=(S.b.trans (b5.mono C)).trans j; have q4:=cW b6 e4; have q0:=cW b6 e0; have q1:=cW b6 e1))
     have F:gK (w4.alloc (.cells #[.int .i64 3,.slice A4 5 k4] 248)) wc 5 ⟨3,A4,5,k4,fb⟩:=gK.below (dx l bW.size:gK w4 wc 5 ⟨3,A4,5,k4,fb⟩) (cQ w4 _);have R6:=R.add (by decide) b5 ⟨3,A4,5,k4,fb⟩ F i y _ H.out;rw[←u.out]at R6;replace S:St wc w6 [] _:=⟨b6,by simp,S.rd⟩
     clear R i y F l E b4 b5 b6 o1 s1 j q4 q0 q1 d4 d0 d1 e4 e0 e1 bW F2 D c5 x0 x1;go_wp2;go_roundw
     case rel=>exact⟨k2+1,_,by go_num,by omega,by have:=h.out;simp;omega,R6,S⟩
     case measure=>simp[intOf];omega
    ·obtain rfl:k2=m:=by omega
     rw[dn (by have:=hm.out;omega)]at R;replace h:=φ h;have C:=S.b.size;have b1:=cQ wr (.cells #[.int .u8 0,.int .u8 0] 5);have b2:=b1.trans ((cQ (wr.alloc (.cells #[.int .u8 0,.int .u8 0] 5)) (.cells #[.int .i64 4,.slice (some ⟨wr,0,none⟩) 2 2] 248)).mono b1.size);have o1:=(R.call b2).own;have s1:=cZ C b2.size;have f1:rs.length+1≤maxLen:=by simp only[maxLen];have:=h.out;omega
     have f2:(rs.length+1)*32≤140737488355328:=by have:=h.out;omega
     have V:=Rd.lit (wr.alloc (.cells #[.int .u8 0,.int .u8 0] 5)) #[.int .i64 4,.slice (some ⟨wr,0,none⟩) 2 2] 248;rw[fD]at V;have F:gK ((wr.alloc (.cells #[.int .u8 0,.int .u8 0] 5)).alloc (.cells #[.int .i64 4,.slice (some ⟨wr,0,none⟩) 2 2] 248)) wc 5 ⟨4,some ⟨wr,0,none⟩,2,2,[0,0]⟩:=by
      have h1:gK (wr.alloc (.cells #[.int .u8 0,.int .u8 0] 5)) wc 5 ⟨4,some ⟨wr,0,none⟩,2,2,[0,0]⟩:=qm wr #[.int .u8 0,.int .u8 0] 2 C (by simp only[maxLen];omega) (by simp);exact h1.below (cQ _ _)
     go_wp2_with (at_builtin;refine dK rfl NX (.tmp 88) (.tmp 91) rfl wc rfl o1 (m:=1) rfl (by simp) V (by simp[Value.oneCell']) f1 f2 s1 (rs.length+1) _ rfl rfl ?_;intro v6 w6 i j y _;have R6:=R.add (by decide) b2 _ F i y _ rfl);have b6:=(S.b.trans (b2.mono C)).trans j;replace R6:AQ wc w6 248 v6 (nT ⟨o',s',a',ov,f,pre⟩) (rs++ [⟨4,some ⟨wr,0,none⟩,2,2,[0,0]⟩]):=R6;have M:(rs++ [(⟨4,some ⟨wr,0,none⟩,2,2,[0,0]⟩:Rc)]).length=k+k2+2:=by have:=h.out;simp;omega
     generalize rs++ [(⟨4,some ⟨wr,0,none⟩,2,2,[0,0]⟩:Rc)]=ae at R6 M;clear i j y F V o1 R b1 b2 f1 f2 s1 S c5;obtain⟨A6,c6,rfl,af,_,_⟩:=dN R6.own;have CE:=wm A6 ae.length c6 ae w6 af (fun r hr=>(R6.recs r hr).ok) rfl (by omega);have ag:=lS ⟨o',s',a',ov,f,pre⟩;simp only[hn.out,hm.out]at ag;have X:(gv ⟨o',s',a',ov,f,pre⟩).length=(gq ⟨o',s',a',ov,f,pre⟩).length:=by rw[tY,lS]
     replace X:=φ X;rw[R6.says,Ab,F7]at CE;replace M:=φ M;(with_reducible refine CE.mono ?_);clear CE R6 af;rintro e w7 ⟨v7,rfl,Z,au⟩;replace b6:=b6.trans (au.mono b6.size);obtain⟨A7,c7,rfl,ak,_,_⟩:=dN Z;have al:Hid (kE (gq ⟨o',s',a',ov,f,pre⟩) ((gq ⟨o',s',a',ov,f,pre⟩).length - 2)=gv ⟨o',s',a',ov,f,pre⟩):=rfl;have SE:=KN A7 (gq ⟨o',s',a',ov,f,pre⟩).length c7 ((gq ⟨o',s',a',ov,f,pre⟩).length - 2) (gq ⟨o',s',a',ov,f,pre⟩) w7 ak rfl (by omega) (by omega);rw[al.out]at SE;have ay:(gq ⟨o',s',a',ov,f,pre⟩).length≤1000000:=by omega
     have ax:2≤(gq ⟨o',s',a',ov,f,pre⟩).length:=by omega
     clear ag;generalize (gq ⟨o',s',a',ov,f,pre⟩).length=q at *;have hq:((q - 2:Nat):Int)=(q:Int) - 2:=by omega
     replace SE:=φ (SE _ hq.symm);clear hq;go_wp2_with fail;(with_reducible refine SE.out.mono ?_);rintro e w8 ⟨v8,rfl,Y,ar⟩;go_wp2;go_ret;have aj:g≤wc:=by have:=W.out;omega
     rw[ab.out];exact⟨_,rfl,by rw[X.out];exact dx Y (cZ aj b6.size),by have x:=O.trans ((b6.trans (ar.mono b6.size)).mono aj);first|exact x|(rw[←ab.out]at x;exact x)⟩
end Go.Proofs.YtehimhbgakpenaaGreat
