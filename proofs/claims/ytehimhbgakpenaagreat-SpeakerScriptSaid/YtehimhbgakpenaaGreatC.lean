/- Lemmas. -/
import Derived.Laws.CopyOwn
import Derived.Test.YtehimhbgakpenaaGreatB
set_option linter.all false
set_option maxRecDepth 100000
set_option maxHeartbeats 16000000
namespace Go.Proofs.YtehimhbgakpenaaGreat
open Go.RowKit
def sm:List UInt8→Int
 | []=>0
 |b :: r=>(b.toNat:Int)+sm r
def wt:List UInt8→Int
 | []=>0
 |b :: r=>(r.length+1:Int)*(b.toNat:Int)+wt r
def KB(a b:List UInt8):sm (a++b)=sm a+sm b:=by
 induction a with
 |nil=>simp[sm]
 |cons x a ih=>simp only[List.cons_append,sm,ih];omega
def Kk(a b:List UInt8):wt (a++b)=wt a+(b.length:Int)*sm a+wt b:=by
 induction a with
 |nil=>simp[sm,wt]
 |cons x a ih=>
   simp only[List.cons_append,sm,wt,ih,cX];have h:((a.length+b.length:Nat):Int)+1=(a.length+1:Int)+(b.length:Int):=by omega
   rw[h,ZB,MO];omega
def Dw(bs:List UInt8){k:Nat}(h:k<bs.length):sm (bs.take (k+1))=sm (bs.take k)+(bs[k].toNat:Int):=by
 rw[cT h,KB];simp[sm]
def I8(bs:List UInt8){k:Nat}(h:k<bs.length):wt (bs.take (k+1))=wt (bs.take k)+sm (bs.take k)+(bs[k].toNat:Int):=by
 rw[cT h,Kk];simp[wt]
def Ri(n:Int):-254≤n.tmod 255∧n.tmod 255≤254:=by
 rcases Int.le_total 0 n with h|h
 ·rw[jG h];omega
 ·have e:n.tmod 255= -((-n).tmod 255):=by rw[Int.neg_tmod,Int.neg_neg]
  rw[e,jG (by omega)];omega
def Na(n:Int):(n.tmod 255+255) % 255=n % 255:=by
 rcases Int.le_total 0 n with h|h
 ·rw[jG h];omega
 ·have e:n.tmod 255= -((-n).tmod 255):=by rw[Int.neg_tmod,Int.neg_neg]
  rw[e,jG (by omega)];omega
def oZ(n:Int)(w:World) :
  Calls Tryz.prog 189 #[n] w fun e w'=>e= .returned (.int .i64 (n % 255))∧w=w':=by
 obtain⟨h1,h2⟩:=Ri n;go_in;go_wp2;go_ret;exact⟨by rw[←Na n];rfl,rfl⟩
def Hf(x y:Int)(A:cG)(n cap:Nat)(bs:List UInt8)(w:World)(hb:Bs w A bs)(hn:bs.length=n)(hl:n≤1000000000) :
  Calls Tryz.prog 188 #[x,y,.slice A n cap] w fun e w'=>
   e= .returned (.tuple #[.int .i64 ((x+sm bs) % 255),.int .i64 ((y+n*x+wt bs) % 255)])∧w=w':=by
 subst hn;go_in;go_wp2_with fail;refine(oZ _ _).mono ?_;rintro e w' ⟨rfl,rfl⟩;go_wp2_with fail;refine(oZ _ _).mono ?_;rintro e w' ⟨rfl,rfl⟩;go_wp2_with fail;go_loop [0,1,16] (fun v0 v1 a=>∃ (k:Nat) (f s:Int),k ≤ bs.length ∧ 0 ≤ f ∧ f < 255 ∧ 0 ≤ s ∧ s < 255 ∧ a = .int .i64 k ∧ v0 = .int .i64 f ∧ v1 = .int .i64 s ∧
  Hid (f = (x + sm (bs.take k)) % 255) ∧ Hid (s = (y + k * x + wt (bs.take k)) % 255)) (fun _ _ i=>bs.length - (intOf i).toNat)
 case atStart=>exact⟨0,x % 255,y % 255,jw _,by omega,by omega,by omega,by omega,rfl,rfl,rfl,by simp[sm,Hid],by simp[wt,Hid]⟩
 case round=>
  obtain⟨k,f,s,hk,g,d,c,b,rfl,rfl,rfl,HF,HS⟩:=hrel
  by_cases hlt:k<bs.length
  ·obtain⟨ad,rfl,hc⟩:=hb.get hlt;have h:=bs[k].toNat_lt;go_wp2;go_round
   case rel=>
    refine⟨k+1,_,_,by omega,?_,?_,?_,?_,by go_num,rfl,rfl,?_,?_⟩
    ·omega
    ·omega
    ·omega
    ·omega
    ·rw[HF.out,Dw bs hlt];show _ % 255=_ % 255;omega
    ·rw[HS.out,HF.out,I8 bs hlt];show _ % 255=_ % 255;have e:((k+1:Nat):Int)*x=k*x+x:=by rw[Int.natCast_add,ZB];simp
     rw[e];omega
   case measure=>simp[intOf];omega
  ·go_wp2;go_ret2;obtain rfl:k=bs.length:=by omega
   rw[dE]at HF HS;exact⟨by rw[←HF.out,←HS.out];rfl,rfl⟩
def YZ{k l:IntKind}{a a' b b':Int}(h1:a=a')(h2:b=b'):Ending.returned (.tuple #[.int k a,.int l b])=Ending.returned (.tuple #[.int k a',.int l b']):=by rw[h1,h2]
def BQ(bs:List UInt8):Int:=sm bs % 255
def IA(bs:List UInt8):Int:=wt bs % 255
def Gw(bs:List UInt8):Bool:=BQ bs==0&&IA bs==0
def PW(bs:List UInt8):0≤BQ bs∧BQ bs<255:=by unfold BQ;omega
def PV(bs:List UInt8):0≤IA bs∧IA bs<255:=by unfold IA;omega
def Jf(A:cG)(n cap:Nat)(bs:List UInt8)(w:World)(hb:Bs w A bs)(hn:bs.length=n)(hl:n≤1000000000) :
  Calls Tryz.prog 159 #[.slice A n cap] w fun e w'=>e= .returned (.tuple #[(BQ bs),(IA bs)])∧w=w':=by
 subst hn;go_in;go_wp2_with fail;refine(Hf _ _ A _ cap bs _ hb rfl hl).mono ?_;rintro e w' ⟨rfl,rfl⟩;go_wp2;go_ret2;exact⟨by simp[BQ,IA],rfl⟩
def Da(A:cG)(n cap:Nat)(bs:List UInt8)(w:World)(hb:Bs w A bs)(hn:bs.length=n)(hl:n≤1000000000) :
  Calls Tryz.prog 114 #[.slice A n cap] w fun e w'=>e= .returned (.bool (Gw bs))∧w=w':=by
 subst hn;have H:∀b,(BQ bs==0)=b→Calls Tryz.prog 114 #[.slice A bs.length cap] w fun e w'=>e= .returned (.bool (Gw bs))∧w=w':=by
  intro b a;cases b
  all_goals
   go_in;go_wp2_with fail;refine(Jf A _ cap bs _ hb rfl hl).mono ?_;rintro e w' ⟨rfl,rfl⟩;go_wp2;go_ret;exact⟨by simp[Gw,a],rfl⟩
 exact H _ rfl
def fk(bs:List UInt8)(k:Nat):List UInt8:=(bs.set k 0).set (k+1) 0
def jL(bs:List UInt8)(k:Nat):Int:=(((bs.length:Int) - k - 1) % 255*BQ (fk bs k) - IA (fk bs k)) % 255
def kR(bs:List UInt8)(k:Nat):Int:=(-BQ (fk bs k) - jL bs k) % 255
def kE(bs:List UInt8)(k:Nat):List UInt8:=((fk bs k).set k (UInt8.ofNat (jL bs k).toNat)).set (k+1) (UInt8.ofNat (kR bs k).toNat)
def zC(bs:List UInt8)(k:Nat):0≤jL bs k∧jL bs k<255:=by unfold jL;omega
def zB(bs:List UInt8)(k:Nat):0≤kR bs k∧kR bs k<255:=by unfold kR;omega
def NJ(A:cG)(n cap k:Nat)(bs:List UInt8)(w:World)(hb:Bs w A bs)(hn:bs.length=n)(hl:n≤1000000000)(hk:k+2≤n)(at_:Int)(t:at_=k) :
  Calls Tryz.prog 169 #[.slice A n cap,at_] w fun e w'=>∃v,e= .returned (.tuple #[v,.int .i64 0]) ∧
   w'.ownsRow w 5 1 v n ((kE bs k).map iZ)∧cI w w':=by
 subst hn;subst t;have x:¬(k:Int)<0:=by omega
 have u:¬((bs.length:Int) - 2<k):=by omega
 go_in;go_wp2_with fail;refine(C9 A _ cap bs _ hb rfl (by omega)).mono ?_;rintro e w1 ⟨v,rfl,h,i⟩;obtain⟨g,c1,rfl,f,y,b⟩:=pk h (by omega);have q:=sV b (k:=k) (by omega);have o:=sV b (k:=k+1) (by omega);have l:=b.frozenAt k;have j:=b.frozenAt (k+1);go_wp2_with fail;have a:=((b.stored k (.int .u8 0)).1.stored (k+1) (.int .u8 0)).1;have d:=(i.setCell (p:=⟨g,k,none⟩) f (.int .u8 0)).setCell (p:=⟨g,k+1,none⟩) f (.int .u8 0);generalize (w1.setCell ⟨g,k,none⟩ (.int .u8 0)).setCell ⟨g,k+1,none⟩ (.int .u8 0)=w2 at a d ⊢;rw[show((bs.map iZ).set k (.int .u8 0)).set (k+1) (.int .u8 0)=(fk bs k).map iZ from by simp[fk,pQ,iZ]]at a;clear b h i q o l j;have s:(fk bs k).length=bs.length:=by simp[fk]
 obtain⟨A3,c3,m,r,_,_⟩:=dN a;simp only[dp,fE]at m;obtain⟨rfl,rfl⟩:=m;refine(Jf _ _ c1 (fk bs k) _ r s hl).mono ?_;rintro e w' ⟨rfl,rfl⟩;have b1:=PW (fk bs k);have b2:=PV (fk bs k);have b3:=zC bs k;have b4:=zB bs k;have ex:Hid ((((bs.length:Int) - k - 1) % 255*BQ (fk bs k) - IA (fk bs k)) % 255=jL bs k):=rfl;have ey:Hid ((-BQ (fk bs k) - jL bs k) % 255=kR bs k):=rfl;have b5:0≤((bs.length:Int) - k - 1) % 255∧((bs.length:Int) - k - 1) % 255<255:=by omega
 have b6:0≤((bs.length:Int) - k - 1) % 255*BQ (fk bs k)∧((bs.length:Int) - k - 1) % 255*BQ (fk bs k)≤254*254 :=
  ⟨Cb b5.1 b1.1,Cc (by omega) (by omega) b1.1 (by omega)⟩
 have q:=sV a (k:=k) (by omega);have o:=sV a (k:=k+1) (by omega);have l:=a.frozenAt k;have j:=a.frozenAt (k+1);go_wp2_with fail;refine(oZ _ _).mono ?_;rintro e w' ⟨rfl,rfl⟩;go_wp2_with fail;refine(oZ _ _).mono ?_;rintro e w' ⟨rfl,rfl⟩;rw[ex.out];go_wp2_with fail;refine(oZ _ _).mono ?_;rintro e w' ⟨rfl,rfl⟩;rw[ey.out];go_wp2;go_ret2;have c:=((a.stored k (.int .u8 (jL bs k))).1.stored (k+1) (.int .u8 (kR bs k))).1;rw [show (((fk bs k).map iZ).set k (.int .u8 (jL bs k))).set (k + 1) (.int .u8 (kR bs k)) = (kE bs k).map iZ from by
  simp [kE,pQ,qt b3.1 (by omega:jL bs k < 256),qt b4.1 (by omega:kR bs k < 256)]] at c
 exact⟨_,rfl,c,(d.setCell (p:=⟨g,k,none⟩) f _).setCell (p:=⟨g,k+1,none⟩) f _⟩
def bit(b:Bool):Nat:=if b=true then 1 else 0
def jA(x:La):Rec:=(1,fi x.o.toNat 2++fi x.s.toNat 4++fi x.a.toNat 2++fi (bit x.ov) 1)
def uU(x:Ad):Rec:=(2,fi x.1.toNat 2++fi x.2.1.toNat 2++fi x.2.2.toNat 2)
def yC(x:Pf):Rec:=(3,fi x.1 4++fi x.2.toNat 1)
def nT(x:La):List Rec:=jA x :: (x.adj.map uU++x.pre.map yC)++ [(4,[0,0])]
def gq(x:La):List UInt8:=fZ (nT x)
def gv(x:La):List UInt8:=kE (gq x) ((gq x).length - 2)
def xS(x:La):(jA x).2.length=9:=by simp[jA,eQ]
def El(x:Ad):(uU x).2.length=6:=by simp[uU,eQ]
def DO(x:Pf):(yC x).2.length=5:=by simp[yC,eQ]
def Aw(l:List Rec)(h:∀r∈l,1≤r.1∧r.1≤255∧r.2.length≤65535):mD l=0:=by
 induction l with
 |nil=>rfl
 |cons r l ih=>
   have:=h r (by simp);rw[mD,cN (by omega),cN (by omega)];exact ih fun q hq=>h q (by simp[hq])
def CD(x:La):∀r∈nT x,1≤r.1∧r.1≤255∧r.2.length≤65535:=by
 intro r hr;simp only[nT,eZ,dA,dL,eF,ik]at hr;rcases hr with (rfl|⟨y,_,rfl⟩|⟨y,_,rfl⟩)|rfl
 ·rw[xS];simp[jA]
 ·rw[El];simp[uU]
 ·rw[DO];simp[yC]
 ·simp
def Ab(x:La):mD (nT x)=0:=Aw _ (CD x)
def F7(x:La):wT (nT x)=gq x:=by unfold wT;rw[Ab,cR rfl];rfl
def Ax(l:List Rec)(k:Nat)(h:∀r∈l,r.2.length=k):(fZ l).length=l.length*(3+k):=by
 induction l with
 |nil=>simp[fZ]
 |cons r l ih=>
   rw[fZ,cX,qO,h r (by simp),ih fun q hq=>h q (by simp[hq]),dG,oQ];omega
def lS(x:La):(gq x).length=17+x.adj.length*9+x.pre.length*8:=by
 have h1:=Ax (x.adj.map uU) 6 (fun r hr=>by obtain⟨y,_,rfl⟩:=dL.1 hr;exact El y);have h2:=Ax (x.pre.map yC) 5 (fun r hr=>by obtain⟨y,_,rfl⟩:=dL.1 hr;exact DO y);rw[dh]at h1 h2;simp only[gq,nT,List.cons_append,fZ,nt,cX,qO,xS,h1,h2];simp;omega
def tY(x:La):(gv x).length=17+x.adj.length*9+x.pre.length*8:=by
 rw[gv,←lS];simp[kE,fk]
noncomputable def qL(x:La):Int:=if vB x=true then 0 else 1
noncomputable def mv(x:La):List UInt8:=if vB x=true then gv x else []
def GI(x:La)(k:Nat)(h:k<x.adj.length):jA x :: (x.adj.take (k+1)).map uU=(jA x :: (x.adj.take k).map uU)++ [uU x.adj[k]]:=by
 rw[cT h,ez];rfl
def Fy(x:La)(k:Nat)(h:k<x.pre.length):jA x :: (x.adj.map uU++(x.pre.take (k+1)).map yC)=(jA x :: (x.adj.map uU++(x.pre.take k).map yC))++ [yC x.pre[k]]:=by
 rw[cT h,ez,dM,dI];rfl
def Mo(m:Nat)(z:Int):Int:=if z<1∨8<z then 1 else if m<256 ^z.toNat then 0 else 2
def MI(bs:List UInt8)(m:Nat)(z:Int):List UInt8:=if Mo m z=0 then bs++fi m z.toNat else []
def Rh(bs:List UInt8):Int:=if 1≤bs.length∧bs.length≤8 then 0 else 4
def ux(bs:List UInt8):Nat:=if 1≤bs.length∧bs.length≤8 then iW bs else 0
def ofInt_u64(a:Nat)(ha:a<18446744073709551616):(BitVec.ofInt 64 (a:Int)).toNat=a:=by
 rw[BitVec.toNat_ofInt];omega
def u64_or_nat(a b:Nat)(ha:a<18446744073709551616)(hb:b<18446744073709551616):bits .or .u64 (a:Int) (b:Int)=((a|||b:Nat):Int):=by
 have hx:a|||b<2 ^64:=Nat.or_lt_two_pow (by omega) (by omega);show IntKind.u64.wrap ((BitVec.ofInt 64 (a:Int)|||BitVec.ofInt 64 (b:Int)).toNat:Int)=_
 rw[BitVec.toNat_or,ofInt_u64 a ha,ofInt_u64 b hb,ze];omega
def Hg(bs:List UInt8)(k:Nat)(hk:k<bs.length):iW (bs.take (k+1))=iW (bs.take k)*256+bs[k].toNat:=by
 rw[cT hk,zj]
def or8(a b:Nat)(ha:a<72057594037927936)(hb:b<256):bits .or .u64 ((a:Int)*256) (b:Int)=((a*256+b:Nat):Int):=by
 have h:=Nat.two_pow_add_eq_or_of_lt (i:=8) (b:=b) (by omega) a;have e:(a:Int)*256=((2 ^8*a:Nat):Int):=by omega
 rw[e,u64_or_nat _ _ (by omega) (by omega),←h];omega
def zh(A:cG)(n cap:Nat)(bs:List UInt8)(w:World)(hr:Bs w A bs)(hn:bs.length=n)(h:n≤1000000000) :
  Calls Tryz.prog 113 #[.slice A n cap] w fun e w'=>e= .returned (.tuple #[.int .u64 (ux bs),(Rh bs)])∧w=w':=by
 subst hn
 by_cases h1:1≤bs.length∧bs.length≤8
 ·have e1:Rh bs=0:=by unfold Rh;rw[cR h1]
  have e2:ux bs=iW bs:=by unfold ux;rw[cR h1]
  rw[e1,e2];clear e1 e2;obtain⟨h1,h2⟩:=h1;go_in;go_wp2_with fail;go_loop [4,17] (fun v4 c=>∃k:Nat,k≤bs.length∧c= .int .i64 k∧v4= .int .u64 (iW (bs.take k))) (fun _ c=>bs.length - (intOf c).toNat)
  case atStart=>exact⟨0,by omega,rfl,rfl⟩
  case round=>
   obtain⟨k,hk,rfl,rfl⟩:=hrel
   by_cases hkn:k<bs.length
   ·obtain⟨b,off,rfl,hc⟩:=gE hr (by rw[dh];omega);have c0:Cv w b (off+k) (.int .u8 (bs[k].toNat:Int)):=hc k _ (by simp[hkn,iZ]);have ht:=φ (Hg bs k hkn);have d:iW (bs.take k)<72057594037927936:=by
     have:=zl (bs.take k);rw[eM,lK hk]at this;have:=mF (n:=256) (by omega) (show k≤7 by omega);omega
    have f:=jF bs[k];generalize iW (bs.take k)=a at ht d ⊢;generalize (bs[k]).toNat=x at ht c0 f;have g:=or8 a x d f;clear hc;go_wp2;go_round
    case rel=>exact⟨k+1,by omega,by go_num,by rw[ht.out];simp⟩
    case measure=>simp[intOf];omega
   ·obtain rfl:k=bs.length:=by omega
    rw[dE];go_wp2;go_ret2;exact⟨rfl,rfl⟩
 ·have e1:Rh bs=4:=by unfold Rh;rw[cN h1]
  have e2:ux bs=0:=by unfold ux;rw[cN h1]
  rw[e1,e2];clear e1 e2
  by_cases h0:bs.length<1
  ·go_in;go_wp2;go_ret2;exact⟨rfl,rfl⟩
  ·have h8:8<bs.length:=by omega
   go_in;go_wp2;go_ret2;exact⟨rfl,rfl⟩
def yO{P:Program}{w:World}{ops:Array Oper}{rest:List Oper}{o:Oper}{a:Act}{Q:Exit→Act→World→Prop}(j:o.guard=none){t e:TypeId}{z:Value}{bytes:Nat}(hE:iF P t e z 1 bytes)(d s:Operand)
  (ho:o.op= .call { callee:=.builtin .copy,args:=#[d,s],argTypes:=#[t,t] }) (base:Nat) {v:Value} {n:Nat} {xs:cH} (hd:a.eval d=v) (f:w.ownsRow base e 1 v n xs)
  {A:cG} {c:Nat} {src:cH} (hs:a.eval s= .slice A n c) (hr:Rd w A src) (hl:src.length=n) (h1:∀u∈src,u.oneCell'=true) (q:base≤w)
  (h:∀w',w'.ownsRow base e 1 v n src→Below base w w'→wpList P ops Q rest (a.put o.dst (goInt n)) w'):wpList P ops Q (o :: rest) a w:=by
 obtain⟨i,hi,y,k,x⟩:=nu hE.info;have b:(P.info? e).map (·.size)=some 1:=by rw[hi,fp,k]
 rcases f.2 with ⟨rfl,rfl⟩|⟨g,cap,cur,rfl,hg,hh,l,p,C,B⟩
 ·obtain rfl:src= []:=dy hl;exact wpList_copy_nothing j d s t t ho e hE.under b none A 0 0 0 c hd hs rfl (h w cn cy)
 ·refine wpList_copy_splice j d s t t ho e hE.under b _ _ n cap n c hd hs g 0 cur.toList e (by simpa using hh) src (by simp[hl]) (fun hp=>⟨rfl,?_⟩) (by simp;omega) h1 base w cy hg ?_
  ·exact hr hp
  ·intro w' m r;rw[hl];refine h w' ⟨by omega,.inr ⟨g,cap,_,rfl,hg,m,l,p,?_,?_⟩⟩ r
   ·simp[splice];omega
   ·simp[splice,hl]
def Li(w:World)(z:Value)(n c:Nat)(e:TypeId)(hn:n≤c)(hm:c≤maxLen):(w.alloc (.cells (ia z c) e)).ownsRow w e 1 (.slice (some ⟨w,0,none⟩) n c) n (List.replicate n z):=by
 refine⟨by simp,.inr ⟨w,c,ia z c,rfl,cj,ib w _,hn,hm,by simp[ia],?_⟩⟩
 simp[ia,hn,lK]
def AI(A:cG)(n cap:Nat)(bs:List UInt8)(m:Nat)(z:Int)(w:World)(hr:Bs w A bs)(hn:bs.length=n)(B:n≤1000000)(hm:m<18446744073709551616) :
  Calls Tryz.prog 123 #[.slice A n cap,.int .u64 m,z] w fun e w'=>
   ∃v,e= .returned (.tuple #[v,(Mo m z)])∧w'.ownsRow w 5 1 v (MI bs m z).length ((MI bs m z).map iZ)∧cI w w':=by
 by_cases h1:z<1∨8<z
 ·have e1:Mo m z=1:=by unfold Mo;rw[cR h1]
  have e2:MI bs m z= []:=by unfold MI;rw[e1];rfl
  rw[e1,e2];clear e1 e2
  by_cases h2:z<1
  ·clear h1;go_in;go_wp2;go_ret2;exact⟨_,rfl,cn,cy⟩
  ·have h3:8<z:=by omega
   clear h1;go_in;go_wp2;go_ret2;exact⟨_,rfl,cn,cy⟩
 obtain⟨k,rfl⟩:∃k:Nat,z=k:=⟨z.toNat,by omega⟩
 have D:1≤k:=by omega
 have C:k≤8:=by omega
 clear h1;subst hn;have hd:((m:Int) / 2 ^(8*k))=((m / 256 ^k:Nat):Int):=by
  rw[yr,QN,Int.pow_mul];rfl
 by_cases hf:m<256 ^k
 ·have e1:Mo m k=0:=by unfold Mo;rw[cN (by omega),cU,cR hf]
  have e2:MI bs m k=bs++fi m k:=by unfold MI;rw[e1,cR rfl,cU]
  rw[e1,e2];clear e1 e2;have r:((m:Int) / 2 ^(8*k) !=0)=false:=by rw[hd,Nat.div_eq_of_lt hf];rfl
  clear hd hf;have S:=(St.start w).read hr;have x:(Instr.makeSlice 89 (.int .i64 (bs.length:Int)) (.int .i64 ((bs.length:Int)+k))).run Tryz.prog w=_:=oM jm rfl .i64 .i64 bs.length (bs.length+k) (by omega) (by omega) (by omega) w;have a:=Li w (.int .u8 0) bs.length (bs.length+k) 5 (by omega) (by simp only[maxLen];omega);have c:=cQ w (.cells (ia (.int .u8 0) (bs.length+k)) 5);have l:=hr.below c;go_in
  by_cases h8:k<8
  all_goals
   go_wp2_with (refine yO (v:=.slice (some ⟨w,0,none⟩) bs.length (bs.length+k)) (o:=⟨some 34,_,_,_,_,_⟩) rfl jm (.tmp 32) (.tmp 33) rfl w rfl a rfl l (by simp) (ni _) c.size ?_;intro w1 d f);replace f:=c.trans f;clear x l a r;go_loopw [8,9] (fun v8 v9 wr=>∃j i:Nat,j+i=k∧v9= .int .i64 ((i:Int) - 1)∧wr.ownsRow w 5 1 v8 (bs.length+j) ((bs++(fi m k).take j).map iZ)∧cI w wr) (fun _ v9 _=>(intOf v9+1).toNat)
   case atStart=>exact⟨0,k,by omega,rfl,by simpa using d,f⟩
   case round=>
    clear d f;obtain⟨j,i,E,rfl,b,hb⟩:=hrel;rcases i with _|i
    ·obtain rfl:j=k:=by omega
     rw[dn (by rw[eQ];exact cj)]at b;go_wp2;go_ret2;refine⟨_,rfl,?_,hb⟩
     rw[cX,eQ];exact b
    ·have hi:((i+1:Nat):Int) - 1=i:=by omega
     rw[hi];have q:((m:Int) / 2 ^(8*i))=((m / 256 ^i:Nat):Int):=by
      rw[yr,QN,Int.pow_mul];rfl
     have p:k - 1 - j=i:=by omega
     have t:Hid ((bs++(fi m k).take j).map iZ++ [.int .u8 ((m:Int) / 2 ^(8*i) % 256)]=(bs++(fi m k).take (j+1)).map iZ):=by
      show _=_
      rw[Lq m k j (by omega),p,q,←ma,tI];simp
     have a:=b.alloc (.cells #[.int .u8 ((m:Int) / 2 ^(8*i) % 256)] 5);have c:=cQ wr (.cells #[.int .u8 ((m:Int) / 2 ^(8*i) % 256)] 5);have s:=Rd.lit wr #[.int .u8 ((m:Int) / 2 ^(8*i) % 256)] 5;have u:=hb.size;have y:=c.size;clear q hi p b;go_wp2_with (at_builtin;refine dK rfl jm (.tmp 41) (.tmp 47) rfl w rfl a (m:=1) rfl (by simp) s (by simp[Value.oneCell']) (by simp only[maxLen];omega) (by omega) (by omega) (bs.length+(j+1)) ((bs++(fi m k).take (j+1)).map iZ) (by omega) t ?_;intro v3 w3 g h _ _);go_roundw
     case rel=>exact⟨j+1,i,by omega,rfl,g,(hb.trans (c.mono u)).trans h⟩
     case measure=>simp[intOf]
 ·have h8:k<8:=by
   by_cases h8:k<8
   ·exact h8
   ·obtain rfl:k=8:=by omega
    exact absurd hm (by omega)
  have e1:Mo m k=2:=by unfold Mo;rw[cN (by omega),cU,cN hf]
  have e2:MI bs m k= []:=by unfold MI;rw[e1];rfl
  rw[e1,e2];clear e1 e2;have r:((m:Int) / 2 ^(8*k) !=0)=true:=by
   rw[hd];have:=Nat.div_pos (Nat.le_of_not_lt hf) (Zv (n:=k) (show 0<256 by omega));simp only[ZP,ne_eq];omega
  clear hd hf;go_in;go_wp2;go_ret2;exact⟨_,rfl,cn,cy⟩
end Go.Proofs.YtehimhbgakpenaaGreat
namespace Go.Proofs.YtehimhbgakpenaaGreat
def Nx(l:List UInt8)(b:UInt8):∀k (hk:k<l.length),sm (l.set k b)=sm l+((b.toNat:Int) - (l[k].toNat:Int)):=by
 induction l with
 |nil=>intro k hk;simp at hk
 |cons x l ih=>
   intro k hk;cases k with
   |zero=>simp only[List.set_cons_zero,sm,List.getElem_cons_zero];omega
   |succ k=>
     have:=ih k (by simpa using hk);simp only[List.set_cons_succ,sm,List.getElem_cons_succ];omega
def MR(l:List UInt8)(b:UInt8):∀k (hk:k<l.length),wt (l.set k b)=wt l+((l.length:Int) - k)*((b.toNat:Int) - (l[k].toNat:Int)):=by
 induction l with
 |nil=>intro k hk;simp at hk
 |cons x l ih=>
   intro k hk;cases k with
   |zero=>
     simp only[List.set_cons_zero,wt,List.getElem_cons_zero,List.length_cons];rw[show(((l.length+1:Nat):Int) - ((0:Nat):Int))=(l.length:Int)+1 from by omega,Int.mul_sub];omega
   |succ k=>
     have:=ih k (by simpa using hk);simp only[List.set_cons_succ,wt,List.getElem_cons_succ,List.length_cons,dw];rw[show(((l.length+1:Nat):Int) - ((k+1:Nat):Int))=(l.length:Int) - k from by omega];omega
def TU(l:List UInt8):Gw l=true↔sm l % 255=0∧wt l % 255=0:=by
 simp[Gw,BQ,IA]
def IC{a b:Int}(h:a % 255=0):(b*a) % 255=0:=by rw[I3,h];simp
def mg{x:Int}(h0:0≤x)(h1:x<256):((UInt8.ofNat x.toNat).toNat:Int)=x:=by
 simp only[jE];rw[show x.toNat % 2 ^8=x.toNat from mZ (by omega),dR h0]
def Hw(bs:List UInt8)(k:Nat)(hk:k+2≤bs.length):Gw (kE bs k)=true:=by
 rw[TU];have lz:(fk bs k).length=bs.length:=by simp[fk]
 have z0:(fk bs k)[k]'(by omega)=0:=by simp[fk]
 have z1:(fk bs k)[k+1]'(by omega)=0:=by simp[fk]
 have bx:=zC bs k;have a:=zB bs k;have e1:sm (kE bs k)=sm (fk bs k)+jL bs k+kR bs k:=by
  unfold kE;rw[Nx _ _ _ (by simp;omega),Nx _ _ _ (by omega)];rw[mg bx.1 (by omega),mg a.1 (by omega),z0];simp[z1]
 have e2:wt (kE bs k)=wt (fk bs k)+((bs.length:Int) - k)*jL bs k+((bs.length:Int) - (k+1:Nat))*kR bs k:=by
  unfold kE;rw[MR _ _ _ (by simp;omega),MR _ _ _ (by omega)];rw[mg bx.1 (by omega),mg a.1 (by omega),z0];simp[z1,lz]
 rw[e1,e2];generalize hm:(bs.length:Int) - k - 1=m;have hX:(jL bs k - (m*sm (fk bs k) - wt (fk bs k))) % 255=0:=by
  unfold jL BQ IA;rw[hm];generalize sm (fk bs k)=S;generalize wt (fk bs k)=T;have h1:(m % 255*(S % 255) - T % 255) % 255=(m*S - T) % 255:=by
   rw[Int.sub_emod,←I3,WZ,←Int.sub_emod]
  rw[h1];omega
 have hY:(kR bs k+(sm (fk bs k)+jL bs k)) % 255=0:=by
  unfold kR BQ;omega
 have e3:((bs.length:Int) - k)=m+1:=by omega
 have e4:((bs.length:Int) - (k+1:Nat))=m:=by omega
 rw[e3,e4];generalize jL bs k=X at *;generalize kR bs k=Y at *;generalize sm (fk bs k)=S at *;generalize wt (fk bs k)=T at *;refine⟨by omega,?_⟩
 have h:=IC (b:=m) hY;have e5:m*(Y+(S+X))=m*Y+(m*S+m*X):=by rw[MO,MO]
 rw[e5]at h;have e6:(m+1)*X=m*X+X:=by rw[ZB];omega
 rw[e6];omega
end Go.Proofs.YtehimhbgakpenaaGreat
namespace Go.Proofs.YtehimhbgakpenaaGreat
open Go.RowKit
def dT:La:=⟨0,0,0,false,[],[]⟩
def Uk(x:La):Prop:=dS x∧ ∀p∈x.pre,p.1<4294967296
def oS(x:La)(r:Rec):La :=
 if r.1=1 then { x with o:=ux (r.2.take 2),s:=ux ((r.2.drop 2).take 4),a:=ux (((r.2.drop 2).drop 4).take 2),ov:=decide (ux ((((r.2.drop 2).drop 4).drop 2).take 1)=1) }
 else if r.1=2 then { x with adj:=x.adj++ [((ux (r.2.take 2):Int),(ux ((r.2.drop 2).take 2):Int),(ux (((r.2.drop 2).drop 2).take 2):Int))] }
 else if r.1=3 then { x with pre:=x.pre++ [(ux (r.2.take 4),(ux ((r.2.drop 4).take 1):Int))] }
 else x
def kH(x:La):List Rec→La
 | []=>x
 |r :: l=>kH (oS x r) l
def Am(l:List Rec):∀(x:La) (r:Rec),kH x (l++ [r])=oS (kH x l) r:=by
 induction l with
 |nil=>intro x r;rfl
 |cons a l ih=>intro x r;simp only[List.cons_append,kH,ih]
def LU(l m:List Rec):∀(x:La),kH x (l++m)=kH (kH x l) m:=by
 induction l with
 |nil=>intro x;rfl
 |cons a l ih=>intro x;simp only[List.cons_append,kH,ih]
def nZ(n k:Nat)(h1:1≤k)(h8:k≤8)(h:n<256 ^k):ux (fi n k)=n:=by
 unfold ux;rw[eQ,cR ⟨h1,h8⟩,sL n k h]
def qv(n k:Nat)(l:List UInt8):(fi n k++l).take k=fi n k:=by
 rw[List.take_append_of_le_length (by rw[eQ];exact cj),dn (by rw[eQ];exact cj)]
def qP(n k:Nat)(l:List UInt8):(fi n k++l).drop k=l:=by
 rw[MN (by rw[eQ];exact cj),gG (by rw[eQ];exact cj)];rfl
section
variable {x:La}
def Wn(h:dS x)(y:La):oS y (jA x)= { y with o:=x.o,s:=x.s,a:=x.a,ov:=x.ov }:=by
 obtain⟨⟨h1,h2⟩,⟨h3,h4⟩,⟨h5,h6⟩,_⟩:=h;unfold oS;rw[cR (show(jA x).1=1 from rfl)];simp only[jA,dI,qv,qP,nZ _ 2 (by omega) (by omega) (show x.o.toNat<256 ^2 by omega),nZ _ 4 (by omega) (by omega) (show x.s.toNat<256 ^4 by omega),nZ _ 2 (by omega) (by omega) (show x.a.toNat<256 ^2 by omega)];have hb:bit x.ov<256 ^1:=by unfold bit;split<;>omega
 rw[dn (by rw[eQ];exact cj),nZ _ 1 (by omega) (by omega) hb,dR h1,dR (by omega),dR h5];cases x.ov<;>simp[bit]
def Zj(y:La)(z:Ad)(h0:0≤z.1∧z.1≤63)(h1:0≤z.2.1∧z.2.1≤255)(h2:1≤z.2.2∧z.2.2≤65535):oS y (uU z)= { y with adj:=y.adj++ [z] }:=by
 obtain⟨a,b,c⟩:=z;simp only at h0 h1 h2;unfold oS;rw[cN (by simp[uU]),cR (show(uU (a,b,c)).1=2 from rfl)];simp only[uU,dI,qv,qP,nZ _ 2 (by omega) (by omega) (show a.toNat<256 ^2 by omega),nZ _ 2 (by omega) (by omega) (show b.toNat<256 ^2 by omega)];rw[dn (by rw[eQ];exact cj),nZ _ 2 (by omega) (by omega) (show c.toNat<256 ^2 by omega),dR h0.1,dR h1.1,dR (by omega)]
def Y5(y:La)(z:Pf)(h0:z.1<4294967296)(h1:0≤z.2∧z.2≤32):oS y (yC z)= { y with pre:=y.pre++ [z] }:=by
 obtain⟨a,b⟩:=z;simp only at h0 h1;unfold oS;rw[cN (by simp[yC]),cN (by simp[yC]),cR (show(yC (a,b)).1=3 from rfl)];simp only[yC,qv,qP,nZ _ 4 (by omega) (by omega) (show a<256 ^4 by omega)];rw[dn (by rw[eQ];exact cj),nZ _ 1 (by omega) (by omega) (show b.toNat<256 ^1 by omega),dR h1.1]
def Wd(y:La)(v:List UInt8):oS y (4,v)=y:=by simp[oS]
def TB(h:dS x):∀z∈x.adj,(0≤z.1∧z.1≤63)∧(0≤z.2.1∧z.2.1≤255)∧(1≤z.2.2∧z.2.2≤65535):=by
 intro z hz;obtain⟨i,hi,he⟩:=eG hz;obtain⟨_,_,_,_,_,_,h7,_⟩:=h;obtain⟨a,_,b,c,_⟩:=h7 i z hi (by rw[cM hi,he]);exact⟨b,a,c⟩
def TA(h:dS x):∀z∈x.pre,0≤z.2∧z.2≤32:=by
 intro z hz;obtain⟨i,hi,he⟩:=eG hz;obtain⟨_,_,_,_,_,_,_,h8⟩:=h;have:=(h8 i z hi (by rw[cM hi,he])).1;unfold mR at this;rw[ie]at this;exact⟨this.1,this.2.1⟩
def Yj(l:List Ad)(h:∀z∈l,(0≤z.1∧z.1≤63)∧(0≤z.2.1∧z.2.1≤255)∧(1≤z.2.2∧z.2.2≤65535)):∀y:La,kH y (l.map uU)= { y with adj:=y.adj++l }:=by
 induction l with
 |nil=>intro y;simp[kH]
 |cons z l ih=>
   intro y;obtain⟨a,b,c⟩:=h z (by simp);rw[gh,kH,Zj y z a b c,ih fun q hq=>h q (by simp[hq])];simp
def XD(l:List Pf)(h:∀z∈l,z.1<4294967296∧0≤z.2∧z.2≤32):∀y:La,kH y (l.map yC)= { y with pre:=y.pre++l }:=by
 induction l with
 |nil=>intro y;simp[kH]
 |cons z l ih=>
   intro y;obtain⟨a,b⟩:=h z (by simp);rw[gh,kH,Y5 y z a b,ih fun q hq=>h q (by simp[hq])];simp
def oy(x:La):List Rec:=jA x :: (x.adj.map uU++x.pre.map yC)
def Iu(h:Uk x)(v:List UInt8):kH dT (oy x++ [(4,v)])=x:=by
 have h1:=TB h.1;have h2:∀z∈x.pre,z.1<4294967296∧0≤z.2∧z.2≤32:=fun z hz=>⟨h.2 z hz,TA h.1 z hz⟩
 rw[Am,Wd,oy,kH,Wn h.1,LU,Yj _ h1,XD _ h2];simp[dT]
def Im(x:La):∃b1 b2,gv x=fZ (oy x++ [(4,[b1,b2])]):=by
 have hp:gq x=(fZ (oy x)++ [4,0,2])++ [0,0]:=by
  unfold gq;rw[show nT x=oy x++ [(4,[0,0])]from rfl,nt,dI];rfl
 have hl:(gq x).length - 2=(fZ (oy x)++ [4,0,2]).length:=by rw[hp,cX];simp
 unfold gv kE fk;rw[hl];generalize UInt8.ofNat (jL _ _).toNat=b1;generalize UInt8.ofNat (kR _ _).toNat=b2;refine⟨b1,b2,?_⟩
 rw[hp,nt];generalize fZ (oy x)=F;have e1:∀(P:List UInt8) (u v w:UInt8),(P++ [u,v]).set P.length w=P++ [w,v]:=fun P u v w=>by rw[iJ _ _ cj];simp
 have e2:∀(P:List UInt8) (u v w:UInt8),(P++ [u,v]).set (P.length+1) w=P++ [u,w]:=fun P u v w=>by rw[iJ _ _ (by omega)];simp
 rw[e1,e2,e1,e2];simp[fZ,kj]
def LH(x:La)(b1 b2:UInt8):mD (oy x++ [(4,[b1,b2])])=0:=by
 refine Aw _ fun r hr=>?_
 rcases eZ.1 hr with hr|hr
 ·exact CD x r (eZ.2 (.inl hr))
 ·obtain rfl:=ew.1 hr;simp
def ua(x:La):∃b1 b2,lH (gv x)=some (oy x++ [(4,[b1,b2])]):=by
 obtain⟨b1,b2,h⟩:=Im x;exact⟨b1,b2,by rw[h];exact Mi _ (LH x b1 b2)⟩
def xO(x:La):Gw (gv x)=true:=Hw _ _ (by rw[lS];omega)
def LI{y:La}(hx:Uk x)(hy:Uk y)(h:gv x=gv y):x=y:=by
 obtain⟨a1,a2,e1⟩:=ua x;obtain⟨b1,b2,e2⟩:=ua y;rw[h,e2]at e1;injection e1 with e1
 rw[←Iu hx [a1,a2],←Iu hy [b1,b2],e1]
end
def sh(bs:List UInt8)(x:La):Prop:=Uk x∧gv x=bs
open Classical in
noncomputable def wN(bs:List UInt8):Int:=if Gw bs=false then 5 else if ∃x,sh bs x then 0 else 4
open Classical in
noncomputable def uQ(bs:List UInt8):La:=if h:∃x,sh bs x then Classical.choose h else dT
def LC{bs:List UInt8}(h:Gw bs=false):wN bs=5:=by unfold wN;rw[cR h]
def DY{bs:List UInt8}(h:Gw bs=true)(hn:¬ ∃x,sh bs x):wN bs=4:=by unfold wN;rw[cN (by rw[h];simp),cN hn]
def wM{bs:List UInt8}(hn:¬ ∃x,sh bs x):uQ bs=dT:=by unfold uQ;rw[dif_neg hn]
def zY{bs:List UInt8}{x:La}(h:sh bs x):wN bs=0∧uQ bs=x:=by
 have hc:Gw bs=true:=by rw[←h.2];exact xO x
 have he:∃x,sh bs x:=⟨x,h⟩
 constructor
 ·unfold wN;rw[cN (by rw[hc];simp),cR he]
 ·unfold uQ;rw[dif_pos he];have h2:=Classical.choose_spec he;exact LI h2.1 h.1 (h2.2.trans h.2.symm)
def LB{bs:List UInt8}(h:Gw bs=false):uQ bs=dT:=wM fun⟨x,hx⟩=>by
 have:=xO x;rw[hx.2,h]at this;cases this
def CC{bs:List UInt8}(h:lH bs=none):¬ ∃x,sh bs x:=fun⟨x,hx⟩=>by
 obtain⟨b1,b2,e⟩:=ua x;rw[hx.2,h]at e;cases e
def Wc{bs:List UInt8}{l:List Rec}(h:lH bs=some l)(hn:¬sh bs (kH dT l)):¬ ∃x,sh bs x:=fun⟨x,hx⟩=>by
 obtain⟨b1,b2,e⟩:=ua x;rw[hx.2,h]at e;injection e with e
 rw[e,Iu hx.1]at hn;exact hn hx
end Go.Proofs.YtehimhbgakpenaaGreat
