/- Lemmas. -/
import Derived.Test.YtehimhbgakpenaaGreatK
set_option linter.all false
set_option maxRecDepth 100000
set_option maxHeartbeats 16000000
namespace Go.Proofs.YtehimhbgakpenaaGreat
open Go.RowKit Go.Sort Go.Proofs.Tryz
def ki{w:World}{base:Nat}{e:TypeId}{size:Nat}{A:cG}{n c:Nat}{xs:cH}(h:w.ownsRow base e size (.slice A n c) n xs):Rd w A xs∧n≤c∧c≤maxLen:=by
 obtain⟨A',c',e1,r,l,m⟩:=dN h;simp only[dp,fE]at e1;obtain⟨rfl,rfl⟩:=e1;exact⟨r,l,m⟩
def Rd.XU{w w':World}{A:cG}{xs:cH}{row:Option Nat}(h:Rd w A xs)(hg:w.grownBy w' row)(hf:0<xs.length→ ∀ad,A=some ad→row≠some ad.block):Rd w' A xs:=by
 intro hn;obtain⟨ad,e,hb⟩:=h.block hn;obtain⟨a,e',hc⟩:=h hn;rw[e]at e';injection e' with e'
 subst e';refine⟨ad,e,fun j u hu=>?_⟩
 rw[cY (hg.block _ (by rw[fu];exact hb) (by rw[fu];exact fun e2=>hf hn ad e e2.symm))];exact hc j u hu
structure Ms where
 k:Int
 n:Int
 b:Int
 h:Int
 y:La
abbrev Ih(m:Ms)(A:cG)(c:Nat)(B:cG)(d:Nat):Value :=
 .agg #[m.k,m.n,m.b,m.h,m.y.o,m.y.s,m.y.a,m.y.ov,.slice A m.y.adj.length c,.slice B m.y.pre.length d]
abbrev yE(y:La)(A:cG)(c:Nat)(B:cG)(d:Nat):Value:=ig y.o y.s y.a y.ov A y.adj.length c B y.pre.length d
def AY(w:World)(v:Value)(m:Ms):Prop:=∃A c B d,v=Ih m A c B d∧eU w (yE m.y A c B d) m.y
def AY.below{w w':World}{v:Value}{m:Ms}(h:AY w v m)(hb:cI w w'):AY w' v m:=by
 obtain⟨A,c,B,d,rfl,h⟩:=h;exact⟨A,c,B,d,rfl,h.below hb⟩
def mS:Ms:=⟨0,0,0,0,dT⟩
def UU(w:World)(base:Nat)(v:Value)(m:Ms):Prop:=∃A c B d,v=Ih m A c B d∧fh w base (yE m.y A c B d) m.y
def Ig(w:World)(base:Nat):UU w base (.agg #[.int .i64 0,.int .i64 0,.int .i64 0,.int .i64 0,.int .i64 0,.int .i64 0,.int .i64 0,false,.slice none 0 0,.slice none 0 0]) mS:=⟨none,0,none,0,rfl,fQ w base⟩
def TN(x:La):Bool:=x.o==0&& (x.s==0&& (x.a==0&& (!x.ov&& (decide (x.adj.length=0)&&decide (x.pre.length=0)))))
def JW{x:La}:TN x=true↔x=dT:=by
 obtain⟨o,s,a,ov,adj,pre⟩:=x;simp[TN,dT]
def TM(x:La):Mc x dT=TN x:=by
 rw[ga,JW];constructor
 ·intro h;simp only[Mc,kS,dD,ji]at h;obtain⟨⟨h1,h2,_,h4⟩,h5⟩:=h;obtain⟨h6,h7,h8⟩:=wW.1 h4;obtain⟨o,s,a,ov,b,pre⟩:=x;simp only[dT]at *;subst h1 h2 h5 h6 h7 h8;rfl
 ·rintro rfl;rfl
noncomputable def qg(m:Ms):Bool:=jI m.b 1 1073741824&& (if m.k=1 then jI m.n 0 63&& (jI m.h 0 1073741824&&TN m.y)else if m.k=2∨m.k=3 then m.n==0&& (m.h==0&&vB m.y)else false)
def pv(m:Ms):List UInt8:=if m.k=1 then fi m.n.toNat 2++(fi m.b.toNat 4++fi m.h.toNat 4)else fi m.b.toNat 4++gv m.y
def jY(m:Ms):List UInt8:=kj (m.k,pv m)
def qJ{m:Ms}(h:qg m=true):(pv m).length≤3000:=by
 unfold pv;split
 ·simp[eQ]
 ·rename_i hk
  simp only[qg,hk,Un,dD]at h;obtain⟨_,h2⟩:=h;split at h2
  ·simp only[dD]at h2;have:=gH.1 h2.2.2;rw[cX,eQ,tY];have h4:=this.2.2.2.1;have h5:=this.2.2.2.2.1;omega
  ·simp at h2
noncomputable def vS(r:Rec):Ms :=
 if r.1=1 then⟨1,iW (r.2.take 2),iW ((r.2.drop 2).take 4),iW ((r.2.drop 6).take 4),dT⟩
 else⟨r.1,0,iW (r.2.take 4),0,uQ (r.2.drop 4)⟩
noncomputable def qq(r:Rec):Int :=
 if r.1=1 then if r.2.length=10∧qg (vS r)=true then 0 else 4
 else if r.1=2∨r.1=3 then if r.2.length<4 then 4 else if Gw (r.2.drop 4)=false then 5 else if qg (vS r)=true then 0 else 4
 else 4
noncomputable def sK(bs:List UInt8):Int:=match lH bs with|some [r]=>qq r|_=>4
noncomputable def sJ(bs:List UInt8):Ms:=match lH bs with|some [r]=>if qq r=0 then vS r else mS|_=>mS
def jJ(n l m:Int)(w:World):Calls prog 31 #[n,l,m] w fun e w'=>e= .returned (.bool (jI n l m))∧w=w':=by
 unfold jI;rcases h1:decide (l≤n)with _|_
 ·have b:¬l≤n:=lr h1;go_in;go_wp2;go_ret;exact⟨rfl,rfl⟩
 ·have b:l≤n:=fS h1;rcases h2:decide (n≤m)with _|_
  ·have a:¬n≤m:=lr h2;go_in;go_wp2;go_ret;exact⟨rfl,rfl⟩
  ·have a:n≤m:=fS h2;go_in;go_wp2;go_ret;exact⟨rfl,rfl⟩
def KD(w:World)(o s ag:Int)(ov:Bool)(A:cG)(n c:Nat)(B:cG)(m d:Nat):Calls prog 162 #[ig o s ag ov A n c B m d] w fun e w'=>
  e= .returned (.bool (o==0&& (s==0&& (ag==0&& (!ov&& ((n:Int)==0&& (m:Int)==0))))))∧cI w w':=by
 have S:=(St.start w).nw #[o,s,ag,ov,.slice A n c,.slice B m d] 41 w;have a0:=(S.box 0 rfl).b6;have a:=S.b;clear S;rcases h1:(o==0)with _|_
 ·go_in;go_wp2;go_ret;exact⟨rfl,a⟩
 rcases h2:(s==0)with _|_
 ·go_in;go_wp2;go_ret;exact⟨rfl,a⟩
 rcases h3:(ag==0)with _|_
 ·go_in;go_wp2;go_ret;exact⟨rfl,a⟩
 cases ov with
 |true=>
   go_in;go_wp2;go_ret;exact⟨rfl,a⟩
 |false=>
 rcases h5:((n:Int)==0)with _|_
 ·go_in;go_wp2;go_ret;exact⟨rfl,a⟩
 rcases h6:((m:Int)==0)with _|_
 ·go_in;go_wp2;go_ret;exact⟨rfl,a⟩
 ·go_in;go_wp2;go_ret;exact⟨rfl,a⟩
def Hv(w:World)(x:La)(A:cG)(c:Nat)(B:cG)(d:Nat):Calls prog 162 #[yE x A c B d] w fun e w'=>e= .returned (.bool (TN x))∧cI w w':=by
 have e5:((x.adj.length:Int)==0)=decide (x.adj.length=0):=by rw[ga];simp
 have e6:((x.pre.length:Int)==0)=decide (x.pre.length=0):=by rw[ga];simp
 have:=KD w x.o x.s x.a x.ov A x.adj.length c B x.pre.length d;rw[e5,e6]at this;exact this
def rn(w:World)(v:Value)(m:Ms)(h:AY w v m):Calls prog 116 #[v] w fun e w'=>e= .returned (.bool (qg m))∧cI w w':=by
 obtain⟨A,c,B,d,rfl,hl⟩:=h;obtain⟨mk,mn,mb,mh,y⟩:=m;unfold qg;unfold Ih;simp only at hl ⊢;have S:=(St.start w).nw #[mk,mn,mb,mh,y.o,y.s,y.a,y.ov,.slice A y.adj.length c,.slice B y.pre.length d] 142 w;have V:=fun W hb=>me W _ y (hl.below hb)
 obtain⟨vb,g⟩:=ex (vB y)
 rw[g]at V;rw[g];have E:=fun W=>Hv W y A c B d
 generalize TN y=eb at *;obtain⟨b1,k⟩:=ex (jI mb 1 1073741824)
 obtain⟨b2,j⟩:=ex (jI mn 0 63)
 obtain⟨b3,i⟩:=ex (jI mh 0 1073741824)
 have W1:=fun W=>jJ mb 1 1073741824 W
 have W2:=fun W=>jJ mn 0 63 W
 have W3:=fun W=>jJ mh 0 1073741824 W
 rw[k]at W1;rw[j]at W2;rw[i]at W3;obtain⟨r,hr⟩:=ex (jI mb 1 1073741824&& (if mk=1 then jI mn 0 63&& (jI mh 0 1073741824&&eb)else if mk=2∨mk=3 then mn==0&& (mh==0&&vb)else false))
 rw[hr];rw[k,j,i]at hr;replace hr:=φ hr;replace V:=φ V;replace E:=φ E;replace W1:=φ W1;replace W2:=φ W2;replace W3:=φ W3;clear hl g k j i;have a0:=(S.box 0 rfl).iM;go_in;go_wp2_with fail;refine (W1 _).mono ?_;rintro e w1 ⟨rfl,rfl⟩;cases b1 with
 |false=>
   obtain rfl:false=r:=by rw[←hr.out];simp
   go_wp2;go_ret;exact⟨rfl,S.b⟩
 |true=>
 by_cases hk1:mk=1
 ·subst hk1;cases b2 with
  |false=>
    obtain rfl:false=r:=by rw[←hr.out];simp
    go_wp2_with fail;refine (W2 _).mono ?_;rintro e w2 ⟨rfl,rfl⟩;go_wp2;go_ret;exact⟨rfl,S.b⟩
  |true=>
  cases b3 with
  |false=>
    obtain rfl:false=r:=by rw[←hr.out];simp
    go_wp2_with fail;refine (W2 _).mono ?_;rintro e w2 ⟨rfl,rfl⟩;go_wp2_with fail;refine (W3 _).mono ?_;rintro e w3 ⟨rfl,rfl⟩;go_wp2;go_ret;exact⟨rfl,S.b⟩
  |true=>
  obtain rfl:eb=r:=by rw[←hr.out];simp
  go_wp2_with fail;refine (W2 _).mono ?_;rintro e w2 ⟨rfl,rfl⟩;go_wp2_with fail;refine (W3 _).mono ?_;rintro e w3 ⟨rfl,rfl⟩;go_wp2_with fail;refine (E _).mono ?_;rintro e w4 ⟨rfl,hb⟩;replace S:=S.call hb;go_wp2;go_ret;exact⟨rfl,S.b⟩
 by_cases f:mk=2∨mk=3
 ·by_cases hn0:mn=0
  ·subst hn0
   by_cases hh0:mh=0
   ·subst hh0;obtain rfl:vb=r:=by rw[←hr.out,cN hk1,cR f];simp
    rcases f with f|f
    all_goals
     subst f;go_wp2_with fail;refine (V _ S.b).mono ?_;rintro e w4 ⟨rfl,hb⟩;replace S:=S.call hb;go_wp2;go_ret;exact⟨rfl,S.b⟩
   ·obtain rfl:false=r:=by rw[←hr.out,cN hk1,cR f];simp[hh0]
    have h6:(mh==0)=false:=by simpa using hh0
    rcases f with f|f
    all_goals
     subst f;go_wp2;go_ret;exact⟨rfl,S.b⟩
  ·obtain rfl:false=r:=by rw[←hr.out,cN hk1,cR f];simp[hn0]
   have h5:(mn==0)=false:=by simpa using hn0
   rcases f with f|f
   all_goals
    subst f;go_wp2;go_ret;exact⟨rfl,S.b⟩
 ·obtain rfl:false=r:=by rw[←hr.out,cN hk1,cN f];simp
  have k1:(mk==1)=false:=by simpa using hk1
  have k2:(mk==2)=false:=by simp;omega
  have k3:(mk==3)=false:=by simp;omega
  clear hk1 f;go_wp2;go_ret;exact⟨rfl,S.b⟩
def Yg(bs:List UInt8)(m k:Nat)(z:Int)(hz:z=k)(h1:1≤k)(h8:k≤8)(hm:m<256 ^k):Mo m z=0∧MI bs m z=bs++fi m k:=by
 subst hz;have e:Mo m (k:Int)=0:=by
  unfold Mo;rw[cN (by omega),cR (by simpa using hm)]
 refine⟨e,?_⟩
 unfold MI;rw[e,cR rfl,cU]
def uj(A:cG)(n cap:Nat)(bs:List UInt8)(m k:Nat)(z:Int)(w:World)(hr:Bs w A bs)(hn:bs.length=n)(b:n≤1000000)(hz:z=k)(h1:1≤k)(h8:k≤8)(hm:m<256 ^k)(N:Nat)(L:List UInt8)(hN:n+k=N)(hL:bs++fi m k=L) :
  Calls prog 123 #[.slice A n cap,.int .u64 m,z] w fun e w'=>
   ∃A' c',e= .returned (.tuple #[.slice A' N c',.int .i64 0])∧w'.ownsRow w 5 1 (.slice A' N c') N (L.map iZ)∧cI w w':=by
 have c:256 ^k≤18446744073709551616:=by
  have:256 ^k≤256 ^8:=mF (by omega) h8;omega
 obtain⟨e1,e2⟩:=Yg bs m k z hz h1 h8 hm;refine(AI A n cap bs m z w hr hn b (by omega)).mono ?_;rintro e w' ⟨v,he,a,hb⟩;rw[e1]at he;rw[e2,hL]at a;have hl:L.length=N:=by rw[←hL,cX,eQ];omega
 rw[hl]at a;obtain⟨A',c',rfl,_⟩:=dN a;exact⟨A',c',he,a,hb⟩
noncomputable def FB(m:Ms):Int:=if qg m=true then 0 else 1
noncomputable def iy(m:Ms):List UInt8:=if qg m=true then jY m else []
def pH(w:World)(m:Ms)(e:Ending)(w':World):Prop :=
 ∃A c,e= .returned (.tuple #[.slice A (iy m).length c,(FB m)])∧w'.ownsRow w 5 1 (.slice A (iy m).length c) (iy m).length ((iy m).map iZ)∧cI w w'
def sX{m:Ms}(h:qg m=true):(1≤m.b∧m.b≤1073741824)∧((m.k=1∧(0≤m.n∧m.n≤63)∧(0≤m.h∧m.h≤1073741824)∧m.y=dT)∨((m.k=2∨m.k=3)∧m.n=0∧m.h=0∧dS m.y)):=by
 simp only[qg,dD]at h;refine⟨jH h.1,?_⟩
 obtain⟨_,h⟩:=h
 by_cases hk:m.k=1
 ·rw[cR hk]at h;simp only[dD]at h;exact .inl ⟨hk,jH h.1,jH h.2.1,JW.1 h.2.2⟩
 ·rw[cN hk]at h
  by_cases hk2:m.k=2∨m.k=3
  ·rw[cR hk2]at h;simp only[dD]at h;exact .inr ⟨hk2,by simpa using h.1,by simpa using h.2.1,gH.1 h.2.2⟩
  ·rw[cN hk2]at h;cases h
def Gn(r:Rec)(h1:1≤r.1)(h2:r.1≤255)(h3:r.2.length≤65535):mD [r]=0∧wT [r]=kj r:=by
 have e:mD [r]=0:=Aw _ (by simp;exact⟨h1,h2,h3⟩);refine⟨e,?_⟩
 unfold wT;rw[e,cR rfl];simp[fZ]
def Av(w:World)(k:Int)(A:cG)(n c:Nat)(bs:List UInt8)(g:Nat)(h1:1≤k)(h2:k≤255)(h3:n≤65535)(hr:Bs w A bs)(hn:bs.length=n)(d:n≤c)(hc:c≤9223372036854775807)(hg:Rd w (some ⟨g,0,none⟩) [k,.slice A n c]) :
  Calls prog 125 #[.slice (some ⟨g,0,none⟩) 1 1] w fun e w'=>
   ∃A' c',e= .returned (.tuple #[.slice A' (kj (k,bs)).length c',.int .i64 0])∧w'.ownsRow w 5 1 (.slice A' (kj (k,bs)).length c') (kj (k,bs)).length ((kj (k,bs)).map iZ)∧cI w w':=by
 obtain⟨e1,e2⟩:=Gn (k,bs) h1 h2 (by simpa[hn]using h3);refine (yK (some ⟨g,0,none⟩) 1 1 [⟨k,A,n,c,bs⟩] w hg (by
  intro r b;rw[ew.1 b];exact ⟨hr,hn,d,hc⟩) rfl (by omega)).mono ?_
 rintro e w' ⟨v,he,a,hb⟩;rw[show [(⟨k,A,n,c,bs⟩:Rc)].map nK= [(k,bs)]from rfl]at he a;rw[e1]at he;rw[e2]at a;obtain⟨A',c',rfl,_⟩:=dN a;exact⟨A',c',he,a,hb⟩
def Ci(w:World)(v:Value)(m:Ms)(h:AY w v m):Calls prog 70 #[v] w (pH w m):=by
 have V:=fun W (hb:cI w W)=>rn W v m (h.below hb)
 obtain⟨A,c,B,d,rfl,hl⟩:=h;have S:=(St.start w).nw #[m.k,m.n,m.b,m.h,m.y.o,m.y.s,m.y.a,m.y.ov,.slice A m.y.adj.length c,.slice B m.y.pre.length d] 142 w;have N:=fun W hb=>Wv W _ m.y (hl.below hb)
 clear hl;rcases hv:qg m with _|_
 ·have hP:pH w m=fun e w'=>∃A c,e= .returned (.tuple #[.slice A ([]:List UInt8).length c,.int .i64 1])∧w'.ownsRow w 5 1 (.slice A ([]:List UInt8).length c) ([]:List UInt8).length (([]:List UInt8).map iZ)∧cI w w':=by
   unfold pH iy FB;rw[hv];rfl
  rw[hP];rw[hv]at V;clear hP hv N;replace V:=φ V;obtain⟨a0,a1,a2,a3,a4,a5,a6,a7,a8,a9⟩:=(S.box 0 rfl).iM;go_in;go_wp2_with fail;refine (V _ S.b).mono ?_;rintro e w1 ⟨rfl,hb⟩;replace S:=S.call hb;go_wp2;go_ret2;exact⟨none,0,rfl,cn,S.b⟩
 have hP:pH w m=fun e w'=>∃A c,e= .returned (.tuple #[.slice A (jY m).length c,i0])∧w'.ownsRow w 5 1 (.slice A (jY m).length c) (jY m).length ((jY m).map iZ)∧cI w w':=by
  unfold pH iy FB;rw[hv];rfl
 rw[hP];rw[hv]at V;have f:=qJ hv;obtain⟨⟨R,Q⟩,hc⟩:=sX hv;clear hP hv;unfold jY pv at *;obtain⟨k,n,b,h,y⟩:=m;simp only at *;obtain⟨bb,rfl⟩:=de (show 0≤b by omega);replace V:=φ V;replace N:=φ N;rcases hc with ⟨rfl,⟨E,M⟩,⟨G,P⟩,rfl⟩|⟨hk,rfl,rfl,hy⟩
 ·obtain⟨nn,rfl⟩:=de E;obtain⟨hh,rfl⟩:=de G;rw[cR rfl,show(((nn:Int)).toNat)=nn from cU nn,show(((bb:Int)).toNat)=bb from cU bb,show(((hh:Int)).toNat)=hh from cU hh];clear f N;obtain⟨L,hL⟩:=ex (kj (1,fi nn 2++(fi bb 4++fi hh 4)))
  rw[hL];replace hL:=φ hL;obtain⟨a0,a1,a2,a3,a4,a5,a6,a7,a8,a9⟩:=(S.box 0 rfl).iM;go_in;go_wp2_with fail;refine (V _ S.b).mono ?_;rintro e w1 ⟨rfl,hb⟩;clear a0 a1 a2 a3 a4 a5 a6 a7 a8 a9;replace S:=S.call hb;clear hb V;obtain⟨a0,a1,a2,a3,a4,a5,a6,a7,a8,a9⟩:=(S.box 0 rfl).iM;go_wp2_with fail;refine (uj none 0 0 [] nn 2 2 _ (Rd.nil _ _) rfl (by omega) rfl (by omega) (by omega) (by omega) 2 (fi nn 2) rfl (by simp)).mono ?_;rintro e w2 ⟨A1,c1,rfl,o1,hb⟩;clear a0 a1 a2 a3 a4 a5 a6 a7 a8 a9;replace S:=S.call hb;clear hb;obtain⟨a0,a1,a2,a3,a4,a5,a6,a7,a8,a9⟩:=(S.box 0 rfl).iM;go_wp2_with fail;refine (uj A1 2 c1 (fi nn 2) bb 4 4 _ (rI o1) (eQ _ _) (by omega) rfl (by omega) (by omega) (by omega) 6 (fi nn 2++fi bb 4) rfl rfl).mono ?_;rintro e w3 ⟨A2,c2,rfl,o2,hb⟩;clear a0 a1 a2 a3 a4 a5 a6 a7 a8 a9;replace S:=S.call hb;clear hb o1;obtain⟨a0,a1,a2,a3,a4,a5,a6,a7,a8,a9⟩:=(S.box 0 rfl).iM;go_wp2_with fail;refine (uj A2 6 c2 (fi nn 2++fi bb 4) hh 4 4 _ (rI o2) (by simp[eQ]) (by omega) rfl (by omega) (by omega) (by omega) 10 (fi nn 2++(fi bb 4++fi hh 4)) rfl (by simp)).mono ?_;rintro e w4 ⟨A3,c3,rfl,o3,hb⟩;clear a0 a1 a2 a3 a4 a5 a6 a7 a8 a9;replace S:=S.call hb;clear hb o2;have i:(fi nn 2++(fi bb 4++fi hh 4)).length=10:=by simp[eQ]
  obtain⟨r3,n3,m3⟩:=ki o3;have g:=cQ w4 (.cells #[.int .i64 1,.slice A3 10 c3] 215);have EN:=Av (w4.alloc (.cells #[.int .i64 1,.slice A3 10 c3] 215)) 1 A3 10 c3 _ w4 (by omega) (by omega) (by omega) (r3.below g) i n3 (by unfold maxLen at m3;omega) (Rd.lit w4 _ _);rw[hL.out]at EN;clear o3 r3 i;have q:=S.b.size;replace EN:=φ EN;obtain⟨a0,a1,a2,a3,a4,a5,a6,a7,a8,a9⟩:=(S.box 0 rfl).iM;go_wp2_with fail;refine EN.out.mono ?_;rintro e w5 ⟨A4,c4,rfl,o4,hb⟩;replace S:=(S.call g).call hb;go_wp2;go_ret2;exact⟨A4,c4,rfl,dx o4 (by simp;omega),S.b⟩
 ·have j:(k==1)=false:=by simp;omega
  rw[cN (by omega)]at f ⊢;rw[show(((bb:Int)).toNat)=bb from cU bb]at f ⊢;have r:1≤k∧k≤255:=by omega
  clear hk;have x:=tY y;have z:(gv y).length≤2996:=by rw[cX,eQ]at f;omega
  have N2:∀W,cI w W→Calls prog 124 #[yE y A c B d] W (fun e w'=>∃A c,e= .returned (.tuple #[.slice A (gv y).length c,i0])∧w'.ownsRow W 5 1 (.slice A (gv y).length c) (gv y).length ((gv y).map iZ)∧cI W w'):=fun W hb=>(N W hb).mono fun e w' h=>by
   unfold Kd mv qL at h;rw[nA hy]at h;exact h
  clear N x hy;obtain⟨Y,hY⟩:=ex (gv y)
  rw[hY]at f z N2 ⊢;clear hY;obtain⟨L,hL⟩:=ex (kj (k,fi bb 4++Y))
  rw[hL];change Hid _ at hL j;replace N2:=φ N2;obtain⟨a0,a1,a2,a3,a4,a5,a6,a7,a8,a9⟩:=(S.box 0 rfl).iM;go_in;go_wp2_with fail;refine (V _ S.b).mono ?_;rintro e w1 ⟨rfl,hb⟩;clear a0 a1 a2 a3 a4 a5 a6 a7 a8 a9;replace S:=S.call hb;clear hb V;obtain⟨a0,a1,a2,a3,a4,a5,a6,a7,a8,a9⟩:=(S.box 0 rfl).iM;have O:=j.out;have u:=S.lt 0 rfl (by simp);have D:=S.b.size;go_wp2_with fail;refine (uj none 0 0 [] bb 4 4 _ (Rd.nil _ _) rfl (by omega) rfl (by omega) (by omega) (by omega) 4 (fi bb 4) rfl (by simp)).mono ?_;rintro e w2 ⟨A1,c1,rfl,o1,hb⟩;clear a0 a1 a2 a3 a4 a5 a6 a7 a8 a9;have H:=u;replace S:=S.call hb;have J:=hb.size;clear hb;obtain⟨a0,a1,a2,a3,a4,a5,a6,a7,a8,a9⟩:=(S.box 0 rfl).iM;go_wp2_with fail;refine (N2 _ S.b).mono ?_;rintro e w3 ⟨A2,c2,rfl,o2,hb⟩;clear a0 a1 a2 a3 a4 a5 a6 a7 a8 a9;replace S:=S.call hb;replace o1:=dg o1 hb;have K:=hb.size;clear hb N2;obtain⟨r2,n2,m2⟩:=ki o2;have C:=S.b.size;have F:(Y.map iZ).length=Y.length*1:=by simp
  obtain⟨a0,a1,a2,a3,a4,a5,a6,a7,a8,a9⟩:=(S.box 0 rfl).iM;go_wp2_with (at_builtin;refine dK rfl jm (.tmp 46) (.tmp 47) rfl w1 rfl o1 (m:=Y.length) rfl F r2 (ni _) (by simp only[maxLen];omega) (by omega) (by omega) (4+Y.length) ((fi bb 4++Y).map iZ) rfl (by simp) ?_;intro v3 w4 o3 l _ _;have q0:=(l.cell (p:=⟨w,0,none⟩) H).trans a0;obtain⟨A3,c3,rfl,r3,n3,m3⟩:=dN o3);have t:cI w w4:=S.b.trans (l.mono D);have i:(fi bb 4++Y).length=4+Y.length:=by simp[eQ]
  have g:=cQ w4 (.cells #[k,.slice A3 (4+Y.length) c3] 215);have EN:=Av (w4.alloc (.cells #[k,.slice A3 (4+Y.length) c3] 215)) k A3 (4+Y.length) c3 _ w4 r.1 r.2 (by omega) (r3.below g) i n3 (by unfold maxLen at m3;omega) (Rd.lit w4 _ _);rw[hL.out]at EN;refine EN.mono ?_;rintro e w5 ⟨A4,c4,rfl,o4,hb⟩;have q:w.heap.size≤w4.heap.size:=cZ C l.size;have I:=t.trans ((g.mono q).trans (hb.mono (by simp;omega)));clear EN;go_wp2;go_ret2;exact⟨A4,c4,rfl,dx o4 (by simp;omega),I⟩
def G9{n l m:Int}(h:n<l):jI n l m=false:=by unfold jI;rw[eI (by omega)];rfl
def Hb{n l m:Int}(h:m<n):jI n l m=false:=by unfold jI;rw[eI (p:=n≤m) (by omega)];simp
def Ha{n l m:Int}(h:l≤n)(h2:n≤m):jI n l m=true:=by unfold jI;rw[eo h,eo h2];rfl
def yx(w:World)(v:Value)(m:Ms)(h:AY w v m):Calls prog 81 #[v] w fun e w'=>e= .returned (.bool (qg m))∧cI w w':=by
 obtain⟨A,c,B,d,rfl,hl⟩:=h;obtain⟨mk,mn,mb,mh,y⟩:=m;unfold qg;unfold Ih;simp only at hl ⊢;have S:=(St.start w).nw #[mk,mn,mb,mh,y.o,y.s,y.a,y.ov,.slice A y.adj.length c,.slice B y.pre.length d] 43 w;have V:=fun W hb=>lN W _ y (hl.below hb)
 have E:=fun W hb=>CV W _ (ig 0 0 0 false none 0 0 none 0 0) y dT (hl.below hb) (fQ W W).at
 rw[TM]at E;generalize vB y=vb at *;generalize TN y=eb at *;replace V:=φ V;replace E:=φ E;clear hl;have a0:=(S.box 0 rfl).iM
 by_cases hb1:mb<1
 ·rw[G9 hb1,gU];go_in;go_wp2;go_ret;exact⟨rfl,S.b⟩
 by_cases hb2:1073741824<mb
 ·rw[Hb hb2,gU];go_in;go_wp2;go_ret;exact⟨rfl,S.b⟩
 rw[Ha (by omega) (by omega),gi]
 by_cases hk1:mk=1
 ·subst hk1;rw[cR rfl]
  by_cases hn1:mn<0
  ·rw[G9 hn1,gU];have g:¬0≤mn:=by omega
   go_in;go_wp2;go_ret;exact⟨rfl,S.b⟩
  by_cases g:63<mn
  ·rw[Hb g,gU];have l:0≤mn:=by omega
   have k:¬mn<64:=by omega
   go_in;go_wp2;go_ret;exact⟨rfl,S.b⟩
  rw[Ha (n:=mn) (by omega) (by omega),gi];have l:0≤mn:=by omega
  have k:mn<64:=by omega
  by_cases hh1:mh<0
  ·rw[G9 hh1,gU];have j:¬0≤mh:=by omega
   go_in;go_wp2;go_ret;exact⟨rfl,S.b⟩
  have j:0≤mh:=by omega
  by_cases hh2:1073741824<mh
  ·rw[Hb hh2,gU];have i:¬mh≤1073741824:=by omega
   go_in;go_wp2;go_ret;exact⟨rfl,S.b⟩
  have i:mh≤1073741824:=by omega
  rw[Ha (n:=mh) (by omega) (by omega),gi];go_in;go_wp2_with fail;refine (E _ S.b).mono ?_;rintro e w4 ⟨rfl,hb⟩;replace S:=S.call hb;go_wp2;go_ret;exact⟨rfl,S.b⟩
 rw[cN hk1]
 by_cases f:mk=2∨mk=3
 ·rw[cR f]
  by_cases hn0:mn=0
  ·subst hn0
   by_cases hh0:mh=0
   ·subst hh0;rw[show((0:Int)==0)=true from rfl,gi,gi];rcases f with f|f
    all_goals
     subst f;go_in;go_wp2_with fail;refine (V _ S.b).mono ?_;rintro e w4 ⟨rfl,hb⟩;replace S:=S.call hb;go_wp2;go_ret;exact⟨rfl,S.b⟩
   ·have h6:(mh==0)=false:=by simpa using hh0
    rw[h6,gU,Up];rcases f with f|f
    all_goals
     subst f;go_in;go_wp2;go_ret;exact⟨rfl,S.b⟩
  ·have h5:(mn==0)=false:=by simpa using hn0
   rw[h5,gU];rcases f with f|f
   all_goals
    subst f;go_in;go_wp2;go_ret;exact⟨rfl,S.b⟩
 ·rw[cN f];have k1:(mk==1)=false:=by simpa using hk1
  have k2:(mk==2)=false:=by simp;omega
  have k3:(mk==3)=false:=by simp;omega
  clear hk1 f;go_in;go_wp2;go_ret;exact⟨rfl,S.b⟩
def qX(w:World)(m:Ms)(e:Ending)(w':World):Prop :=
 ∃A c,e= .returned (.slice A (jY m).length c)∧w'.ownsRow w 5 1 (.slice A (jY m).length c) (jY m).length ((jY m).map iZ)∧cI w w'
def yy(w:World)(k:Int)(A:cG)(n c:Nat)(bs:List UInt8)(g:Nat)(h1:1≤k)(h2:k≤255)(h3:n≤65535)(hr:Bs w A bs)(hn:bs.length=n)(d:n≤c)(hc:c≤9223372036854775807)(hg:Rd w (some ⟨g,0,none⟩) [k,.slice A n c]) :
  Calls prog 138 #[.slice (some ⟨g,0,none⟩) 1 1] w fun e w'=>
   ∃A' c',e= .returned (.tuple #[.slice A' (kj (k,bs)).length c',.int .i64 0])∧w'.ownsRow w 5 1 (.slice A' (kj (k,bs)).length c') (kj (k,bs)).length ((kj (k,bs)).map iZ)∧cI w w':=by
 obtain⟨e1,e2⟩:=Gn (k,bs) h1 h2 (by simpa[hn]using h3);refine (wm (some ⟨g,0,none⟩) 1 1 [⟨k,A,n,c,bs⟩] w hg (by
  intro r b;rw[ew.1 b];exact ⟨hr,hn,d,hc⟩) rfl (by omega)).mono ?_
 rintro e w' ⟨v,he,a,hb⟩;rw[show [(⟨k,A,n,c,bs⟩:Rc)].map nK= [(k,bs)]from rfl]at he a;rw[e1]at he;rw[e2]at a;obtain⟨A',c',rfl,_⟩:=dN a;exact⟨A',c',he,a,hb⟩
def xJ(m k:Nat)(z:Int)(w:World)(hz:z=k)(hm:m<18446744073709551616)(hk:k≤8) :
  Calls prog 136 #[.int .u64 m,z] w fun e w'=>
   ∃A c,e= .returned (.slice A k c)∧w'.ownsRow w 5 1 (.slice A k c) k ((fi m k).map iZ)∧cI w w':=by
 subst hz;refine(zR m k w hm hk).mono ?_;rintro e w' ⟨v,he,a,hb⟩;obtain⟨A',c',rfl,_⟩:=dN a;exact⟨A',c',he,a,hb⟩
def St.UM{W w w':World}{bs:List (Nat× cH)}{rs:List (cG× cH)}{B:Nat}(S:St W w bs rs)(hb:Below B w w')(hB:W≤B)(hd:∀x∈bs,x.1<B):St W w' bs rs :=
 ⟨S.b.trans (hb.mono hB),fun i x hx i' u hu=>by
  have a:=hd x (eu hx);have:=S.bx i x hx i' u hu;exact ⟨(hb.cell (p:=⟨x.1,i',none⟩) a).trans this.1,(hb.frozen (p:=⟨x.1,i',none⟩) a).trans this.2⟩,S.rd⟩
def xF(w:World)(v:Value)(m:Ms)(h:AY w v m)(hv:qg m=true):Calls prog 82 #[v] w (qX w m):=by
 obtain⟨A,c,B,d,rfl,hl⟩:=h;have S:=(St.start w).nw #[m.k,m.n,m.b,m.h,m.y.o,m.y.s,m.y.a,.bool m.y.ov,.slice A m.y.adj.length c,.slice B m.y.pre.length d] 43 w.heap.size;unfold qX;have f:=qJ hv;obtain⟨⟨aj,ai⟩,hc⟩:=sX hv;clear hv;unfold jY pv at *;obtain⟨k,n,b,h,y⟩:=m;simp only at *;obtain⟨bb,rfl⟩:=de (show 0≤b by omega);have N1:=fun W=>xJ bb 4 4 W rfl (by omega) (by omega)
 replace N1:=φ N1;rcases hc with ⟨rfl,⟨N,ad⟩,⟨P,ag⟩,rfl⟩|⟨hk,rfl,rfl,hy⟩
 ·obtain⟨nn,rfl⟩:=de N;obtain⟨hh,rfl⟩:=de P;rw[cR rfl];rw[show(((nn:Int)).toNat)=nn from cU nn,show(((bb:Int)).toNat)=bb from cU bb,show(((hh:Int)).toNat)=hh from cU hh];clear f hl;obtain⟨L,hL⟩:∃L,kj (1,fi nn 2++(fi bb 4++fi hh 4))=L:=⟨_,rfl⟩
  rw[hL];replace hL:=φ hL;have N2:=fun W=>xJ nn 2 2 W rfl (by omega) (by omega)
  have N3:=fun W=>xJ hh 4 4 W rfl (by omega) (by omega)
  replace N2:=φ N2;replace N3:=φ N3;obtain⟨a0,a1,a2,a3,a4,a5,a6,a7,a8,a9⟩:=(S.box 0 rfl).iM;go_in;go_wp2_with fail;(with_reducible refine(N1.out _).mono ?_);rintro e w1 ⟨A1,c1,rfl,o1,hb⟩;clear a0 a1 a2 a3 a4 a5 a6 a7 a8 a9;replace S:=S.call hb;clear hb N1;replace o1:=dx o1 (show w.heap.size≤_ by simp);obtain⟨a0,a1,a2,a3,a4,a5,a6,a7,a8,a9⟩:=(S.box 0 rfl).iM;go_upto_region 3 with fail;have T:=S.drew;have R:=S.lt 0 rfl (by simp);have l1:((fi bb 4).map iZ).length=4*1:=by simp[eQ]
  have l3:((fi hh 4).map iZ).length=4*1:=by simp[eQ]
  have J:=S.b.size;generalize z:(fi bb 4).map iZ=L1 at *;generalize D:(fi nn 2).map iZ=L2 at *;generalize t:(fi hh 4).map iZ=L3 at *;have H:∀u∈L1,u.oneCell'=true:=by rw[←z];exact ni _
  have G:∀u∈L3,u.oneCell'=true:=by rw[←t];exact ni _
  have f1:2+4≤maxLen:=by simp[maxLen]
  have f2:6+4≤maxLen:=by simp[maxLen]
  replace z:=φ z;replace D:=φ D;replace t:=φ t;replace o1:w1.drew.ownsRow w.heap.size 5 1 (.slice A1 4 c1) 4 L1:=o1;clear S;have Z:IntKind.u64.wrap (nn:Int)=nn:=by rw[ze];omega
  have aa:IntKind.u64.wrap (hh:Int)=hh:=by rw[ze];omega
  have hz:w1.heap.size≤w1.drew.heap.size:=cj;obtain⟨-,a1,-,a3⟩:=(T.box 0 rfl).b4;have f3:(2+4)*1≤140737488355328:=by omega
  have f4:(6+4)*1≤140737488355328:=by omega
  have hd:∀x∈ [(w.heap.size,([.int .i64 1,.int .i64 nn,.int .i64 bb,.int .i64 hh,dT.o,dT.s,dT.a,.bool dT.ov,.slice A dT.adj.length c,.slice B dT.pre.length d]:cH))],x.1<w1.heap.size:=fun x hx=>by rw[ew.1 hx];exact R
  replace hd:=φ hd;have F:True:=trivial;have E:True:=trivial;go_region_law
   (first
    |(clear F;rw[cR (by simp[Region.wanted])];go_simp;(with_reducible refine(N2.out _).mono ?_);rintro e wa ⟨A2,c2,rfl,o2,l⟩;dsimp only;(try (have ap:=own_apart' o4 o2;replace o4:=dg o4 l));replace o2:=dx o2 hz;(try (replace o1:=dg o1 l));replace T:=T.call l;replace hz:=cZ hz l.size;clear l;(try (have a3:=T.c 0 3 rfl rfl)))
    |(clear E;rw[cR (by simp[Region.wanted])];go_simp;(with_reducible refine(N3.out _).mono ?_);rintro e wb ⟨A3,c3,rfl,o4,g⟩;dsimp only;(try (have ap:=own_apart o2 o4;replace o2:=dg o2 g));(try (replace o5:=dg o5 g));replace o4:=dx o4 hz;(try (replace o1:=dg o1 g));replace T:=T.call g;replace hz:=cZ hz g.size;clear g;(try (have a1:=T.c 0 1 rfl rfl)))
    |(refine fJ (o:=⟨some 18,_,_,_,_,_⟩) rfl jm (.tmp 16) (.tmp 17) (by rfl) w1.heap.size (by rfl) o2 (m:=4) (by rfl) l1 (ki o1).1 H f1 f3 hz 6 _ rfl rfl ?_;intro v5 w5 o5 j Q _;obtain⟨A5,c5,rfl,_⟩:=dN o5;replace T:=T.UM j J hd.out;replace hz:=cZ hz j.size;(try (replace o4:=own_grownM o4 Q ap));(try (have a3:=T.c 0 3 rfl rfl)))
    | (refine fJ (o:=⟨some 23,_,_,_,_,_⟩) rfl jm (.tmp 18) (.tmp 22) (by rfl) w1.heap.size (by rfl) o5 (m:=4) (by rfl) l3 (ki o4).1 G f2 f4 hz 10 _ rfl rfl ?_; intro v6 w6 o6 i ah _; obtain ⟨A6,c6,rfl,_⟩:=dN o6; replace T:=T.UM i J hd.out; replace hz:=cZ hz i.size))
  all_goals
   have e6:L2++L1++L3=(fi nn 2++(fi bb 4++fi hh 4)).map iZ:=by rw[←z.out,←D.out,←t.out];simp
   rw[e6]at o6;clear e6;have r:(fi nn 2++(fi bb 4++fi hh 4)).length=10:=by simp[eQ]
   have q:=cQ w6 (.cells #[.int .i64 1,.slice A6 10 c6] 248);obtain⟨r6,n6,m6⟩:=ki o6;have EN:=yy (w6.alloc (.cells #[.int .i64 1,.slice A6 10 c6] 248)) 1 A6 10 c6 (fi nn 2++(fi bb 4++fi hh 4)) w6.heap.size (by omega) (by omega) (by omega) (Rd.below r6 q) r n6 (by unfold maxLen at m6;omega) (Rd.lit w6 _ _);rw[hL.out]at EN;replace EN:=φ EN;have q0:=T.c 0 0 rfl rfl;have I:=T.b.size;clear o6 r6 r;go_wp2_with fail;(with_reducible refine(EN.out).mono ?_);rintro e w7 ⟨A7,c7,rfl,o7,hb⟩;replace T:=(T.call q).call hb;go_wp2;go_ret;exact⟨A7,c7,rfl,dx o7 (by simp;omega),T.b⟩
 ·have af:(k==1)=false:=by simp;omega
  rw[cN (by omega)]at f ⊢;rw[show(((bb:Int)).toNat)=bb from cU bb]at f ⊢;have ae:1≤k∧k≤255:=by omega
  clear hk;have K:(gv y).length≤2996:=by rw[cX,eQ]at f;omega
  have N2:=fun W hb=>R8 W _ y (hl.below hb) hy
  unfold GN at N2;clear hl hy;obtain⟨Y,hY⟩:∃Y,gv y=Y:=⟨_,rfl⟩
  rw[hY]at f K N2 ⊢;clear hY;obtain⟨L,hL⟩:∃L,kj (k,fi bb 4++Y)=L:=⟨_,rfl⟩
  rw[hL];replace hL:=φ hL;replace N2:=φ N2;obtain⟨a0,a1,a2,a3,a4,a5,a6,a7,a8,a9⟩:=(S.box 0 rfl).iM;go_in;go_wp2_with fail;(with_reducible refine(N1.out _).mono ?_);rintro e w1 ⟨A1,c1,rfl,o1,hb⟩;clear a0 a1 a2 a3 a4 a5 a6 a7 a8 a9;have X:=S.lt 0 rfl (by simp);have ac:=S.b.size;replace S:=S.call hb;replace o1:=dx o1 (show w.heap.size+1≤_ by simp);clear hb N1;obtain⟨a0,a1,a2,a3,a4,a5,a6,a7,a8,a9⟩:=(S.box 0 rfl).iM;go_wp2_with fail;(with_reducible refine(N2.out _ S.b).mono ?_);rintro e w3 ⟨A2,c2,rfl,o2,hb⟩;clear a0 a1 a2 a3 a4 a5 a6 a7 a8 a9;replace S:=S.call hb;replace o1:=dg o1 hb;have ab:=hb.size;clear hb N2;obtain⟨r2,n2,m2⟩:=ki o2;have M:=S.lt 0 rfl (by simp);have O:(Y.map iZ).length=Y.length*1:=by simp
  have a0:=S.c 0 0 rfl rfl;go_wp2_with (at_builtin;refine dK rfl jm (.tmp 24) (.tmp 27) rfl (w.heap.size+1) rfl o1 (m:=Y.length) rfl O r2 (ni _) (by simp only[maxLen];omega) (by omega) (by omega) (4+Y.length) ((fi bb 4++Y).map iZ) rfl (by simp) ?_;intro v3 w6 o3 C _ _;have q0:=(C.cell (p:=⟨w.heap.size,0,none⟩) (by simp)).trans a0;obtain⟨A6,c6,rfl,r3,n3,m3⟩:=dN o3);have I:w.heap.size≤w6.heap.size:=cZ (iR M) C.size;have V:cI w w6:=S.b.trans (C.mono (by omega));have r:(fi bb 4++Y).length=4+Y.length:=by simp[eQ]
  have o6:=o3;have q:=cQ w6 (.cells #[.int .i64 k,.slice A6 (4+Y.length) c6] 248);obtain⟨r6,n6,m6⟩:=ki o6;have EN:=yy (w6.alloc (.cells #[.int .i64 k,.slice A6 (4+Y.length) c6] 248)) k A6 (4+Y.length) c6 (fi bb 4++Y) w6.heap.size (by omega) (by omega) (by omega) (Rd.below r6 q) r n6 (by unfold maxLen at m6;omega) (Rd.lit w6 _ _);rw[hL.out]at EN;replace EN:=φ EN;(with_reducible refine(EN.out).mono ?_);rintro e w7 ⟨A7,c7,rfl,o7,hb⟩;have U:=V.trans ((q.mono I).trans (hb.mono (by simp;omega)));clear EN;go_wp2;go_ret;exact⟨A7,c7,rfl,dx o7 (by simp;omega),U⟩
end Go.Proofs.YtehimhbgakpenaaGreat
