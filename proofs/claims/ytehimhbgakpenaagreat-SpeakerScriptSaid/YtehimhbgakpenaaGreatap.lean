/- Lemmas. -/
import Derived.Test.YtehimhbgakpenaaGreatao
set_option linter.all false
set_option maxRecDepth 100000
set_option maxHeartbeats 16000000
namespace Go.Proofs.YtehimhbgakpenaaGreat
open Go.RowKit Go.Maps Go.Sort
structure Wx where
 l:Int
 m:Ms
 A:cG
 c:Nat
 B:cG
 d:Nat
def MQ(s:Wx):cH:=[s.l,s.m.k,s.m.n,s.m.b,s.m.h,s.m.y.o,s.m.y.s,s.m.y.a,s.m.y.ov,.slice s.A s.m.y.adj.length s.c,.slice s.B s.m.y.pre.length s.d]
def Bl:List Wx→cH
 | []=>[]
 |s :: l=>MQ s++Bl l
def QZ(l:List Wx):(Bl l).length=l.length*11:=by
 induction l with
 |nil=>rfl
 |cons r l ih=>simp only[Bl,MQ,cX,List.length_cons,List.length_nil,ih];omega
def G8(a b:List Wx):Bl (a++b)=Bl a++Bl b:=by
 induction a with
 |nil=>rfl
 |cons p r ih=>simp only[List.cons_append,Bl,ih,dI]
def Q1(l:List Wx):∀(k:Nat) (hk:k<l.length) (j:Nat) (hj:j<11),(Bl l)[k*11+j]?=(MQ l[k])[j]?:=by
 induction l with
 |nil=>intro k hk;simp at hk
 |cons p r ih=>
   intro k hk j hj;have h6:(MQ p).length=11:=rfl;cases k with
   |zero=>simp only[Bl,List.getElem_cons_zero];rw[eP (by omega)];simp
   |succ k=>
     simp only[Bl,List.getElem_cons_succ];rw[dY (by omega),h6,show(k+1)*11+j - 11=k*11+j by omega];exact ih k (by simpa using hk) j hj
def I7(p:Wx):∀u∈MQ p,u.oneCell'=true:=by
 intro u hu;simp only[MQ,dA,eF,ik]at hu;rcases hu with rfl|rfl|rfl|rfl|rfl|rfl|rfl|rfl|rfl|rfl|rfl<;>rfl
section
variable [Inhabited BY]
def xX(w:World)(base:Nat)(v:Value)(l:List (Int× Ms)):Prop:=∃A c xs,v= .slice A xs.length c∧w.ownsRow base 184 11 (.slice A xs.length c) xs.length (Bl xs)∧(∀s∈xs,l7 w s.m.y s.A s.c s.B s.d)∧xs.map (fun s=>(s.l,s.m))=l
def xX.nil(w:World)(base:Nat):xX w base (.slice none 0 0) []:=⟨none,0,[],rfl,cn,by simp,rfl⟩
def mX(w:World)(g:Nat)(m:Rm)(r:Sp× List (Int× Ms))(e:Ending)(w':World):Prop:=∃v,e= .returned v∧xX w' w v r.2∧jt w g m r.1 w'
structure Zo (mm:Ms):Prop where
 b:1≤mm.b∧mm.b≤1073741824
 k:mm.k=1∨mm.k=2∨mm.k=3
 y:mm.k≠1→dS mm.y
def Tw{S:Sp}{i:Nat}{p:Po}(hi:i<S.ps.length)(hp:S.ps[i]=p)(a:Yr p)(b h:Int):Ai S i b h=jl (qj (if p.bt≠b then jl S i 0 0 else S) i b) i (if h=S.bo then 2 else 1) S.h2:=by
 rw[D3 hi hp];unfold qM
 by_cases h1:p.ph≠0∧p.bt≠b
 ·rw[cR h1,cR h1.2]
 ·rw[cN h1]
  by_cases h2:p.bt≠b
  ·rw[cR h2];have h0:p.ph=0:=by
    by_cases e:p.ph=0
    ·exact e
    ·exact absurd ⟨e,h2⟩ h1
   have hl:p.lf=0:=by
    have:=a.st;unfold He.vQ at this;simp[h0]at this;omega
   congr 1
   have e1:jl S i 0 0= { S with ps:=S.ps.set i ⟨p.l,p.o,p.c,0,0,0⟩ }:=by
    have e0:He.oz p.ph 0=0:=by rw[h0];rfl
    have ep:QV S i=p.ph:=by unfold QV;rw[cM hi,hp]
    unfold jl;rw[ep,cR e0,uc hi,hp,cN (by rw[e0];decide),cN (by rw[e0];decide)];rfl
   rw[e1,pZ hi,hp,pZ (i:=i) (by simpa using hi)];simp only[lu,fG];rw[h0,hl]
  ·rw[cN h2]
def instR_123{N:Db}{a:La}(h:dS a):instR N a=1∨instR N a=2∨instR N a=3:=by
 unfold instR;rw[nA h,cR rfl];split
 ·split
  ·exact .inr (.inl rfl)
  ·split
   ·exact .inr (.inr rfl)
   ·exact .inl rfl
 ·exact .inl rfl
def instR_3{N:Db}{a:La}(h:instR N a=3):∃x,N a.o.toNat=some x:=by
 unfold instR at h;split at h
 ·split at h
  ·next x e=>exact⟨x,e⟩
  ·cases h
 ·cases h
def Bg.er{w w':World}(he:Er gL w w')(h:lF≤gL):Bg w w':=fun k hk h2=>by
 rcases h2 with ⟨T,hT,ht⟩|h2
 ·exact he.typed ht (PH hT)
 ·exact he.Y8 hk (by omega)
def Td:¬jC 43:=by unfold jC;decide
structure vN (w wx:World) (g:Nat) (m0 m:Rm) (S1:Sp) (k:Nat) (msg:cH) (y:La) (A:cG) (c:Nat) (B:cG) (d:Nat):Prop where
 M:gJ wx g m S1
 E:Er gL w wx
 n:m.f.now=m0.f.now
 bx:fq wx k msg
 ty:Ty wx k 43
 L:l7 wx y A c B d
section
variable {w wx w':World} {g:Nat} {m0 m m':Rm} {S1 S':Sp} {k:Nat} {msg:cH} {y:La} {A:cG} {c:Nat} {B:cG} {d:Nat}
def vN.step(V:vN w wx g m0 m S1 k msg y A c B d)(M':gJ w' g m' S')(E':Er gL wx w')(hn:m'.f.now=m.f.now):vN w w' g m0 m' S' k msg y A c B d :=
 ⟨M',V.E.trans E',hn.trans V.n,uf V.bx (E'.typed V.ty Td),E'.ty V.ty,V.L.kp (.er E' V.M.c.lo.1)⟩
def vN.below(V:vN w wx g m0 m S1 k msg y A c B d)(hb:cI wx w'):vN w w' g m0 m S1 k msg y A c B d:=V.step (V.M.below hb) (Er.below hb) rfl
def vN.drew(V:vN w wx g m0 m S1 k msg y A c B d):vN w wx.drew g m0 m S1 k msg y A c B d:=V.below cy.drew
def vN.to(V:vN w wx g m0 m S1 k msg y A c B d)(P:jt wx g m S' w'):∃m',vN w w' g m0 m' S' k msg y A c B d:=by
 obtain⟨m',h1,h2,h3⟩:=P;exact⟨m',V.step h1 h2 h3⟩
def vN.fin(V:vN w wx g m0 m S1 k msg y A c B d):jt w g m0 S1 wx:=⟨m,V.M,V.E,V.n⟩
abbrev ml(k n b h:Int)(y:La)(A:cG)(c:Nat)(B:cG)(d:Nat):cH:=[k,n,b,h,y.o,y.s,y.a,y.ov,.slice A y.adj.length c,.slice B y.pre.length d]
abbrev M6(W:World)(k:Nat)(y:La)(A:cG)(c:Nat)(B:cG)(d:Nat):Prop:=Cv W k 4 y.o∧Cv W k 5 y.s∧Cv W k 6 y.a∧Cv W k 7 (.bool y.ov)∧Cv W k 8 (.slice A y.adj.length c)∧Cv W k 9 (.slice B y.pre.length d)
def vN.m6{a b e h:Int}(V:vN w wx g m0 m S1 k (ml a b e h y A c B d) y A c B d):M6 wx k y A c B d:=⟨V.bx.c 4 rfl,V.bx.c 5 rfl,V.bx.c 6 rfl,V.bx.c 7 rfl,V.bx.c 8 rfl,V.bx.c 9 rfl⟩
def vN.rt(V:vN w wx g m0 m S1 k msg y A c B d)(l b:Int):xX (wx.alloc (.cells #[l,.int .i64 3,i0,b,i0,y.o,y.s,y.a,y.ov,.slice A y.adj.length c,.slice B y.pre.length d] 184)) w (.slice (some ⟨wx,0,none⟩) 1 1) [(l,⟨3,0,b,0,y⟩)]:=by
 refine⟨_,1,[⟨l,⟨3,0,b,0,y⟩,A,c,B,d⟩],rfl,qm (base:=w.heap.size) (e:=184) (size:=11) wx _ 1 V.E.size (by simp[maxLen]) rfl,fun s hs=>?_,rfl⟩
 rw[ew.1 hs];exact (V.below (cQ _ _)).L
end
def Zm(w wx:World)(g:Nat)(m0:Rm)(S1:Sp)(k:Nat)(msg:cH)(y:La)(A:cG)(c:Nat)(B:cG)(d:Nat):Prop:=∃m1,vN w wx g m0 m1 S1 k msg y A c B d
def AE(S:Sp)(i:Nat)(ph lf:Int):(jl S i ph lf).bo=S.bo∧(jl S i ph lf).h2=S.h2:=by
 have h1:=wQ S i ph lf;have h2:=xH (jB S i ph lf);unfold jl;split
 ·exact h1
 ·exact⟨h2.1.trans h1.1,h2.2.trans h1.2⟩
def NV(w:World)(g:Nat)(m:Rm)(S:Sp)(M:gJ w g m S)(ok:eO S)(i:Nat)(hi:i<S.ps.length)(mm:Ms)(A:cG)(c:Nat)(B:cG)(d:Nat)(bi:l7 w mm.y A c B d)(bR:Zo mm) :
  Calls Tryz.prog 83 #[pt g,i,Ih mm A c B d] w (mX w g m (gV S i mm)):=by
 obtain⟨gp,hP⟩:=M.gp (by omega);obtain⟨p,hp⟩:=ex (S.ps[i])
 have a9:=ok.ps p (by rw[←hp];exact di hi);have bC:=a9.l;obtain⟨q,hq⟩:=de bC.1;have aW:q<256:=by omega
 have G:gV S i mm=(if mm.k=1 then(Ai S i mm.b mm.h,[])else if p.ph≠2∨p.bt≠mm.b then(S,[])else if mm.k=2 then((jz S p.l mm.y).1,if (jz S p.l mm.y).2=true then [(p.l,⟨3,0,S.bo,0,mm.y⟩)]else [])else({ S with fl:=pM S.fl p.l.toNat mm.y },[])):=by
  unfold gV;rw[cM hi,hp]
 have ax:=Tw hi hp a9 mm.b mm.h;have bI:=ok.bo;have bm:=ok.h2;have bA:=ok.nd;obtain⟨mk,mn,mb,mh,y⟩:=mm;obtain⟨bS,bc,bb⟩:=bR;simp only at bi bS bc bb G ax;have bd:=cQ w (.cells #[mk,mn,mb,mh,y.o,y.s,y.a,y.ov,.slice A y.adj.length c,.slice B y.pre.length d] 43);have bx:=fq.iE w #[mk,mn,mb,mh,y.o,y.s,y.a,y.ov,.slice A y.adj.length c,.slice B y.pre.length d] 43 w _ rfl rfl;have M1:=M.below bd;have V1:vN w (w.alloc (.cells #[mk,mn,mb,mh,y.o,y.s,y.a,y.ov,.slice A y.adj.length c,.slice B y.pre.length d] 43)) g m m S w (ml mk mn mb mh y A c B d) y A c B d:=⟨M1,Er.below bd,rfl,bx,jk _ _ _,bi.below bd⟩
 have b1:gp<w:=dm _ _ (M.own hP hi hp).c0;have bX:g<w:=jo M.c.ty;have i9:=M1.c9 hP;have C:=M1.own hP hi hp;have c0:=C.c0;change Hid _ at G ax bI bm bA bc bb hP hp hq a9 V1 ok;have bY:w.heap.size≤w.heap.size:=cj;clear M M1 bd bi C bC bx;go_in;go_upto_region 2 with fail;clear i9 c0;generalize World.alloc w _=w1 at *;have b0:=V1.out.bx.c 0 rfl
 by_cases aQ:mk=1
 ·have e1:(mk==1)=true:=by simp[aQ]
  rw[cR aQ]at G;replace aQ:=φ aQ;go_upto_region 3 with fail;clear b0;have V2:=V1.out.drew;clear V1;have C:=V2.M.own hP hi hp;refine gZ (S:=fun W=>Cv W g 9 (.slice (some ⟨gp,0,none⟩) S.ps.length m.cp)∧Cv W gp (i*6+3) p.bt∧Cv W w 2 mb) [] ⟨V2.M.c9 hP,C.c3,V2.bx.c 2 rfl⟩ (fun u=>?_);generalize w1.drew=w2 at *;clear C;replace V2:=φ V2;(iterate 3 refine uA ?_);refine zA ?_;(iterate 3 refine uA ?_);refine zA ?_;refine uA ?_;refine zA ?_;refine uA ?_;refine dZ ?_;clear u;obtain⟨S1,aB⟩:∃S1,S1=(if p.bt≠mb then jl S i 0 0 else S):=⟨_,rfl⟩
  rw[←aB]at ax;have a8:eO S1:=by
   rw[aB];split
   ·exact ok.out.UL hi (by decide)
   ·exact ok
  have aJ:i<S1.ps.length:=by
   rw[aB];split
   ·rw[Gx];exact hi
   ·exact hi
  have bz:S1.bo=S.bo∧S1.h2=S.h2:=by
   rw[aB];split
   ·exact AE _ _ _ _
   ·exact⟨rfl,rfl⟩
  have BE:=φ (Eg w2 g m S V2.out.M ok i hi 0 0 (by decide));change Hid _ at aB a8;go_upto_if 33 with fail;go_cut [] (fun wx=>Zm w wx g m S1 w (ml mk mn mb mh y A c B d) y A c B d)
  case first=>
   by_cases ak:p.bt=mb
   ·have e2:(p.bt !=mb)=false:=by simp[ak]
    have hf:Zm w w2 g m S1 w (ml mk mn mb mh y A c B d) y A c B d:=by
     rw[aB.out,cN (by simp[ak])];exact⟨m,V2⟩
    clear BE V2 ak;go_wp2;go_meet;exact hf
   ·have e2:(p.bt !=mb)=true:=by simp[ak]
    have a6:=aB.out;rw[cR ak]at a6;replace a6:=φ a6;clear ak;go_wp2_with fail;refine BE.out.mono ?_;rintro e w3 ⟨rfl,P⟩;have hf:Zm w w3 g m S1 w (ml mk mn mb mh y A c B d) y A c B d:=by
     rw[a6.out];exact V2.out.to P
    clear BE V2 a6 P;go_wp2;go_meet;exact hf
  case rest=>
   obtain⟨m1,V3⟩:=hcut;clear BE V2 e1;obtain⟨bL,aH⟩:=V3.M.gp (by omega);obtain⟨p2,ba⟩:=ex (S1.ps[i]'aJ)
   have aR:bL≠w.heap.size:=fun e=>by
    have ho:=V3.M.ow;rw[aH]at ho;have:=fY ho rfl;rw[e]at this;exact absurd (kg this V3.ty) (by decide)
   change Hid _ at aH ba V3;go_upto_region 5 with fail;have V4:=V3.out.drew;clear V3;refine gZ (S:=fun W=>Cv W g 9 (.slice (some ⟨bL,0,none⟩) S1.ps.length m1.cp)∧Cv W w 2 mb) [9] ⟨V4.M.c9 aH,V4.bx.c 2 rfl⟩ (fun u=>?_);generalize wc.drew=w4 at *;have c3:=(V4.M.own aH aJ ba.out).c3;have z3:=V4.M.Uw aH (i*6+3);obtain⟨M5,E5⟩:=V4.M.WE aH aJ mb;have V5:=V4.step M5 E5 rfl;rw[←pZ aJ mb]at V5;clear M5 E5 V4;replace V5:=φ V5;(iterate 3 refine uA ?_);refine zA ?_;(iterate 2 refine uA ?_);refine zA ?_;(iterate 2 refine uA ?_);refine rZ 9 (fun K hK=>?_);go_simp;refine zZ hK ?_;clear hK K u c3 z3;refine dZ ?_;generalize World.setCell w4 _ _=w5 at *;have bT:i< (qj S1 i mb).ps.length:=by rw[wZ];exact aJ
   have aO:eO (qj S1 i mb):=a8.out.bot aJ (by omega);have aD:(qj S1 i mb).bo=S.bo∧(qj S1 i mb).h2=S.h2:=by
    rw[pZ aJ];exact bz
   generalize qj S1 i mb=S2 at *;obtain⟨aT,aX⟩:∃z:Int,z=(if mh=S.bo then 2 else 1):=⟨_,rfl⟩
   rw[←aX]at ax;have bQ:He.vQ aT S.h2=true:=by
    have:=bm.out;unfold He.vQ;rw[aX];split<;>simp<;>omega
   replace aD:=φ aD;clear ba aH bz a8 aB;go_upto_region 6 with fail;have V6:=V5.out.drew;clear V5;have i4:=V6.M.c0 4 rfl;have i6:=V6.M.c0 6 rfl;rw[aD.out.1]at i4;rw[aD.out.2]at i6;refine gZ (S:=fun W=>Cv W g 4 S.bo∧Cv W g 6 S.h2∧Cv W w 3 mh) [] ⟨i4,i6,V6.bx.c 3 rfl⟩ (fun u=>?_);generalize w5.drew=w6 at *;clear i4 i6;replace V6:=φ V6;have RR:=φ (fun W=>He.DC (mh==S.bo) S.h2 W);(iterate 3 refine uA ?_);refine zA ?_;(iterate 3 refine uA ?_);refine zA ?_;(iterate 4 refine uA ?_);refine zA ?_;refine rZ 13 (fun K hK=>?_);go_simp;refine (RR _).mono ?_;rintro e w7 ⟨rfl,bJ⟩;dsimp only;have V7:=V6.out.below bJ;have i4:=V7.M.c0 4 rfl;have i6:=V7.M.c0 6 rfl;rw[aD.out.1]at i4;rw[aD.out.2]at i6;refine hK _ _ (fun _=>⟨i4,i6,V7.bx.c 3 rfl⟩) (fun t=>?_);clear u;have u:=t (by decide);have a4:(if mh=S.bo then(2:Int)else 1)=aT:=aX.symm;have B2:=Eg w7 g m1 S2 V7.M aO i bT aT S.h2 bQ;rw[←a4]at B2;clear hK K t i4 i6 V6 RR bJ;change Hid _ at V7 a4;replace B2:=φ B2;refine rZ 14 (fun K hK=>?_);go_simp;refine B2.out.mono ?_;rintro e w8 ⟨rfl,P⟩;dsimp only;rw[a4.out]at P;obtain⟨m8,V8⟩:=V7.out.to P;have bH:(jl S2 i aT S.h2).bo=S.bo:=(AE _ _ _ _).1.trans aD.out.1;have bG:(jl S2 i aT S.h2).h2=S.h2:=(AE _ _ _ _).2.trans aD.out.2;have i4:=V8.M.c0 4 rfl;have i6:=V8.M.c0 6 rfl;rw[bH]at i4;rw[bG]at i6;refine hK _ _ (fun _=>⟨i4,i6,V8.bx.c 3 rfl⟩) (fun t=>?_);clear u t hK K i4 i6 B2 P;refine dZ ?_;rw[a4.out];have bW:Hid (∀b:Bool,(mh==S.bo)=b→True):=fun _ _=>trivial
   generalize bV:(mh==S.bo)=bq at *;clear bV bW;have hf:mX w g m (gV S i ⟨mk,mn,mb,mh,y⟩) (.returned sn) w8:=by
    rw[G.out,ax.out];exact⟨_,rfl,xX.nil _ _,V8.fin⟩
   clear V7 V8 bH bG;go_wp2;go_ret;exact hf
 ·have e1:(mk==1)=false:=by simp[aQ]
  rw[cN aQ]at G;go_upto_region 8 with fail;clear b0 e1;have C:=V1.out.M.own hP hi hp;have i9:=V1.out.M.c9 hP;have c3:=C.c3;have c4:=C.c4;have b2:=V1.out.bx.c 2 rfl;clear C
  by_cases az:p.ph=2
  ·have e2:(p.ph !=2)=false:=by simp[az]
   by_cases ak:p.bt=mb
   ·have e3:(p.bt !=mb)=false:=by simp[ak]
    rw[cN (by simp[az,ak])]at G;obtain⟨D0,aS⟩:∃D0,S.fl q=some D0:=dC.1 ((ok.out.up q).2 ⟨p,by rw[←hp.out];exact di hi,hq,az⟩);have aI:p.l.toNat=q:=by rw[hq.out];rfl
    change Hid _ at az ak aS;replace G:=φ G;go_quiet (fail);have V2:=V1.out.below (JZ nq);clear V1 i9 c3 c4 b2 e2 e3;generalize World.drewN w1 nq=w2 at *;replace V2:=φ V2;go_upto_region 10 with fail;have b0:=V2.out.bx.c 0 rfl
    by_cases aZ:mk=3
    ·have e1:(mk==3)=true:=by simp[aZ]
     rw[cN (by omega),aI]at G;change Hid _ at aZ aI;go_upto_region 11 with fail;have ab:=V2.out.drew;clear V2;have D:=ab.M.fc;refine gZ (S:=fun W=>F4 W g m∧M6 W w y A c B d) [14] ⟨D.a,ab.m6⟩ (fun u=>?_);generalize w2.drew=bw at *;clear D b0 e1;have aj:=ab.M.sz;have CT:=φ (Fd.zK bw m.A m.c m.B m.d m.f ab.M.ME ab.M.KP ab.M.dP (by omega) p.l ⟨y,A,c,B,d⟩ ab.L.la);have Y:=φ (Fd.Ej (P:=fun s=>l7 bw s.y s.A s.c s.B s.d) ab.M.v.it p.l y);have hrel:=(ab.M.p.fl.Zk aW aS y).2;rw[←hq.out]at hrel;replace hrel:=φ hrel;have O:=Fd.IM m.f p.l y;clear aj;replace ab:=φ ab;(iterate 4 refine uA ?_);refine zA ?_;(iterate 2 refine uA ?_);refine zA ?_;refine rZ 8 (fun K hK=>?_);go_simp;refine CT.out.mono ?_;rintro e bP ⟨A2,c2,B2,d2,rfl,Z,aa,U⟩;dsimp only;have ag:=ab.out.below U;have D:=ag.M.fc;refine hK _ _ (fun _=>⟨D.a,ag.m6⟩) (fun t=>?_);clear u;have u:=t (by decide);clear hK K t D;(iterate 5 refine uA ?_);obtain⟨M9,E9⟩:=ab.out.M.MH Z aa U _ hrel O Y;have V9:=ab.out.step M9 E9 O.2;have y0:=ag.M.Qa;have x0:=ag.M.fc.a;obtain⟨bv,H⟩:=ex (im bP g (Fd.Bw m.f p.l y) A2 c2 B2 d2)
     rw[H]at V9;obtain⟨mA,VA⟩:∃m9,vN w bv g m m9 ({ S with fl:=Fd.eY S.fl q (Fd.pN D0 y) }) w (ml mk mn mb mh y A c B d) y A c B d:=⟨_,V9⟩
     unfold im at H;change Hid _ at H VA;clear M9 E9 V9 Z aa U O CT hrel Y ab ag u;refine rZ 14 (fun K hK=>?_);go_simp;refine zZ hK ?_;clear hK K y0 x0;rw[H.out];clear H;refine dZ ?_;have hf:mX w g m (gV S i ⟨mk,mn,mb,mh,y⟩) (.returned sn) bv:=by
      rw[G.out];have e9:pM S.fl q y=Fd.eY S.fl q (Fd.pN D0 y):=by unfold pM;rw[aS.out]
      rw[e9];exact⟨_,rfl,xX.nil _ _,VA.out.fin⟩
     clear VA;go_wp2;go_ret;exact hf
    ·have bl:mk=2:=by rcases bc.out with h|h|h<;>omega
     have e1:(mk==3)=false:=by simp[aZ]
     rw[cR bl]at G;have am:=bb.out (by omega);clear aZ;change Hid _ at bl am;go_upto_region 13 with fail;clear b0 e1;have b4:=V2.out.bx.c 4 rfl;have i3:=V2.out.M.c0 3 rfl;unfold qB at i3
     by_cases ho:y.o=S.nd
     ·have e1:(y.o==S.nd)=true:=by simp[ho]
      go_quiet (fail);have V3:=V2.out.below (JZ nq);clear V2 b4 i3 e1;generalize World.drewN w2 nq=w3 at *;have AG:=Ro.Ip V3.M.p.ro V3.M.p.ri V3.M.p.rl (a:=y);obtain⟨r,hr⟩:=ex (gI S.x S.md y)
      obtain⟨z,hz⟩:=ex (Ro.mN m.o y)
      rw[hr,hz]at AG;obtain⟨bu,bs,br,bp,bn⟩:=AG;have bE:0≤m.o.floor:=by rw[V3.M.p.ro.2.1];exact ok.out.xs.1
      have a2:(r.err=0)∨(r.err=6∧r.made=false∧r.x=S.x∧r.now=S.md):=by
       rw[←hr];unfold gI;rw[cR ⟨nA am.out,ho.trans ok.out.xo.symm⟩,cR ok.out.xm];split
       ·exact .inl rfl
       ·split
        ·exact .inr ⟨rfl,rfl,rfl,rfl⟩
        ·exact .inl rfl
      have aq:iT S y= { S with x:=r.x,md:=r.now }:=by unfold iT;rw[cR ho,hr]
      have aO:eO (iT S y):=by
       have hx:=ok.out.xk.XX y;rw[←ok.out.xm,hr]at hx;rw[aq];exact ok.out.Hu hx.1 (hx.2.trans ok.out.xm)
      have bh:Hid (r.made=true→jz S p.l y=(nF (iT S y),false)):=fun e=>zU S p.l y ho (by rw[hr];exact e)
      have bg:Hid (r.made=false→r.err≠0→jz S p.l y=(iT S y,false)):=fun e e2=>CS S p.l y ho (by rw[hr];exact e) (by rw[hr];exact e2)
      have bf:Hid (r.made=false→r.err=0→jz S p.l y=rR (iT S y) p.l y):=fun e e2=>Jb S p.l y (fun _=>by rw[hr];exact⟨e,e2⟩)
      have al:Hid ((iT S y).bo=S.bo):=by show _=_;rw[aq]
      have aC:Hid ((iT S y).fl q=some D0):=by show _=_;rw[aq];exact aS
      have OS:=fun W2 (hB:Below w3.drew.heap.size w3.drew W2)=>Ro.KR w3.drew W2 hB (Ro.sk m.o m.oA m.oc m.oB m.od) (yE y A c B d) m.o y ⟨_,_,_,_,rfl,V3.drew.M.v.og.ro⟩ V3.drew.L.ro bE
      rw[hz]at OS;change Hid _ at bu bs br bp bn a2 aq aO ho V3;replace OS:=φ OS;clear hr hz bE;go_upto_region 14 with fail;go_cut [8,9,10] (fun v8 v9 v10 wx=>UT w3.drew z v8 v9 v10 wx)
      case first=>
       have V4:=V3.out.drew;clear V3;refine gZ (S:=fun W=>Cv W g 526 m.o.node∧Cv W g 527 m.o.floor∧Cv W g 528 m.o.is∧Cv W g 529 m.o.now.o∧Cv W g 530 m.o.now.s∧Cv W g 531 m.o.now.a∧Cv W g 532 m.o.now.ov∧Cv W g 533 (.slice m.oA m.o.now.adj.length m.oc)∧Cv W g 534 (.slice m.oB m.o.now.pre.length m.od)∧Cv W g 535 m.o.since∧M6 W w y A c B d) [12] ⟨V4.M.oc.c0,V4.M.oc.c1,V4.M.oc.c2,V4.M.oc.c3,V4.M.oc.c4,V4.M.oc.c5,V4.M.oc.c6,V4.M.oc.c7,V4.M.oc.c8,V4.M.oc.c9,V4.m6⟩ (fun u=>?_);generalize w3.drew=w4 at *;replace V4:=φ V4;(iterate 3 refine uA ?_);refine zA ?_;refine uA ?_;refine zA ?_;refine mV (rs:=[6,11]) (by kernel_rfl) (by simp) ?_;refine iK rfl (fun K hK=>?_) (iK rfl (fun K hK=>?_) mQ)
       ·go_simp;refine (OS w4 cy).mono ?_;rintro e wa ⟨v,rfl,aV,aG⟩;obtain⟨A',c',B',d',rfl,L⟩:=wk aV;dsimp only;have V5:=V4.out.below aG;refine hK _ _ (fun _=>⟨V5.M.oc.c0,V5.M.oc.c1,V5.M.oc.c2,V5.M.oc.c3,V5.M.oc.c4,V5.M.oc.c5,V5.M.oc.c6,V5.M.oc.c7,V5.M.oc.c8,V5.M.oc.c9,V5.m6⟩) (fun t=>?_);replace u:=t (by decide);clear hK K t aV V4;(iterate 4 refine uA ?_);have aj:=aG.size;have T:=((St.start w4).call aG).nw #[i0,i0,false,i0,i0,i0,false,sn,sn,i0] 63 wa;replace V5:=V5.below (cQ wa (.cells #[i0,i0,false,i0,i0,i0,false,sn,sn,i0] 63));refine rZ 11 (fun K hK=>?_);go_simp;refine hK _ _ (fun _=>⟨V5.M.oc.c0,V5.M.oc.c1,V5.M.oc.c2,V5.M.oc.c3,V5.M.oc.c4,V5.M.oc.c5,V5.M.oc.c6,V5.M.oc.c7,V5.M.oc.c8,V5.M.oc.c9,V5.m6⟩) (fun t=>?_);replace u:=t (by decide);clear hK K t aG;generalize wa.alloc _=wb at *;generalize bj:wa.heap.size=kb at *;clear bj;have S9:=T.iD (.int .i64 z.r.node) (.int .i64 z.r.floor) (.bool z.r.is) (.int .i64 z.r.now.o) (.int .i64 z.r.now.s) (.int .i64 z.r.now.a) (.bool z.r.now.ov) (.slice A' z.r.now.adj.length c') (.slice B' z.r.now.pre.length d') (.int .i64 z.r.since) (by omega) (by simp);have L9:=L.below S9.b;have b9:=S9.b;have x9:=S9.box 0 rfl;obtain⟨f0,f1,f2,f3,f4,f5,f6,f7,f8,f9⟩:=(T.box 0 rfl).f10;obtain⟨q0,q1,q2,q3,q4,q5,q6,q7,q8,q9⟩:=(T.box 0 rfl).iM;clear S9 V5 OS;refine rZ 12 (fun K hK=>?_);go_simp;refine zZ hK ?_;clear hK K u f0 q0;(iterate 2 refine uA ?_);refine dZ ?_;go_wp2;go_meet;exact⟨_,A',c',B',d',rfl,rfl,rfl,b9,(by omega),x9,L9⟩
       ·have T:=(St.start w4).nw #[i0,i0,false,i0,i0,i0,false,sn,sn,i0] 63 w4;have bM:=OS.out (w4.alloc (.cells #[i0,i0,false,i0,i0,i0,false,sn,sn,i0] 63)) (cQ _ _);have V5:=V4.out.below (cQ w4 (.cells #[i0,i0,false,i0,i0,i0,false,sn,sn,i0] 63));have bj:w4.heap.size≤w4.heap.size:=cj;go_simp;refine hK _ _ (fun _=>⟨V5.M.oc.c0,V5.M.oc.c1,V5.M.oc.c2,V5.M.oc.c3,V5.M.oc.c4,V5.M.oc.c5,V5.M.oc.c6,V5.M.oc.c7,V5.M.oc.c8,V5.M.oc.c9,V5.m6⟩) (fun t=>?_);replace u:=t (by decide);clear hK K t V4;generalize w4.alloc _=wb at *;refine rZ 6 (fun K hK=>?_);go_simp;refine bM.mono ?_;rintro e wa ⟨v,rfl,aV,aG⟩;obtain⟨A',c',B',d',rfl,L⟩:=wk aV;dsimp only;replace V5:=V5.below aG;replace T:=T.call aG;refine hK _ _ (fun _=>⟨V5.M.oc.c0,V5.M.oc.c1,V5.M.oc.c2,V5.M.oc.c3,V5.M.oc.c4,V5.M.oc.c5,V5.M.oc.c6,V5.M.oc.c7,V5.M.oc.c8,V5.M.oc.c9,V5.m6⟩) (fun t=>?_);replace u:=t (by decide);clear hK K t aV aG bM;(iterate 4 refine uA ?_);have S9:=T.iD (.int .i64 z.r.node) (.int .i64 z.r.floor) (.bool z.r.is) (.int .i64 z.r.now.o) (.int .i64 z.r.now.s) (.int .i64 z.r.now.a) (.bool z.r.now.ov) (.slice A' z.r.now.adj.length c') (.slice B' z.r.now.pre.length d') (.int .i64 z.r.since) (by omega) (by simp);have L9:=L.below S9.b;have b9:=S9.b;have x9:=S9.box 0 rfl;have f0:=(T.box 0 rfl).f10;have q0:=(T.box 0 rfl).iM;clear S9 V5 OS;refine rZ 12 (fun K hK=>?_);go_simp;refine zZ hK ?_;clear hK K u f0 q0;(iterate 2 refine uA ?_);refine dZ ?_;go_wp2;go_meet;exact⟨_,A',c',B',d',rfl,rfl,rfl,b9,(by omega),x9,L9⟩
      case rest=>
       obtain⟨kb,A',c',B',d',rfl,rfl,rfl,bK,bj,bk,L5⟩:=hcut;have V5:=V3.out.drew.below bK;have aM:=br.out;clear V3 OS bK;rcases a2.out with he|⟨he,bB,hex,bF⟩
       ·have a1:z.err=0:=aM.symm.trans he;rw[a1];obtain⟨M6,E6⟩:=V5.M.Dx r.x r.now z.r A' c' B' d' L5 bu bp bn;have V6:=V5.step M6 E6 rfl;rw[←aq.out]at V6;obtain⟨w6,aP⟩:=ex (iD wc g z.r A' c' B' d')
        rw[aP]at V6;obtain⟨m6,V7⟩:∃m9,vN w w6 g m m9 (iT S y) w (ml mk mn mb mh y A c B d) y A c B d:=⟨_,V6⟩
        unfold iD at aP;replace aP:=φ aP;obtain⟨x0,x1,x2,x3,x4,x5,x6,x7,x8,x9⟩:=bk.iM;obtain⟨o0,o1,o2,o3,o4,o5,o6,o7,o8,o9⟩:=V5.M.oc;have z0:=V5.M.of (j:=0) (by omega) rfl;have z1:=V5.M.of (j:=1) (by omega) rfl;have z2:=V5.M.of (j:=2) (by omega) rfl;have z3:=V5.M.of (j:=3) (by omega) rfl;have z4:=V5.M.of (j:=4) (by omega) rfl;have z5:=V5.M.of (j:=5) (by omega) rfl;have z6:=V5.M.of (j:=6) (by omega) rfl;have z7:=V5.M.of (j:=7) (by omega) rfl;have z8:=V5.M.of (j:=8) (by omega) rfl;have z9:=V5.M.of (j:=9) (by omega) rfl;have bZ:g<wc:=jo V5.M.c.ty;have aN:=bs.out;replace V7:=φ V7;have bU:=φ he;clear bk L5 V5 M6 E6 V6 he a1 aM;go_upto_region 18 with fail;clear x0 x1 x2 x3 x4 x5 x6 x7 x8 x9 o0 o1 o2 o3 o4 o5 o6 o7 o8 o9 z0 z1 z2 z3 z4 z5 z6 z7 z8 z9;rw[aP.out];clear aP;rcases hm:z.made with _|_
        ·have aF:=bf.out (aN.trans hm) bU;have aY:=aO;clear bh bg bf aN;rw[aF]at G;have aA:=qR aY.out.db (a:=y) gH.1;obtain⟨N1,aw⟩:=ex (instN (iT S y).db y)
         obtain⟨ir,ao⟩:=ex (instR (iT S y).db y)
         have au:ir=1∨ir=2∨ir=3:=by rw[←ao];exact instR_123 am
         have h3:ir=3→ ∃h,N1 y.o.toNat=some h:=fun e=>by
          obtain⟨h,h1⟩:=instR_3 (ao.trans e);rw[←aw];unfold instN;rw[cN (by rw[ao,e];simp)];exact⟨h,h1⟩
         rw[aw]at aA;unfold rR at G;rw[ao,aw]at G;go_upto_region 22 with fail;have Q:=V7.out.drew;clear V7;have IN:=qc w6.drew m6.R (yE y A c B d) y Q.M.KW Q.L.la am;rw[Q.M.p.db,ao,aw]at IN;change Hid _ at au h3 aA G;clear ao aw aF;refine gZ (S:=fun W=>W.rangeAt g 10 (fP m6.R)∧M6 W w y A c B d) [13] ⟨Q.M.c.pd.range,Q.m6⟩ (fun u=>?_);generalize w6.drew=bO at *;replace Q:=φ Q;replace IN:=φ IN;(iterate 4 refine uA ?_);refine pS (i:=4) (R:=m6.R) (some 135) rfl rfl (by kernel_rfl) (by kernel_rfl) (by kernel_rfl) (by kernel_rfl) (fun _ _ _ h=>h) rfl (.tmp 134) rfl (g:=g) (off:=10) rfl (fun w hw=>hw.1) u ?_
         try simp only[Act.put,eH,List.set_cons_succ,List.set_cons_zero]
         refine uA ?_;refine zA ?_;refine rZ 7 (fun K hK=>?_);go_simp;refine IN.out.mono ?_;rintro e be ⟨R',rfl,a0,a3,a5⟩;dsimp only;have V:=Q.out.below a5;refine hK _ _ (fun _=>⟨V.M.c.pd.range,V.m6⟩) (fun t=>?_);clear u;have u:=t (by decide);clear hK K t Q IN a5;(iterate 5 refine uA ?_);refine tv (i:=13) (R:=m6.R) (R':=R') none (by kernel_rfl) rfl rfl rfl (.tmp 142) (.tmp 139) rfl (g:=g) (off:=10) rfl rfl V.M.c.pd (by decide) ?_;clear u;refine uA ?_;refine dZ ?_;obtain⟨M5,E5⟩:=V.M.RL R' _ a3 (DF V.M.v.rd a0 V.L);have V5:=V.step M5 E5 rfl;clear V M5 E5 a0 a3;generalize be.setCells g 10 (fP R')=ay at *;obtain⟨mI,VI⟩:∃m9,vN w ay g m m9 ({ (iT S y)with db:=N1 }) w (ml mk mn mb mh y A c B d) y A c B d:=⟨_,V5⟩
         clear V5;replace VI:=φ VI;rcases au.out with he|he|he
         ·subst he;rw[cR rfl]at G;go_upto_region 27 with fail;have n:=VI.out.drew;clear VI;have D:=n.M.fc;refine gZ (S:=fun W=>F4 W g mI∧M6 W w y A c B d) [11] ⟨D.a,n.m6⟩ (fun u=>?_);generalize ay.drew=ae at *;clear D;have aj:=n.M.sz;have CT:=φ (Fd.pV ae mI.A mI.c mI.B mI.d mI.f n.M.ME n.M.KP n.M.dP (by omega) ⟨y,A,c,B,d⟩ n.L.la p.l);have Y:=φ (Fd.yT (P:=fun s=>l7 ae s.y s.A s.c s.B s.d) n.M.v.it (a:=⟨y,A,c,B,d⟩) n.L p.l);have hrel:=φ (n.M.p.fl.spread (a:=⟨y,A,c,B,d⟩) am p.l);have O:=Fd.zy mI.f ⟨y,A,c,B,d⟩ p.l;clear aj;replace n:=φ n;(iterate 4 refine uA ?_);refine zA ?_;refine uA ?_;refine zA ?_;refine uA ?_;refine rZ 8 (fun K hK=>?_);go_simp;refine CT.out.mono ?_;rintro e ap ⟨A2,c2,B2,d2,rfl,Z,aa,U⟩;dsimp only;have F:=n.out.below U;have D:=F.M.fc;refine hK _ _ (fun _=>⟨D.a,F.m6⟩) (fun t=>?_);clear u;have u:=t (by decide);clear hK K t D;(iterate 2 refine uA ?_);obtain⟨M9,E9⟩:=n.out.M.MH Z aa U _ hrel O Y;have V9:=n.out.step M9 E9 O.2;have y0:=F.M.Qa;have x0:=F.M.fc.a;obtain⟨ad,H⟩:=ex (im ap g (Fd.EW mI.f ⟨y,A,c,B,d⟩ p.l) A2 c2 B2 d2)
          rw[H]at V9;obtain⟨mP,VP⟩:∃m9,vN w ad g m m9 ({ { (iT S y)with db:=N1 }with fl:=Fd.zv (iT S y).fl y p.l }) w (ml mk mn mb mh y A c B d) y A c B d:=⟨_,V9⟩
          unfold im at H;change Hid _ at H VP;clear M9 E9 V9 Z aa U O CT hrel Y n F u;refine rZ 11 (fun K hK=>?_);go_simp;refine zZ hK ?_;clear hK K y0 x0;rw[H.out];clear H;refine dZ ?_;have ah:lX (iT S y).fl y p.l=Fd.zv (iT S y).fl y p.l:=by unfold lX;rw[cR (nA am.out)]
          replace G:=φ (G);rw[ah]at G;clear ah;go_upto_region 30 with fail;have N:=VP.out.drew;clear VP;have i4:=N.M.c0 4 rfl;simp only[al.out]at i4;refine gZ (S:=fun W=>Cv W g 4 S.bo∧M6 W w y A c B d) [] ⟨i4,N.m6⟩ (fun u=>?_);generalize ad.drew=X at *;have bN:=cQ X (.cells #[p.l,.int .i64 3,i0,S.bo,i0,y.o,y.s,y.a,y.ov,.slice A y.adj.length c,.slice B y.pre.length d] 184);have J:=N.below bN;have i5:=J.M.c0 4 rfl;simp only[al.out]at i5;have hf:mX w g m (gV S i ⟨mk,mn,mb,mh,y⟩) (.returned (.slice (some ⟨X,0,none⟩) 1 1)) (X.alloc (.cells #[p.l,.int .i64 3,i0,S.bo,i0,y.o,y.s,y.a,y.ov,.slice A y.adj.length c,.slice B y.pre.length d] 184)):=by
           rw[G.out];exact⟨_,rfl,N.rt p.l S.bo,J.fin⟩
          (iterate 4 refine uA ?_);refine zA ?_;refine uA ?_;refine zA ?_;(iterate 2 refine uA ?_);refine rZ 9 (fun K hK=>?_);go_simp;refine hK _ _ (fun _=>⟨i5,J.m6⟩) (fun t=>?_);clear u t hK K i4 i5 N J bN;refine uA ?_;refine dZ ?_;go_wp2;go_ret;exact hf
         ·subst he;rw[cN (by decide),cR rfl,aI]at G;go_upto_region 29 with fail;have n:=VI.out.drew;clear VI;have D:=n.M.fc;refine gZ (S:=fun W=>F4 W g mI∧M6 W w y A c B d) [14] ⟨D.a,n.m6⟩ (fun u=>?_);generalize ay.drew=ae at *;clear D;have aj:=n.M.sz;have CT:=φ (Fd.zK ae mI.A mI.c mI.B mI.d mI.f n.M.ME n.M.KP n.M.dP (by omega) p.l ⟨y,A,c,B,d⟩ n.L.la);have Y:=φ (Fd.Ej (P:=fun s=>l7 ae s.y s.A s.c s.B s.d) n.M.v.it p.l y);have hrel:=(n.M.p.fl.Zk aW aC y).2;rw[←hq.out]at hrel;replace hrel:=φ hrel;have O:=Fd.IM mI.f p.l y;clear aj;replace n:=φ n;(iterate 4 refine uA ?_);refine zA ?_;(iterate 2 refine uA ?_);refine zA ?_;refine rZ 8 (fun K hK=>?_);go_simp;refine CT.out.mono ?_;rintro e ap ⟨A2,c2,B2,d2,rfl,Z,aa,U⟩;dsimp only;have F:=n.out.below U;have D:=F.M.fc;refine hK _ _ (fun _=>⟨D.a,F.m6⟩) (fun t=>?_);clear u;have u:=t (by decide);clear hK K t D;(iterate 5 refine uA ?_);obtain⟨M9,E9⟩:=n.out.M.MH Z aa U _ hrel O Y;have V9:=n.out.step M9 E9 O.2;have y0:=F.M.Qa;have x0:=F.M.fc.a;obtain⟨ad,H⟩:=ex (im ap g (Fd.Bw mI.f p.l y) A2 c2 B2 d2)
          rw[H]at V9;obtain⟨mP,VP⟩:∃m9,vN w ad g m m9 ({ { (iT S y)with db:=N1 }with fl:=Fd.eY (iT S y).fl q (Fd.pN D0 y) }) w (ml mk mn mb mh y A c B d) y A c B d:=⟨_,V9⟩
          unfold im at H;change Hid _ at H VP;clear M9 E9 V9 Z aa U O CT hrel Y n F u;refine rZ 14 (fun K hK=>?_);go_simp;refine zZ hK ?_;clear hK K y0 x0;rw[H.out];clear H;refine dZ ?_;have ah:pM (iT S y).fl q y=Fd.eY (iT S y).fl q (Fd.pN D0 y):=by unfold pM;rw[aC.out]
          rw[ah]at G;clear ah;go_upto_region 30 with fail;have N:=VP.out.drew;clear VP;have i4:=N.M.c0 4 rfl;simp only[al.out]at i4;refine gZ (S:=fun W=>Cv W g 4 S.bo∧M6 W w y A c B d) [] ⟨i4,N.m6⟩ (fun u=>?_);generalize ad.drew=X at *;have bN:=cQ X (.cells #[p.l,.int .i64 3,i0,S.bo,i0,y.o,y.s,y.a,y.ov,.slice A y.adj.length c,.slice B y.pre.length d] 184);have J:=N.below bN;have i5:=J.M.c0 4 rfl;simp only[al.out]at i5;have hf:mX w g m (gV S i ⟨mk,mn,mb,mh,y⟩) (.returned (.slice (some ⟨X,0,none⟩) 1 1)) (X.alloc (.cells #[p.l,.int .i64 3,i0,S.bo,i0,y.o,y.s,y.a,y.ov,.slice A y.adj.length c,.slice B y.pre.length d] 184)):=by
           rw[G.out];exact⟨_,rfl,N.rt p.l S.bo,J.fin⟩
          (iterate 4 refine uA ?_);refine zA ?_;refine uA ?_;refine zA ?_;(iterate 2 refine uA ?_);refine rZ 9 (fun K hK=>?_);go_simp;refine hK _ _ (fun _=>⟨i5,J.m6⟩) (fun t=>?_);clear u t hK K i4 i5 N J bN;refine uA ?_;refine dZ ?_;go_wp2;go_ret;exact hf
         ·subst he;rw[cN (by decide),cN (by decide),aI]at G;obtain⟨hd,av⟩:=h3.out rfl;have aU:=am.out.1;obtain⟨k0,ar⟩:=de aU.1;have I:k0<64:=by omega
          have bD:(k0:Int)<64:=by omega
          have aK:y.o.toNat=k0:=by rw[ar];rfl
          rw[aK]at av;have aE:=(aA k0 hd av)
          have ac:=congrFun VI.out.M.p.db k0;simp only at ac;rw[av]at ac;obtain⟨a7,aL⟩:(mI.R k0).is=true∧(mI.R k0).x.y=hd.x:=by
           unfold fx at ac;split at ac
           ·next e=>injection ac with ac;exact⟨e.2,by rw[←ac]⟩
           ·cases ac
          have ai:dS (mI.R k0).x.y:=by rw[aL];exact aE.1
          have aR:eX (jR N1 y.o)=(mI.R k0).x.y:=by
           unfold jR;rw[cR (by omega),aK,av];exact aL.symm
          rw[aR]at G;change Hid _ at ar ai;clear ac a7 aL aR aK av aE aU;go_upto_region 24 with fail;have n:=VI.out.drew;clear VI;have D:=n.M.fc;refine gZ (S:=fun W=>F4 W g mI∧Cv W w 4 k0∧Cv W g (74+k0*7) (.int .i64 (mI.R k0).x.y.o)∧Cv W g (74+k0*7+1) (.int .i64 (mI.R k0).x.y.s)∧Cv W g (74+k0*7+2) (.int .i64 (mI.R k0).x.y.a)∧Cv W g (74+k0*7+3) (.bool (mI.R k0).x.y.ov)∧Cv W g (74+k0*7+4) (.slice (mI.R k0).x.A (mI.R k0).x.y.adj.length (mI.R k0).x.c)∧Cv W g (74+k0*7+5) (.slice (mI.R k0).x.B (mI.R k0).x.y.pre.length (mI.R k0).x.d)) [19] ⟨D.a,(by rw[←ar.out];exact n.bx.c 4 rfl),n.M.c.pd.c (64+k0*7+0) ((ej _ I (by omega)).trans rfl) _ (by omega),n.M.c.pd.c (64+k0*7+1) ((ej _ I (by omega)).trans rfl) _ (by omega),n.M.c.pd.c (64+k0*7+2) ((ej _ I (by omega)).trans rfl) _ (by omega),n.M.c.pd.c (64+k0*7+3) ((ej _ I (by omega)).trans rfl) _ (by omega),n.M.c.pd.c (64+k0*7+4) ((ej _ I (by omega)).trans rfl) _ (by omega),n.M.c.pd.c (64+k0*7+5) ((ej _ I (by omega)).trans rfl) _ (by omega)⟩ (fun u=>?_);generalize ay.drew=ae at *;clear D;have aj:=n.M.sz;have CT:=φ (Fd.ry ae mI.A mI.c mI.B mI.d mI.f n.M.ME n.M.KP n.M.dP (by omega) p.l ⟨(mI.R k0).x.y,(mI.R k0).x.A,(mI.R k0).x.c,(mI.R k0).x.B,(mI.R k0).x.d⟩ (n.M.v.rd k0 I).la);have Y:=φ (Fd.wG (P:=fun s=>l7 ae s.y s.A s.c s.B s.d) n.M.v.it p.l (a:=⟨(mI.R k0).x.y,(mI.R k0).x.A,(mI.R k0).x.c,(mI.R k0).x.B,(mI.R k0).x.d⟩) (n.M.v.rd k0 I));have hrel:=n.M.p.fl.offer aW aC (a:=⟨(mI.R k0).x.y,(mI.R k0).x.A,(mI.R k0).x.c,(mI.R k0).x.B,(mI.R k0).x.d⟩) ai;rw[←hq.out]at hrel;replace hrel:=φ hrel;have O:=Fd.wF mI.f p.l ⟨(mI.R k0).x.y,(mI.R k0).x.A,(mI.R k0).x.c,(mI.R k0).x.B,(mI.R k0).x.d⟩;clear aj;replace n:=φ n;(iterate 4 refine uA ?_);refine zA ?_;(iterate 4 refine uA ?_);refine zA ?_;(iterate 5 refine uA ?_);refine zA ?_;refine rZ 16 (fun K hK=>?_);go_simp;refine CT.out.mono ?_;rintro e ap ⟨A2,c2,B2,d2,rfl,Z,aa,U⟩;dsimp only;have F:=n.out.below U;have D:=F.M.fc;refine hK _ _ (fun _=>⟨D.a,(by rw[←ar.out];exact F.bx.c 4 rfl),F.M.c.pd.c (64+k0*7+0) ((ej _ I (by omega)).trans rfl) _ (by omega),F.M.c.pd.c (64+k0*7+1) ((ej _ I (by omega)).trans rfl) _ (by omega),F.M.c.pd.c (64+k0*7+2) ((ej _ I (by omega)).trans rfl) _ (by omega),F.M.c.pd.c (64+k0*7+3) ((ej _ I (by omega)).trans rfl) _ (by omega),F.M.c.pd.c (64+k0*7+4) ((ej _ I (by omega)).trans rfl) _ (by omega),F.M.c.pd.c (64+k0*7+5) ((ej _ I (by omega)).trans rfl) _ (by omega)⟩) (fun t=>?_);clear u;have u:=t (by decide);clear hK K t D;(iterate 2 refine uA ?_);obtain⟨M9,E9⟩:=n.out.M.MH Z aa U _ hrel O Y;have V9:=n.out.step M9 E9 O.2;have y0:=F.M.Qa;have x0:=F.M.fc.a;obtain⟨ad,H⟩:=ex (im ap g (Fd.kN mI.f p.l ⟨(mI.R k0).x.y,(mI.R k0).x.A,(mI.R k0).x.c,(mI.R k0).x.B,(mI.R k0).x.d⟩) A2 c2 B2 d2)
          rw[H]at V9;obtain⟨mP,VP⟩:∃m9,vN w ad g m m9 ({ { (iT S y)with db:=N1 }with fl:=Fd.eY (iT S y).fl q (Fd.mu D0 (mI.R k0).x.y) }) w (ml mk mn mb mh y A c B d) y A c B d:=⟨_,V9⟩
          unfold im at H;change Hid _ at H VP;clear M9 E9 V9 Z aa U O CT hrel Y n F u;refine rZ 19 (fun K hK=>?_);go_simp;refine zZ hK ?_;clear hK K y0 x0;rw[H.out];clear H;refine dZ ?_;have hf:mX w g m (gV S i ⟨mk,mn,mb,mh,y⟩) (.returned sn) ad:=by
           rw[G.out];have ah:rJ (iT S y).fl q (mI.R k0).x.y=Fd.eY (iT S y).fl q (Fd.mu D0 (mI.R k0).x.y):=by unfold rJ;rw[aC.out];simp only;rw[cR (nA ai.out)]
           rw[ah];exact⟨_,rfl,xX.nil _ _,VP.out.fin⟩
          clear VP;go_wp2;go_ret;exact hf
        ·have PB:=φ (Ei w6 g _ _ V7.out.M aO);have hu:=bh.out (aN.trans hm);rw[hu]at G;replace G:=φ G;clear bh bg bf aN hu;go_wp2_with fail;refine PB.out.mono ?_;rintro e w9 ⟨rfl,P9⟩;obtain⟨m9,V9⟩:=V7.out.to P9;have hf:mX w g m (gV S i ⟨mk,mn,mb,mh,y⟩) (.returned sn) w9:=by
          rw[G.out];exact⟨_,rfl,xX.nil _ _,V9.fin⟩
         clear PB P9 V9 V7;go_wp2;go_ret;exact hf
       ·have a1:z.err=6:=aM.symm.trans he;have hu:=bg.out bB (by rw[he];decide);have hS:iT S y=S:=by rw[aq.out,hex,bF]
        rw[hu,hS]at G;have hf:mX w g m (gV S i ⟨mk,mn,mb,mh,y⟩) (.returned sn) wc:=by
         rw[G.out];exact⟨_,rfl,xX.nil _ _,V5.fin⟩
        rw[a1];clear hu hS hex bF bB V5 bk L5 aM a1 he;go_wp2;go_ret;exact hf
     ·have e1:(y.o==S.nd)=false:=by simp[ho]
      have aF:jz S p.l y=rR S p.l y:=by unfold jz;rw[cN ho]
      have aY:=ok;have al:Hid (S.bo=S.bo):=rfl;have aC:=aS;clear ho;go_quiet (fail);have V3:=V2.out.below (JZ nq);clear V2 b4 i3 e1;generalize World.drewN w2 nq=w3 at *;replace V3:=φ V3;rw[aF]at G;have aA:=qR aY.out.db (a:=y) gH.1;obtain⟨N1,aw⟩:=ex (instN (S).db y)
      obtain⟨ir,ao⟩:=ex (instR (S).db y)
      have au:ir=1∨ir=2∨ir=3:=by rw[←ao];exact instR_123 am
      have h3:ir=3→ ∃h,N1 y.o.toNat=some h:=fun e=>by
       obtain⟨h,h1⟩:=instR_3 (ao.trans e);rw[←aw];unfold instN;rw[cN (by rw[ao,e];simp)];exact⟨h,h1⟩
      rw[aw]at aA;unfold rR at G;rw[ao,aw]at G;go_upto_region 22 with fail;have Q:=V3.out.drew;clear V3;have IN:=qc w3.drew m.R (yE y A c B d) y Q.M.KW Q.L.la am;rw[Q.M.p.db,ao,aw]at IN;change Hid _ at au h3 aA G;clear ao aw aF;refine gZ (S:=fun W=>W.rangeAt g 10 (fP m.R)∧M6 W w y A c B d) [13] ⟨Q.M.c.pd.range,Q.m6⟩ (fun u=>?_);generalize w3.drew=bO at *;replace Q:=φ Q;replace IN:=φ IN;(iterate 4 refine uA ?_);refine pS (i:=4) (R:=m.R) (some 135) rfl rfl (by kernel_rfl) (by kernel_rfl) (by kernel_rfl) (by kernel_rfl) (fun _ _ _ h=>h) rfl (.tmp 134) rfl (g:=g) (off:=10) rfl (fun w hw=>hw.1) u ?_
      try simp only[Act.put,eH,List.set_cons_succ,List.set_cons_zero]
      refine uA ?_;refine zA ?_;refine rZ 7 (fun K hK=>?_);go_simp;refine IN.out.mono ?_;rintro e be ⟨R',rfl,a0,a3,a5⟩;dsimp only;have V:=Q.out.below a5;refine hK _ _ (fun _=>⟨V.M.c.pd.range,V.m6⟩) (fun t=>?_);clear u;have u:=t (by decide);clear hK K t Q IN a5;(iterate 5 refine uA ?_);refine tv (i:=13) (R:=m.R) (R':=R') none (by kernel_rfl) rfl rfl rfl (.tmp 142) (.tmp 139) rfl (g:=g) (off:=10) rfl rfl V.M.c.pd (by decide) ?_;clear u;refine uA ?_;refine dZ ?_;obtain⟨M5,E5⟩:=V.M.RL R' _ a3 (DF V.M.v.rd a0 V.L);have V5:=V.step M5 E5 rfl;clear V M5 E5 a0 a3;generalize be.setCells g 10 (fP R')=ay at *;obtain⟨mI,VI⟩:∃m9,vN w ay g m m9 ({ (S)with db:=N1 }) w (ml mk mn mb mh y A c B d) y A c B d:=⟨_,V5⟩
      clear V5;replace VI:=φ VI;rcases au.out with he|he|he
      ·subst he;rw[cR rfl]at G;go_upto_region 27 with fail;have n:=VI.out.drew;clear VI;have D:=n.M.fc;refine gZ (S:=fun W=>F4 W g mI∧M6 W w y A c B d) [11] ⟨D.a,n.m6⟩ (fun u=>?_);generalize ay.drew=ae at *;clear D;have aj:=n.M.sz;have CT:=φ (Fd.pV ae mI.A mI.c mI.B mI.d mI.f n.M.ME n.M.KP n.M.dP (by omega) ⟨y,A,c,B,d⟩ n.L.la p.l);have Y:=φ (Fd.yT (P:=fun s=>l7 ae s.y s.A s.c s.B s.d) n.M.v.it (a:=⟨y,A,c,B,d⟩) n.L p.l);have hrel:=φ (n.M.p.fl.spread (a:=⟨y,A,c,B,d⟩) am p.l);have O:=Fd.zy mI.f ⟨y,A,c,B,d⟩ p.l;clear aj;replace n:=φ n;(iterate 4 refine uA ?_);refine zA ?_;refine uA ?_;refine zA ?_;refine uA ?_;refine rZ 8 (fun K hK=>?_);go_simp;refine CT.out.mono ?_;rintro e ap ⟨A2,c2,B2,d2,rfl,Z,aa,U⟩;dsimp only;have F:=n.out.below U;have D:=F.M.fc;refine hK _ _ (fun _=>⟨D.a,F.m6⟩) (fun t=>?_);clear u;have u:=t (by decide);clear hK K t D;(iterate 2 refine uA ?_);obtain⟨M9,E9⟩:=n.out.M.MH Z aa U _ hrel O Y;have V9:=n.out.step M9 E9 O.2;have y0:=F.M.Qa;have x0:=F.M.fc.a;obtain⟨ad,H⟩:=ex (im ap g (Fd.EW mI.f ⟨y,A,c,B,d⟩ p.l) A2 c2 B2 d2)
       rw[H]at V9;obtain⟨mP,VP⟩:∃m9,vN w ad g m m9 ({ { (S)with db:=N1 }with fl:=Fd.zv (S).fl y p.l }) w (ml mk mn mb mh y A c B d) y A c B d:=⟨_,V9⟩
       unfold im at H;change Hid _ at H VP;clear M9 E9 V9 Z aa U O CT hrel Y n F u;refine rZ 11 (fun K hK=>?_);go_simp;refine zZ hK ?_;clear hK K y0 x0;rw[H.out];clear H;refine dZ ?_;have ah:lX (S).fl y p.l=Fd.zv (S).fl y p.l:=by unfold lX;rw[cR (nA am.out)]
       replace G:=φ (G);rw[ah]at G;clear ah;go_upto_region 30 with fail;have N:=VP.out.drew;clear VP;have i4:=N.M.c0 4 rfl;simp only[al.out]at i4;refine gZ (S:=fun W=>Cv W g 4 S.bo∧M6 W w y A c B d) [] ⟨i4,N.m6⟩ (fun u=>?_);generalize ad.drew=X at *;have bN:=cQ X (.cells #[p.l,.int .i64 3,i0,S.bo,i0,y.o,y.s,y.a,y.ov,.slice A y.adj.length c,.slice B y.pre.length d] 184);have J:=N.below bN;have i5:=J.M.c0 4 rfl;simp only[al.out]at i5;have hf:mX w g m (gV S i ⟨mk,mn,mb,mh,y⟩) (.returned (.slice (some ⟨X,0,none⟩) 1 1)) (X.alloc (.cells #[p.l,.int .i64 3,i0,S.bo,i0,y.o,y.s,y.a,y.ov,.slice A y.adj.length c,.slice B y.pre.length d] 184)):=by
        rw[G.out];exact⟨_,rfl,N.rt p.l S.bo,J.fin⟩
       (iterate 4 refine uA ?_);refine zA ?_;refine uA ?_;refine zA ?_;(iterate 2 refine uA ?_);refine rZ 9 (fun K hK=>?_);go_simp;refine hK _ _ (fun _=>⟨i5,J.m6⟩) (fun t=>?_);clear u t hK K i4 i5 N J bN;refine uA ?_;refine dZ ?_;go_wp2;go_ret;exact hf
      ·subst he;rw[cN (by decide),cR rfl,aI]at G;go_upto_region 29 with fail;have n:=VI.out.drew;clear VI;have D:=n.M.fc;refine gZ (S:=fun W=>F4 W g mI∧M6 W w y A c B d) [14] ⟨D.a,n.m6⟩ (fun u=>?_);generalize ay.drew=ae at *;clear D;have aj:=n.M.sz;have CT:=φ (Fd.zK ae mI.A mI.c mI.B mI.d mI.f n.M.ME n.M.KP n.M.dP (by omega) p.l ⟨y,A,c,B,d⟩ n.L.la);have Y:=φ (Fd.Ej (P:=fun s=>l7 ae s.y s.A s.c s.B s.d) n.M.v.it p.l y);have hrel:=(n.M.p.fl.Zk aW aC y).2;rw[←hq.out]at hrel;replace hrel:=φ hrel;have O:=Fd.IM mI.f p.l y;clear aj;replace n:=φ n;(iterate 4 refine uA ?_);refine zA ?_;(iterate 2 refine uA ?_);refine zA ?_;refine rZ 8 (fun K hK=>?_);go_simp;refine CT.out.mono ?_;rintro e ap ⟨A2,c2,B2,d2,rfl,Z,aa,U⟩;dsimp only;have F:=n.out.below U;have D:=F.M.fc;refine hK _ _ (fun _=>⟨D.a,F.m6⟩) (fun t=>?_);clear u;have u:=t (by decide);clear hK K t D;(iterate 5 refine uA ?_);obtain⟨M9,E9⟩:=n.out.M.MH Z aa U _ hrel O Y;have V9:=n.out.step M9 E9 O.2;have y0:=F.M.Qa;have x0:=F.M.fc.a;obtain⟨ad,H⟩:=ex (im ap g (Fd.Bw mI.f p.l y) A2 c2 B2 d2)
       rw[H]at V9;obtain⟨mP,VP⟩:∃m9,vN w ad g m m9 ({ { (S)with db:=N1 }with fl:=Fd.eY (S).fl q (Fd.pN D0 y) }) w (ml mk mn mb mh y A c B d) y A c B d:=⟨_,V9⟩
       unfold im at H;change Hid _ at H VP;clear M9 E9 V9 Z aa U O CT hrel Y n F u;refine rZ 14 (fun K hK=>?_);go_simp;refine zZ hK ?_;clear hK K y0 x0;rw[H.out];clear H;refine dZ ?_;have ah:pM (S).fl q y=Fd.eY (S).fl q (Fd.pN D0 y):=by unfold pM;rw[aC.out]
       rw[ah]at G;clear ah;go_upto_region 30 with fail;have N:=VP.out.drew;clear VP;have i4:=N.M.c0 4 rfl;simp only[al.out]at i4;refine gZ (S:=fun W=>Cv W g 4 S.bo∧M6 W w y A c B d) [] ⟨i4,N.m6⟩ (fun u=>?_);generalize ad.drew=X at *;have bN:=cQ X (.cells #[p.l,.int .i64 3,i0,S.bo,i0,y.o,y.s,y.a,y.ov,.slice A y.adj.length c,.slice B y.pre.length d] 184);have J:=N.below bN;have i5:=J.M.c0 4 rfl;simp only[al.out]at i5;have hf:mX w g m (gV S i ⟨mk,mn,mb,mh,y⟩) (.returned (.slice (some ⟨X,0,none⟩) 1 1)) (X.alloc (.cells #[p.l,.int .i64 3,i0,S.bo,i0,y.o,y.s,y.a,y.ov,.slice A y.adj.length c,.slice B y.pre.length d] 184)):=by
        rw[G.out];exact⟨_,rfl,N.rt p.l S.bo,J.fin⟩
       (iterate 4 refine uA ?_);refine zA ?_;refine uA ?_;refine zA ?_;(iterate 2 refine uA ?_);refine rZ 9 (fun K hK=>?_);go_simp;refine hK _ _ (fun _=>⟨i5,J.m6⟩) (fun t=>?_);clear u t hK K i4 i5 N J bN;refine uA ?_;refine dZ ?_;go_wp2;go_ret;exact hf
      ·subst he;rw[cN (by decide),cN (by decide),aI]at G;obtain⟨hd,av⟩:=h3.out rfl;have aU:=am.out.1;obtain⟨k0,ar⟩:=de aU.1;have I:k0<64:=by omega
       have bD:(k0:Int)<64:=by omega
       have aK:y.o.toNat=k0:=by rw[ar];rfl
       rw[aK]at av;have aE:=(aA k0 hd av)
       have ac:=congrFun VI.out.M.p.db k0;simp only at ac;rw[av]at ac;obtain⟨a7,aL⟩:(mI.R k0).is=true∧(mI.R k0).x.y=hd.x:=by
        unfold fx at ac;split at ac
        ·next e=>injection ac with ac;exact⟨e.2,by rw[←ac]⟩
        ·cases ac
       have ai:dS (mI.R k0).x.y:=by rw[aL];exact aE.1
       have aR:eX (jR N1 y.o)=(mI.R k0).x.y:=by
        unfold jR;rw[cR (by omega),aK,av];exact aL.symm
       rw[aR]at G;change Hid _ at ar ai;clear ac a7 aL aR aK av aE aU;go_upto_region 24 with fail;have n:=VI.out.drew;clear VI;have D:=n.M.fc;refine gZ (S:=fun W=>F4 W g mI∧Cv W w 4 k0∧Cv W g (74+k0*7) (.int .i64 (mI.R k0).x.y.o)∧Cv W g (74+k0*7+1) (.int .i64 (mI.R k0).x.y.s)∧Cv W g (74+k0*7+2) (.int .i64 (mI.R k0).x.y.a)∧Cv W g (74+k0*7+3) (.bool (mI.R k0).x.y.ov)∧Cv W g (74+k0*7+4) (.slice (mI.R k0).x.A (mI.R k0).x.y.adj.length (mI.R k0).x.c)∧Cv W g (74+k0*7+5) (.slice (mI.R k0).x.B (mI.R k0).x.y.pre.length (mI.R k0).x.d)) [19] ⟨D.a,(by rw[←ar.out];exact n.bx.c 4 rfl),n.M.c.pd.c (64+k0*7+0) ((ej _ I (by omega)).trans rfl) _ (by omega),n.M.c.pd.c (64+k0*7+1) ((ej _ I (by omega)).trans rfl) _ (by omega),n.M.c.pd.c (64+k0*7+2) ((ej _ I (by omega)).trans rfl) _ (by omega),n.M.c.pd.c (64+k0*7+3) ((ej _ I (by omega)).trans rfl) _ (by omega),n.M.c.pd.c (64+k0*7+4) ((ej _ I (by omega)).trans rfl) _ (by omega),n.M.c.pd.c (64+k0*7+5) ((ej _ I (by omega)).trans rfl) _ (by omega)⟩ (fun u=>?_);generalize ay.drew=ae at *;clear D;have aj:=n.M.sz;have CT:=φ (Fd.ry ae mI.A mI.c mI.B mI.d mI.f n.M.ME n.M.KP n.M.dP (by omega) p.l ⟨(mI.R k0).x.y,(mI.R k0).x.A,(mI.R k0).x.c,(mI.R k0).x.B,(mI.R k0).x.d⟩ (n.M.v.rd k0 I).la);have Y:=φ (Fd.wG (P:=fun s=>l7 ae s.y s.A s.c s.B s.d) n.M.v.it p.l (a:=⟨(mI.R k0).x.y,(mI.R k0).x.A,(mI.R k0).x.c,(mI.R k0).x.B,(mI.R k0).x.d⟩) (n.M.v.rd k0 I));have hrel:=n.M.p.fl.offer aW aC (a:=⟨(mI.R k0).x.y,(mI.R k0).x.A,(mI.R k0).x.c,(mI.R k0).x.B,(mI.R k0).x.d⟩) ai;rw[←hq.out]at hrel;replace hrel:=φ hrel;have O:=Fd.wF mI.f p.l ⟨(mI.R k0).x.y,(mI.R k0).x.A,(mI.R k0).x.c,(mI.R k0).x.B,(mI.R k0).x.d⟩;clear aj;replace n:=φ n;(iterate 4 refine uA ?_);refine zA ?_;(iterate 4 refine uA ?_);refine zA ?_;(iterate 5 refine uA ?_);refine zA ?_;refine rZ 16 (fun K hK=>?_);go_simp;refine CT.out.mono ?_;rintro e ap ⟨A2,c2,B2,d2,rfl,Z,aa,U⟩;dsimp only;have F:=n.out.below U;have D:=F.M.fc;refine hK _ _ (fun _=>⟨D.a,(by rw[←ar.out];exact F.bx.c 4 rfl),F.M.c.pd.c (64+k0*7+0) ((ej _ I (by omega)).trans rfl) _ (by omega),F.M.c.pd.c (64+k0*7+1) ((ej _ I (by omega)).trans rfl) _ (by omega),F.M.c.pd.c (64+k0*7+2) ((ej _ I (by omega)).trans rfl) _ (by omega),F.M.c.pd.c (64+k0*7+3) ((ej _ I (by omega)).trans rfl) _ (by omega),F.M.c.pd.c (64+k0*7+4) ((ej _ I (by omega)).trans rfl) _ (by omega),F.M.c.pd.c (64+k0*7+5) ((ej _ I (by omega)).trans rfl) _ (by omega)⟩) (fun t=>?_);clear u;have u:=t (by decide);clear hK K t D;(iterate 2 refine uA ?_);obtain⟨M9,E9⟩:=n.out.M.MH Z aa U _ hrel O Y;have V9:=n.out.step M9 E9 O.2;have y0:=F.M.Qa;have x0:=F.M.fc.a;obtain⟨ad,H⟩:=ex (im ap g (Fd.kN mI.f p.l ⟨(mI.R k0).x.y,(mI.R k0).x.A,(mI.R k0).x.c,(mI.R k0).x.B,(mI.R k0).x.d⟩) A2 c2 B2 d2)
       rw[H]at V9;obtain⟨mP,VP⟩:∃m9,vN w ad g m m9 ({ { (S)with db:=N1 }with fl:=Fd.eY (S).fl q (Fd.mu D0 (mI.R k0).x.y) }) w (ml mk mn mb mh y A c B d) y A c B d:=⟨_,V9⟩
       unfold im at H;change Hid _ at H VP;clear M9 E9 V9 Z aa U O CT hrel Y n F u;refine rZ 19 (fun K hK=>?_);go_simp;refine zZ hK ?_;clear hK K y0 x0;rw[H.out];clear H;refine dZ ?_;have hf:mX w g m (gV S i ⟨mk,mn,mb,mh,y⟩) (.returned sn) ad:=by
        rw[G.out];have ah:rJ (S).fl q (mI.R k0).x.y=Fd.eY (S).fl q (Fd.mu D0 (mI.R k0).x.y):=by unfold rJ;rw[aC.out];simp only;rw[cR (nA ai.out)]
        rw[ah];exact⟨_,rfl,xX.nil _ _,VP.out.fin⟩
       clear VP;go_wp2;go_ret;exact hf
   ·have e3:(p.bt !=mb)=true:=by simp[ak]
    have hf:∀w',jt w g m S w'→mX w g m (gV S i ⟨mk,mn,mb,mh,y⟩) (.returned sn) w':=fun w' h=>by
     rw[G.out,cR (.inr ak)];exact⟨_,rfl,xX.nil _ _,h⟩
    replace hf:=φ hf;clear ak az;go_quiet (fail);have V2:=V1.out.below (JZ nq);have hg:=hf.out _ V2.fin;clear V1 V2 i9 c3 c4 b2 hf;go_wp2;go_ret;exact hg
  ·have e2:(p.ph !=2)=true:=by simp[az]
   have hf:∀w',jt w g m S w'→mX w g m (gV S i ⟨mk,mn,mb,mh,y⟩) (.returned sn) w':=fun w' h=>by
    rw[G.out,cR (.inl az)];exact⟨_,rfl,xX.nil _ _,h⟩
   replace hf:=φ hf;clear az;go_quiet (fail);have V2:=V1.out.below (JZ nq);have hg:=hf.out _ V2.fin;clear V1 V2 i9 c3 c4 b2 hf;go_wp2;go_ret;exact hg
end
section
variable [Inhabited BY]
def ZC:iF Tryz.prog 129 184 (.agg #[.int .i64 0,.int .i64 0,.int .i64 0,.int .i64 0,.int .i64 0,.int .i64 0,.int .i64 0,.int .i64 0,false,.slice none 0 0,.slice none 0 0]) 11 120:=⟨Tryz.underlying129,by kernel_rfl,rfl,by omega⟩
def NS:¬jC 184:=by unfold jC;decide
def MP(l:List Wx)(s:Wx):Bl (l++ [s])=Bl l++MQ s:=by rw[G8];simp[Bl]
def Er.grow{B:Nat}{w wr w':World}{b:Option Nat}(h:Er B w wr)(hg:wr.grownBy w' b)(hb:∀k,b=some k→w≤k):Er B w w':=by
 refine⟨hg.os.trans h.os,hg.tape.trans h.tape,hg.output.trans h.output,cZ h.size hg.size,fun k hk=>?_⟩
 have e:w'.heap[k]?=wr.heap[k]?:=hg.block k (eh hk h.size) (fun e=>by have:=hb k e.symm;omega);rcases h.block k hk with e2|⟨hB,T,hT,e1,cur,fr,e2⟩
 ·exact .inl (e.trans e2)
 ·exact .inr ⟨hB,T,hT,e1,cur,fr,e.trans e2⟩
def Gg{w w':World}(hg:w.grownBy w' none):cI w w':=⟨hg.os,hg.tape,hg.output,hg.size,fun k hk=>hg.block k hk (by simp)⟩
structure su (w wr:World) (g:Nat) (m:Rm) (S:Sp) (A:cG) (ca:Nat) (xs:List Wx) (l:List (Int× Ms)):Prop where
 rm:gJ wr g m S
 er:Er gL w wr
 ow:wr.ownsRow w 184 11 (.slice A xs.length ca) xs.length (Bl xs)
 la:∀s∈xs,l7 wr s.m.y s.A s.c s.B s.d
 eq:xs.map (fun s=>(s.l,s.m))=l
 lo:lF≤w
section
variable {w wr w':World} {g:Nat} {m m':Rm} {S S':Sp} {A:cG} {ca:Nat} {xs:List Wx} {l:List (Int × Ms)}
def su.below(h:su w wr g m S A ca xs l)(hb:cI wr w'):su w w' g m S A ca xs l :=
 ⟨h.rm.below hb,h.er.trans (Er.below hb),dg h.ow hb,fun s hs=>(h.la s hs).below hb,h.eq,h.lo⟩
def su.start(hm:gJ wr g m S)(he:Er gL w wr)(hw:gL≤w):su w wr g m S none 0 [] []:=⟨hm,he,cn,by simp,rfl,cZ hm.c.lo.1 hw⟩
def su.kp(h:su w wr g m S A ca xs l)(hg:wr.grownBy w' (Value.slice A xs.length ca).ownBlock):gJ w' g m S∧Er gL w w'∧Bg wr w':=by
 rcases e:(Value.slice A xs.length ca).ownBlock with _|k
 ·rw[e]at hg;have hb:=Gg hg;exact⟨h.rm.below hb,h.er.trans (Er.below hb),.below hb⟩
 ·rw[e]at hg;have hl:=(h.ow.lt k e).1;have ht:=fY h.ow e;exact⟨h.rm.grow hg ht Fh (cZ h.lo hl) (by decide) (by decide),h.er.grow hg (fun j hj=>by injection hj with hj;omega),.grow hg ht Fh (cZ h.lo hl)⟩
def su.push(h:su w wr g m S A ca xs l){s:Wx}{q:Int}{mm:Ms}(hs:l7 wr s.m.y s.A s.c s.B s.d)(hq:s.l=q)(hm:s.m=mm)(hg:wr.grownBy w' (Value.slice A xs.length ca).ownBlock){A':cG}{a:Nat}
  (ho:w'.ownsRow w 184 11 (.slice A' (xs.length+1) a) (xs.length+1) (Bl xs++MQ s)):su w w' g m S A' a (xs++ [s]) (l++ [(q,mm)]):=by
 subst hq hm;have vL:(xs++ [s]).length=xs.length+1:=by simp
 obtain⟨k1,k2,K⟩:=h.kp hg;refine⟨k1,k2,by rw[vL,MP];exact ho,fun x hx=>?_,?_,h.lo⟩
 ·rcases eZ.1 hx with h1|h1
  ·exact(h.la x h1).kp K
  ·rw[ew]at h1;subst h1;exact hs.kp K
 ·rw[ez,h.eq];rfl
end
def Xl{S:Sp}{dP:List Fd.It}(h:dP.map (fun s=>(s.q,s.x.y))=Fd.oU S.fl (Fd.iA S.fl)){k:Nat}(hk:k<dP.length):(mf S).take (k+1)=(mf S).take k++ [(dP[k].q,⟨2,0,S.bo,0,dP[k].x.y⟩)]:=by
 unfold mf;rw[←h,cT (by simpa using hk)];simp
def Xm{S:Sp}{dP:List Fd.It}(h:dP.map (fun s=>(s.q,s.x.y))=Fd.oU S.fl (Fd.iA S.fl)):(mf S).take dP.length=mf S:=by
 unfold mf;rw[←h,dn (by simp)]
structure BT (w wr:World) (g:Nat) (m:Rm) (S:Sp) (A:cG) (ca:Nat) (xs:List Wx) (l:List (Int× Ms)) (B:cG) (cb:Nat) (dP:List Fd.It):Prop where
 wo:su w wr g m S A ca xs l
 sr:wr.ownsRow w 202 8 (.slice B dP.length cb) dP.length (Fd.lG dP)
 li:∀s∈dP,l7 wr s.x.y s.x.A s.x.c s.x.B s.x.d
section
variable {w wr w':World} {g:Nat} {m:Rm} {S:Sp} {A:cG} {ca:Nat} {xs:List Wx} {l:List (Int × Ms)} {B:cG} {cb:Nat} {dP:List Fd.It}
def BT.below(h:BT w wr g m S A ca xs l B cb dP)(hb:cI wr w'):BT w w' g m S A ca xs l B cb dP :=
 ⟨h.wo.below hb,dg h.sr hb,fun s hs=>(h.li s hs).below hb⟩
def BT.push(h:BT w wr g m S A ca xs l B cb dP){s:Wx}{q:Int}{mm:Ms}(hs:l7 wr s.m.y s.A s.c s.B s.d)(hq:s.l=q)(hm:s.m=mm)(hg:wr.grownBy w' (Value.slice A xs.length ca).ownBlock){A':cG}{a:Nat}
  (ho:w'.ownsRow w 184 11 (.slice A' (xs.length+1) a) (xs.length+1) (Bl xs++MQ s)):BT w w' g m S A' a (xs++ [s]) (l++ [(q,mm)]) B cb dP :=
 ⟨h.wo.push hs hq hm hg ho,lP h.sr h.wo.ow (by decide) hg,fun x hx=>(h.li x hx).kp (h.wo.kp hg).2.2⟩
end
def PD(l:List Fd.It):∀(k:Nat) (hk:k<l.length) (j:Nat) (hj:j<8),(Fd.lG l)[8*k+j]?=(Fd.Ga l[k])[j]?:=by
 induction l with
 |nil=>intro k hk;simp at hk
 |cons p r ih=>
   intro k hk j hj;have h7:(Fd.Ga p).length=8:=rfl;cases k with
   |zero=>simp only[Fd.lG,List.getElem_cons_zero];rw[eP (by omega)];simp
   |succ k=>
     simp only[Fd.lG,List.getElem_cons_succ];rw[dY (by omega),h7,show 8*(k+1)+j - 8=8*k+j by omega];exact ih k (by simpa using hk) j hj
def CF{w:World}{A:cG}{l:List Fd.It}(h:Rd w A (Fd.lG l))(k:Nat)(hk:k<l.length)(s:Fd.It)(hs:l[k]=s):∃b off,A=some ⟨b,off,none⟩∧ ∀j u,j<8→(Fd.Ga s)[j]?=some u→w.cell? ⟨b,off+k*8+j,none⟩=some u:=by
 obtain⟨b,off,e,hc⟩:=gE h (by rw[Fd.DZ];omega);refine⟨b,off,e,fun j u hj hu=>?_⟩
 have:=hc (8*k+j) u (by rw[PD l k hk j hj,hs];exact hu)
 rwa[show off+(8*k+j)=off+k*8+j by omega]at this
end
end Go.Proofs.YtehimhbgakpenaaGreat
