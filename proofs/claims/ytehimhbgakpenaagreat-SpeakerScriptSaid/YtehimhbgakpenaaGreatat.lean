/- Lemmas. -/
import Derived.Test.YtehimhbgakpenaaGreatar
import Derived.Test.YtehimhbgakpenaaGreataq
set_option linter.all false
set_option maxRecDepth 100000
set_option maxHeartbeats 16000000
namespace Go.Proofs.YtehimhbgakpenaaGreat
open Go.RowKit Go.Maps Go.Sort
section
variable [Inhabited BY]
def YC(s:Qx):cH:=[s.k,s.l,s.n,s.on,s.m.k,s.m.n,s.m.b,s.m.h,s.m.y.o,s.m.y.s,s.m.y.a,s.m.y.ov,.slice s.A s.m.y.adj.length s.c,.slice s.B s.m.y.pre.length s.d,.slice s.C s.pre.length s.e]
structure WQ (w wr:World) (kb km:Nat) (s:Qx) (mm:Ms):Prop where
 b:cI w wr
 x:Lb wr kb (YC s) 45
 m:Lb wr km (YE mm s.A s.c s.B s.d) 43
def WQ.below{w wr w':World}{kb km:Nat}{s:Qx}{mm:Ms}(h:WQ w wr kb km s mm)(hb:cI wr w'):WQ w w' kb km s mm:=⟨h.b.trans (hb.mono h.b.size),h.x.below hb,h.m.below hb⟩
structure UR (w wr:World) (g:Nat) (m m':Sm) (mr:Rm) (S1 S:Sp) (col:Nat→Nat) (kb km:Nat) (s:Qx) (mm:Ms) (v:Value) (l:List (Int× Ms)):Prop where
 e:m'.g=m.g
 j:Bj wr g m' mr S1 S col
 x:Lb wr kb (YC s) 45
 m:Lb wr km (YE mm s.A s.c s.B s.d) 43
 q:WS wr s
 sn:pF wr 0 v l
 b:Below lF w wr
def UR.below{w wr w':World}{g:Nat}{m m':Sm}{mr:Rm}{S1 S:Sp}{a:Nat→Nat}{kb km:Nat}{s:Qx}{mm:Ms}{v:Value}{l:List (Int× Ms)}(h:UR w wr g m m' mr S1 S a kb km s mm v l)(hb:cI wr w'):UR w w' g m m' mr S1 S a kb km s mm v l:=by
 obtain⟨A,c,ls,e1,o1,o2,e2⟩:=h.sn;exact⟨h.e,h.j.below hb,h.x.below hb,h.m.below hb,h.q.kp (.below hb h.j.base),⟨A,c,ls,e1,dg o1 hb,fun s hs=>dg (o2 s hs) hb,e2⟩,h.b.trans (hb.mono h.j.base)⟩
def WC(w:World)(s:Qx):WQ w ((w.alloc (.cells #[s.k,s.l,s.n,s.on,s.m.k,s.m.n,s.m.b,s.m.h,s.m.y.o,s.m.y.s,s.m.y.a,s.m.y.ov,.slice s.A s.m.y.adj.length s.c,.slice s.B s.m.y.pre.length s.d,.slice s.C s.pre.length s.e] 45)).alloc (.cells #[s.m.k,s.m.n,s.m.b,s.m.h,s.m.y.o,s.m.y.s,s.m.y.a,s.m.y.ov,.slice s.A s.m.y.adj.length s.c,.slice s.B s.m.y.pre.length s.d] 43)) w (w.heap.size+1) s s.m:=by
 have S0:=((St.start w).nw #[s.k,s.l,s.n,s.on,s.m.k,s.m.n,s.m.b,s.m.h,s.m.y.o,s.m.y.s,s.m.y.a,s.m.y.ov,.slice s.A s.m.y.adj.length s.c,.slice s.B s.m.y.pre.length s.d,.slice s.C s.pre.length s.e] 45 w).nw #[s.m.k,s.m.n,s.m.b,s.m.h,s.m.y.o,s.m.y.s,s.m.y.a,s.m.y.ov,.slice s.A s.m.y.adj.length s.c,.slice s.B s.m.y.pre.length s.d] 43 (w.heap.size+1);have t1:=jk (w.alloc (.cells #[s.k,s.l,s.n,s.on,s.m.k,s.m.n,s.m.b,s.m.h,s.m.y.o,s.m.y.s,s.m.y.a,s.m.y.ov,.slice s.A s.m.y.adj.length s.c,.slice s.B s.m.y.pre.length s.d,.slice s.C s.pre.length s.e] 45)) #[s.m.k,s.m.n,s.m.b,s.m.h,s.m.y.o,s.m.y.s,s.m.y.a,s.m.y.ov,.slice s.A s.m.y.adj.length s.c,.slice s.B s.m.y.pre.length s.d] 43;exact⟨S0.b,⟨S0.box 1 rfl,(jk _ _ _).below (cQ _ _)⟩,⟨S0.box 0 rfl,by simpa using t1⟩⟩
def Gz{w:World}{g:Nat}{m:Sm}{mr:Rm}{S:Sp}{d:Nat→Nat}(h:Bj w g m mr S S d)(ok:eO S)(l:Int)(k:Nat)(hr:Rd w (some ⟨k,0,none⟩) [.int .u8 9,.int .u8 0,.int .u8 0]) :
  Calls Tryz.prog 24 #[.pointer (some ⟨m.g,0,none⟩),.int .i64 l,.slice (some ⟨k,0,none⟩) 3 3] w fun e w'=>∃A c m' a,e= .returned (.tuple #[.slice A 0 c,.int .i64 (match jZ S.ps l with|none=>2|some _=>4)])∧m'.g=m.g∧Bj w' g m' mr S S a∧Below lF w w':=by
 have RC:=vg w m S d 1 h.sp ok l (some ⟨k,0,none⟩) 3 3 [9,0,0] hr rfl (by omega) (by simp[maxLen]) (by omega);rw[Sh]at RC;refine RC.mono ?_;rintro e w' ⟨v,rfl,sn,f⟩;obtain⟨A,c,rfl⟩:=xC sn;obtain⟨m',a,e1,j,K,_⟩:=h.prog f;exact⟨A,c,m',a,rfl,e1,j,K.b⟩
def CJ{w:World}{g:Nat}{m:Sm}{mr:Rm}{S:Sp}{b:Nat→Nat}(h:Bj w g m mr S S b)(ok:eO S)(l:Int){A:cG}{n c:Nat}{bs:List UInt8}{base:Nat}(ho:w.ownsRow base 5 1 (.slice A n c) n (bs.map iZ))(hn:bs.length=n)(hl:n≤100000) :
  Calls Tryz.prog 24 #[.pointer (some ⟨m.g,0,none⟩),l,.slice A n c] w fun e w'=>∃v m' a,e= .returned (.tuple #[v,.int .i64 (pc S l bs).2])∧m'.g=m.g∧Bj w' g m' mr (pc S l bs).1.1 S a∧pF w' 0 v (pc S l bs).1.2∧Kp w w':=by
 obtain⟨r1,r2,r3⟩:=ki ho;refine(vg w m S b 1 h.sp ok l A n c bs r1 hn r2 r3 hl).mono ?_;rintro e w' ⟨v,rfl,sn,d⟩;obtain⟨m',a,e1,j,K,_⟩:=h.prog d;exact⟨v,m',a,rfl,e1,j,sn.mono (jw _),K⟩
def Se(S:Sp)(i:Nat)(m:Ms):(gV S i m).2.length≤1:=by
 unfold gV;split
 ·simp
 ·split
  ·simp
  ·split
   ·simp
   ·split
    ·simp only;split<;>simp
    ·simp
def KY(w:World)(g:Nat)(m:Sm)(mr:Rm)(S:Sp)(ao:Nat→Nat)(h:Bj w g m mr S S ao)(ok:eO S)(s:Qx)(q:WS w s) :
  Calls Tryz.prog 44 #[pt m.g,pt g,W9 s,(Ah S s.l)] w (kK w g m S):=by
 unfold W9;have O:=h.base;have V0:=WC w s;have E:=XN S s;have C:Hid (YF S s=match jZ S.ps s.l with|some i=>if s.m.k=1∧s.n=0 then { s.m with n:=match S.ps[i]? with|some p=>p.o|none=>0 }else s.m|none=>s.m):=rfl;obtain⟨mm,Z⟩:=ex (YF S s)
 rw[Z]at E C;clear Z;have u:∀W kb km,Lb W kb (YC s) 45→Lb W km (YE mm s.A s.c s.B s.d) 43→(Cv W kb 1 s.l∧Cv W km 0 mm.k∧Cv W km 1 mm.n∧Cv W km 2 mm.b∧Cv W km 3 mm.h∧Cv W km 4 mm.y.o∧Cv W km 5 mm.y.s∧Cv W km 6 mm.y.a∧Cv W km 7 (.bool mm.y.ov)∧Cv W km 8 (.slice s.A mm.y.adj.length s.c)∧Cv W km 9 (.slice s.B mm.y.pre.length s.d)):=fun W kb km hx hm=>⟨hx.bx.c 1 rfl,hm.bx.c 0 rfl,hm.bx.c 1 rfl,hm.bx.c 2 rfl,hm.bx.c 3 rfl,hm.bx.c 4 rfl,hm.bx.c 5 rfl,hm.bx.c 6 rfl,hm.bx.c 7 rfl,hm.bx.c 8 rfl,hm.bx.c 9 rfl⟩
 have I:Hid (qg mm=true→(jY mm).length≤100000):=fun hv=>by
  have:=qJ hv;unfold jY;rw[qO];simp only;omega
 have hu:Hid (∀p∈mm.y.pre,p.1<4294967296):=by rw[E];exact q.la.la.ok
 change Hid _ at h ok q E;have h2:=φ (h.out.below V0.b);have q2:=φ (q.out.kp (.below V0.b O));replace V0:=φ V0;rcases hf:jZ S.ps s.l with _|i
 ·have v:mm=s.m:=by have:=C.out;rw[hf]at this;exact this
  subst v;rw[Ag hf];replace hf:=φ hf;clear C q;go_in;go_upto_region 2 with fail;generalize World.alloc (World.alloc w _) _=w2 at *;generalize w.heap.size+1=km at *;have k0:=V0.out.m.bx.c 0 rfl;have k2:=V0.out.x.bx.c 2 rfl;go_cut [27] (fun v27 wx=>v27= .bool false∧w2=wx)
  case first=>
   by_cases hk1:s.m.k=1
   ·have e1:(s.m.k==1)=true:=by simp[hk1]
    clear hk1;go_wp2_with fail
    all_goals
     go_meet;exact⟨rfl,rfl⟩
   ·have e1:(s.m.k==1)=false:=by simp[hk1]
    clear hk1;go_wp2_with fail
    all_goals
     go_meet;exact⟨rfl,rfl⟩
  case rest=>
   obtain⟨rfl,rfl⟩:=hcut;clear k0 k2;have h3:=h2;have V3:=V0;have q3:=q2;clear h2 V0 q2;have VA:=φ (yx w2 (Ih s.m s.A s.c s.B s.d) s.m ⟨s.A,s.c,s.B,s.d,rfl,q3.out.la.la⟩);obtain⟨z0,z1,z2,z3,z4,z5,z6,z7,z8,z9⟩:=V3.out.m.bx.iM;go_wp2_with fail;(with_reducible refine VA.out.mono ?_);rintro e w3 ⟨rfl,b3⟩;clear z0 VA;replace q3:=φ (q3.out.kp (.below b3 h3.out.base));replace h3:=φ (h3.out.below b3);replace V3:=φ (V3.out.below b3);clear b3;obtain⟨b,hb⟩:=ex (qg s.m)
   rw[hb];replace hb:=φ hb;obtain⟨kb,M⟩:=ex w.heap.size
   rw[M]at V3;rw[M];clear M;rcases dH b with rfl|rfl
   ·have hv:=hb.out;obtain⟨mm,C⟩:=ex s.m
    have G:Hid (pc S s.l (jY mm)=((S,[]),2)):=Oi hf.out;rw[C]at hv V3 u I;have E:Hid (mm.y=s.m.y):=by rw[C];rfl
    replace C:=φ C;go_upto_region 7 with fail;replace q3:=φ (q3.out.kp (.below bd h3.out.base));replace h3:=φ (h3.out.below bd);replace V3:=φ (V3.out.below bd);refine gF (S:=fun W=>Cv W kb 1 s.l∧Cv W km 0 mm.k∧Cv W km 1 mm.n∧Cv W km 2 mm.b∧Cv W km 3 mm.h∧Cv W km 4 mm.y.o∧Cv W km 5 mm.y.s∧Cv W km 6 mm.y.a∧Cv W km 7 (.bool mm.y.ov)∧Cv W km 8 (.slice s.A mm.y.adj.length s.c)∧Cv W km 9 (.slice s.B mm.y.pre.length s.d)) (u _ _ _ V3.out.x V3.out.m) (fun t=>?_);generalize w3.drew=w4 at *;have RP:=xF w4 (Ih mm s.A s.c s.B s.d) mm ⟨s.A,s.c,s.B,s.d,rfl,by rw[E.out];exact q3.out.la.la⟩ hv;unfold qX at RP;have hY:=I.out hv;obtain⟨Y,z⟩:=ex (jY mm)
    rw[z]at RP hY;replace RP:=φ RP;(iterate 4 refine tA ?_);refine rF 4 (fun K hK=>?_);go_simp;(with_reducible refine RP.out.mono ?_);rintro e w5 ⟨A5,c5,rfl,o5,b5⟩;dsimp only;have h5:=h3.out.below b5;have V5:=V3.out.below b5;have q5:=q3.out.kp (.below b5 h3.out.base);refine hK.out _ _ (u _ _ _ V5.x V5.m) (fun t=>?_);clear hK K RP h3 V3 q3;have GP:=φ (CJ h5 ok.out s.l o5 rfl (by rw[←z];exact I.out hv));rw[←z,G.out]at GP;refine rF 5 (fun K hK=>?_);go_simp;rw[←z];(with_reducible refine GP.out.mono ?_);rintro e w6 ⟨v6,m6,D,rfl,e6,j6,P,K6⟩;dsimp only;have C6:UR w w6 g m m6 mr _ S D kb km s mm v6 _:=⟨e6,j6,V5.x.kp K6 xA tK,V5.m.kp K6 Js Fk,q5.kp K6,P,((V5.b).mono O).trans K6.b⟩
    refine hK.out _ _ (u _ _ _ C6.x C6.m) (fun t=>?_);clear hK K GP h5 V5 q5 j6 P K6 e6 o5 b5 z hY;replace C6:=φ C6;(iterate 5 refine tA ?_);refine dF ?_;clear t;obtain⟨A6,c6,rfl⟩:=xC C6.out.sn;have T:kK w g m S (.returned (.bool true)) w6:=.of C6.out.b C6.out.e C6.out.j ok.out (lU.refl _);clear C6 h u;go_wp2;go_ret;exact T
   ·clear u q3 hb I hu;have bn:=cQ w3 (.cells #[.int .u8 9,.int .u8 0,.int .u8 0] 5);have RB:=φ (Gz (h3.out.below bn) ok.out s.l w3.heap.size (Rd.lit w3 #[.int .u8 9,.int .u8 0,.int .u8 0] 5));rw[hf.out]at RB;have x1:=V3.out.x.bx.c 1 rfl;have U:Hid (Below lF w (w3.alloc (.cells #[.int .u8 9,.int .u8 0,.int .u8 0] 5))):=(V3.out.b.trans (bn.mono V3.out.b.size)).mono O;clear h3 V3 bn h;go_wp2_with fail;(with_reducible refine RB.out.mono ?_);rintro e w5 ⟨A5,c5,m5,ai,rfl,e5,j5,b5⟩;have hf:kK w g m S (.returned (.bool true)) w5:=.of (U.out.trans b5) e5 j5 ok.out (lU.refl _);clear e5 j5 b5 U RB x1;go_wp2;go_ret;exact hf
 ·obtain⟨hi,am⟩:=PR hf;rw[Af hf];obtain⟨p,hp⟩:=ex (S.ps[i])
  have V:S.ps[i]?=some p:=by rw[cM hi,hp]
  have v:Hid (mm=if s.m.k=1∧s.n=0 then { s.m with n:=p.o }else s.m):=by
   have:=C.out;rw[hf]at this;simp only[V]at this;exact φ this
  have ar:decide ((i:Int)≥0)=true:=by simp
  have aq:decide ((i:Int)<0)=false:=by simp
  change Hid _ at hf hp V;replace hu:=φ (Sg (mm:=mm) hf.out V.out · hu.out);obtain⟨gp,hP⟩:=h.out.rs.gp (by omega);replace hP:=φ hP;clear C am;have af:w.heap.size<w.heap.size+1:=by omega
  go_in;go_upto_region 2 with fail;generalize World.alloc (World.alloc w _) _=w2 at *;generalize w.heap.size+1=km at *;have k0:=V0.out.m.bx.c 0 rfl;have k2:=V0.out.x.bx.c 2 rfl;go_cut [27] (fun v27 wx=>v27= .bool (decide (s.m.k=1∧s.n=0))∧w2=wx)
  case first=>
   by_cases hk1:s.m.k=1
   ·have e1:(s.m.k==1)=true:=by simp[hk1]
    by_cases hn1:s.n=0
    ·have e2:(s.n==0)=true:=by simp[hn1]
     have hd:Hid (decide (s.m.k=1∧s.n=0)=true):=φ (by simp[hk1,hn1]);clear hk1 hn1;go_wp2;go_meet;exact⟨by rw[hd.out],rfl⟩
    ·have e2:(s.n==0)=false:=by simp[hn1]
     have hd:Hid (decide (s.m.k=1∧s.n=0)=false):=φ (by simp[hn1]);clear hk1 hn1;go_wp2;go_meet;exact⟨by rw[hd.out],rfl⟩
   ·have e1:(s.m.k==1)=false:=by simp[hk1]
    have hd:Hid (decide (s.m.k=1∧s.n=0)=false):=φ (by simp[hk1]);clear hk1;go_wp2;go_meet;exact⟨by rw[hd.out],rfl⟩
  case rest=>
   obtain⟨rfl,rfl⟩:=hcut;clear k0 k2;obtain⟨b,hb⟩:=ex (decide (s.m.k=1∧s.n=0))
   rw[hb];replace hb:=φ hb;go_upto_if 27 with fail;go_cut [] (fun wx=>Hid (WQ w wx w.heap.size km s mm))
   case first=>
    rcases dH b with rfl|rfl
    ·have Q:mm= { s.m with n:=p.o }:=by have:=v.out;rw[cR (fS hb.out)]at this;exact this
     have i9:=h2.out.rs.c9 hP.out;have C1:=(h2.out.rs.own hP.out hi hp.out).c1;have x1:=V0.out.m.bx.c 1 rfl;have y1:=V0.out.m.bx.f 1 rfl;have ab:Hid (WQ w (w2.setCell ⟨km,1,none⟩ p.o) w.heap.size km s mm):=by
      refine⟨V0.out.b.setCell (p:=⟨km,1,none⟩) (iR af) _,⟨V0.out.x.bx.iX (p:=⟨km,1,none⟩) _ (Yy af),ee.set _ _ _ _ _ V0.out.x.ty⟩,⟨?_,ee.set _ _ _ _ _ V0.out.m.ty⟩⟩
      rw[Q];exact V0.out.m.bx.set 1 (.int .i64 p.o) (by simp[YE])
     clear Q hb v V0 q2 h2;go_wp2;go_meet;exact ab
    ·have Q:mm=s.m:=by have:=v.out;rw[cN (lr hb.out)]at this;exact this
     have ab:Hid (WQ w w2 w.heap.size km s mm):=by rw[Q];exact V0
     clear Q hb v V0 q2 h2;go_wp2;go_meet;exact ab
   case rest=>
    clear V0 q2 h2 v hb;have V3:=hcut;clear hcut;have h3:=φ (h.out.below V3.out.b);have q3:=φ (q.out.kp (.below V3.out.b O));have VA:=φ (yx wc (Ih mm s.A s.c s.B s.d) mm ⟨s.A,s.c,s.B,s.d,rfl,by rw[E.out];exact q3.out.la.la⟩);obtain⟨z0,z1,z2,z3,z4,z5,z6,z7,z8,z9⟩:=V3.out.m.bx.iM;go_wp2_with fail;(with_reducible refine VA.out.mono ?_);rintro e w3 ⟨rfl,b3⟩;clear z0 VA;replace q3:=φ (q3.out.kp (.below b3 h3.out.base));replace h3:=φ (h3.out.below b3);replace V3:=φ (V3.out.below b3);clear b3 q;obtain⟨b,hb⟩:=ex (qg mm)
    rw[hb];replace hb:=φ hb;obtain⟨kb,M⟩:=ex w.heap.size
    rw[M]at V3;rw[M];clear M;rcases dH b with rfl|rfl
    ·have hv:=hb.out;have L:=hu.out hv;obtain⟨R,hR⟩:=ex (if mm.k=1∧mm.n≠p.o then((S,[]),1)else(gV S i mm,0):(Sp× List (Int× Ms))× Int)
     rw[hR]at L;have G:Hid (pc S s.l (jY mm)=R):=L;replace hR:=φ hR;clear L hu;go_upto_region 7 with fail;replace q3:=φ (q3.out.kp (.below bd h3.out.base));replace h3:=φ (h3.out.below bd);replace V3:=φ (V3.out.below bd);refine gF (S:=fun W=>Cv W kb 1 s.l∧Cv W km 0 mm.k∧Cv W km 1 mm.n∧Cv W km 2 mm.b∧Cv W km 3 mm.h∧Cv W km 4 mm.y.o∧Cv W km 5 mm.y.s∧Cv W km 6 mm.y.a∧Cv W km 7 (.bool mm.y.ov)∧Cv W km 8 (.slice s.A mm.y.adj.length s.c)∧Cv W km 9 (.slice s.B mm.y.pre.length s.d)) (u _ _ _ V3.out.x V3.out.m) (fun t=>?_);generalize w3.drew=w4 at *;have RP:=xF w4 (Ih mm s.A s.c s.B s.d) mm ⟨s.A,s.c,s.B,s.d,rfl,by rw[E.out];exact q3.out.la.la⟩ hv;unfold qX at RP;have hY:=I.out hv;obtain⟨Y,z⟩:=ex (jY mm)
     rw[z]at RP hY;replace RP:=φ RP;(iterate 4 refine tA ?_);refine rF 4 (fun K hK=>?_);go_simp;(with_reducible refine RP.out.mono ?_);rintro e w5 ⟨A5,c5,rfl,o5,b5⟩;dsimp only;have h5:=h3.out.below b5;have V5:=V3.out.below b5;have q5:=q3.out.kp (.below b5 h3.out.base);refine hK.out _ _ (u _ _ _ V5.x V5.m) (fun t=>?_);clear hK K RP h3 V3 q3;have GP:=φ (CJ h5 ok.out s.l o5 rfl (by rw[←z];exact I.out hv));rw[←z,G.out]at GP;refine rF 5 (fun K hK=>?_);go_simp;rw[←z];(with_reducible refine GP.out.mono ?_);rintro e w6 ⟨v6,m6,D,rfl,e6,j6,P,K6⟩;dsimp only;have C6:UR w w6 g m m6 mr _ S D kb km s mm v6 _:=⟨e6,j6,V5.x.kp K6 xA tK,V5.m.kp K6 Js Fk,q5.kp K6,P,((V5.b).mono O).trans K6.b⟩
     refine hK.out _ _ (u _ _ _ C6.x C6.m) (fun t=>?_);clear hK K GP h5 V5 q5 j6 P K6 e6 o5 b5 z hY;replace C6:=φ C6;(iterate 5 refine tA ?_);refine dF ?_;clear t I hb;go_upto_region 10 with fail;have i9:=C6.out.j.rs.c9 hP.out;have C1:=(C6.out.j.rs.own hP.out hi hp.out).c1;have k0:=C6.out.m.bx.b2;go_cut [95] (fun ak wx=>ak= .bool (decide (mm.k=1∧mm.n≠p.o))∧Hid (UR w wx g m m6 mr R.1.1 S D kb km s mm v6 R.1.2))
     case first=>
      by_cases hk1:mm.k=1
      ·have e1:(mm.k==1)=true:=by simp[hk1]
       by_cases hn1:mm.n=p.o
       ·have e2:(mm.n !=p.o)=false:=by simp[hn1]
        have hd:Hid (decide (mm.k=1∧mm.n≠p.o)=false):=φ (by simp[hn1]);clear hk1 hn1;go_quiet (fail);have hc:=φ (C6.out.below (w':=w6.drewN nq) (JZ nq));clear C6 i9 C1 k0;go_wp2;go_meet;exact⟨by rw[hd.out],hc⟩
       ·have e2:(mm.n !=p.o)=true:=by simp[hn1]
        have hd:Hid (decide (mm.k=1∧mm.n≠p.o)=true):=φ (by simp[hn1,hk1]);clear hk1 hn1;go_quiet (fail);have hc:=φ (C6.out.below (w':=w6.drewN nq) (JZ nq));clear C6 i9 C1 k0;go_wp2;go_meet;exact⟨by rw[hd.out],hc⟩
      ·have e1:(mm.k==1)=false:=by simp[hk1]
       have hd:Hid (decide (mm.k=1∧mm.n≠p.o)=false):=φ (by simp[hk1]);clear hk1;go_quiet (fail);have hc:=φ (C6.out.below (w':=w6.drewN nq) (JZ nq));clear C6 i9 C1 k0;go_wp2;go_meet;exact⟨by rw[hd.out],hc⟩
     case rest=>
      obtain⟨rfl,C7⟩:=hcut;clear C6 i9 C1 k0;obtain⟨b2,N⟩:=ex (decide (mm.k=1∧mm.n≠p.o))
      rw[N];replace N:=φ N;rcases dH b2 with rfl|rfl
      ·have ac:R=((S,[]),1):=by rw[←hR.out,cR (fS N.out)]
       subst ac;have C8:Hid (UR w wc g m m6 mr S S D kb km s mm v6 []):=C7;obtain⟨A6,c6,rfl⟩:=xC C8.out.sn;have T:kK w g m S (.returned (.bool true)) wc:=.of C8.out.b C8.out.e C8.out.j ok.out (lU.refl _);clear C7 C8 h u hR G N;go_wp2;go_ret;exact T
      ·have ac:R=(gV S i mm,0):=by rw[←hR.out,cN (lr N.out)]
       subst ac;have C8:UR w wc g m m6 mr (gV S i mm).1 S D kb km s mm v6 (gV S i mm).2:=C7.out;have X:=XM hv;have RR:=NV wc g mr S C8.j.rs ok.out i hi mm s.A s.c s.B s.d (by rw[E.out];exact C8.q.la) ⟨X.1,X.2.1,X.2.2⟩;have F:=KV ok.out i hv;have H:=ok.out.recv i (m:=mm) (by omega);have J:=lU.recv S i mm;have al:=Se S i mm;obtain⟨r9,ad⟩:=ex (gV S i mm)
       rw[ad]at C8 RR F H J al;change Hid _ at C8 F H J;replace RR:=φ RR;clear ad C7 G hR N h u X;have z0:=C8.out.m.bx.iM;go_upto_region 12 with fail;go_wp2_with fail;(with_reducible refine RR.out.mono ?_);rintro e w7 ⟨v2,rfl,aj,ap,M7,E7,n7⟩;clear z0;obtain⟨j7,K7⟩:=C8.out.j.er M7 E7;obtain⟨A6,c6,ls,rfl,o1,o2,e2⟩:=C8.out.sn;obtain⟨A7,c7,xs,rfl,ox,lx,ex⟩:=aj;have aa:xs.length=ls.length:=by
        have h1:=dU List.length e2;have h2:=dU List.length ex;simp only[dh,oX]at h1 h2;omega
       have ae:ls.length≤100000:=by
        have h1:=dU List.length e2;simp only[dh,oX]at h1;omega
       rw[aa];have SS:=φ (zG w7 A6 ls.length c6 ls A7 c7 xs (dQ (E7.own o1 Jk)) (dQ ox) rfl aa ae (fun x hx=>(ki (E7.own (o2 x hx) MY)).1) (fun x hx=>(lx x hx).la) (fun x hx=>F.out _ (by rw[←ex];exact dL.2 ⟨x,hx,rfl⟩)) (by rw[ex];exact e2));have ah:Hid (Below lF w w7):=C8.out.b.trans K7.b;have ag:=φ C8.out.e;replace j7:=φ j7;clear o1 o2 e2 ox lx ex aa ae M7 E7 n7 K7 C8 RR F;go_wp2_with fail;(with_reducible refine SS.out.mono ?_);rintro e w8 ⟨rfl,b8⟩;have T:kK w g m S (.returned (.bool true)) w8:=.of (ah.out.trans (b8.mono j7.out.base)) ag.out (j7.out.below b8) H.out J.out;clear SS b8 ah ag j7 H J;go_wp2;go_ret;exact T
    ·clear u q3 hb I hu;have bn:=cQ w3 (.cells #[.int .u8 9,.int .u8 0,.int .u8 0] 5);have RB:=φ (Gz (h3.out.below bn) ok.out s.l w3.heap.size (Rd.lit w3 #[.int .u8 9,.int .u8 0,.int .u8 0] 5));rw[hf.out]at RB;have x1:=V3.out.x.bx.c 1 rfl;have U:Hid (Below lF w (w3.alloc (.cells #[.int .u8 9,.int .u8 0,.int .u8 0] 5))):=(V3.out.b.trans (bn.mono V3.out.b.size)).mono O;clear h3 V3 bn h;go_wp2_with fail;(with_reducible refine RB.out.mono ?_);rintro e w5 ⟨A5,c5,m5,ai,rfl,e5,j5,b5⟩;have hf:kK w g m S (.returned (.bool true)) w5:=.of (U.out.trans b5) e5 j5 ok.out (lU.refl _);clear e5 j5 b5 U RB x1;go_wp2;go_ret;exact hf
end
def eO.Y7{S:Sp}(h:eO S)(b:Bool):eO { S with ov:=b }:=⟨h.tp,h.nd,h.bo,h.h1,h.h2,h.h3,h.tm,h.ps,h.uq,h.pl,h.pre,h.db,h.dz,h.fl,h.up,h.xo,h.xs,h.xa,h.xm,h.xv,h.xl⟩
def eO.VE{S:Sp}(h:eO S){pre:List Pf}(hp:pre.length≤64):eO { S with pre:=pre }:=⟨h.tp,h.nd,h.bo,h.h1,h.h2,h.h3,h.tm,h.ps,h.uq,h.pl,hp,h.db,h.dz,h.fl,h.up,h.xo,h.xs,h.xa,h.xm,h.xv,h.xl⟩
def Xj{n:Int}(hn:0≤n∧n≤63)(pre:List Pf):vB ⟨n,1,0,false,[],pre⟩=vB ⟨0,1,0,false,[],pre⟩:=by
 rw[ga,gH,gH];have key:∀m:Int,mz m [] 0:=fun m j y hj=>by omega
 constructor
 ·rintro⟨a,b,c,d,e,f,g,k⟩;exact⟨by simp,b,c,d,e,f,key 0,k⟩
 ·rintro⟨a,b,c,d,e,f,g,k⟩;exact⟨hn,b,c,d,e,f,key n,k⟩
def Rr{S:Sp}(h:eO S):(oR S).2.length≤17000:=by
 show(iI (G4 S)++mf (G4 S)).length≤17000
 have h1:(iI (G4 S)).length≤512:=by
  unfold iI;split
  ·rw[dh];exact h.tE.pl
  ·simp
 have h2:(mf (G4 S)).length≤16384:=by
  unfold mf;rw[dh];exact Jo _
 rw[cX];omega
section
variable [Inhabited BY]
def kK.from{w w1 w':World}{g:Nat}{m:Sm}{S:Sp}{e:Ending}(hb:Below lF w w1)(h:kK w1 g m S e w'):kK w g m S e w':=by
 obtain⟨e1,m',mr',S',col',e2,j,ok,a,b,c,d⟩:=h;exact⟨e1,m',mr',S',col',e2,j,ok,a,b,c,hb.trans d⟩
def XY{S:Sp}(ok:eO S)(i:Nat)(k:Int):GO (qS S i k):=by
 have h1:(qS S i k).ps.length=S.ps.length:=by
  have:=dU List.length (lU.cos S i k).ls;simpa using this
 have h2:(qS S i k).pre=S.pre∧(qS S i k).x=S.x:=by unfold qS;split<;>exact⟨rfl,rfl⟩
 exact Pa (by rw[h1];exact ok.pl) (by rw[h2.1];exact ok.pre) (by rw[h2.2];exact ok.xs) (by rw[h2.2];exact ok.xl)
def Hp(w:World)(g:Nat)(m:Sm)(mr:Rm)(S:Sp)(F:Nat→Nat)(h:Bj w g m mr S S F)(ok:eO S)(s:Qx)(q:WS w s)(ao:s.pre.length≤1000000)(av:S.tm≤1000) :
  Calls Tryz.prog 10 #[pt m.g,pt g,W9 s] w (kK w g m S):=by
 unfold W9;have P:=cQ w (.cells #[s.k,s.l,s.n,s.on,s.m.k,s.m.n,s.m.b,s.m.h,s.m.y.o,s.m.y.s,s.m.y.a,s.m.y.ov,.slice s.A s.m.y.adj.length s.c,.slice s.B s.m.y.pre.length s.d,.slice s.C s.pre.length s.e] 45);have V1:Lb (w.alloc (.cells #[s.k,s.l,s.n,s.on,s.m.k,s.m.n,s.m.b,s.m.h,s.m.y.o,s.m.y.s,s.m.y.a,s.m.y.ov,.slice s.A s.m.y.adj.length s.c,.slice s.B s.m.y.pre.length s.d,.slice s.C s.pre.length s.e] 45)) w (YC s) 45:=⟨fq.iE w _ _ _ _ rfl rfl,jk _ _ _⟩
 have u:=φ (P.mono h.base);have q1:=φ (q.kp (.below P h.base));have h1:=φ (h.below P);change Hid _ at V1 ok;clear P h q;go_in;go_upto_region 1 with fail;generalize World.alloc w _=w1 at *;generalize w.heap.size=kb at *;have FD:=φ (KS w1 g mr S h1.out.rs s.l);have x1:=V1.out.bx.c 1 rfl;go_wp2_with fail;refine FD.out.mono ?_;rintro e w2 ⟨rfl,rfl⟩;clear FD x1;have x0:=V1.out.bx.c 0 rfl
 by_cases h1k:s.k=1
 ·have e1:(s.k==1)=true:=by simp[h1k]
  have RC:=φ (KY w1 g m mr S F h1 ok s q1);unfold W9 at RC;clear h1k;have x0:=V1.out.bx.c 0 rfl;have x1:=V1.out.bx.c 1 rfl;have x2:=V1.out.bx.c 2 rfl;have x3:=V1.out.bx.c 3 rfl;have x4:=V1.out.bx.c 4 rfl;have x5:=V1.out.bx.c 5 rfl;have x6:=V1.out.bx.c 6 rfl;have x7:=V1.out.bx.c 7 rfl;have x8:=V1.out.bx.c 8 rfl;have x9:=V1.out.bx.c 9 rfl;have ak:=V1.out.bx.c 10 rfl;have aj:=V1.out.bx.c 11 rfl;have ai:=V1.out.bx.c 12 rfl;have ah:=V1.out.bx.c 13 rfl;have V:=V1.out.bx.c 14 rfl;go_wp2_with fail;refine RC.out.mono ?_;rintro e w3 P3;obtain⟨rfl,P4⟩:=P3;have hf:kK w g m S (.returned (.bool true)) w3:=kK.from u ⟨rfl,P4⟩
  clear x0 x1 x2 x3 x4 x5 x6 x7 x8 x9 ak aj ai ah V RC P4;go_wp2;go_ret;exact hf
 have e1:(s.k==1)=false:=by simp[h1k]
 clear h1k
 by_cases h2k:s.k=2
 ·have e2:(s.k==2)=true:=by simp[h2k]
  clear h2k;have FA:=φ (Hs w1 m S F 1 h1.out.sp (by have:=ok.out.pl;omega) s.l (fun i hi=>ok.out.fo (Ap hi) 0 0));have x1:=V1.out.bx.c 1 rfl;rcases hf:jZ S.ps s.l with _|i
  ·have j:BR S s.l=(S,2):=by unfold BR;rw[hf]
   rw[Ag hf];rw[j]at FA;clear hf j;go_wp2_with fail;refine FA.out.mono ?_;rintro e w3 ⟨rfl,t3⟩;obtain⟨m3,t,e3,j3,K3,_⟩:=h1.out.prog t3;have hf:kK w g m S (.returned (.bool true)) w3:=.of (u.out.trans K3.b) e3 j3 ok (lU.refl _);clear FA t3 x0 x1 e3 j3 K3;go_wp2;go_ret;exact hf
  ·have j:BR S s.l=(jl S i 0 0,0):=by unfold BR;rw[hf]
   have hi:=Ap hf;have ap:decide ((i:Int)<0)=false:=by simp
   rw[Af hf];rw[j]at FA;clear hf j;go_wp2_with fail;refine FA.out.mono ?_;rintro e w3 ⟨rfl,t3⟩;obtain⟨m3,t,e3,j3,K3,_⟩:=h1.out.prog t3;have RF:=φ (KT w3 g mr S j3.rs ok i hi);change Hid _ at j3 e3;have p:=φ (u.out.trans K3.b);clear FA t3 x0 x1 K3;go_wp2_with fail;refine RF.out.mono ?_;rintro e w4 ⟨rfl,Z,M4,E4,n4⟩;obtain⟨j4,K4⟩:=j3.out.er M4 E4;have hf:kK w g m S (.returned (.bool true)) w4:=.of (p.out.trans K4.b) e3 j4 (ok.out.UL hi (by decide)) (lU.UL _ _ _ _);clear RF M4 E4 n4 j4 K4 j3 e3 p;go_wp2;go_ret;exact hf
 have e2:(s.k==2)=false:=by simp[h2k]
 clear h2k
 by_cases h3k:s.k=3
 ·have e3:(s.k==3)=true:=by simp[h3k]
  clear h3k;go_upto_region 12 with fail;have b2:cI w1 w1.drew:=bd;have h2:=h1.out.below b2;have V2:=V1.out.below b2;refine gZ (S:=fun W=>Cv W kb 3 s.on∧Cv W g 537 (.slice mr.Q S.pre.length mr.cq)) [7] ⟨V2.bx.c 3 rfl,h2.rs.q1⟩ (fun D=>?_);generalize w1.drew=w3 at *;have AD:=φ (Fq w3 g mr S h2.rs s.on S.pre mr.Q S.pre.length mr.cq rfl h2.rs.v.rq h2.rs.v.lq (ok.out.Y7 s.on));change Hid _ at h2 V2;have p:=φ (u.out.trans (b2.mono h1.out.base));clear b2 x0;(iterate 2 refine uA ?_);refine zA ?_;(iterate 3 refine uA ?_);refine zA ?_;refine rZ 7 (fun K hK=>?_);go_simp;refine AD.out.mono ?_;rintro e w4 ⟨rfl,Z,M4,E4,n4⟩;dsimp only;refine zZ hK ?_;clear hK K D AD;refine dZ ?_;obtain⟨j4,K4⟩:=h2.out.er M4 E4;have V4:=V2.out.kp K4 xA tK;have SO:=φ (Hr w4 m S F 1 j4.sp s.on ((ok.out.Y7 s.on).og));have x3:=V4.bx.c 3 rfl;have E:=φ (p.out.trans K4.b);replace j4:=φ j4;clear M4 E4 n4 K4 V2 h2 V4 p;go_wp2_with fail;refine SO.out.mono ?_;rintro e w5 P5;obtain⟨rfl,a5,v5⟩:=P5;obtain⟨m5,ar,e5,j5,K5,_⟩:=j4.out.prog (gT.of a5 v5);have hf:kK w g m S (.returned (.bool true)) w5:=.of (E.out.trans K5.b) e5 j5 (ok.out.Y7 s.on).zO (lU.over _ _);clear SO a5 v5 e5 j5 K5 x3 j4 E;go_wp2;go_ret;exact hf
 have e3:(s.k==3)=false:=by simp[h3k]
 clear h3k
 by_cases h4k:s.k=4
 ·have e4:(s.k==4)=true:=by simp[h4k]
  clear h4k;have SC:=φ (Ht w1 m S F 1 h1.out.sp (by have:=ok.out.pl;omega) s.l s.n (fun i _=>XY ok i s.n));obtain⟨-,x1,x2⟩:=V1.out.bx.b3;rcases hf:jZ S.ps s.l with _|i
  ·have j:oV S s.l s.n=(S,2):=by unfold oV;rw[hf]
   rw[Ag hf];rw[j]at SC;clear hf j;go_wp2_with fail;refine SC.out.mono ?_;rintro e w3 P3;obtain⟨rfl,a3,v3⟩:=P3;obtain⟨m3,t,e3,j3,K3,_⟩:=h1.out.prog (gT.of a3 v3);have hf:kK w g m S (.returned (.bool true)) w3:=.of (u.out.trans K3.b) e3 j3 ok (lU.refl _);clear SC a3 v3 x0 x1 x2 e3 j3 K3;go_wp2;go_ret;exact hf
  ·have hi:=Ap hf;have ap:decide ((i:Int)<0)=false:=by simp
   rw[Af hf]
   by_cases hc:1≤s.n∧s.n≤65535
   ·have j:oV S s.l s.n=(ft (qS S i s.n),0):=by unfold oV;rw[hf];simp only;rw[cR (by simp[jI,hc])]
    rw[j]at SC;have e5:decide (s.n<1)=false:=by simp;omega
    have e6:decide (s.n>65535)=false:=by simp;omega
    clear hf j;go_wp2_with fail;refine SC.out.mono ?_;rintro e w3 P3;obtain⟨rfl,a3,v3⟩:=P3;obtain⟨m3,t,f,j3,K3,_⟩:=h1.out.prog (gT.of a3 v3);have RF:=φ (KM w3 g mr S j3.rs ok i hi s.n hc);have V3:=V1.out.kp K3 xA tK;have y2:=V3.bx.c 2 rfl;change Hid _ at j3 f;have p:=φ (u.out.trans K3.b);clear SC a3 v3 x0 x1 x2 K3 V3;go_wp2_with fail;refine RF.out.mono ?_;rintro e w4 ⟨rfl,Z,M4,E4,n4⟩;obtain⟨j4,K4⟩:=j3.out.er M4 E4;have hf:kK w g m S (.returned (.bool true)) w4:=.of (p.out.trans K4.b) f j4 (ok.out.cos hi hc).zO ((lU.cos _ _ _).trans (.zO _));clear RF M4 E4 n4 j4 K4 j3 f p y2;go_wp2;go_ret;exact hf
   ·have j:oV S s.l s.n=(S,1):=by unfold oV;rw[hf];simp only;rw[cN (by simp only[jI,dD,fa];exact hc)]
    rw[j]at SC;clear hf j;go_wp2_with fail;refine SC.out.mono ?_;rintro e w3 P3;obtain⟨rfl,a3,v3⟩:=P3;obtain⟨m3,t,f,j3,K3,_⟩:=h1.out.prog (gT.of a3 v3);have V3:=V1.out.kp K3 xA tK;have y2:=V3.bx.c 2 rfl;have hf:kK w g m S (.returned (.bool true)) w3:=.of (u.out.trans K3.b) f j3 ok (lU.refl _);clear SC a3 v3 x0 x1 x2 f j3 K3 V3
    by_cases hc1:s.n<1
    ·have e5:decide (s.n<1)=true:=by simp;omega
     go_wp2;go_ret;exact hf
    ·have e5:decide (s.n<1)=false:=by simp;omega
     have e6:decide (s.n>65535)=true:=by simp;omega
     go_wp2;go_ret;exact hf
 have e4:(s.k==4)=false:=by simp[h4k]
 clear h4k
 by_cases h5k:s.k=5
 ·have e5:(s.k==5)=true:=by simp[h5k]
  clear h5k;have X:=Xj (n:=S.nd) (by have:=ok.out.nd;have:=ok.out.tp.n;omega) s.pre;have SP:=Ky w1 m S F 1 h1.out.sp s.pre s.C s.pre.length s.e q1.out.rp.1 rfl ao q1.out.vp (fun hv=>(ok.out.VE (pre:=s.pre) (by have:=(gH.1 hv).2.2.2.2.1;exact this)).og);have I:Hid (vB ⟨0,1,0,false,[],s.pre⟩=true→wy S s.pre=(ft { S with pre:=s.pre },0)):=fun hv=>by unfold wy;rw[X,cR hv]
  have H:Hid (vB ⟨0,1,0,false,[],s.pre⟩=false→wy S s.pre=(S,1)):=fun hv=>by unfold wy;rw[X,cN (by rw[hv];simp)]
  have N:Hid (vB ⟨0,1,0,false,[],s.pre⟩=true→s.pre.length≤64):=fun hv=>(gH.1 hv).2.2.2.2.1
  have O:=φ (lU.pre S s.pre);obtain⟨R,hR⟩:=ex (wy S s.pre)
  rw[hR]at SP I H O;replace SP:=φ SP;clear X hR;have V:=V1.out.bx.c 14 rfl;go_upto_region 23 with fail;go_wp2_with fail;refine SP.out.mono ?_;rintro e w3 ⟨rfl,t3⟩;obtain⟨m3,t,f,j3,K3,_⟩:=h1.out.prog t3;have V3:=φ (V1.out.kp K3 xA tK);have q3:=φ (q1.out.kp K3);have p:=φ (u.out.trans K3.b);have VA:=φ (lN w3 (.agg #[i0,.int .i64 1,i0,false,sn,.slice s.C s.pre.length s.e]) ⟨0,1,0,false,[],s.pre⟩ ⟨none,0,s.C,s.e,rfl,Rd.nil _ _,q3.out.rp.1,by simp,by simp[maxLen],q3.out.lp.1,q3.out.lp.2,q3.out.vp⟩);change Hid _ at j3 f;have ag:=V3.out.bx.c 14 rfl;clear SP t3 x0 V K3;go_wp2_with fail;refine VA.out.mono ?_;rintro e w4 ⟨rfl,b4⟩;have j4:=φ (j3.out.below b4);have V4:=φ (V3.out.below b4);have q4:=φ (q3.out.kp (.below b4 j3.out.base));have E:=φ (p.out.trans (b4.mono j3.out.base));clear VA b4 ag j3 V3 q3 p;obtain⟨b,hb⟩:=ex (vB ⟨0,1,0,false,[],s.pre⟩)
  rw[hb]at I H N;rw[hb];replace hb:=φ hb;rcases dH b with rfl|rfl
  ·have hR:=I.out rfl;have U:=N.out rfl;subst hR;clear I H N;go_upto_region 26 with fail;have b5:cI w4 w4.drew:=bd;have j5:=j4.out.below b5;have V5:=V4.out.below b5;have q5:=q4.out.kp (.below b5 j4.out.base);refine gZ (S:=fun W=>Cv W g 536 S.ov∧Cv W kb 14 (.slice s.C s.pre.length s.e)) [7] ⟨j5.rs.q0,V5.bx.c 14 rfl⟩ (fun D=>?_);generalize w4.drew=w5 at *;have AD:=φ (Fq w5 g mr S j5.rs S.ov s.pre s.C s.pre.length s.e rfl q5.rp ⟨q5.lp.1,q5.lp.2,q5.vp⟩ (ok.out.VE U));have ae:=φ (E.out.trans (b5.mono j4.out.base));replace j5:=φ j5;clear b5 V5 q5 E j4 V4 q4;(iterate 4 refine uA ?_);refine zA ?_;refine uA ?_;refine zA ?_;refine rZ 7 (fun K hK=>?_);go_simp;refine AD.out.mono ?_;rintro e w6 ⟨rfl,au,M6,E6,n6⟩;dsimp only;refine zZ hK ?_;clear hK K D AD;refine dZ ?_;obtain⟨j6,K6⟩:=j5.out.er M6 E6;have hf:kK w g m S (.returned (.bool true)) w6:=.of (ae.out.trans K6.b) f j6 (ok.out.VE U).zO O;clear M6 E6 n6 j6 K6 j5 ae O f;go_wp2;go_ret;exact hf
  ·have hR:=H.out rfl;subst hR;have hf:kK w g m S (.returned (.bool true)) w4:=.of E f j4 ok (lU.refl _);clear I H N j4 V4 q4 E O f;go_wp2;go_ret;exact hf
 have e5:(s.k==5)=false:=by simp[h5k]
 clear h5k;have ST:=φ (zx w1 m S F 1 h1.out.sp ok (by omega));have G:=φ (Kx ok);have J:=φ ok.out.Xq;have z:=φ (lU.Xq S);have ac:=φ (Rr ok);have RT:=fun W (M:gJ W g mr S)=>NP W g mr S M ok (by omega)
 obtain⟨r9,aa⟩:=ex (oR S)
 rw[aa]at ST G J z ac RT;replace RT:=φ RT;clear aa;go_upto_region 28 with fail;go_wp2_with fail;refine ST.out.mono ?_;rintro e w3 ⟨v3,rfl,L,t3⟩;obtain⟨m3,t,f,j3,K3,_⟩:=h1.out.prog t3;have af:=φ (RT w3 j3.rs);have p:=φ (u.out.trans K3.b);change Hid _ at j3 f L;clear ST t3 K3 RT x0;go_wp2_with fail;refine af.out.mono ?_;rintro e w7 ⟨v2,rfl,al,am,M7,E7⟩;obtain⟨j7,K7⟩:=j3.out.er M7 E7;obtain⟨A6,c6,ls,rfl,o1,o2,T⟩:=L.out;obtain⟨A7,c7,xs,rfl,ox,lx,ex⟩:=al;have Y:xs.length=ls.length:=by
  have h1:=dU List.length T;have h2:=dU List.length ex;simp only[dh,oX]at h1 h2;omega
 have ab:ls.length≤100000:=by
  have h1:=dU List.length T;simp only[dh,oX]at h1;have:=ac.out;omega
 rw[Y];have SS:=φ (zG w7 A6 ls.length c6 ls A7 c7 xs (dQ (E7.own o1 Jk)) (dQ ox) rfl Y ab (fun x hx=>(ki (E7.own (o2 x hx) MY)).1) (fun x hx=>(lx x hx).la) (fun x hx=>G _ (by rw[←ex];exact dL.2 ⟨x,hx,rfl⟩)) (by rw[ex];exact T));have ad:=φ (p.out.trans K7.b);replace j7:=φ j7;clear o1 o2 T ox lx ex Y ab M7 E7 K7 af G j3 L p;go_wp2_with fail;refine SS.out.mono ?_;rintro e w8 ⟨rfl,b8⟩;have aq:kK w g m S (.returned (.bool true)) w8:=⟨rfl,m3,am,r9.1,t,f,j7.out.below b8,J,z.out.tp,z.out.ls,by rw[z.out.tm];exact ZA _,ad.out.trans (b8.mono j7.out.base)⟩
 clear SS b8 ad f j7 J z;go_wp2;go_ret;exact aq
end
end Go.Proofs.YtehimhbgakpenaaGreat
