/- Lemmas. -/
import Derived.Test.YtehimhbgakpenaaGreatap
set_option linter.all false
set_option maxRecDepth 100000
set_option maxHeartbeats 16000000
namespace Go.Proofs.YtehimhbgakpenaaGreat
open Go.RowKit Go.Maps Go.Sort
section
variable [Inhabited BY]
def Vs{R:Nat→Rs}(hok:lY (fx R)):fx (fun i=>tQ (R i))=ic 1 (fx R):=(NQ hok 1).1
def Vr{R:Nat→Rs}(hok:lY (fx R)):mC R 64=kh 1 (fx R):=by
 have:=Qb hok 1;rw[←show((1:Nat):Int)=1 from rfl,←this];unfold Zd mC;simp[QO,HC]
def l7.mK{w:World}{y:La}{A:cG}{c:Nat}{B:cG}{d:Nat}(h:l7 w y A c B d)(a:Int):l7 w { y with a:=a } A c B d:=⟨eU.mK h.la y.o y.s a y.ov,h.rA,h.rB⟩
def Vq{w:World}{s:Rs}(h:l7 w s.x.y s.x.A s.x.c s.x.B s.x.d):l7 w (tQ s).x.y (tQ s).x.A (tQ s).x.c (tQ s).x.B (tQ s).x.d:=by
 unfold tQ;split
 ·split
  ·exact h
  ·split
   ·have h0:=Vp (s:=⟨⟨{ s.x.y with a:=3599 },s.x.A,s.x.c,s.x.B,s.x.d⟩,s.l,true⟩) (w:=w) (h.mK 3599).la;refine⟨?_,Row.nil _ _,Row.nil _ _⟩
    unfold tQ at h0;simp only[gy]at h0;exact h0
   ·exact h.mK _
 ·exact h
def Ku{N:Db}{z:Nat}(h:wS 1 (N z)=true):∃x,ic 1 N z=some x:=by
 unfold wS at h;unfold ic;cases hN:N z with
 |none=>rw[hN]at h;cases h
 |some x=>
   rw[hN]at h;simp only at h ⊢;unfold kY at h ⊢;split at h
   ·next h1=>
    rw[cR h1];split at h
    ·cases h
    ·next h2=>rw[cN h2,cN (by omega)];exact⟨_,rfl⟩
   ·cases h
def Vj(S:Sp):(vd S).tm=S.tm+1:=by
 have h1:(lD S).tm=S.tm+1:=by
  unfold lD Bq;split
  ·rw[(qF _).2.2.2.2.1,(kD _ _).2.2.2.2.1]
  ·rw[(kD _ _).2.2.2.2.1]
 have h2:(vd S).tm=(nC S).tm:=by
  unfold vd;split<;>rfl
 show(vd S).tm=S.tm+1
 rw[h2];exact h1
def IP(w:World)(g:Nat)(r:Sp× List (Int× Ms))(e:Ending)(w':World):Prop:=∃v,e= .returned v∧xX w' w v r.2∧ ∃m',gJ w' g m' r.1∧Er gL w w'
def Ws{p l:Int}(h:He.vQ p l=true):He.oz p (He.vc p l 1)=0∨He.oz p (He.vc p l 1)=2:=by
 have:=He.Hc h;unfold He.vc He.oz
 repeat' split
 all_goals first|exact .inl rfl|exact .inr rfl|omega
def Zl(w wx:World)(g:Nat)(m:Rm)(S1:Sp)(lo:Bool)(v3:Value)(kb:Nat)(a b:Int):Prop:=v3= .bool lo∧jt w g m S1 wx∧fq wx kb [a,b]∧Ty wx kb 72
def Qe(S:Sp)(e:Int)(q:Nat):Sp:={ S with fl:=if e=2 then Fd.gx S.fl q else S.fl }
def UN:Nat→Code→Code
 |0,c=>c
 |n+1,.seq _ b=>UN n b
 |_+1,c=>c
noncomputable def Vi:Code:=UN 11 (Tryz.f54.body.getD .skip)
def KL(w wc:World)(g:Nat)(m:Rm)(S:Sp)(ok:eO S)(aO:S.tm≤1000000)(aK:gL≤w)(al:Hid (0≤m.f.now∧m.f.now≤S.tm))(hcut:jt w g m (vd S) wc)
  {u1 u2 u3 u4 u5 u6 u7 u8 u9 u10 u11 u12 u13 u14 u15 u16 u17 u18 u19 u20 u21 u22 u23 u24 u25 u26 u27 u28 u29 u30 u31 u32 u33 u34 u35 u36 u37 u38 u39 u40 u41 u42 u43 u44 u45 u46 u47 u48 u49 u50 u51 u52 u53 u54 u55 u56 u57 u58 u59 u60 u61 u62 u63 u64 u65 u66 u67 u68 u69 u70 u71 u72 u73 u74 u75 u76 u77 u78 u79 u80 u81 u82 u83 u84 u85 u86 u87 u88 u89 u90 u91 u92 u93 u94 u95 u96 u97 u98 u99 u100 u101 u102 u103 u104 u105 u106 u107 u108 u109 u110 u111 u112 u113 u114 u115 u116 u117 u118 u119 u120 u121 u122 u123 u124 u125 u126 u127 u128 u129 u130 u131 u132 u133 u134 u135 u136 u137 u138 u139 u140 u141 u142 u143 u144 u145 u146 u147 u148 u149 u150 u151 u152 u153 u154 u155 u156 u157 u158 u159 u160 u161 u162 u163 u164 u165 u166 u167 u168 u169 u170 u171 u172 u173 u174 u175 u176 u177 u178 u179 u180 u181 u182 u183 u184 u185 u186 u187 u188 u189 u190 u191 u192 u193 u194 u195 u196 u197 u198 u199 u200 u201 u202 u203 u204 u205 u206 u207 u208 u209 u210 u211 u212 u213 u214 u215 u216 u217 u218 u219 u220 u221 u222 u223 u224 u225 u226 u227 u228 u229 u230 u231 u232 u233 u234 u235 u236 u237 u238 u239:Value} :
  Code.wp Tryz.prog Vi (bodyPost Tryz.prog Tryz.f54 (IP w g (oR S))) ⟨#[.pointer (some ⟨g,0,none⟩),u1,u2,u3,u4,u5,u6,u7,u8,u9,u10,u11,u12,u13,u14,u15,u16,u17,u18,u19,u20,u21,u22,u23,u24,u25,u26,u27,u28,u29,u30,u31,u32,u33,u34,u35,u36,u37,u38,u39,u40,u41,u42,u43,u44,u45,u46,u47,u48,u49,u50,u51,u52,u53,u54,u55,u56,u57,u58,u59,u60,u61,u62,u63,u64,u65,u66,u67,u68,u69,u70,u71,u72,u73,u74,u75,u76,u77,u78,u79,u80,u81,u82,u83,u84,u85,u86,u87,u88,u89,u90,u91,u92,u93,u94,u95,u96,u97,u98,u99,u100,u101,u102,u103,u104,u105,u106,u107,u108,u109,u110,u111,u112,u113,u114,u115,u116,u117,u118,u119,u120,u121,u122,u123,u124,u125,u126,u127,u128,u129,u130,u131,u132,u133,u134,u135,u136,u137,u138,u139,u140,u141,u142,u143,u144,u145,u146,u147,u148,u149,u150,u151,u152,u153,u154,u155,u156,u157,u158,u159,u160,u161,u162,u163,u164,u165,u166,u167,u168,u169,u170,u171,u172,u173,u174,u175,u176,u177,u178,u179,u180,u181,u182,u183,u184,u185,u186,u187,u188,u189,u190,u191,u192,u193,u194,u195,u196,u197,u198,u199,u200,u201,u202,u203,u204,u205,u206,u207,u208,u209,u210,u211,u212,u213,u214,u215,u216,u217,u218,u219,u220,u221,u222,u223,u224,u225,u226,u227,u228,u229,u230,u231,u232,u233,u234,u235,u236,u237,u238,u239],[]⟩ wc:=by
 have aw:=φ ok;have aJ:=φ aK;clear ok aK
 conv=>arg 2;whnf
 obtain⟨m6,M9,E9,n9⟩:=hcut;have aa:(vd S).tm=S.tm+1:=Vj S;have ab:0≤m6.f.now+1∧m6.f.now+1≤(vd S).tm:=by
  have:=al.out;rw[n9,aa];omega
 have hrel:=M9.p.fl.tick (n:=1) (by omega);obtain⟨au,aM⟩:=M9.eY (m6.f.now+1) ab _ hrel;have hE:({ vd S with fl:=Fd.ve 1 (vd S).fl }:Sp)=G4 S:=rfl;rw[hE]at au;have ak:=E9.trans aM;have x1:=M9.fc.c1;have z1:=M9.ff (j:=1) (by omega) rfl;have aN:m6.f.now+1≤9223372036854775807:=by omega
 have ax:0≤m6.f.now:=by have:=al.out;rw[n9];exact this.1
 obtain⟨m7,X⟩:∃m7,gJ (wc.setCell ⟨g,523,none⟩ (.int .i64 (m6.f.now+1))) g m7 (G4 S):=⟨_,au⟩
 replace X:=φ X;replace ak:=φ ak;clear M9 E9 au aM hrel ab n9 hE;go_upto_region 27 with fail;clear x1 z1;generalize World.setCell wc _ _=w8 at *;obtain⟨S1,ar⟩:∃S1,G4 S=S1:=⟨_,rfl⟩
 have aA:oR S=(vY S1,iI S1++mf S1):=by rw[←ar];rfl
 have Z:=aw.out.tE;have ay:(G4 S).tm=S.tm+1:=aa;have aP:=aw.out.tm;rw[ar]at Z X ay;have O:Hid (∀W A ca xs m',su w W g m' (vY S1) A ca xs (iI S1++mf S1)→IP w g (oR S) (.returned (.slice A xs.length ca)) W):=fun W A ca xs m' h=>by
  rw[aA];exact⟨_,rfl,⟨A,ca,xs,rfl,h.ow,h.la,h.eq⟩,_,h.rm,h.er⟩
 have aS:S1.h1≠0:=by have:=Z.h1;omega
 have aR:1≤S1.tm∧S1.tm≤1000001:=by omega
 have aB:=X.out.p.pl;have R:su w w8 g m7 S1 none 0 [] []:=.start X.out ak.out aJ.out;clear ar aA X ak aa ay aP aN ax aO;have k8:=R.rm.c0 8 rfl;have k5:=R.rm.c0 5 rfl;replace Z:=φ Z;replace R:=φ R;go_upto_region 28 with fail;go_quiet (fail);have E:=R.out.below (w':=w8.drewN nq) (JZ nq);clear k8 k5 R;generalize w8.drewN nq=w9 at *;obtain⟨b,hb⟩:∃b,((S1.tm - 1) % S1.h1==0)=b:=⟨_,rfl⟩
 rw[hb];replace hb:=φ hb;replace E:=φ E;go_upto_if 164 with fail;go_cut [9] (fun v9 wx=>∃A ca xs,v9= .slice A xs.length ca∧Hid (su w wx g m7 S1 A ca xs (iI S1)))
 case first=>
  rcases dH b with rfl|rfl
  ·have hz:(S1.tm - 1) % S1.h1=0:=by simpa using hb.out
   have hT:=fun i (hi:i<S1.ps.length)=>XV hz hi
   have hE:=XW hz;have h1:Hid (su w w9 g m7 S1 none 0 [] ((iI S1).take 0)):=by rw[uG];exact E
   replace hT:=φ hT;replace hE:=φ hE;clear E hz O;go_wp2_with fail;go_loopw [9,10] (fun v9 v10 wr=>∃(i:Nat) (A:cG) (ca:Nat) (xs:List Wx),v9= .slice A xs.length ca∧v10= .int .i64 i∧i≤S1.ps.length∧Hid (xs.length=i)∧Hid (su w wr g m7 S1 A ca xs ((iI S1).take i))) (fun _ v10 _=>S1.ps.length - (intOf v10).toNat)
   case atStart=>exact⟨0,none,0,[],rfl,rfl,by omega,rfl,h1⟩
   case round=>
    clear h1;obtain⟨i,A,ca,xs,rfl,rfl,hi,ap,h1⟩:=hrel;have k9:wr.cell? ⟨g,9,none⟩=some (.slice m7.P S1.ps.length m7.cp):=h1.out.rm.c0 9 rfl
    by_cases hin:i<S1.ps.length
    ·have af:=hT.out i hin;obtain⟨gp,hP⟩:=h1.out.rm.gp (by omega);obtain⟨p,hp⟩:∃p,S1.ps[i]=p:=⟨_,rfl⟩
     rw[hp]at af;replace af:=φ af;replace hP:=φ hP;replace hp:=φ hp;go_upto_region 32 with fail;clear k9;have h3:=h1.out.below bd;have C:=h3.rm.own hP.out hin hp.out;refine gF (S:=fun W=>Cv W g 9 (.slice (some ⟨gp,0,none⟩) S1.ps.length m7.cp)∧Cv W g 3 (.int .i64 S1.nd)∧Cv W g 4 (.int .i64 S1.bo)∧Cv W gp (i*6) (.int .i64 p.l)∧Cv W gp (i*6+3) (.int .i64 p.bt)) ⟨h3.rm.c9 hP.out,h3.rm.c0 3 rfl,h3.rm.c0 4 rfl,C.c0,C.c3⟩ (fun z=>?_);clear C h1;generalize wr.drew=w3 at *;replace h3:=φ h3;(iterate 27 refine tA ?_);have U:=cQ w3 (.cells #[p.l,.int .i64 1,S1.nd,S1.bo,p.bt,.int .i64 0,.int .i64 0,.int .i64 0,false,.slice none 0 0,.slice none 0 0] 184);have h5:=h3.out.below U;have Y:=Rd.lit w3 #[p.l,.int .i64 1,S1.nd,S1.bo,p.bt,.int .i64 0,.int .i64 0,.int .i64 0,false,.slice none 0 0,.slice none 0 0] 184;refine rF 27 (fun K hK=>?_);go_simp;have C:=h5.rm.own hP.out hin hp.out;refine hK.out _ _ ⟨h5.rm.c9 hP.out,h5.rm.c0 3 rfl,h5.rm.c0 4 rfl,C.c0,C.c3⟩ (fun z=>?_);clear hK K C;have F:=h5.ow;have L:=h5.er.size;have ac:=ap.out;refine rF 28 (fun K hK=>?_);refine fJ rfl ZC (.tmp 174) (.tmp 201) (by rfl) w (by rfl) F (by rfl) (m:=1) (by rfl) Y (I7 ⟨p.l,⟨1,S1.nd,S1.bo,p.bt,dT⟩,none,0,none,0⟩) (by simp only[maxLen];omega) (by omega) L (xs.length+1) _ rfl rfl ?_;intro v6 w6 M aq ad _;obtain⟨A6,c6,rfl,-⟩:=dN M;have u:=h5.push (s:=⟨p.l,⟨1,S1.nd,S1.bo,p.bt,dT⟩,none,0,none,0⟩) (l7.zero _) rfl rfl ad M;rw[←af.out]at u;have D:(xs++ [(⟨p.l,⟨1,S1.nd,S1.bo,p.bt,dT⟩,none,0,none,0⟩:Wx)]).length=xs.length+1:=by simp
     have C:=u.rm.own hP.out hin hp.out;refine hK.out _ _ ⟨u.rm.c9 hP.out,u.rm.c0 3 rfl,u.rm.c0 4 rfl,C.c0,C.c3⟩ (fun z=>?_);clear hK K C;refine tV 29 9 (.slice A6 (xs.length+1) c6) ?_
     refine dF ?_;have hrel:Hid ((xs++ [(⟨p.l,⟨1,S1.nd,S1.bo,p.bt,dT⟩,none,0,none,0⟩:Wx)]).length=i+1):=φ (by rw[D,ac]);rw[←D];replace u:=φ u;clear z D M aq ad F L ac h3 h5 Y U af;go_wp2;go_round
     case rel=>exact⟨i+1,A6,c6,_,by simp,by go_num,by omega,hrel,u⟩
     case measure=>simp[intOf];omega
    ·have aG:i=S1.ps.length:=by omega
     have h2:Hid (su w wr g m7 S1 A ca xs (iI S1)):=by
      have:=h1.out;rw[aG,hE.out]at this;exact this
     have e1:decide ((i:Int)< (S1.ps.length:Int))=false:=by simp;omega
     clear h1 aG;go_wp2;go_meet;exact⟨A,ca,xs,rfl,h2⟩
  ·have e2:iI S1= []:=by unfold iI;exact cN (by simpa using hb.out)
   have az:Hid (su w w9 g m7 S1 none 0 [] (iI S1)):=by rw[e2];exact E
   clear e2 E O;go_wp2;go_meet;exact⟨none,0,[],rfl,az⟩
 case rest=>
  clear E hb;obtain⟨A,ca,xs,rfl,h1⟩:=hcut;have t:=h1.out.rm;have h3:=Z.out.h3;have ab:=t.p.nw;have L:=t.sz;have PL:=Fd.KO wc m7.A m7.c m7.B m7.d m7.f t.KP (by omega) ab.1 (by omega) (by rw[t.p.iv];omega) (by rw[t.p.iv];omega);unfold Fd.uo at PL;have hrel:=t.p.fl.Y4 (by rw[t.p.iv];omega);rw[t.p.iv]at hrel;have H:=t.p.fl.send;have ah:=Fd.Sy (P:=fun s=>l7 wc s.y s.A s.c s.B s.d) t.v.it;have J:=Fd.Sw (P:=fun s=>l7 wc s.y s.A s.c s.B s.d) t.v.it;have aF:(Fd.QU m7.f).length≤16384:=by
   have:(Fd.QU m7.f).length≤m7.f.dP.length:=cz;omega
  obtain⟨dP,am⟩:∃dP,Fd.QU m7.f=dP:=⟨_,rfl⟩
  rw[am]at PL H J aF;obtain⟨nI,T⟩:∃nI,dP.length=nI:=⟨_,rfl⟩
  rw[T]at PL aF;have hlen:Hid (xs.length=(iI S1).length):=by
   have:=dU List.length h1.out.eq;simp only[dh]at this;exact φ this
  have aQ:Hid ((iI S1).length≤24):=by
   unfold iI;split
   ·rw[dh];exact φ aB
   ·exact φ (by simp)
  have hT:=fun k (hk:k<dP.length)=>Xl H hk
  have hE:=Xm H;obtain⟨q0,q1,q2,q3⟩:=t.fc;replace PL:=φ PL;replace hrel:=φ hrel;replace ah:=φ ah;replace J:=φ J;replace hT:=φ hT;replace hE:=φ hE;replace T:=φ T;replace t:=φ t;clear am H h3 ab L aB;go_upto_region 34 with fail;go_wp2_with fail;(with_reducible refine(PL.out).mono ?_);rintro e w3 ⟨A2,c2,B2,d2,A3,c3,rfl,hl,aH,aC,N⟩;clear q0 q1 q2 q3 PL;have G:=t.out.below N;obtain⟨aL,ag⟩:=G.vj (Fd.wB S1.h3 S1.fl) (Fd.MF m7.f) A2 c2 B2 d2 (Fd.By.to t.out.v.ls N t.out.base hl) (Fd.Eu.to t.out.v.is N t.out.base aH) (fun s hs=>(ah.out s hs).below N) hrel.out rfl rfl;have av:=Bg.er ag G.c.lo.1;have V:BT w (im w3 g (Fd.MF m7.f) A2 c2 B2 d2) g (m7.vj (Fd.MF m7.f) A2 c2 B2 d2) (vY S1) A ca xs (iI S1++(mf S1).take 0) A3 c3 dP:=by
   have h9:=h1.out.below N;refine⟨⟨aL,h9.er.trans ag,ag.own h9.ow NS,fun s hs=>(h9.la s hs).kp av,by rw[uG,gY];exact h9.eq,h9.lo⟩,?_,fun s hs=>((J.out s hs).below N).kp av⟩
   rw[T.out];exact ag.own (dx aC h1.out.er.size) Wh
  have y0:=G.Qa;have x0:=G.fc.a;obtain⟨w4,Q⟩:∃W,im w3 g (Fd.MF m7.f) A2 c2 B2 d2=W:=⟨_,rfl⟩
  rw[Q]at V;obtain⟨m8,aD⟩:∃m8,m7.vj (Fd.MF m7.f) A2 c2 B2 d2=m8:=⟨_,rfl⟩
  rw[aD]at V;unfold im at Q;replace Q:=φ Q;replace V:=φ V;clear aD aL ag av G t hl aH aC N hrel ah J h1;go_upto_region 35 with fail;rw[Q.out];clear Q y0 x0;go_wp2_with fail;go_loopw [9,12] (fun v9 ao wr=>∃(k:Nat) (A:cG) (ca:Nat) (xs:List Wx),v9= .slice A xs.length ca∧ao= .int .i64 k∧k≤nI∧Hid (xs.length=(iI S1).length+k)∧Hid (BT w wr g m8 (vY S1) A ca xs (iI S1++(mf S1).take k) A3 c3 dP)) (fun _ ao _=>nI - (intOf ao).toNat)
  case atStart=>exact⟨0,A,ca,xs,rfl,rfl,by omega,hlen,V⟩
  case round=>
   clear V hlen;obtain⟨k,A,ca,xs,rfl,rfl,hk,ap,h1⟩:=hrel
   by_cases hkn:k<nI
   ·have ai:k<dP.length:=by rw[T.out];exact hkn
    have ae:=hT.out k ai;have I:=h1.out.li _ (di ai);obtain⟨s,hs⟩:∃s,dP[k]=s:=⟨_,rfl⟩
    rw[hs]at ae I;replace ae:=φ ae;replace hs:=φ hs;obtain⟨b3,r,e3,-⟩:=CF (dQ h1.out.sr) k ai _ rfl;subst e3;have aj:Hid (∀W m S A ca xs l,BT w W g m S A ca xs l (some ⟨b3,r,none⟩) c3 dP→W.cell? ⟨b3,r+k*8,none⟩=some (.int .i64 s.q)∧W.cell? ⟨b3,r+k*8+1,none⟩=some (.int .i64 s.x.y.o)∧W.cell? ⟨b3,r+k*8+1+1,none⟩=some (.int .i64 s.x.y.s)∧W.cell? ⟨b3,r+k*8+1+2,none⟩=some (.int .i64 s.x.y.a)∧W.cell? ⟨b3,r+k*8+1+3,none⟩=some (.bool s.x.y.ov)∧W.cell? ⟨b3,r+k*8+1+4,none⟩=some (.slice s.x.A s.x.y.adj.length s.x.c)∧W.cell? ⟨b3,r+k*8+1+5,none⟩=some (.slice s.x.B s.x.y.pre.length s.x.d)):=fun W m S A ca xs l h=>by
     obtain⟨b9,o9,e9,hc⟩:=CF (dQ h.sr) k ai s hs.out;injection e9 with e9
     injection e9 with e91 e92
     subst e91 e92;exact⟨hc 0 _ (by omega) rfl,hc 1 _ (by omega) rfl,hc 2 _ (by omega) rfl,hc 3 _ (by omega) rfl,hc 4 _ (by omega) rfl,hc 5 _ (by omega) rfl,hc 6 _ (by omega) rfl⟩
    go_upto_region 38 with fail;have h3:=h1.out.below bd;replace I:=I.below bd;refine gF (S:=fun W=>Cv W g 4 (.int .i64 S1.bo)∧Cv W b3 (r+k*8) (.int .i64 s.q)∧Cv W b3 (r+k*8+1) (.int .i64 s.x.y.o)∧Cv W b3 (r+k*8+1+1) (.int .i64 s.x.y.s)∧Cv W b3 (r+k*8+1+2) (.int .i64 s.x.y.a)∧Cv W b3 (r+k*8+1+3) (.bool s.x.y.ov)∧Cv W b3 (r+k*8+1+4) (.slice s.x.A s.x.y.adj.length s.x.c)∧Cv W b3 (r+k*8+1+5) (.slice s.x.B s.x.y.pre.length s.x.d)) ⟨h3.wo.rm.c0 4 rfl,aj.out _ _ _ _ _ _ _ h3⟩ (fun z=>?_);clear h1;generalize wr.drew=w3 at *;replace h3:=φ h3;replace I:=φ I;(iterate 17 refine tA ?_);have U:=cQ w3 (.cells #[s.q,.int .i64 2,.int .i64 0,S1.bo,.int .i64 0,s.x.y.o,s.x.y.s,s.x.y.a,s.x.y.ov,.slice s.x.A s.x.y.adj.length s.x.c,.slice s.x.B s.x.y.pre.length s.x.d] 184);have h5:=h3.out.below U;have Y:=Rd.lit w3 #[s.q,.int .i64 2,.int .i64 0,S1.bo,.int .i64 0,s.x.y.o,s.x.y.s,s.x.y.a,s.x.y.ov,.slice s.x.A s.x.y.adj.length s.x.c,.slice s.x.B s.x.y.pre.length s.x.d] 184;replace I:=I.out.below U;refine rF 17 (fun K hK=>?_);go_simp;refine hK.out _ _ ⟨h5.wo.rm.c0 4 rfl,aj.out _ _ _ _ _ _ _ h5⟩ (fun z=>?_);clear hK K;have F:=h5.wo.ow;have L:=h5.wo.er.size;have ac:=ap.out;have aI:=aQ.out;refine rF 18 (fun K hK=>?_);refine fJ rfl ZC (.tmp 220) (.tmp 237) (by rfl) w (by rfl) F (by rfl) (m:=1) (by rfl) Y (I7 ⟨s.q,⟨2,0,S1.bo,0,s.x.y⟩,s.x.A,s.x.c,s.x.B,s.x.d⟩) (by simp only[maxLen];omega) (by omega) L (xs.length+1) _ rfl rfl ?_;intro v6 w6 M aq ad _;obtain⟨A6,c6,rfl,-⟩:=dN M;have u:=h5.push (s:=⟨s.q,⟨2,0,S1.bo,0,s.x.y⟩,s.x.A,s.x.c,s.x.B,s.x.d⟩) I rfl rfl ad M;rw[dI,←ae.out]at u;have D:(xs++ [(⟨s.q,⟨2,0,S1.bo,0,s.x.y⟩,s.x.A,s.x.c,s.x.B,s.x.d⟩:Wx)]).length=xs.length+1:=by simp
    refine hK.out _ _ ⟨u.wo.rm.c0 4 rfl,aj.out _ _ _ _ _ _ _ u⟩ (fun z=>?_);clear hK K;refine tV 19 9 (.slice A6 (xs.length+1) c6) ?_
    refine dF ?_;have hrel:Hid ((xs++ [(⟨s.q,⟨2,0,S1.bo,0,s.x.y⟩,s.x.A,s.x.c,s.x.B,s.x.d⟩:Wx)]).length=(iI S1).length+(k+1)):=φ (by rw[D,ac];omega);rw[←D];replace u:=φ u;clear z D M aq ad F L ac aI h3 h5 Y U ae aj I;go_wp2;go_round
    case rel=>exact⟨k+1,A6,c6,_,by simp,by go_num,by omega,hrel,u⟩
    case measure=>simp[intOf];omega
   ·have aE:k=nI:=by omega
    have h2:BT w wr g m8 (vY S1) A ca xs (iI S1++mf S1) A3 c3 dP:=by
     have:=h1.out;rw[aE,←T.out,hE.out]at this;exact this
    have hf:=φ (O.out wr A ca xs m8 h2.wo);have e1:decide ((k:Int)< (nI:Int))=false:=by simp;omega
    clear h1 aE h2 O;go_wp2;go_ret;exact hf.out
def NP(w:World)(g:Nat)(m:Rm)(S:Sp)(M:gJ w g m S)(ok:eO S)(bJ:S.tm≤1000000) :
  Calls Tryz.prog 54 #[pt g] w (IP w g (oR S)):=by
 obtain⟨T,hT⟩:∃T:Sp,T= { S with tm:=S.tm+1 }:=⟨_,rfl⟩
 have a7:eO T:=by rw[hT];exact ok.time
 have aT:T.ps=S.ps:=by rw[hT]
 obtain⟨M1,E1⟩:=M.YV (S.tm+1) (by omega);rw[←hT]at M1;have t:jt w g m (pR T 0) (w.setCell ⟨g,8,none⟩ (.int .i64 (S.tm+1))):=⟨m,M1,E1,rfl⟩
 have bO:T.ps.length≤24:=M1.p.pl;have bD:=φ M.base;have bv:Hid (0≤m.f.now∧m.f.now≤S.tm):=M.p.nw;have i8:=M.c0 8 rfl;have z8:=M.f0 8 (by omega);have br:=ok.tm;have aG:pw T.ps 0=false:=rfl;have bI:S.tm+1≤9223372036854775807:=by omega
 change Hid _ at hT a7 aT t;clear M1 E1;go_in;go_upto_region 2 with fail;clear i8 z8;generalize World.setCell w _ _=w1 at *;have aQ:=φ ok;clear M ok br bI;go_upto_region 4 with fail;go_loopw [3,4] (fun v3 v4 wr=>∃(k:Nat),v3= .bool (pw T.ps k)∧v4= .int .i64 k∧k≤T.ps.length∧Hid (jt w g m (pR T k) wr)) (fun _ v4 _=>T.ps.length - (intOf v4).toNat)
 case atStart=>exact⟨0,by rw[aG],rfl,by omega,t⟩
 case round=>
  clear t aG;obtain⟨k,rfl,rfl,hk,t⟩:=hrel;have aZ:=kD T k;obtain⟨Sk,aM⟩:=ex (pR T k)
  obtain⟨m1,M2,E2,n2⟩:=t.out;replace n2:=φ n2;rw[aM]at M2 aZ;have i9:=M2.c0 9 rfl;unfold qB at i9;simp only[aZ.1]at i9
  by_cases hkn:k<T.ps.length
  ·have O:k<Sk.ps.length:=by rw[aZ.1];exact hkn
   obtain⟨gp,hP⟩:=M2.gp (by omega);obtain⟨p,hp⟩:=ex (T.ps[k])
   have X:Sk.ps[k]=p:=by have:=Nc hkn;simp only[aM]at this;rw[this,hp]
   have aS:=a7.out.ps p (by rw[←hp];exact di hkn);have J:pR T (k+1)=jB Sk k (He.vc p.ph p.lf 1) (He.Bp p.ph p.lf 1):=by
    have:=EJ hkn;simp only[aM,X]at this;exact this
   have U:=CA T.ps k hkn;rw[hp]at U;have aG:=aS.l;obtain⟨q,hq⟩:=de aG.1;have bQ:q<256:=by omega
   have al:=Ws aS.st;have TK:=φ (fun W=>He.qA p.ph p.lf 1 W aS.st (by omega));obtain⟨a,ha⟩:=ex (He.vc p.ph p.lf 1)
   obtain⟨b,hb⟩:=ex (He.Bp p.ph p.lf 1)
   obtain⟨ev,aJ⟩:=ex (He.oz p.ph a)
   have EV:=φ (fun W=>He.zI p.ph p.lf a b W);rw[ha,hb]at TK J;rw[ha]at U al;rw[aJ]at EV U al;rw[uc O,X,aJ]at J;rw[hP]at i9;change Hid _ at J U al hP X hq M2 E2;clear t aS ha hb aJ aM aG hp;go_upto_region 6 with fail;have C:=M2.out.own hP.out O X.out;have c4:=C.c4;have c5:=C.c5;go_wp2_with fail;(with_reducible refine(TK.out _).mono ?_);rintro e w3 ⟨rfl,G⟩;clear C c4 c5 TK i9;have bk:=fq.iE w3 #[a,b] 72 w3 _ rfl rfl;have kt:=jk w3 #[a,b] 72;have bN:=cQ w3 (.cells #[a,b] 72);have M3:=(M2.out.below G).below bN;have E3:=(E2.out.trans (Er.below G)).trans (Er.below bN);have aI:gp<w3:=dm _ _ ((M2.out.below G).own hP.out O X.out).c0;have bR:g<w3:=jo (M2.out.below G).c.ty;clear M2 E2 G bN;go_upto_region 7 with fail;generalize World.alloc w3 _=w4 at *;generalize w3.heap.size=kb at *;have M4:=M3.below bd;have E4:=E3.trans (Er.below bd);have a1:fq w4.drew kb [a,b]:=bk;have bn:Ty w4.drew kb 72:=kt;have C:=M4.own hP.out O X.out;refine gZ (S:=fun W=>Cv W g 9 (.slice (some ⟨gp,0,none⟩) Sk.ps.length m1.cp)∧Cv W gp (k*6+4) p.ph∧Cv W gp (k*6+5) p.lf∧Cv W kb 0 a∧Cv W kb 1 b) [] ⟨M4.c9 hP.out,C.c4,C.c5,a1.c 0 rfl,a1.c 1 rfl⟩ (fun r=>?_);generalize w4.drew=w5 at *;clear C M3 E3 bk kt;(iterate 3 refine uA ?_);refine zA ?_;(iterate 3 refine uA ?_);(iterate 2 refine zA ?_);refine rZ 9 (fun K hK=>?_);go_simp;(with_reducible refine(EV.out _).mono ?_);rintro e w6 ⟨rfl,aL⟩;dsimp only;have M5:=M4.below aL;have E5:=E4.trans (Er.below aL);have ae:=a1.later aL;have aj:=bn.below aL;have C:=M5.own hP.out O X.out;refine hK.out _ _ (fun _=>⟨M5.c9 hP.out,C.c4,C.c5,ae.c 0 rfl,ae.c 1 rfl⟩) (fun E=>?_);replace r:=E (by decide);clear hK K E C M4 E4 a1 bn aL EV;refine uA ?_;refine dZ ?_;clear r;change Hid _ at M5 E5 ae aj;go_upto_if 48 with fail;go_cut [3] (fun v3 wx=>Zl w wx g m (Qe Sk ev q) (pw T.ps (k+1)) v3 kb a b)
   case first=>
    rcases al.out with he|he
    ·subst he;have hf:Zl w w6 g m (Qe Sk 0 q) (pw T.ps (k+1)) (.bool (pw T.ps k)) kb a b:=by
      refine⟨by rw[U.out];simp,⟨m1,?_,E5.out,n2.out⟩,ae.out,aj.out⟩
      unfold Qe;rw[cN (by decide)];exact M5.out
     clear M5 E5 ae aj;go_wp2;go_meet;exact hf
    ·subst he;go_upto_region 8 with fail;have M7:=M5.out.below bd;have E8:=E5.out.trans (Er.below bd);have ao:fq w6.drew kb [a,b]:=ae.out;have bl:Ty w6.drew kb 72:=aj.out;clear M5 E5 ae aj;have D:=M7.fc;have c0:=(M7.own hP.out O X.out).c0;refine gZ (S:=fun W=>F4 W g m1∧Cv W g 9 (.slice (some ⟨gp,0,none⟩) Sk.ps.length m1.cp)∧Cv W gp (k*6) p.l) [16] ⟨D.a,M7.c9 hP.out,c0⟩ (fun r=>?_);generalize w6.drew=w7 at *;clear D c0;have ba:=M7.sz;have DN:=Fd.Cr w7 m1.A m1.c m1.B m1.d m1.f M7.ME M7.KP (by omega) (by omega) p.l;have ab:=Fd.Ec (P:=fun s=>l7 w7 s.y s.A s.c s.B s.d) M7.v.it p.l;have hrel:=M7.p.fl.down q;rw[←hq.out]at hrel;clear ba;change Hid _ at M7 E8 ab hrel;replace DN:=φ DN;(iterate 4 refine uA ?_);refine zA ?_;(iterate 3 refine uA ?_);refine zA ?_;(iterate 3 refine uA ?_);refine zA ?_;refine rZ 13 (fun K hK=>?_);go_simp;(with_reducible refine DN.out.mono ?_);rintro e w8 ⟨A2,c2,B2,d2,rfl,hl,aH,aa⟩;dsimp only;have M9:=M7.out.below aa;have bG:=ao.later aa;have D:=M9.fc;have c0:=(M9.own hP.out O X.out).c0;refine hK.out _ _ (fun _=>⟨D.a,M9.c9 hP.out,c0⟩) (fun E=>?_);clear r;have r:=E (by decide);clear hK K E D c0;(iterate 2 refine uA ?_);obtain⟨af,ag⟩:=M7.out.MH hl aH aa _ hrel.out ⟨rfl,rfl⟩ ab.out;have hf:Zl w (im w8 g (Fd.xx m1.f p.l) A2 c2 B2 d2) g m (Qe Sk 2 q) (pw T.ps (k+1)) (.bool true) kb a b:=by
      refine⟨by rw[U.out];simp,⟨m1.vj (Fd.xx m1.f p.l) A2 c2 B2 d2,?_,E8.out.trans ag,n2.out⟩,?_,ZD _ _ _ _ _ _ _ _ _ _ _ _ (bl.below aa)⟩
      ·unfold Qe;rw[cR rfl];exact af
      ·have aI:g≠kb:=by omega
       exact(((bG.iX (p:=⟨g,522,none⟩) _ aI).iX (p:=⟨g,523,none⟩) _ aI).iX (p:=⟨g,524,none⟩) _ aI).iX (p:=⟨g,525,none⟩) _ aI
     have y0:=M9.Qa;have x0:=M9.fc.a;obtain⟨w9,H⟩:=ex (im w8 g (Fd.xx m1.f p.l) A2 c2 B2 d2)
     rw[H]at hf;unfold im at H;replace H:=φ H;clear af ag hl aH aa DN hrel ab M7 E8 M9 r ao bG bl;refine rZ 16 (fun K hK=>?_);go_simp;refine zZ hK ?_;clear hK K y0 x0;rw[H.out];clear H;refine dZ ?_;go_wp2;go_meet;exact hf
   case rest=>
    obtain⟨rfl,⟨m2,M6,E6,n6⟩,bH,bm⟩:=hcut;clear M5 E5 ae aj;replace n6:=φ n6;have aW:k< (Qe Sk ev q).ps.length:=O;have aU:(Qe Sk ev q).ps[k]=p:=X.out;obtain⟨aP,V⟩:=M6.gp (by omega);have bB:aP≠kb:=fun e=>by
     have ho:=M6.ow;rw[V]at ho;have:=fY ho rfl;rw[e]at this;exact absurd (kg this bm) (by decide)
    have a5:Hid (pR T (k+1)= { Qe Sk ev q with ps:=(Qe Sk ev q).ps.set k (jq p a b) }):=by
     show _=_
     rw[J.out];unfold Qe;rcases al.out with he|he
     ·subst he;rw[cN (by decide),cN (by decide)];rfl
     ·subst he;rw[cN (by decide),cR rfl,hq.out];rfl
    change Hid _ at V aU;clear J U al bm;generalize Qe Sk ev q=S2 at *;change Hid _ at M6 E6;go_upto_region 10 with fail;have M7:=M6.out.below bd;have E7:=E6.out.trans (Er.below bd);have ao:fq wc.drew kb [a,b]:=bH;clear M6 E6 bH;refine gZ (S:=fun W=>Cv W g 9 (.slice (some ⟨aP,0,none⟩) S2.ps.length m2.cp)∧Cv W kb 0 a∧Cv W kb 1 b) [8] ⟨M7.c9 V.out,ao.c 0 rfl,ao.c 1 rfl⟩ (fun r=>?_);generalize wc.drew=w7 at *;have z4:=M7.Uw V.out (k*6+4);have z5:=M7.Uw V.out (k*6+5);have C:=M7.own V.out aW aU.out;have c4:=C.c4;have c5:=C.c5;clear C;obtain⟨M8,E8⟩:=M7.state V.out aW a b;have E9:=E7.trans E8;have bj:=(ao.iX (p:=⟨aP,k*6+4,none⟩) (.int .i64 a) bB).iX (p:=⟨aP,k*6+5,none⟩) (.int .i64 b) bB;rw[aU.out]at M8;change Hid _ at M8 E9;clear M7 E7 E8 ao;(iterate 3 refine uA ?_);refine zA ?_;refine uA ?_;refine zA ?_;(iterate 2 refine uA ?_);refine rZ 8 (fun K hK=>?_);go_simp;refine zZ hK ?_;clear hK K r z4 z5 c4 c5;refine dZ ?_;generalize (w7.setCell _ _).setCell _ _=w8 at *;have b0:=bj.c 0 rfl;go_upto_region 11 with fail
    by_cases h0:a=0
    ·have e1:(a==0)=true:=by simp[h0]
     obtain⟨af,ag⟩:=M8.out.WE V.out (i:=k) (by simpa using aW) 0;have i9:=M8.out.c9 V.out;simp only[dw]at i9;have c3:=(M8.out.VK V.out (i:=k) (by simpa using aW)).c3;have z3:=M8.out.Uw V.out (k*6+3);have t:Hid (jt w g m (pR T (k+1)) (w8.setCell ⟨aP,k*6+3,none⟩ i0)):=by
      refine⟨m2,?_,E9.out.trans ag,n6.out⟩
      rw[a5.out];unfold jq;rw[cR h0];simp only[lu,fG]at af;exact af
     clear af ag M8 E9 h0 bj;go_wp2;go_round
     case rel=>exact⟨k+1,rfl,by go_num,by omega,t⟩
     case measure=>simp[intOf];omega
    ·have e1:(a==0)=false:=by simp[h0]
     have t:Hid (jt w g m (pR T (k+1)) w8):=by
      refine⟨m2,?_,E9.out,n6.out⟩
      rw[a5.out];unfold jq;rw[cN h0];exact M8.out
     clear M8 E9 h0 bj;go_wp2;go_round
     case rel=>exact⟨k+1,rfl,by go_num,by omega,t⟩
     case measure=>simp[intOf];omega
  ·have bc:k=T.ps.length:=by omega
   have e1:decide ((k:Int)< (T.ps.length:Int))=false:=by simp;omega
   have hA:Bq S=pR T T.ps.length:=by unfold Bq;rw[←hT.out,aT.out]
   have ar:Hid (jt w g m (Bq S) wr):=by
    have:=t.out;rw[bc,←hA]at this;exact this
   have bw:pw T.ps k=pw S.ps S.ps.length:=by rw[bc,aT.out]
   rw[bw];have bi:Hid (pw S.ps S.ps.length=true→lD S=ft (Bq S)):=fun e=>by unfold lD;rw[cR e]
   have bh:Hid (pw S.ps S.ps.length=false→lD S=Bq S):=fun e=>by unfold lD;rw[cN (by rw[e];simp)]
   obtain⟨lb,bx⟩:=ex (pw S.ps S.ps.length)
   rw[bx]at bi bh ⊢;clear bx bw t bc hA aZ aM M2 E2 n2;go_upto_if 83 with fail;clear i9 e1;go_cut [] (fun wx=>jt w g m (lD S) wx)
   case first=>
    rcases dH lb with rfl|rfl
    ·have hb:=bi.out rfl;obtain⟨m2,M3,E3,n3⟩:=ar.out;have OG:=φ (sW wr g m2 (Bq S) M3 aQ.out.tA);have ai:Hid (∀W,jt wr g m2 (ft (Bq S)) W→jt w g m (lD S) W):=fun W h2=>by
      rw[hb];exact jt.from E3 n3 h2
     clear M3 E3 n3 ar;go_wp2_with fail;(with_reducible refine OG.out.mono ?_);rintro e w9 ⟨rfl,P8⟩;have hf:=ai.out w9 P8;clear OG P8 ai;go_wp2;go_meet;exact hf
    ·have hb:=bh.out rfl;go_wp2;go_meet;rw[hb];exact ar.out
   case rest=>
    clear ar bi bh;obtain⟨m2,M3,E3,n3⟩:=hcut;have okB:=aQ.out.tB;have aE:(lD S).nd=S.nd:=by
     unfold lD Bq;split
     ·rw[(qF _).2.1,(kD _ _).2.1]
     ·rw[(kD _ _).2.1]
    have hC:nC S= { lD S with db:=ic 1 (lD S).db,fl:=wu S.nd (ic 1 (lD S).db) (lD S).fl ((kh 1 (lD S).db).take (kh 1 (lD S).db).length) }:=by
     rw[dE];rfl
    have a8:=aQ.out.tC;have aO:∀n∈kh 1 (lD S).db,(0≤n∧n<64)∧ ∃x,ic 1 (lD S).db n.toNat=some x:=fun n hn=>by
     unfold kh at hn;exact⟨((jf n).1 (dW.1 hn).1).1,Ku (dW.1 hn).2⟩
    have bM:(kh 1 (lD S).db).length≤64:=by
     unfold kh;refine cZ cz (lg _)
    have ad:lY (fx m2.R):=by rw[M3.p.db];exact okB.db
    have ax:=Vs ad;have bg:=Vr ad;rw[M3.p.db]at ax bg;have aK:=Ds okB.db (n:=1) (by omega);have DT:=qA wc m2.R M3.KW ad;unfold yc at DT;rw[bg]at DT;generalize kh 1 (lD S).db=L at *;generalize ic 1 (lD S).db=N at *;obtain⟨SB,bF⟩:=ex (lD S)
    rw[bF]at M3 hC okB aE;obtain⟨R1,bf⟩:∃R1:Nat→Rs,R1=fun i=>tQ (m2.R i):=⟨_,rfl⟩
    rw[←bf]at DT ax;have au:∀W,(∀i,i<64→l7 W (m2.R i).x.y (m2.R i).x.A (m2.R i).x.c (m2.R i).x.B (m2.R i).x.d)→ ∀i,i<64→l7 W (R1 i).x.y (R1 i).x.A (R1 i).x.c (R1 i).x.B (R1 i).x.d:=fun W h i hi=>by rw[bf];exact Vq (h i hi)
    change Hid _ at hC a8 okB aO aK aE n3 M3 E3 au ax;replace DT:=φ DT;clear bF bf ad bg;go_upto_region 16 with fail;go_wp2_with (first|(refine Dk (R:=m2.R) rfl (.tmp 90) rfl (g:=g) (off:=10) rfl ?hb ?_;(case hb=>exact M3.out.c.pd)));(with_reducible refine DT.out.mono ?_);rintro e w3 ⟨A3,c3,rfl,a4,G⟩;have M4:=M3.out.below G;obtain⟨M5,E5⟩:=M4.RL R1 N ax.out (au.out _ M4.v.rd);have E6:=(E3.out.trans (Er.below G)).trans E5;have Z:=zM a4 Ac (Bg.grow (oW w3 g 10 (fP R1)) M4.c.ty nE (cZ M4.c.lo.1 M4.c.lo.2));have bu:=φ M4.c.pd;change Hid _ at M5 E6 Z;clear DT M3 M4 E3 E5 G a4 au ax;go_upto_region 17 with (first|(refine BG (R:=m2.R) (R':=R1) rfl (.tmp 96) (.tmp 93) rfl (g:=g) (off:=10) rfl rfl ?hb ?_;(case hb=>exact bu.out)));clear bu;generalize w3.setCells g 10 (fP R1)=w5 at *;obtain⟨SC,am⟩:∃SC:Nat→Sp,∀k,SC k= { SB with db:=N,fl:=wu S.nd N SB.fl (L.take k) }:=⟨fun k=>_,fun _=>rfl⟩
    have be:∀k,(SC k).db=N:=fun k=>by rw[am]
    have aD:∀k,(SC k).nd=S.nd:=fun k=>by rw[am];exact aE.out
    have aB:∀k (hk:k<L.length),SC (k+1)=match jR N L[k]with|some x=>if L[k]≠S.nd then { SC k with fl:=lX (SC k).fl x.x (-1) }else SC k|none=>SC k:=fun k hk=>by
     rw[am,am,Cs _ _ _ _ _ hk];rcases jR N L[k]with _|x
     ·rfl
     ·by_cases hz:L[k]≠S.nd
      ·simp only[cR hz]
      ·simp only[cN hz]
    have a0:nC S=SC L.length:=by rw[am,←hC.out]
    have h0:SC 0= { SB with db:=N }:=by rw[am];rfl
    have t:Hid (jt w g m (SC 0) w5):=by
     rw[h0];exact⟨_,M5.out,E6.out,n3.out⟩
    obtain⟨nL,aV⟩:=ex L.length
    rw[aV]at a0 bM Z ⊢;have Q:Hid (w5.ownsRow 0 3 1 (.slice A3 nL c3) nL (L.map encZ)):=dx Z.out (by omega);change Hid _ at aV be aD aB a0;clear h0 am M5 E6 Z hC okB aE n3;go_wp2_with fail;go_loopw [7] (fun v7 wr=>∃(k:Nat),v7= .int .i64 k∧k≤nL∧Hid (jt w g m (SC k) wr)∧Hid (wr.ownsRow 0 3 1 (.slice A3 nL c3) nL (L.map encZ))) (fun v7 _=>nL - (intOf v7).toNat)
    case atStart=>exact⟨0,rfl,by omega,t,Q⟩
    case round=>
     clear t Q;obtain⟨k,rfl,hk,t,Q⟩:=hrel
     by_cases hkn:k<nL
     ·have O:k<L.length:=by rw[aV.out];exact hkn
      obtain⟨b3,ap,rfl,bC⟩:=gE (dQ Q.out) (by rw[dh];omega);have hz:=bC k (.int .i64 L[k]) (by rw[eJ,cM O];rfl);obtain⟨aF,xz,aR⟩:=aO.out L[k] (di O);have I:=aB.out k O;obtain⟨z,bo⟩:=ex (L[k])
      rw[bo]at hz aF I aR;obtain⟨j,rfl⟩:=de aF.1;have u:j<64:=by omega
      have bP:(j:Int)<64:=by omega
      have bK:jR N (j:Int)=some xz:=by unfold jR;rw[cR aF];exact aR
      rw[bK]at I;simp only at I;have a9:=(aK.out j xz aR).1;obtain⟨m4,M6,E6,n6⟩:=t.out;have aN:(m4.R j).x.y=xz.x:=by
       have h1:=congrFun M6.p.db j;rw[be.out k,show N j=some xz from aR]at h1;unfold fx at h1;split at h1
       ·injection h1 with h1;rw[←h1]
       ·cases h1
      have i3:=M6.c0 3 rfl;rw[aD.out k]at i3;replace Q:=ou Q.out (w':=wr) fun _ _=>rfl
      change Hid _ at n6 aN a9;have bz:Cv wr b3 (ap+k) (j:Int):=hz;have Y:Hid (∀W',Er gL wr W'→W'.ownsRow 0 3 1 (.slice (some ⟨b3,ap,none⟩) nL c3) nL (L.map encZ)):=fun W' he=>he.own Q Ts
      have F:Hid (∀W',Er gL wr W'→Cv W' b3 (ap+k) (j:Int)):=fun W' he=>by
       obtain⟨b9,o9,e9,bL⟩:=gE (dQ (Y.out W' he)) (by rw[dh];omega);injection e9 with e9
       injection e9 with e91 e92
       subst e91 e92;exact bL k _ (by rw[eJ,cM O,bo];rfl)
      replace F:=F;clear bC
      by_cases hzn:(j:Int)=S.nd
      ·have e2:((j:Int) !=S.nd)=false:=by simp[hzn]
       rw[cN (by simp[hzn])]at I;replace I:=φ I;clear hzn t;go_upto_region 20 with fail;go_quiet (fail);have bq:cI wr (wr.drewN nq):=below_drewN cy nq;have aq:Hid (jt w g m (SC (k+1)) (wr.drewN nq)):=by
        rw[I.out];exact⟨m4,M6.below bq,E6.trans (Er.below bq),n6.out⟩
       have ac:=φ (Y.out _ (Er.below bq));clear M6 E6 Y F hz bz i3 I bq;generalize wr.drewN nq=w6 at *;go_wp2;go_round
       case rel=>exact⟨k+1,by go_num,by omega,aq,ac⟩
       case measure=>simp[intOf];omega
      ·have e2:((j:Int) !=S.nd)=true:=by simp[hzn]
       rw[cR hzn]at I;replace I:=φ I;clear hzn t;go_upto_region 20 with fail;go_quiet (fail);have bq:cI wr (wr.drewN nq):=below_drewN cy nq;have M7:=M6.below bq;have E7:=E6.trans (Er.below bq);have X7:=Er.below (B:=gL) bq;clear M6 E6 hz bz i3 bq e2;generalize wr.drewN nq=w6 at *;go_upto_region 21 with fail;have M8:=M7.below bd;have E8:=E7.trans (Er.below bd);have X8:=X7.trans (Er.below bd);clear M7 E7 X7;have D:=M8.fc;refine gZ (S:=fun W=>F4 W g m4∧Cv W b3 (ap+k) (j:Int)∧Cv W g (74+j*7) (.int .i64 (m4.R j).x.y.o)∧Cv W g (74+j*7+1) (.int .i64 (m4.R j).x.y.s)∧Cv W g (74+j*7+2) (.int .i64 (m4.R j).x.y.a)∧Cv W g (74+j*7+3) (.bool (m4.R j).x.y.ov)∧Cv W g (74+j*7+4) (.slice (m4.R j).x.A (m4.R j).x.y.adj.length (m4.R j).x.c)∧Cv W g (74+j*7+5) (.slice (m4.R j).x.B (m4.R j).x.y.pre.length (m4.R j).x.d)) [19] ⟨D.a,F.out _ X8,M8.c.pd.c (64+j*7+0) ((ej _ u (by omega)).trans rfl) _ (by omega),M8.c.pd.c (64+j*7+1) ((ej _ u (by omega)).trans rfl) _ (by omega),M8.c.pd.c (64+j*7+2) ((ej _ u (by omega)).trans rfl) _ (by omega),M8.c.pd.c (64+j*7+3) ((ej _ u (by omega)).trans rfl) _ (by omega),M8.c.pd.c (64+j*7+4) ((ej _ u (by omega)).trans rfl) _ (by omega),M8.c.pd.c (64+j*7+5) ((ej _ u (by omega)).trans rfl) _ (by omega)⟩ (fun r=>?_);generalize w6.drew=w7 at *;clear D;have ba:=M8.sz;have ah:dS (m4.R j).x.y:=by rw[aN.out];exact a9.out
       have SP:=φ (Fd.pV w7 m4.A m4.c m4.B m4.d m4.f M8.ME M8.KP M8.dP (by omega) ⟨(m4.R j).x.y,(m4.R j).x.A,(m4.R j).x.c,(m4.R j).x.B,(m4.R j).x.d⟩ (M8.v.rd j u).la (-1));have ab:=Fd.yT (P:=fun s=>l7 w7 s.y s.A s.c s.B s.d) M8.v.it (a:=⟨(m4.R j).x.y,(m4.R j).x.A,(m4.R j).x.c,(m4.R j).x.B,(m4.R j).x.d⟩) (M8.v.rd j u) (-1);have hrel:=M8.p.fl.spread (a:=⟨(m4.R j).x.y,(m4.R j).x.A,(m4.R j).x.c,(m4.R j).x.B,(m4.R j).x.d⟩) ah (-1);change Hid _ at M8 E8 ab hrel ah;clear ba;(iterate 4 refine uA ?_);refine zA ?_;(iterate 4 refine uA ?_);refine zA ?_;(iterate 5 refine uA ?_);refine zA ?_;refine rZ 16 (fun K hK=>?_);go_simp;(with_reducible refine SP.out.mono ?_);rintro e w8 ⟨A2,c2,B2,d2,rfl,hl,aH,aa⟩;dsimp only;have M9:=M8.out.below aa;have X9:=X8.trans (Er.below aa);have D:=M9.fc;refine hK.out _ _ (fun _=>⟨D.a,F.out _ X9,M9.c.pd.c (64+j*7+0) ((ej _ u (by omega)).trans rfl) _ (by omega),M9.c.pd.c (64+j*7+1) ((ej _ u (by omega)).trans rfl) _ (by omega),M9.c.pd.c (64+j*7+2) ((ej _ u (by omega)).trans rfl) _ (by omega),M9.c.pd.c (64+j*7+3) ((ej _ u (by omega)).trans rfl) _ (by omega),M9.c.pd.c (64+j*7+4) ((ej _ u (by omega)).trans rfl) _ (by omega),M9.c.pd.c (64+j*7+5) ((ej _ u (by omega)).trans rfl) _ (by omega)⟩) (fun E=>?_);clear r;have r:=E (by decide);clear hK K E D;(iterate 2 refine uA ?_);have aC:=Fd.zy m4.f ⟨(m4.R j).x.y,(m4.R j).x.A,(m4.R j).x.c,(m4.R j).x.B,(m4.R j).x.d⟩ (-1);obtain⟨af,ag⟩:=M8.out.MH hl aH aa _ hrel.out aC ab.out;have aq:Hid (jt w g m (SC (k+1)) (im w8 g (Fd.EW m4.f ⟨(m4.R j).x.y,(m4.R j).x.A,(m4.R j).x.c,(m4.R j).x.B,(m4.R j).x.d⟩ (-1)) A2 c2 B2 d2)):=by
        rw[I.out];refine⟨m4.vj (Fd.EW m4.f ⟨(m4.R j).x.y,(m4.R j).x.A,(m4.R j).x.c,(m4.R j).x.B,(m4.R j).x.d⟩ (-1)) A2 c2 B2 d2,?_,E8.out.trans ag,aC.2.trans n6.out⟩
        have hv:=ah.out;rw[aN.out]at hv;unfold lX;rw[cR (nA hv),←aN.out];exact af
       have ac:=φ (Y.out _ (X8.trans ag));have y0:=M9.Qa;have x0:=M9.fc.a;obtain⟨w9,H⟩:=ex (im w8 g (Fd.EW m4.f ⟨(m4.R j).x.y,(m4.R j).x.A,(m4.R j).x.c,(m4.R j).x.B,(m4.R j).x.d⟩ (-1)) A2 c2 B2 d2)
       rw[H]at aq ac;unfold im at H;replace H:=φ H;clear af ag hl aH aa SP hrel ab M8 E8 X8 M9 X9 r aC Y F ah I;refine rZ 19 (fun K hK=>?_);go_simp;refine zZ hK ?_;clear hK K y0 x0;rw[H.out];clear H;refine dZ ?_;go_wp2;go_round
       case rel=>exact⟨k+1,by go_num,by omega,aq,ac⟩
       case measure=>simp[intOf];omega
     ·have bA:k=nL:=by omega
      have e1:decide ((k:Int)< (nL:Int))=false:=by simp;omega
      have a2:Hid (jt w g m (nC S) wr):=by
       rw[a0.out,←bA];exact t.out
      obtain⟨m5,M6,E6,n6⟩:=a2.out;have av:=a8.out;have ay:=av.Hu (x:=ix (nC S).x (nC S).md 1) (md:=(nC S).md) (by rw[av.xm];exact av.xk.tick) av.xm;have az:=M6.p.ro;have ak:=M6.p.ri;have bb:m5.o.since=(nC S).x.a:=(az.2.2.2.1 av.xm).2;obtain⟨aA,bt⟩:=Ro.Nd _ _ _ 1 az ak;obtain⟨aY,aX⟩:=Ro.Nf 1 ak M6.p.rl;have TK:=Ro.qA wr wr cy (Ro.sk m5.o m5.oA m5.oc m5.oB m5.od) m5.o 1 ⟨_,_,_,_,rfl,M6.v.og.ro⟩ (by omega) (by rw[az.2.1];exact ak.1) (by rw[az.2.1];exact ak.2.1) (by rw[bb];exact ak.2.2.1) (by rw[bb];exact ak.2.2.2.1);rw[bt]at TK;have hD:vd S=if kZ (nC S).x (nC S).md 1=true then nF { nC S with x:=ix (nC S).x (nC S).md 1 }else { nC S with x:=ix (nC S).x (nC S).md 1 }:=rfl
      obtain⟨SCC,a6⟩:=ex (nC S)
      rw[a6]at M6 ay aA aY aX TK hD;obtain⟨x5,bp⟩:=ex (ix SCC.x SCC.md 1)
      obtain⟨b5,bE⟩:=ex (kZ SCC.x SCC.md 1)
      obtain⟨r5,bs⟩:=ex (Ro.xE m5.o 1)
      rw[bp]at ay aA aY aX hD;rw[bE]at TK hD;rw[bs]at TK aA;obtain⟨o0,o1,o2,o3,o4,o5,o6,o7,o8,o9⟩:=M6.oc;change Hid _ at ay hD n6 M6 E6;replace TK:=φ TK;clear t a2 Q a6 bp bE bs az ak bb bt av;go_upto_region 23 with fail;go_wp2_with fail;(with_reducible refine TK.out.mono ?_);rintro e w3 ⟨v,rfl,a3,G⟩;clear o0 o1 o2 o3 o4 o5 o6 o7 o8 o9;obtain⟨A5,c5,B5,d5,rfl,L5⟩:=wk a3;have M7:=M6.out.below G;have E7:=E6.out.trans (Er.below G);obtain⟨M8,E8⟩:=M7.Dx x5 SCC.md r5 A5 c5 B5 d5 (L5.below G) aA aY aX;have E9:=E7.trans E8;obtain⟨w6,aw⟩:=ex (iD w3 g r5 A5 c5 B5 d5)
      rw[aw]at M8 E9;unfold iD at aw;replace aw:=φ aw;obtain⟨o0,o1,o2,o3,o4,o5,o6,o7,o8,o9⟩:=M7.oc;have z0:=M7.of (j:=0) (by omega) rfl;have z1:=M7.of (j:=1) (by omega) rfl;have z2:=M7.of (j:=2) (by omega) rfl;have z3:=M7.of (j:=3) (by omega) rfl;have z4:=M7.of (j:=4) (by omega) rfl;have z5:=M7.of (j:=5) (by omega) rfl;have z6:=M7.of (j:=6) (by omega) rfl;have z7:=M7.of (j:=7) (by omega) rfl;have z8:=M7.of (j:=8) (by omega) rfl;have z9:=M7.of (j:=9) (by omega) rfl;change Hid _ at M8 E9;clear TK a3 G L5 M6 M7 E6 E7 E8 aA aY aX;go_upto_region 24 with fail;clear o0 o1 o2 o3 o4 o5 o6 o7 o8 o9 z0 z1 z2 z3 z4 z5 z6 z7 z8 z9;rw[aw.out];clear aw e1;go_upto_if 142 with fail;go_cut [] (fun wx=>jt w g m (vd S) wx)
      case first=>
       rcases dH b5 with rfl|rfl
       ·have PB:=φ (Ei w6 g _ _ M8.out ay.out);have ai:Hid (∀W,jt w6 g (m5.Dx r5 A5 c5 B5 d5) (nF { SCC with x:=x5,md:=SCC.md }) W→jt w g m (vd S) W):=fun W h2=>by
         rw[hD.out,cR rfl];exact jt.from (m':=m5.Dx r5 A5 c5 B5 d5) E9.out n6.out h2
        clear M8 E9;go_wp2_with fail;(with_reducible refine PB.out.mono ?_);rintro e w9 ⟨rfl,P9⟩;have hf:=ai.out w9 P9;clear PB P9 ai;go_wp2;go_meet;exact hf
       ·have hf:jt w g m (vd S) w6:=by
         rw[hD.out,cN (by decide)];exact⟨m5.Dx r5 A5 c5 B5 d5,M8.out,E9.out,n6.out⟩
        clear M8 E9;go_wp2;go_meet;exact hf
      case rest=>
       clear M8 E9;go_step;exact KL w wc g m S aQ.out bJ bD.out bv hcut
end
end Go.Proofs.YtehimhbgakpenaaGreat
