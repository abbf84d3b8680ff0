/- Lemmas. -/
import Derived.Test.YtehimhbgakpenaaGreatag
import Derived.Test.YtehimhbgakpenaaGreataf
import Derived.Test.YtehimhbgakpenaaGreatap
set_option linter.all false
set_option maxRecDepth 100000
set_option maxHeartbeats 16000000
namespace Go.Proofs.YtehimhbgakpenaaGreat
open Go.RowKit Go.Maps Go.Sort Go.Proofs.Tryz
noncomputable def wy(S:Sp)(pre:List Pf):Sp× Int:=if vB ⟨S.nd,1,0,false,[],pre⟩=true then(ft { S with pre:=pre },0)else(S,1)
def Ru(nd:Int)(pre:List Pf)(A:cG)(n c:Nat)(w:World)(hn:pre.length=n)(hr:Rd w A (jU pre))(hu:∀p∈pre,p.1<4294967296) :
  Calls prog 85 #[nd,.slice A n c] w fun e w'=>e= .returned (.bool (vB ⟨nd,1,0,false,[],pre⟩))∧cI w w':=by
 have V:=φ (i7 nd 1 0 false [] pre none 0 0 A n c w rfl hn (fun h=>absurd h (by simp[jN])) hr hu);clear hr hn hu;go_in;go_wp2_with fail;refine V.out.mono ?_;rintro e w1 ⟨rfl,hb⟩;clear V;go_wp2;go_ret;exact⟨rfl,hb⟩
def Ky(w:World)(m:Sm)(S:Sp)(a:Nat→Nat)(c:Nat)(h:fe w m S a c)(pre:List Pf)(A:cG)(n cap:Nat)(hr:Rd w A (jU pre))(hn:pre.length=n)(i:n≤1000000)(hu:∀p∈pre,p.1<4294967296)
  (G:vB ⟨S.nd,1,0,false,[],pre⟩=true→GO { S with pre:=pre }) :
  Calls prog 50 #[.pointer (some ⟨m.g,0,none⟩),.slice A n cap] w (kJ w m a c (wy S pre).1 (.int .i64 (wy S pre).2)):=by
 have V:=φ (Ru S.nd pre A n cap w hn hr hu);have h1:Hid (vB ⟨S.nd,1,0,false,[],pre⟩=true→wy S pre=(ft { S with pre:=pre },0)):=fun e=>by unfold wy;rw[cR e]
 have h2:Hid (vB ⟨S.nd,1,0,false,[],pre⟩=false→wy S pre=(S,1)):=fun e=>by unfold wy;rw[cN (by rw[e];simp)]
 have G':=φ G;clear G;generalize wy S pre=R at *;generalize vB ⟨S.nd,1,0,false,[],pre⟩=q at *;have c3:=h.cs.c3;have CL:=φ (fun W (hW:Rd W A (jU pre))=>AB W A n cap pre hW hn i);have hl:=φ hn;replace hu:=φ hu;clear hn i;change Hid _ at h hr;go_in;go_wp2_with fail;refine V.out.mono ?_;rintro e w1 ⟨rfl,hb⟩;clear V c3;have H1:=h.out.below hb;have V1:Ev a c w w1:=gA.below hb;replace hr:=φ (Rd.below hr hb);replace h:=φ H1;clear H1 hb;rcases dH q with rfl|rfl
 ·have hR:=h1.out rfl;have g0:=φ (G' rfl);have j:=φ (CL w1 hr);clear G' h1 h2 hr CL;go_wp2_with fail;refine j.out.mono ?_;rintro e w2 ⟨A2,c2,rfl,ho,d⟩;have H2:=h.out.below d;have V2:Ev a c w w2:=V1.tr (gA.below d);obtain⟨r1,r2,r3,_⟩:=kG ho;have rB:Rd w2 A2 (jU pre)∧Fd.rV w2 A2 pre.length 181:=⟨r1,by rw[hl.out];exact Fd.rH ho⟩
  obtain⟨H3,V3⟩:=H2.cell 11 (by omega) (.slice A2 n c2) (m':={ m with B:=A2,cb:=c2 }) (S':={ S with pre:=pre }) (by unfold Vm;rw[←hl.out];rfl) rfl ⟨rfl,rfl,rfl,rfl,rfl,rfl⟩ ⟨rfl,rfl,rfl,rfl⟩ ⟨rfl,rfl,rfl,rfl,rfl,rfl,rfl⟩ rB ⟨by rw[hl.out];exact r2,r3,hu⟩;have OG:=φ (j9 _ { m with B:=A2,cb:=c2 } _ a c H3 g0.out.pl g0.out.pr g0.out.s0 g0.out.s1 g0.out.x1 g0.out.x2);have k:=H2.cs.c11;have f11:=H2.bx.f 11 rfl;have b:Hid (∀W,gX (w2.setCell ⟨m.g,11,none⟩ (.slice A2 n c2)) { m with B:=A2,cb:=c2 } a c (ft { S with pre:=pre }) (.tuple #[]) (.returned (.tuple #[])) W→kJ w m a c R.1 (.int .i64 R.2) (.returned i0) W):=fun W h2=>by
   rw[hR];exact⟨rfl,{ m with B:=A2,cb:=c2 },a,⟨rfl,rfl,rfl,rfl,rfl⟩,fun _ _=>rfl,h2.2.1,(V2.tr V3).tr h2.2.2⟩
  clear hR H3 V3 V2 V1 h g0 ho d r1 r2 r3 rB H2 j;go_wp2_with fail;refine OG.out.mono ?_;rintro e w3 P2;obtain⟨rfl,P3⟩:=P2;have hf:=b.out w3 ⟨rfl,P3⟩;clear OG P3 b;go_wp2;go_ret;exact hf
 ·have hf:kJ w m a c R.1 (.int .i64 R.2) (.returned (.int .i64 1)) w1:=by
   rw[h2.out rfl];exact⟨rfl,gT.of h V1⟩
  clear h1 h2 h G' V1 hr CL;go_wp2;go_ret;exact hf
end Go.Proofs.YtehimhbgakpenaaGreat
namespace Go.Proofs.YtehimhbgakpenaaGreat
open Go.RowKit Go.Sort Go.ChangeShapes Go.WideShapes Go.ChangeAt Go.Proofs.Tryz
def J5(R:Nat→Rs):pz (nN R)=ku (fx R):=by
 unfold pz nN pE ku eR;rw[jv,zc,jv];have e:(List.range 64).filter ((fun i:Int=>(fx R i.toNat).isSome)∘fun(i:Nat)=>(i:Int))=(List.range 64).filter fun i=>(R i).is:=by
  refine gN fun i hi=>?_
  have h:=ec.1 hi;simp only[Function.comp,Int.toNat_natCast,fx]
  by_cases hr:(R i).is=true<;>simp[h,hr]
 rw[e];refine sH fun i hi=>?_
 obtain⟨h1,h2⟩:=dW.1 hi;have h3:=ec.1 h1;simp only[Function.comp,Int.toNat_natCast,fx];rw[cR ⟨h3,h2⟩];rfl
def Qz(R:Nat→Rs):(nN R).length=(eR (fx R)).length:=by
 have:=dU List.length (J5 R);simpa[pz,ku]using this
def J4{w:World}{R:Nat→Rs}(h:BV w R):∀s∈nN R,jD w s:=fun s hs=>by
 obtain⟨i,hi,rfl⟩:=dL.1 hs;exact h i (ec.1 (dW.1 hi).1)
def uO(w:World)(A B:cG)(n c d:Nat)(la lb:List Lx)(hA:Rd w A (nr la))(hB:Rd w B (nr lb))(hn:la.length=n)(hm:lb.length=n)(b1:n≤9223372036854775807)(j:∀s∈la,jD w s)(h:∀s∈lb,jD w s)(hE:pz la=pz lb) :
  Calls prog 11 #[.slice A n c,.slice B n d] w fun e w'=>e= .returned (.bool true)∧cI w w':=by
 have S:=((St.start w).read hB).read hA;clear hA hB;change Hid _ at hn hm j h hE;have e0:((n:Int) !=(n:Int))=false:=by simp
 go_in;go_wp2_with fail;go_loopw [5] (fun v5 wr=>∃i:Nat,v5= .int .i64 i∧i≤n∧St w wr [] [(A,nr la),(B,nr lb)]) (fun v5 _=>n - (intOf v5).toNat)
 case atStart=>exact⟨0,rfl,by omega,S⟩
 case round=>
  clear S;obtain⟨i,rfl,hi,S⟩:=hrel
  by_cases him:i<n
  ·have g:i<la.length:=by have:=hn.out;omega
   have f:i<lb.length:=by have:=hm.out;omega
   obtain⟨b,off,rfl⟩:=tX (S.r 0 rfl) (by omega);obtain⟨b',q,rfl⟩:=tX (S.r 1 rfl) (by omega);have h1:=j.out la[i] (di g);have h2:=h.out lb[i] (di f);have l:la[i].y=lb[i].y:=by rw[←yX la i g,←yX lb i f];simp only[hE.out]
   obtain⟨x0,x1,x2,x3,x4,x5⟩:=nH (S.r 0 rfl) i g _ rfl;obtain⟨y0,y1,y2,y3,y4,y5⟩:=nH (S.r 1 rfl) i f _ rfl;clear e0;generalize la[i]=s at *;generalize lb[i]=u at *;obtain⟨y,A2,c2,B2,d2⟩:=s;obtain⟨y',A3,c3,B3,d3⟩:=u;simp only at l;subst l;unfold jD at h1 h2;simp only at h1 h2 x0 x1 x2 x3 x4 x5 y0 y1 y2 y3 y4 y5;have EQ:Hid (∀W,cI wr W→Calls prog 55 #[ig y.o y.s y.a y.ov A2 y.adj.length c2 B2 y.pre.length d2,ig y.o y.s y.a y.ov A3 y.adj.length c3 B3 y.pre.length d3] W fun e w'=>e= .returned (.bool true)∧cI W w'):=fun W hb=>by
    have:=CV W _ _ y y ((h1.below S.b).below hb) ((h2.below S.b).below hb)
    rwa[IB]at this
   clear h1 h2 g f;replace x0:=cell_regrown x0;replace x1:=cell_regrown x1;replace x2:=cell_regrown x2;replace x3:=cell_regrown x3;replace x4:=cell_regrown x4;replace x5:=cell_regrown x5;replace y0:=cell_regrown y0;replace y1:=cell_regrown y1;replace y2:=cell_regrown y2;replace y3:=cell_regrown y3;replace y4:=cell_regrown y4;replace y5:=cell_regrown y5;go_upto_region 6 with fail;refine wp_region_quiet_below (by kernel_rfl) (by kernel_rfl) ?_
   repeat (go_big_quiet_step ((first|(go_at_call 55;with_reducible exact Calls.regrown_of (EQ.out _ (below_regrown _ _ _))))))
   refine fI ?_;intro _ p;obtain⟨⟨dq,k⟩,m⟩:=p;subst m;replace S:=S.call (below_regrown _ dq k);generalize grow (redrawn _ dq) k=w6 at *;clear x0 x1 x2 x3 x4 x5 y0 y1 y2 y3 y4 y5 EQ;go_wp2;go_round
   case rel=>exact⟨i+1,by go_num,by omega,S⟩
   case measure=>simp[intOf];omega
  ·obtain rfl:i=n:=by omega
   go_wp2;go_ret;exact⟨rfl,S.b⟩
end Go.Proofs.YtehimhbgakpenaaGreat
namespace Go.Proofs.YtehimhbgakpenaaGreat
open Go.RowKit Go.Maps Go.Sort Go.Proofs.Tryz
structure lU (S S':Sp):Prop where
 tp:S'.tp=S.tp
 ls:S'.ps.map (·.l)=S.ps.map (·.l)
 tm:S'.tm=S.tm
 bo:S'.bo=S.bo
def lU.refl(S:Sp):lU S S:=⟨rfl,rfl,rfl,rfl⟩
def lU.trans{S S' S'':Sp}(h:lU S S')(h2:lU S' S''):lU S S'':=⟨h2.tp.trans h.tp,h2.ls.trans h.ls,h2.tm.trans h.tm,h2.bo.trans h.bo⟩
def lU.zO(S:Sp):lU S (ft S):=by unfold ft;split<;>exact⟨rfl,rfl,rfl,rfl⟩
def Ir{S S':Sp}{i:Nat}{p q:Po}(h:S.ps[i]?=some p)(hq:q.l=p.l)(e:S'.ps=S.ps.set i q)(e1:S'.tp=S.tp)(e2:S'.tm=S.tm)(e3:S'.bo=S.bo):lU S S':=by
 obtain⟨hi,hp⟩:=dj.1 h;exact⟨e1,by rw[e];exact xL hi (by rw[hq,hp]),e2,e3⟩
def lU.UF(S:Sp)(i:Nat)(ph lf:Int):lU S (jB S i ph lf):=by
 unfold jB;split
 ·exact .refl _
 ·next p h=>exact Ir (q:=jq p ph lf) h rfl rfl rfl rfl rfl
def lU.UL(S:Sp)(i:Nat)(ph lf:Int):lU S (jl S i ph lf):=by
 unfold jl;split
 ·exact .UF _ _ _ _
 ·exact(lU.UF _ _ _ _).trans (.zO _)
def lU.bot(S:Sp)(i:Nat)(b:Int):lU S (qj S i b):=by
 unfold qj;split
 ·exact .refl _
 ·next p h=>exact Ir (q:=⟨p.l,p.o,p.c,p.ph,p.lf,b⟩) h rfl rfl rfl rfl rfl
def lU.cos(S:Sp)(i:Nat)(b:Int):lU S (qS S i b):=by
 unfold qS;split
 ·exact .refl _
 ·next p h=>exact Ir (q:=⟨p.l,p.o,b,p.ph,p.lf,p.bt⟩) h rfl rfl rfl rfl rfl
def lU.vL(S:Sp)(i:Nat)(b h:Int):lU S (Ai S i b h):=by
 unfold Ai;split
 ·exact .refl _
 ·refine lU.trans ?_ (.UL _ _ _ _);refine lU.trans ?_ (.bot _ _ _);split
  ·exact .UL _ _ _ _
  ·exact .refl _
def lU.ins(S:Sp)(l:Int)(a:La):lU S (rR S l a).1:=by
 unfold rR;split
 ·exact⟨rfl,rfl,rfl,rfl⟩
 ·split<;>exact⟨rfl,rfl,rfl,rfl⟩
def lU.YS(S:Sp)(l:Int)(a:La):lU S (jz S l a).1:=by
 unfold jz;split
 ·split
  ·exact⟨rfl,rfl,rfl,rfl⟩
  ·split
   ·exact⟨rfl,rfl,rfl,rfl⟩
   ·exact lU.trans (S':={ S with x:=(gI S.x S.md a).x,md:=(gI S.x S.md a).now }) ⟨rfl,rfl,rfl,rfl⟩ (.ins _ _ _)
 ·exact .ins _ _ _
def lU.recv(S:Sp)(i:Nat)(m:Ms):lU S (gV S i m).1:=by
 unfold gV;split
 ·exact .refl _
 ·split
  ·exact .vL _ _ _ _
  ·split
   ·exact .refl _
   ·split
    ·exact .YS _ _ _
    ·exact⟨rfl,rfl,rfl,rfl⟩
def lU.tk(S:Sp)(k:Nat):lU S (pR S k):=by
 induction k with
 |zero=>exact .refl _
 |succ k ih=>
   unfold pR;split
   ·exact ih
   ·exact ih.trans (.UF _ _ _ _)
def lU.Xq(S:Sp):lU { S with tm:=S.tm+1 } (oR S).1:=by
 have h1:lU { S with tm:=S.tm+1 } (Bq S):=.tk _ _;have h2:lU (Bq S) (lD S):=by
  unfold lD;split
  ·exact .zO _
  ·exact .refl _
 have h3:lU (lD S) (nC S):=⟨rfl,rfl,rfl,rfl⟩
 have h4:lU (nC S) (vd S):=by
  unfold vd;split<;>exact⟨rfl,rfl,rfl,rfl⟩
 have h5:lU (vd S) (oR S).1:=⟨rfl,rfl,rfl,rfl⟩
 exact(((h1.trans h2).trans h3).trans h4).trans h5
def lU.over(S:Sp)(b:Bool):lU S (ft { S with ov:=b }):=lU.trans (S':={ S with ov:=b }) ⟨rfl,rfl,rfl,rfl⟩ (.zO _)
def lU.pre(S:Sp)(pre:List Pf):lU S (wy S pre).1:=by
 unfold wy;split
 ·exact lU.trans (S':={ S with pre:=pre }) ⟨rfl,rfl,rfl,rfl⟩ (.zO _)
 ·exact .refl _
def Te{n b h:Int}(h1:0≤n∧n≤63)(h2:1≤b∧b≤1073741824)(h3:0≤h∧h≤1073741824):qg ⟨1,n,b,h,dT⟩=true:=by
 simp[qg,jI,TN,dT,h1,h2,h3]
def JF{k b:Int}{y:La}(hk:k=2∨k=3)(h2:1≤b∧b≤1073741824)(h:dS y):qg ⟨k,0,b,0,y⟩=true:=by
 have hv:=nA h;rcases hk with rfl|rfl<;>simp[qg,jI,h2,hv]
def Kx{S:Sp}(h:eO S):∀x∈(oR S).2,qg x.2=true:=fun x hx=>by
 have ok:=h.tE;have a:x∈iI (G4 S)++mf (G4 S):=hx;rcases eZ.1 a with h1|h1
 ·unfold iI at h1;split at h1
  ·obtain⟨p,hp,rfl⟩:=dL.1 h1;have hn:=ok.nd;have ht:=ok.tp.n;exact Te (by omega) ok.bo (ok.ps p hp).bt
  ·simp at h1
 ·unfold mf at h1;obtain⟨⟨q,y⟩,hq,rfl⟩:=dL.1 h1;obtain⟨l,o,D,hd,_,_,h3,_,h4,_,rfl⟩:=Nv.1 hq;exact JF (.inl rfl) ok.bo (ok.fl l D o hd h3 h4).1
def KV{S:Sp}(h:eO S)(i:Nat){m:Ms}(hm:qg m=true):∀x∈(gV S i m).2,qg x.2=true:=fun x hx=>by
 unfold gV at hx;split at hx
 ·simp at hx
 ·split at hx
  ·simp at hx
  ·split at hx
   ·simp at hx
   ·split at hx
    ·next h1 h2 h3=>
     split at hx
     ·rw[ew]at hx;subst hx;refine JF (.inr rfl) h.bo ?_;have:vB m.y=true:=by
       unfold qg at hm;rw[cN h1,cR (.inl h3)]at hm;simp only[dD]at hm;exact hm.2.2.2
      exact gH.1 this
     ·simp at hx
    ·simp at hx
def XM{m:Ms}(hm:qg m=true):(1≤m.b∧m.b≤1073741824)∧(m.k=1∨m.k=2∨m.k=3)∧(m.k≠1→dS m.y):=by
 unfold qg at hm;rw[dD]at hm;obtain⟨h1,h2⟩:=hm;refine⟨by simpa[jI]using h1,?_,fun hk=>?_⟩
 ·split at h2
  ·next h=>exact .inl h
  ·split at h2
   ·next h=>exact .inr h
   ·cases h2
 ·rw[cN hk]at h2;split at h2
  ·simp only[dD]at h2;exact gH.1 h2.2.2
  ·cases h2
end Go.Proofs.YtehimhbgakpenaaGreat
namespace Go.Proofs.YtehimhbgakpenaaGreat
open Go.RowKit Go.ChangeShapes Go.WideShapes Go.ChangeAt Go.Proofs.Tryz
structure Qx where
 k:Int
 l:Int
 n:Int
 on:Bool
 m:Ms
 A:cG
 c:Nat
 B:cG
 d:Nat
 pre:List Pf
 C:cG
 e:Nat
def Uv(s:Qx):cH:=[s.k,s.l,s.n,s.on,s.m.k,s.m.n,s.m.b,s.m.h,s.m.y.o,s.m.y.s,s.m.y.a,s.m.y.ov,.slice s.A s.m.y.adj.length s.c,.slice s.B s.m.y.pre.length s.d,.slice s.C s.pre.length s.e]
def Ol:List Qx→cH
 | []=>[]
 |s :: l=>Uv s++Ol l
def Ju(l:List Qx):(Ol l).length=l.length*15:=by
 induction l with
 |nil=>rfl
 |cons r l ih=>simp only[Ol,Uv,cX,List.length_cons,List.length_nil,ih];omega
def Sl(l:List Qx):∀(k:Nat) (hk:k<l.length) (j:Nat) (hj:j<15),(Ol l)[15*k+j]?=(Uv l[k])[j]?:=by
 induction l with
 |nil=>intro k hk;simp at hk
 |cons r l ih=>
   intro k hk j hj;have h8:(Uv r).length=15:=rfl;cases k with
   |zero=>simp only[Ol,List.getElem_cons_zero];rw[eP (by omega)];simp
   |succ k=>
     simp only[Ol,List.getElem_cons_succ];rw[dY (by omega),h8,show 15*(k+1)+j - 15=15*k+j by omega];exact ih k (by simpa using hk) j hj
def Si{w:World}{A:cG}{l:List Qx}(h:Rd w A (Ol l))(hn:0<l.length):∃b off,A=some ⟨b,off,none⟩:=by
 obtain⟨b,off,e,hc⟩:=gE h (by rw[Ju];omega);exact⟨b,off,e⟩
def Sj{w:World}{b off:Nat}{l:List Qx}(h:Rd w (some ⟨b,off,none⟩) (Ol l))(k:Nat)(hk:k<l.length)(s:Qx)(hs:l[k]=s)(j:Nat){u:Value}(hj:j<15)(hu:(Uv s)[j]?=some u) :
  w.cell? ⟨b,off+k*15+j,none⟩=some u:=by
 subst hs;obtain⟨b',a,e,hc⟩:=gE h (by rw[Ju];omega);injection e with e
 injection e with e1 e2 e3
 subst e1 e2;rw[iS];exact hc _ _ (by rw[gl k 15,Sl l k hk j hj];exact hu)
structure QG (w:World) (s:Qx):Prop where
 kw:(Lit.int .i64 s.k).wf=true
 lw:(Lit.int .i64 s.l).wf=true
 nw:(Lit.int .i64 s.n).wf=true
 la:eU w (yE s.m.y s.A s.c s.B s.d) s.m.y
 rp:Rd w s.C (jU s.pre)
 lp:s.pre.length≤s.e∧s.e≤maxLen
 vp:∀p∈s.pre,p.1<4294967296
section
variable {P:Program} {w:World} {t:TypeId}
def O7{γ:Type}{T:γ→cH→Prop}{f0 f1 f2 f3 f4:Field}(ht:P.underlying t=some (.struct #[f0,f1,f2,f3,f4]))(o0:f0.offset=0)(o1:f1.offset=1)(o2:f2.offset=2)(o3:f3.offset=3)(o4:f4.offset=4)
  (c0:P.cellsOf f0.type=1) (c1:P.cellsOf f1.type=1) (c2:P.cellsOf f2.type=1) (c3:P.cellsOf f3.type=1) (c4:P.cellsOf f4.type=6) (hC:P.cellsOf t=10) (h0:fH P w f0.type (lj .i64)) (h1:fH P w f1.type (lj .i64)) (h2:fH P w f2.type (lj .i64)) (h3:fH P w f3.type (lj .i64)) (hT:fH P w f4.type T) :
  fH P w t (fun(x:Int× Int× Int× Int× γ) cs=>∃e0 e1 e2 e3 e4 e5,cs= [.int .i64 x.1,.int .i64 x.2.1,.int .i64 x.2.2.1,.int .i64 x.2.2.2.1,e0,e1,e2,e3,e4,e5]∧T x.2.2.2.2 [e0,e1,e2,e3,e4,e5]):=by
 intro H f base spare held fuel cs x hx;obtain⟨xs,n,_,_,e,hl,hi⟩:=mH ht hx;simp at hl;have i0:=hi 0 f0 rfl;have i1:=hi 1 f1 rfl;have i2:=hi 2 f2 rfl;have i3:=hi 3 f3 rfl;have i4:=hi 4 f4 rfl;rw[cM (by omega)]at i0 i1 i2 i3 i4;rw[hC]at e
 match cs,e with
 | [a,b,c,d,e0,e1,e2,e3,e4,e5],_=>
   rw[o0,c0]at i0;rw[o1,c1]at i1;rw[o2,c2]at i2;rw[o3,c3]at i3;rw[o4,c4]at i4;obtain⟨p,⟨rp,_⟩,_⟩:=h0 i0;obtain⟨q,⟨rq,_⟩,_⟩:=h1 i1;obtain⟨r,⟨rr,_⟩,_⟩:=h2 i2;obtain⟨s,⟨rs,_⟩,_⟩:=h3 i3;obtain⟨u,ru,_⟩:=hT i4;simp at rp rq rr rs;subst rp rq rr rs;exact⟨(p,q,r,s,u),⟨e0,e1,e2,e3,e4,e5,rfl,ru⟩,by simp[hC]⟩
def H0{β γ δ:Type}{R:β→cH→Prop}{T:γ→cH→Prop}{U:δ→cH→Prop}{f0 f1 f2 f3 f4 f5:Field}(ht:P.underlying t=some (.struct #[f0,f1,f2,f3,f4,f5]))(o0:f0.offset=0)(o1:f1.offset=1)(o2:f2.offset=2)(o3:f3.offset=3)(o4:f4.offset=4)(o5:f5.offset=14)
  (c0:P.cellsOf f0.type=1) (c1:P.cellsOf f1.type=1) (c2:P.cellsOf f2.type=1) (c3:P.cellsOf f3.type=1) (c4:P.cellsOf f4.type=10) (c5:P.cellsOf f5.type=1) (hC:P.cellsOf t=15) (h0:fH P w f0.type (lj .i64)) (h1:fH P w f1.type (lj .i64)) (h2:fH P w f2.type (lj .i64)) (h3:fH P w f3.type R) (hT:fH P w f4.type T) (hU:fH P w f5.type U) :
  fH P w t (fun(x:Int× Int× Int× β× γ× δ) cs=>∃b e0 e1 e2 e3 e4 e5 e6 e7 e8 e9 g,cs= [.int .i64 x.1,.int .i64 x.2.1,.int .i64 x.2.2.1,b,e0,e1,e2,e3,e4,e5,e6,e7,e8,e9,g]∧(Lit.int .i64 x.1).wf=true∧(Lit.int .i64 x.2.1).wf=true∧(Lit.int .i64 x.2.2.1).wf=true∧R x.2.2.2.1 [b]∧T x.2.2.2.2.1 [e0,e1,e2,e3,e4,e5,e6,e7,e8,e9]∧U x.2.2.2.2.2 [g]):=by
 intro H f base spare held fuel cs x hx;obtain⟨xs,n,_,_,e,hl,hi⟩:=mH ht hx;simp at hl;have i0:=hi 0 f0 rfl;have i1:=hi 1 f1 rfl;have i2:=hi 2 f2 rfl;have i3:=hi 3 f3 rfl;have i4:=hi 4 f4 rfl;have i5:=hi 5 f5 rfl;rw[cM (by omega)]at i0 i1 i2 i3 i4 i5;rw[hC]at e
 match cs,e with
 | [a,b,c,d,e0,e1,e2,e3,e4,e5,e6,e7,e8,e9,g],_=>
   rw[o0,c0]at i0;rw[o1,c1]at i1;rw[o2,c2]at i2;rw[o3,c3]at i3;rw[o4,c4]at i4;rw[o5,c5]at i5;obtain⟨p,⟨rp,wp⟩,_⟩:=h0 i0;obtain⟨q,⟨rq,wq⟩,_⟩:=h1 i1;obtain⟨r,⟨rr,wr⟩,_⟩:=h2 i2;obtain⟨s,rs,_⟩:=h3 i3;obtain⟨u,ru,_⟩:=hT i4;obtain⟨v,rv,_⟩:=hU i5;simp at rp rq rr;subst rp rq rr;exact⟨(p,q,r,s,u,v),⟨d,e0,e1,e2,e3,e4,e5,e6,e7,e8,e9,g,rfl,wp,wq,wr,rs,ru,rv⟩,by simp[hC]⟩
end
def Yv(w:World)(x:Qx)(cs:cH):Prop:=cs=Uv x∧QG w x
def O6(w:World):fH prog w 45 (Yv w):=by
 have oi:fH prog w 3 (lj .i64):=iL underlying3 (by kernel_rfl);have OP:fH prog w 181 _:=uP (w:=w) underlying181 rfl (by kernel_rfl) (by kernel_rfl) (iL underlying179 (by kernel_rfl)) (iL underlying3 (by kernel_rfl));have OM:fH prog w 43 _:=O7 (w:=w) underlying43 rfl rfl rfl rfl rfl (by kernel_rfl) (by kernel_rfl) (by kernel_rfl) (by kernel_rfl) (by kernel_rfl) (by kernel_rfl) oi oi oi oi (O8 w);have O:fH prog w 45 _:=H0 (w:=w) underlying45 rfl rfl rfl rfl rfl rfl (by kernel_rfl) (by kernel_rfl) (by kernel_rfl) (by kernel_rfl) (by kernel_rfl) (by kernel_rfl) (by kernel_rfl) oi oi oi (vn underlying4 (by kernel_rfl)) OM (lR underlying39 (by kernel_rfl) OP);intro H n base spare held fuel cs x hx;obtain⟨⟨p0,p1,p2,pb,⟨m0,m1,m2,m3,y⟩,ys⟩,⟨b,e0,e1,e2,e3,e4,e5,e6,e7,e8,e9,g,rfl,w0,w1,w2,hb,⟨q0,q1,q2,q3,q4,q5,hm,j,m⟩,⟨C,e,us,eg,l3,l4,r2,i⟩⟩,hl⟩:=O hx;rw[show prog.cellsOf 181=2 from by kernel_rfl]at r2;obtain⟨l,rfl,f,d⟩:=Jt r2;unfold Bh at hb;simp only[dJ,fv]at hb eg hm;obtain⟨A,cc,B,dd,c,k⟩:=j.opened;have h:[q0,q1,q2,q3,q4,q5]= [.int .i64 y.o,.int .i64 y.s,.int .i64 y.a,.bool y.ov,.slice A y.adj.length cc,.slice B y.pre.length dd]:=by
  simp only[ig,eE]at c;have:=dU Array.toList c;simpa using this
 simp only[dJ,fv]at h;obtain⟨rfl,rfl,rfl,rfl,rfl,rfl⟩:=h;obtain⟨rfl,rfl,rfl,rfl,rfl,rfl,rfl,rfl,rfl,rfl⟩:=hm;subst hb eg;simp only at f l3;exact⟨⟨p0,p1,p2,pb,⟨m0,m1,m2,m3,y⟩,A,cc,B,dd,l,C,e⟩,⟨by simp only[Uv,f],⟨w0,w1,w2,k,i,⟨by simp only;omega,l4⟩,d⟩⟩,hl⟩
def Vu{w:World}{xs:List Qx}:∀ {vs:cH},En (Yv w) 15 xs vs→vs=Ol xs∧ ∀s∈xs,QG w s:=by
 induction xs with
 |nil=>intro vs h;exact⟨h,by simp⟩
 |cons b t ih=>
   rintro vs ⟨cs,q,rfl,⟨rfl,c⟩,_,hr⟩;obtain⟨rfl,a⟩:=ih hr;refine⟨rfl,fun s hs=>?_⟩
   rcases dA.1 hs with rfl|hs
   ·exact c
   ·exact a s hs
section
variable {H:Type} {enc:TypeId × Value → H} {w:World} {base:Nat} {spare:Nat → Bool} {held:Bool} {r:Reach} {b0:Nat} {v:Value} {d:DataW H} {ps:List MemPlace}
def WJ(hv:Value.okWide prog w r b0 28 v)(h:DataW.Trod enc prog w base spare held 28 v d ps) :
  ∃(A:cG) (n c:Nat) (l:List Qx),v= .slice A n c∧Rd w A (Ol l)∧l.length=n∧n≤maxLen∧ ∀s∈l,QG w s:=by
 obtain⟨A,n,c,x,rfl,A',c',vs,h1,h2,h3,h4,h5⟩:=Mq underlying28 (lR underlying28 (by kernel_rfl) (O6 w)) hv h;simp only[dJ,dp,fv]at h1;obtain⟨rfl,rfl,rfl⟩:=h1;rw[show prog.cellsOf 45=15 from by kernel_rfl]at h4;obtain⟨rfl,a⟩:=Vu h4;exact⟨A,_,c,x,rfl,h5,rfl,cZ h2 h3,a⟩
end
end Go.Proofs.YtehimhbgakpenaaGreat
namespace Go.Proofs.YtehimhbgakpenaaGreat
open Go.RowKit Go.Maps Go.Sort Go.Proofs.Tryz
def JB(t:Tp)(z:Int)(n:Nat):List Po:=((List.range n).filter fun i=>decide (Dr t.ln i=z)).map fun(j:Nat)=>G6 (yA t (j:Int))
def VG(t:Tp)(z:Int):((outs t z).map (yA t)).map G6=JB t z (2*t.ln.length):=by
 unfold outs wE JB;rw[jv,jv];rfl
def Ow(t:Tp)(z:Int)(n:Nat):(JB t z n).length≤n:=by
 unfold JB;rw[dh];exact cZ cz (by simp)
def JA(t:Tp)(z:Int)(n:Nat):JB t z (n+1)=JB t z n++if Dr t.ln n=z then [G6 (yA t (n:Int))]else []:=by
 unfold JB;rw[jj,gC,ez]
 congr 1
 by_cases h:Dr t.ln n=z
 ·simp[h]
 ·simp[h]
def XH{t:Tp}{z:Int}{k:Nat}{x:Lk}(hx:t.ln[k]?=some x):JB t z (2*k+1)=JB t z (2*k)++if x.a=z then [⟨(k:Int),x.b,x.c,0,0,0⟩]else []:=by
 rw[JA]
 congr 1
 have e1:Dr t.ln (2*k)=x.a:=by unfold Dr;rw[show 2*k / 2=k by omega,hx];simp[nD]
 have e2:G6 (yA t ((2*k:Nat):Int))=⟨(k:Int),x.b,x.c,0,0,0⟩:=by
  unfold G6 yA QW QX;simp only[Int.toNat_natCast];rw[show 2*k / 2=k by omega,hx];simp[nD,uT]
 rw[e1,e2]
def XG{t:Tp}{z:Int}{k:Nat}{x:Lk}(hx:t.ln[k]?=some x):JB t z (2*(k+1))=JB t z (2*k+1)++if x.b=z then [⟨(k:Int),x.a,x.d,0,0,0⟩]else []:=by
 rw[show 2*(k+1)=2*k+1+1 by omega,JA]
 congr 1
 have e1:Dr t.ln (2*k+1)=x.b:=by unfold Dr;rw[show(2*k+1) / 2=k by omega,hx];simp[nD]
 have e2:G6 (yA t ((2*k+1:Nat):Int))=⟨(k:Int),x.a,x.d,0,0,0⟩:=by
  unfold G6 yA QW QX;simp only[Int.toNat_natCast];rw[show(2*k+1) / 2=k by omega,hx,show(((2*k+1:Nat):Int)) / 2=(k:Int)by omega];simp[nD,uT]
 rw[e1,e2]
def FV(t:Tp)(tO tL:Value)(nd h1 h2 h3:Int):cH:=[.int .i64 t.n,tO,tL,.int .i64 nd,.int .i64 1,.int .i64 h1,.int .i64 h2,.int .i64 h3,.int .i64 0,.slice none 0 0]++(fP (fun _=>MD)++([.int .i64 0,.int .i64 0,.slice none 0 0,.slice none 0 0]++([.int .i64 0,.int .i64 0,.bool false,.int .i64 0,.int .i64 0,.int .i64 0,.bool false,.slice none 0 0,.slice none 0 0,.int .i64 0]++ [.bool false,.slice none 0 0])))
def Tb(t:Tp)(tO tL:Value)(nd h1 h2 h3:Int):(((((((((zeroCells65).setIfInBounds 0 (.int .i64 t.n)).setIfInBounds 1 tO).setIfInBounds 2 tL).setIfInBounds 3 (.int .i64 nd)).setIfInBounds 4 (.int .i64 1)).setIfInBounds 5 (.int .i64 h1)).setIfInBounds 6 (.int .i64 h2)).setIfInBounds 7 (.int .i64 h3))=(FV t tO tL nd h1 h2 h3).toArray:=by kernel_rfl
def y8{w:World}{g off a:Nat}{p cs:cH}(h:Bx w g off (p++cs))(hp:off+p.length=a):Bx w g a cs:=fun i u hu=>by
 have hi:=(dj.1 hu).1;have:=h (p.length + i) u (by
  rw[dY (by omega),show p.length+i - p.length=i by omega];exact hu)
 rwa[show off+(p.length+i)=a+i by omega]at this
def wX{w:World}{g off:Nat}{cs r:cH}(h:Bx w g off (cs++r)):Bx w g off cs:=fun i u hu=>by
 have hi:=(dj.1 hu).1;exact h i u (by rw[eP hi];exact hu)
section
variable [Inhabited BY]
def Ii(tO tL:Value)(a b:Int):Rm:=⟨none,0,fun _=>MD,⟨a,0,[],[]⟩,none,0,none,0,⟨b,0,false,dT,0⟩,none,0,none,0,tO,tL,none,0⟩
def EB(t:Tp)(nd h1 h2 h3:Int):Sp:=⟨t,nd,1,h1,h2,h3,0,[],false,[],ML,IV,⟨nd,0,0,false,[],[]⟩,false⟩
def Oc(h3:Int):Fd.Rel IV ⟨h3,0,[],[]⟩:=by
 refine⟨?_,List.Pairwise.nil,fun s hs=>by simp at hs,fun q o _ _ h e=>by simp[Fd.ui,IV]at e⟩
 show []=Fd.iA IV
 unfold Fd.iA;rw[eq_comm,List.filter_eq_nil_iff];intro i _;simp[IV]
def RZ(w1:World)(t:Tp)(tO tL:Value)(nd h1 h2 h3:Int)(hB:lF≤gL)(hs:gL≤w1) :
  yb (w1.alloc (.cells (FV t tO tL nd h1 h2 h3).toArray 65)) w1 (Ii tO tL 0 0) (EB t nd h1 h2 h3):=by
 have bx:fq (w1.alloc (.cells (FV t tO tL nd h1 h2 h3).toArray 65)) w1 (FV t tO tL nd h1 h2 h3):=fq.iE w1 _ _ _ _ rfl (by simp);have ty:=jk w1 (FV t tO tL nd h1 h2 h3).toArray 65;generalize w1.alloc _=w2 at *;generalize w1.heap.size=g at *;have b0:Bx w2 g 0 (FV t tO tL nd h1 h2 h3):=fun i u hu=>by rw[iQ];exact bx i u hu
 unfold FV at b0;have b1:=y8 (a:=10) b0 rfl;have b2:=y8 (a:=522) b1 (by rw[fm]);have b3:=y8 (a:=526) b2 rfl;have b4:=y8 (a:=536) b3 rfl;exact⟨wX b0,wX b1,wX b2,wX b3,b4,ty,hB,hs⟩
def RY{w2:World}{g:Nat}{t:Tp}{tO tL:Value}{nd h1 h2 h3:Int}(C0:yb w2 g (Ii tO tL 0 0) (EB t nd h1 h2 h3)) :
  gJ ((w2.setCell ⟨g,522,none⟩ (.int .i64 h3)).setCell ⟨g,526,none⟩ (.int .i64 nd)) g (Ii tO tL h3 nd) (EB t nd h1 h2 h3):=by
 have C1:yb (w2.setCell ⟨g,522,none⟩ h3) g (Ii tO tL h3 0) (EB t nd h1 h2 h3):=C0.Ur (m':=Ii tO tL h3 0) 0 (by omega) (.int .i64 h3) rfl rfl rfl rfl rfl 522 rfl;have C2:yb ((w2.setCell ⟨g,522,none⟩ h3).setCell ⟨g,526,none⟩ nd) g (Ii tO tL h3 nd) (EB t nd h1 h2 h3):=C1.Xv (m':=Ii tO tL h3 nd) 0 (by omega) (.int .i64 nd) rfl rfl rfl rfl rfl 526 rfl;refine⟨C2,⟨fun i _=>l7.zero _,.inl ⟨rfl,rfl,rfl⟩,.inl ⟨rfl,rfl,rfl⟩,fun s hs=>by simp[Ii]at hs,l7.zero _,⟨Rd.nil _ _,Row.nil _ _⟩,⟨by simp[EB],by simp[Ii,maxLen],by simp[EB]⟩⟩,⟨?_,Oc h3,rfl,⟨by simp[Ii],by simp[Ii,EB]⟩,⟨rfl,rfl,rfl,fun h=>by simp[EB]at h,fun _=>⟨rfl,rfl⟩⟩,?_,?_,by simp[EB]⟩,cn⟩
 ·show fx (fun _=>MD)=ML
  rw[Mj]
  try rfl
 ·unfold Ro.Inv EB;simp only;omega
 ·unfold Ro.Ba EB;simp
section
variable {w w':World} {g:Nat} {m:Rm} {S:Sp}
def gJ.YU(h:gJ w g m S)(ov:Bool):gJ (w.setCell ⟨g,536,none⟩ (.bool ov)) g m { S with ov:=ov }:=by
 have hg:w.grownBy (w.setCell ⟨g,536,none⟩ (.bool ov)) (some g):=dk _ _ _ _;obtain⟨hV,hO⟩:=h.uy hg (fun _=>trivial);have hc:yb (w.setCell ⟨g,536,none⟩ (.bool ov)) g m { S with ov:=ov }:=h.c.Xu (m':=m) (S':={ S with ov:=ov }) 0 (by omega) (.bool ov) rfl rfl rfl rfl rfl 536 rfl;exact⟨hc,⟨hV.rd,hV.ls,hV.is,hV.it,hV.og,hV.rq,hV.lq⟩,⟨h.p.db,h.p.fl,h.p.iv,h.p.nw,h.p.ro,h.p.ri,h.p.rl,h.p.pl⟩,hO⟩
def OW(l:List Po)(p:Po):BK (l++ [p])=BK l++HY p:=by rw[HX];simp[BK]
def gJ.app(h:gJ w g m S)(p:Po)(hg:w.grownBy w' (Value.slice m.P S.ps.length m.cp).ownBlock){P':cG}{a:Nat}(ho:w'.ownsRow gL 74 6 (.slice P' (S.ps.length+1) a) (S.ps.length+1) (BK S.ps++HY p))(hl:S.ps.length+1≤24) :
  w'.heap[g]?=w.heap[g]?∧gJ (w'.setCell ⟨g,9,none⟩ (.slice P' (S.ps.length+1) a)) g { m with P:=P',cp:=a } { S with ps:=S.ps++ [p] }:=by
 have e:w'.heap[g]?=w.heap[g]?:=hg.block _ (jo h.c.ty) (fun e=>absurd (kg (fY h.ow e.symm) h.c.ty) (by decide));refine⟨e,?_⟩
 have K:Bg w w':=by
  rcases e2:(Value.slice m.P S.ps.length m.cp).ownBlock with _|k
  ·rw[e2]at hg;exact .below ⟨hg.os,hg.tape,hg.output,hg.size,fun k hk=>hg.block k hk (by simp)⟩
  ·rw[e2]at hg;exact .grow hg (fY h.ow e2) Fj (cZ h.c.lo.1 (h.ow.lt k e2).1)
 have C1:=h.c.Ef e;have V1:=h.v.kp K;have b:w'.grownBy (w'.setCell ⟨g,9,none⟩ (.slice P' (S.ps.length+1) a)) (some g):=dk _ _ _ _;have hc:yb (w'.setCell ⟨g,9,none⟩ (.slice P' (S.ps.length+1) a)) g { m with P:=P',cp:=a } { S with ps:=S.ps++ [p] }:=C1.Xx 9 (by omega) _ (by simp[qB]) rfl rfl rfl rfl;have V2:=V1.kp (.grow b C1.ty nE (cZ h.c.lo.1 h.c.lo.2));have el:(S.ps++ [p]).length=S.ps.length+1:=by simp
 refine⟨hc,⟨V2.rd,V2.ls,V2.is,V2.it,V2.og,V2.rq,V2.lq⟩,⟨h.p.db,h.p.fl,h.p.iv,h.p.nw,h.p.ro,h.p.ri,h.p.rl,by rw[el];exact hl⟩,?_⟩
 rw[el,OW];exact ou ho fun j hj=>b.block _ (ho.lt j hj).2 (fun e3=>by
  injection e3 with e3
  have:=kg (fY ho hj) (by rw[e3];exact C1.ty);exact absurd this (by decide))
end
def ZH:iF prog 51 74 (.agg #[.int .i64 0,.int .i64 0,.int .i64 0,.int .i64 0,.int .i64 0,.int .i64 0]) 6 48:=⟨underlying51,by kernel_rfl,rfl,by omega⟩
structure tx (w wr:World) (g:Nat) (m:Rm) (t:Tp) (tO tL:Value) (S:Sp):Prop where
 rm:gJ wr g m S
 b:cI w wr
 bt:fq wr w [t.n,tO,tL]
 tt:Ty wr w 25
structure AZ (w:World) (kb:Nat) (x:Lk):Prop where
 bx:fq w kb (MG x)
 ty:Ty w kb 79
section
variable {w wr w':World} {g kb:Nat} {m:Rm} {t:Tp} {tO tL:Value} {S:Sp} {x:Lk}
def tx.below(h:tx w wr g m t tO tL S)(hb:cI wr w'):tx w w' g m t tO tL S:=⟨h.rm.below hb,h.b.trans (hb.mono h.b.size),h.bt.later hb,h.tt.below hb⟩
def AZ.below(h:AZ w kb x)(hb:cI w w'):AZ w' kb x:=⟨h.bx.later hb,h.ty.below hb⟩
def Dq{k:Nat}{T:TypeId}(h:Ty w k T)(e:w'.heap[k]?=w.heap[k]?):Ty w' k T:=by obtain⟨cur,fr,e2⟩:=h;exact⟨cur,fr,e.trans e2⟩
def AZ.Ef(h:AZ w kb x)(e:w'.heap[kb]?=w.heap[kb]?):AZ w' kb x:=⟨uf h.bx e,Dq h.ty e⟩
def tx.app(h:tx w wr g m t tO tL S)(hB:gL=w.heap.size)(L:AZ wr kb x)(p:Po)(hg:wr.grownBy w' (Value.slice m.P S.ps.length m.cp).ownBlock){P':cG}{a:Nat}(ho:w'.ownsRow gL 74 6 (.slice P' (S.ps.length+1) a) (S.ps.length+1) (BK S.ps++HY p))(hl:S.ps.length+1≤24) :
  w'.heap[g]?=wr.heap[g]?∧AZ w' kb x∧AZ (w'.setCell ⟨g,9,none⟩ (.slice P' (S.ps.length+1) a)) kb x∧tx w (w'.setCell ⟨g,9,none⟩ (.slice P' (S.ps.length+1) a)) g { m with P:=P',cp:=a } t tO tL { S with ps:=S.ps++ [p] }:=by
 obtain⟨e,M⟩:=h.rm.app p hg ho hl;have et:w'.heap[w.heap.size]?=wr.heap[w.heap.size]?:=kX h.tt h.rm.ow (by decide) hg;have ek:w'.heap[kb]?=wr.heap[kb]?:=kX L.ty h.rm.ow (by decide) hg;have L1:=L.Ef ek;have t1:=Dq h.tt et;have tg:Ty w' g 65:=Dq h.rm.c.ty e;have n1:g≠kb:=fun e=>absurd (kg tg (by rw[e];exact L1.ty)) (by decide)
 have n2:g≠w.heap.size:=fun e=>absurd (kg tg (by rw[e];exact t1)) (by decide)
 refine⟨e,L1,⟨L1.bx.iX _ n1,ee.set _ _ _ _ _ L1.ty⟩,M,?_,(uf h.bt et).iX _ n2,ee.set _ _ _ _ _ t1⟩
 have d:cI w w':=kP h.b (dx h.rm.ow (by omega)) hg cj h.b.size;exact d.setCell (p:=⟨g,9,none⟩) (by rw[←hB];exact h.rm.c.lo.2) _
end
def uM(t:Tp)(nd h1 h2 h3:Int)(j:Nat):Sp:={ EB t nd h1 h2 h3 with ov:=yR t nd.toNat,ps:=JB t nd j }
def US(w:World)(S':Sp)(e:Ending)(w':World):Prop:=∃g m,e= .returned (.pointer (some ⟨g,0,none⟩))∧gJ w' g m S'∧cI w w'
def NZ(w:World)(v:Value)(t:Tp)(node h1 h2 h3:Int)(ht:js w v t)(hT:mE t)(aj:0≤node∧node<t.n)(am:t.ln.length≤12)(hB:gL=w.heap.size)(hO:lF≤gL)
  (H:eO { gz t node h1 h2 h3 with x:=(ke (gz t node h1 h2 h3).x (gz t node h1 h2 h3).md (jS (gz t node h1 h2 h3))).x,md:=(ke (gz t node h1 h2 h3).x (gz t node h1 h2 h3).md (jS (gz t node h1 h2 h3))).now }) :
  Calls prog 8 #[v,node,.int .i64 1,h1,h2,h3] w (US w (qI t node h1 h2 h3)):=by
 obtain⟨A,c,B,d,rfl,rA,rB,l1,l2⟩:=ht;obtain⟨tO,J⟩:∃tO,Value.slice A t.ov.length c=tO:=⟨_,rfl⟩
 obtain⟨tL,M⟩:∃tL,Value.slice B t.ln.length d=tL:=⟨_,rfl⟩
 have q:=cQ w (.cells #[t.n,tO,tL] 25);have Y:fq (w.alloc (.cells #[t.n,tO,tL] 25)) w [t.n,tO,tL]:=fq.iE w _ _ _ _ rfl rfl;have aa:=jk w #[t.n,tO,tL] 25;have al:=hT.n;have ai:=hT.ov;have ak:=hO;replace H:=φ H;replace hB:=φ hB;replace rA:=φ rA;replace rB:=φ rB;replace J:=φ J;replace M:=φ M;unfold EA;rw[J.out,M.out];have V:uM t node h1 h2 h3 (2*t.ln.length)=gz t node h1 h2 h3:=by
  unfold uM gz;rw[VG];rfl
 obtain⟨kn,rfl⟩:=de aj.1;replace V:=φ V;go_in;go_upto_region 1 with fail;generalize U:World.alloc w _=w1 at *;have ah:gL≤w1:=by rw[hB.out,←U];simp
 have C:w.heap.size<w1.heap.size:=by rw[←U];simp
 clear U;obtain⟨b0,b1,b2⟩:=Y.b3;have C0:=RZ w1 t tO tL (kn:Int) h1 h2 h3 ak ah;have o:=cQ w1 (.cells (FV t tO tL (kn:Int) h1 h2 h3).toArray 65);have B2:=q.trans (o.mono (by omega));have af:=Y.later o;have Z:=aa.below o;go_upto_region 2 with fail;rw[Tb];clear b0 b1 b2 q o Y aa;generalize World.alloc w1 _=w2 at *;generalize w1.heap.size=g at *;have N3:tx w ((w2.setCell ⟨g,522,none⟩ (.int .i64 h3)).setCell ⟨g,526,none⟩ (.int .i64 (kn:Int))) g (Ii tO tL h3 kn) t tO tL (EB t kn h1 h2 h3) :=
  ⟨RY C0,(B2.setCell (p:=⟨g,522,none⟩) (iR C) (.int .i64 h3)).setCell (p:=⟨g,526,none⟩) (iR C) (.int .i64 kn),(af.iX (p:=⟨g,522,none⟩) _ (Yy C)).iX (p:=⟨g,526,none⟩) _ (Yy C),ee.trans (.set _ _ _) (.set _ _ _) _ _ Z⟩
 have x0:=C0.pf.c 0 rfl 522 rfl;have y0:=C0.pf.f 0 rfl 522 rfl;have x1:=C0.po.c 0 rfl 526 rfl;have y1:=C0.po.f 0 rfl 526 rfl;clear C0 B2 af Z;replace N3:=φ N3;go_upto_region 3 with fail;clear x0 y0 x1 y1;generalize (w2.setCell _ _).setCell _ _=w3 at *;have b1:w3.cell? ⟨w,1,none⟩=some (.slice A t.ov.length c):=by rw[J.out];exact N3.out.bt.c 1 rfl
 go_upto_if 38 with fail;go_cut [] (fun wx=>Hid (tx w wx g (Ii tO tL h3 kn) t tO tL (uM t kn h1 h2 h3 0)))
 case first=>
  rcases ai with h0|h0
  ·have e1:decide ((kn:Int)< (t.ov.length:Int))=false:=by simp;omega
   have hf:Hid (tx w w3 g (Ii tO tL h3 kn) t tO tL (uM t kn h1 h2 h3 0)):=by
    have e2:uM t kn h1 h2 h3 0=EB t kn h1 h2 h3:=by
     unfold uM EB yR JB;rw[qp (by omega)];rfl
    rw[e2];exact N3
   have ao:t.ov.length≤kn:=by omega
   clear N3 h0;go_wp2;go_meet;exact hf
  ·have e1:decide ((kn:Int)< (t.ov.length:Int))=true:=by simp;omega
   have ab:kn<t.ov.length:=by omega
   obtain⟨b,off,rfl,hc⟩:=zJ (rA.out.below N3.out.b) (by omega);have a0:=hc kn ab;have hf:Hid (tx w (w3.setCell ⟨g,536,none⟩ (.bool t.ov[kn])) g (Ii tO tL h3 kn) t tO tL (uM t kn h1 h2 h3 0)):=by
    have n2:g≠w.heap.size:=fun e=>absurd (kg N3.out.rm.c.ty (by rw[e];exact N3.out.tt)) (by decide)
    have e2:uM t kn h1 h2 h3 0= { EB t kn h1 h2 h3 with ov:=t.ov[kn] }:=by
     unfold uM EB yR JB;rw[cU,cM ab];rfl
    rw[e2];exact⟨N3.out.rm.YU _,N3.out.b.setCell (p:=⟨g,536,none⟩) (by have:=N3.out.rm.c.lo.2;rw[hB.out]at this;exact this) _,N3.out.bt.iX _ n2,ee.set _ _ _ _ _ N3.out.tt⟩
   have x0:=N3.out.rm.q0;have y0:=N3.out.rm.qf (j:=0) (by omega) rfl;generalize t.ov[kn]=ob at *;clear N3 hc h0;go_wp2;go_meet;exact hf
 case rest=>
  clear N3 b1;go_wp2_with fail;go_loopw [14] (fun T wr=>∃(k:Nat) (m':Rm),T= .int .i64 k∧k≤t.ln.length∧Hid (tx w wr g m' t tO tL (uM t kn h1 h2 h3 (2*k)))) (fun T _=>t.ln.length - (intOf T).toNat)
  case atStart=>exact⟨0,_,rfl,by omega,hcut⟩
  case round=>
   clear hcut;obtain⟨k,m,rfl,hk,N⟩:=hrel;have b2:wr.cell? ⟨w,2,none⟩=some (.slice B t.ln.length d):=by rw[M.out];exact N.out.bt.c 2 rfl
   by_cases hkn:k<t.ln.length
   ·obtain⟨b,off,rfl,hc⟩:=sR (rB.out.below N.out.b) (by omega);obtain⟨x,hx⟩:∃x,t.ln[k]=x:=⟨_,rfl⟩
    have I:t.ln[k]?=some x:=by rw[cM hkn,hx]
    have lc:=hc k hkn;rw[hx]at lc;have z0:=lc.c0;have z1:=lc.c1;have z2:=lc.c2;have z3:=lc.c3;have ag:=lc.c3';have z4:=lc.c4;have z5:=lc.c5;have z6:=lc.c6;have E:Hid (x.a=(kn:Int)→ { uM t kn h1 h2 h3 (2*k)with ps:=(uM t kn h1 h2 h3 (2*k)).ps++ [⟨(k:Int),x.b,x.c,0,0,0⟩] }=uM t kn h1 h2 h3 (2*k+1)):=fun e=>by
     unfold uM;simp only[XH I,cR e]
    have D:Hid (x.a≠(kn:Int)→uM t kn h1 h2 h3 (2*k)=uM t kn h1 h2 h3 (2*k+1)):=fun e=>by
     unfold uM;simp only[XH I,cN e,gY]
    have q:Hid (x.b=(kn:Int)→ { uM t kn h1 h2 h3 (2*k+1)with ps:=(uM t kn h1 h2 h3 (2*k+1)).ps++ [⟨(k:Int),x.a,x.d,0,0,0⟩] }=uM t kn h1 h2 h3 (2*(k+1))):=fun e=>by
     unfold uM;simp only[XG I,cR e]
    have o:Hid (x.b≠(kn:Int)→uM t kn h1 h2 h3 (2*k+1)=uM t kn h1 h2 h3 (2*(k+1))):=fun e=>by
     unfold uM;simp only[XG I,cN e,gY]
    have Q:(uM t kn h1 h2 h3 (2*k)).ps.length+1≤24:=by have:(uM t kn h1 h2 h3 (2*k)).ps.length≤2*k:=Ow _ _ _;omega
    have O:(uM t kn h1 h2 h3 (2*k+1)).ps.length+1≤24:=by have:(uM t kn h1 h2 h3 (2*k+1)).ps.length≤2*k+1:=Ow _ _ _;omega
    obtain⟨Sa,ae⟩:∃z,uM t kn h1 h2 h3 (2*k)=z:=⟨_,rfl⟩
    obtain⟨Sb,ad⟩:∃z,uM t kn h1 h2 h3 (2*k+1)=z:=⟨_,rfl⟩
    rw[ae]at N E D Q;rw[ad]at E D q o O;have bk:=cQ wr (.cells #[x.a,x.b,x.c,x.d,x.cap,x.del,x.grp] 79);have L:AZ (wr.alloc (.cells #[x.a,x.b,x.c,x.d,x.cap,x.del,x.grp] 79)) wr x:=⟨fq.iE wr _ _ _ _ rfl rfl,jk _ _ _⟩
    have N5:=N.out.below bk;clear N hc lc ae ad hx bk;replace L:=φ L;replace N5:=φ N5;go_upto_region 9 with fail;clear z0 z1 z2 z3 ag z4 z5 z6 b2;generalize World.alloc wr _=w5 at *;generalize wr.heap.size=kb at *;have k0:=L.out.bx.c 0 rfl;go_upto_if 62 with fail;go_cut [] (fun wx=>∃m',Hid (tx w wx g m' t tO tL Sb)∧Hid (AZ wx kb x))
    case first=>
     by_cases e0:x.a=(kn:Int)
     ·have e1:(x.a==(kn:Int))=true:=by simp[e0]
      have s:=φ (E.out e0);have hl:=Q;clear E D q o Q O e0;have N:=N5;clear N5;go_upto_region 10 with fail;replace N:=φ (N.out.below bd);replace L:=φ (L.out.below bd);refine gZ (S:=fun W=>Cv W g 9 (.slice m.P Sa.ps.length m.cp)∧Cv W kb 1 (.int .i64 x.b)∧Cv W kb 2 (.int .i64 x.c)) [16] ⟨N.out.rm.c0 9 rfl,L.out.bx.c 1 rfl,L.out.bx.c 2 rfl⟩ (fun i=>?_);generalize w5.drew=w6 at *;(iterate 4 refine uA ?_);refine zA ?_;(iterate 2 refine uA ?_);refine zA ?_;(iterate 2 refine uA ?_);refine zA ?_;refine uA ?_;have y:=cQ w6 (.cells #[(k:Int),x.b,x.c,.int .i64 0,.int .i64 0,.int .i64 0] 74);have F:=Rd.lit w6 #[(k:Int),x.b,x.c,.int .i64 0,.int .i64 0,.int .i64 0] 74;have N7:=N.out.below y;have L7:=L.out.below y;refine rZ 12 (fun K hK=>?_);go_simp;refine hK.out _ _ (fun _=>⟨N7.rm.c0 9 rfl,L7.bx.c 1 rfl,L7.bx.c 2 rfl⟩) (fun h=>?_);clear i;have i:=h (by decide);clear hK K h;have l:=N7.rm.ow;have r:=N7.rm.base;refine rZ 13 (fun K hK=>?_);refine fJ rfl ZH (.tmp 67) (.tmp 75) (by rfl) gL (by rfl) l (by rfl) (m:=1) (by rfl) F (JD ⟨(k:Int),x.b,x.c,0,0,0⟩) (by simp only[maxLen];omega) (by omega) r (Sa.ps.length+1) _ rfl rfl ?_;intro v8 w8 u X G _;obtain⟨P8,c8,rfl,-⟩:=dN u;obtain⟨e8,L8,L9,N9⟩:=N7.app hB.out L7 ⟨(k:Int),x.b,x.c,0,0,0⟩ G u hl;have C8:=N7.rm.c.Ef e8;have i9:w8.cell? ⟨g,9,none⟩=some (.slice m.P Sa.ps.length m.cp):=C8.p0.c 9 rfl 9 rfl;have z9:w8.frozen? ⟨g,9,none⟩=false:=C8.p0.f 9 rfl 9 rfl;refine hK.out _ _ (fun _=>⟨i9,L8.bx.c 1 rfl,L8.bx.c 2 rfl⟩) (fun h=>?_);clear i;have i:=h (by decide);clear hK K h;replace L9:=φ L9;replace N9:=φ N9;clear N7 L7 l r u X G L8 C8 e8 F y N L;(iterate 2 refine uA ?_);refine rZ 16 (fun K hK=>?_);go_simp;refine zZ hK ?_;clear hK K i i9 z9;refine dZ ?_;clear k0;have hf:Hid (tx w (w8.setCell ⟨g,9,none⟩ (.slice P8 (Sa.ps.length+1) c8)) g { m with P:=P8,cp:=c8 } t tO tL Sb):=by rw[←s.out];exact N9
      clear N9 s;go_wp2;go_meet;exact⟨_,hf,L9⟩
     ·have e1:(x.a==(kn:Int))=false:=by simp[e0]
      have hf:Hid (tx w w5 g m t tO tL Sb):=by rw[←D.out e0];exact N5
      clear E D q o N5 e0;go_wp2;go_meet;exact⟨_,hf,L⟩
    case rest=>
     clear k0 N5 L E D Q;obtain⟨m,N,L⟩:=hcut;have k1:=L.out.bx.c 1 rfl
     by_cases e0:x.b=(kn:Int)
     ·have e1:(x.b==(kn:Int))=true:=by simp[e0]
      have s:=φ (q.out e0);have hl:=O;clear q o O e0;go_upto_region 12 with fail;replace N:=φ (N.out.below bd);replace L:=φ (L.out.below bd);refine gZ (S:=fun W=>Cv W g 9 (.slice m.P Sb.ps.length m.cp)∧Cv W kb 0 (.int .i64 x.a)∧Cv W kb 3 (.int .i64 x.d)) [16] ⟨N.out.rm.c0 9 rfl,L.out.bx.c 0 rfl,L.out.bx.c 3 rfl⟩ (fun i=>?_);generalize wc.drew=w6 at *;(iterate 4 refine uA ?_);refine zA ?_;(iterate 2 refine uA ?_);refine zA ?_;(iterate 2 refine uA ?_);refine zA ?_;refine uA ?_;have y:=cQ w6 (.cells #[(k:Int),x.a,x.d,.int .i64 0,.int .i64 0,.int .i64 0] 74);have F:=Rd.lit w6 #[(k:Int),x.a,x.d,.int .i64 0,.int .i64 0,.int .i64 0] 74;have N7:=N.out.below y;have L7:=L.out.below y;refine rZ 12 (fun K hK=>?_);go_simp;refine hK.out _ _ (fun _=>⟨N7.rm.c0 9 rfl,L7.bx.c 0 rfl,L7.bx.c 3 rfl⟩) (fun h=>?_);clear i;have i:=h (by decide);clear hK K h;have l:=N7.rm.ow;have r:=N7.rm.base;refine rZ 13 (fun K hK=>?_);refine fJ rfl ZH (.tmp 87) (.tmp 95) (by rfl) gL (by rfl) l (by rfl) (m:=1) (by rfl) F (JD ⟨(k:Int),x.a,x.d,0,0,0⟩) (by simp only[maxLen];omega) (by omega) r (Sb.ps.length+1) _ rfl rfl ?_;intro v8 w8 u X G _;obtain⟨P8,c8,rfl,-⟩:=dN u;obtain⟨e8,L8,L9,N9⟩:=N7.app hB.out L7 ⟨(k:Int),x.a,x.d,0,0,0⟩ G u hl;have C8:=N7.rm.c.Ef e8;have i9:w8.cell? ⟨g,9,none⟩=some (.slice m.P Sb.ps.length m.cp):=C8.p0.c 9 rfl 9 rfl;have z9:w8.frozen? ⟨g,9,none⟩=false:=C8.p0.f 9 rfl 9 rfl;refine hK.out _ _ (fun _=>⟨i9,L8.bx.c 0 rfl,L8.bx.c 3 rfl⟩) (fun h=>?_);clear i;have i:=h (by decide);clear hK K h;replace L9:=φ L9;replace N9:=φ N9;clear N7 L7 l r u X G L8 C8 e8 F y N L;(iterate 2 refine uA ?_);refine rZ 16 (fun K hK=>?_);go_simp;refine zZ hK ?_;clear hK K i i9 z9;refine dZ ?_;clear k1;have hf:Hid (tx w (w8.setCell ⟨g,9,none⟩ (.slice P8 (Sb.ps.length+1) c8)) g { m with P:=P8,cp:=c8 } t tO tL (uM t kn h1 h2 h3 (2*(k+1)))):=by rw[←s.out];exact N9
      clear N9 s L9;go_wp2;go_round
      case rel=>exact⟨k+1,_,by go_num,by omega,hf⟩
      case measure=>simp[intOf];omega
     ·have e1:(x.b==(kn:Int))=false:=by simp[e0]
      have hf:Hid (tx w wc g m t tO tL (uM t kn h1 h2 h3 (2*(k+1)))):=by rw[←o.out e0];exact N
      clear q o N L e0;go_wp2;go_round
      case rel=>exact⟨k+1,_,by go_num,by omega,hf⟩
      case measure=>simp[intOf];omega
   ·have ac:k=t.ln.length:=by omega
    have e1:decide ((k:Int)< (t.ln.length:Int))=false:=by simp;omega
    have N9:tx w wr g m t tO tL (gz t kn h1 h2 h3):=by
     have:=N.out;rw[ac,V.out]at this;exact this
    have OG:=φ (FQ wr g m _ N9.rm (by simp[gz]) (by simp[gz]) H.out);have R:Hid (∀W,jt wr g m (ft (gz t kn h1 h2 h3)) W→US w (qI t kn h1 h2 h3) (.returned (.pointer (some ⟨g,0,none⟩))) W):=fun W ⟨m2,r1,r2,_⟩=>⟨g,m2,rfl,r1,N9.b.trans (r2.toBelow (by rw[hB.out];exact cj) N9.b.size)⟩
    clear N N9 H ac;go_wp2_with fail;(with_reducible refine(OG.out).mono ?_);rintro e w9 ⟨rfl,P9⟩;have hf:=R.out w9 P9;clear OG P9 R;go_wp2;go_ret;exact hf
end
section
variable [Inhabited BY] {w w':World} {g:Nat} {m:Sm} {mr:Rm} {S S1 S2:Sp} {col:Nat → Nat}
structure Bj (w:World) (g:Nat) (m:Sm) (mr:Rm) (S1 S:Sp) (col:Nat→Nat):Prop where
 sp:fe w m S1 col 1
 rs:gJ w g mr S
 gd:m.gd<gL∧m.gf<gL
 col:∀k,k<lF→col k≠1
def Bj.base(h:Bj w g m mr S1 S col):lF≤w:=cZ h.rs.c.lo.1 h.rs.base
def Bj.below(h:Bj w g m mr S1 S col)(hb:cI w w'):Bj w' g m mr S1 S col:=⟨h.sp.below hb,h.rs.below hb,h.gd,h.col⟩
structure Kp (w w':World):Prop where
 k:Bg w w'
 b:Below lF w w'
 t:∀k T,Ty w k T→ ¬iU T→ ¬jC T→w'.heap[k]?=w.heap[k]?
 sz:w.heap.size≤w'.heap.size
def Kp.below(hb:cI w w')(ho:lF≤w):Kp w w':=⟨.below hb,hb.mono ho,fun k T ht _ _=>hb.block k (jo ht),hb.size⟩
def Bj.prog(h:Bj w g m mr S1 S col)(t:gT w m col 1 S2 w'):∃m' a,m'.g=m.g∧Bj w' g m' mr S2 S a∧Kp w w'∧gA (fun k=>col k=1) w w':=by
 obtain⟨m',a,e,hc,h1,h2⟩:=t;have hb:Below lF w w':=h2.toBelow h.col h.base;exact⟨m',a,e.1,⟨h1,h.rs.Ww h2 hb,⟨by rw[e.2.2.1];exact h.gd.1,by rw[e.2.2.2.1];exact h.gd.2⟩,fun k hk=>by rw[hc k (eh hk h.base)];exact h.col k hk⟩,⟨.Ww h2 hb,hb,fun k T ht h3 _=>h2.typed ht h3,h2.size⟩,h2⟩
def Bj.er(h:Bj w g m mr S1 S col){a:Rm}{S':Sp}(hm:gJ w' g a S')(he:Er gL w w'):Bj w' g m a S1 S' col∧Kp w w':=by
 have hb:Below lF w w':=he.toBelow h.rs.c.lo.1 h.base;exact⟨⟨h.sp.er he h.gd.1 h.gd.2,hm,h.gd,h.col⟩,.er he h.rs.c.lo.1,hb,fun k T ht _ h3=>he.typed ht h3,he.size⟩
structure Lb (w:World) (k:Nat) (cs:cH) (T:TypeId):Prop where
 bx:fq w k cs
 ty:Ty w k T
def Lb.kp{k:Nat}{cs:cH}{T:TypeId}(h:Lb w k cs T)(K:Kp w w')(h1:¬iU T)(h2:¬jC T):Lb w' k cs T:=by
 have e:=K.t k T h.ty h1 h2;exact⟨uf h.bx e,Dq h.ty e⟩
def Lb.below{k:Nat}{cs:cH}{T:TypeId}(h:Lb w k cs T)(hb:cI w w'):Lb w' k cs T:=⟨h.bx.later hb,h.ty.below hb⟩
structure WS (w:World) (s:Qx):Prop where
 la:l7 w s.m.y s.A s.c s.B s.d
 rp:Rd w s.C (jU s.pre)∧Row w s.C s.pre.length 181
 lp:s.pre.length≤s.e∧s.e≤maxLen
 vp:∀p∈s.pre,p.1<4294967296
def WS.kp{s:Qx}(h:WS w s)(K:Kp w w'):WS w' s:=⟨h.la.kp K.k,h.rp.1.kp h.rp.2 sU (by rw[gn];omega) K.k,h.lp,h.vp⟩
def kK(w:World)(g:Nat)(m:Sm)(S:Sp)(e:Ending)(w':World):Prop:=e= .returned (.bool true)∧ ∃m' mr' S' col',m'.g=m.g∧Bj w' g m' mr' S' S' col'∧eO S'∧S'.tp=S.tp∧S'.ps.map (·.l)=S.ps.map (·.l)∧S'.tm≤S.tm+1∧Below lF w w'
def kK.of{m':Sm}{mr':Rm}{S':Sp}{col':Nat→Nat}(hb:Below lF w w')(e:m'.g=m.g)(h:Bj w' g m' mr' S' S' col')(ok:eO S')(f:lU S S'):kK w g m S (.returned (.bool true)) w' :=
 ⟨rfl,m',mr',S',col',e,h,ok,f.tp,f.ls,by rw[f.tm];omega,hb⟩
def W9(s:Qx):Value:=.agg #[s.k,s.l,s.n,s.on,s.m.k,s.m.n,s.m.b,s.m.h,s.m.y.o,s.m.y.s,s.m.y.a,s.m.y.ov,.slice s.A s.m.y.adj.length s.c,.slice s.B s.m.y.pre.length s.d,.slice s.C s.pre.length s.e]
def xA:¬iU 45:=by unfold iU;decide
def tK:¬jC 45:=by unfold jC;decide
def Js:¬iU 43:=by unfold iU;decide
def Fk:¬jC 43:=by unfold jC;decide
def Af{l:Int}{i:Nat}(h:jZ S.ps l=some i):Ah S l=(i:Int):=by unfold Ah;rw[h]
def Ag{l:Int}(h:jZ S.ps l=none):Ah S l= -1:=by unfold Ah;rw[h]
def YF(S:Sp)(s:Qx):Ms:=match jZ S.ps s.l with|some i=>if s.m.k=1∧s.n=0 then { s.m with n:=match S.ps[i]? with|some p=>p.o|none=>0 }else s.m|none=>s.m
def XN(S:Sp)(s:Qx):(YF S s).y=s.m.y:=by
 unfold YF;split
 ·split<;>rfl
 ·rfl
def YE(m:Ms)(A:cG)(c:Nat)(B:cG)(d:Nat):cH:=[m.k,m.n,m.b,m.h,m.y.o,m.y.s,m.y.a,m.y.ov,.slice A m.y.adj.length c,.slice B m.y.pre.length d]
def Sh{l:Int}:pc S l [9,0,0]=((S,[]),match jZ S.ps l with|none=>2|some _=>4):=by
 have hd:lH [9,0,0]=some [(9,[])]:=by
  rw[ud _ (by simp) (by decide)];rw[show([9,0,0]:List UInt8).drop (3+Ge [9,0,0])= []from by decide,qQ];rfl
 have hu:sK [9,0,0]=4:=by
  unfold sK;rw[hd];simp[qq]
 unfold pc;rcases jZ S.ps l with _|i
 ·rfl
 ·simp only;rw[cR (by rw[hu];decide),hu]
def Oi{l:Int}{bs:List UInt8}(h:jZ S.ps l=none):pc S l bs=((S,[]),2):=by unfold pc;rw[h]
def Sg{l:Int}{i:Nat}{mm:Ms}(h:jZ S.ps l=some i){p:Po}(hp:S.ps[i]?=some p)(hm:qg mm=true)(hu:∀p∈mm.y.pre,p.1<4294967296):pc S l (jY mm)=if mm.k=1∧mm.n≠p.o then((S,[]),1)else(gV S i mm,0):=by
 obtain⟨e1,e2⟩:=Ch hm hu;unfold pc;rw[h];simp only[hp,e1,e2];simp
def xC{w:World}{base:Nat}{v:Value}(h:pF w base v []):∃A c,v= .slice A 0 c:=by
 obtain⟨A,c,ls,e,_,_,h4⟩:=h;have:ls= []:=by simpa[oX]using h4
 subst this;exact⟨A,c,e⟩
end
def Cg{w:World}{B:cG}{l:List Wx}(h:Rd w B (Bl l))(k:Nat)(hk:k<l.length)(s:Wx)(hs:l[k]=s):∃b off,B=some ⟨b,off,none⟩∧ ∀j u,j<11→(MQ s)[j]?=some u→w.cell? ⟨b,off+k*11+j,none⟩=some u:=by
 obtain⟨b,off,e,hc⟩:=gE h (by rw[QZ];omega);refine⟨b,off,e,fun j u hj hu=>?_⟩
 have:=hc (k*11+j) u (by rw[Q1 l k hk j hj,hs];exact hu)
 rwa[show off+(k*11+j)=off+k*11+j by omega]at this
def zG(w:World)(A:cG)(n c:Nat)(ls:List Sx)(B:cG)(d:Nat)(xs:List Wx)(hA:Rd w A (BI ls))(hB:Rd w B (Bl xs))(hn:ls.length=n)(hm:xs.length=n)(b1:n≤100000)(E:∀s∈ls,Bs w s.A s.bs)
  (D:∀s∈xs,eU w (yE s.m.y s.A s.c s.B s.d) s.m.y) (hv:∀s∈xs,qg s.m=true) (hE:ls.map (fun s=>(s.l,s.bs))=oX (xs.map fun s=>(s.l,s.m))) :
  Calls prog 52 #[.slice A n c,.slice B n d] w fun e w'=>e= .returned (.bool true)∧cI w w':=by
 have S:=((St.start w).read hB).read hA;clear hA hB;change Hid _ at hn hm E D hv hE;have e0:((n:Int) !=(n:Int))=false:=by simp
 go_in;go_wp2_with fail;go_loopw [5] (fun v5 wr=>∃i:Nat,v5= .int .i64 i∧i≤n∧St w wr [] [(A,BI ls),(B,Bl xs)]) (fun v5 _=>n - (intOf v5).toNat)
 case atStart=>exact⟨0,rfl,by omega,S⟩
 case round=>
  clear S;obtain⟨i,rfl,hi,S⟩:=hrel
  by_cases him:i<n
  ·have x:i<ls.length:=by have:=hn.out;omega
   have t:i<xs.length:=by have:=hm.out;omega
   have g1:=E.out ls[i] (di x);have g2:=D.out xs[i] (di t);have g3:=hv.out xs[i] (di t);have z:(ls[i].l,ls[i].bs)=(xs[i].l,iy xs[i].m):=by
    have h1:(ls.map fun s=>(s.l,s.bs))[i]?=some (ls[i].l,ls[i].bs):=by rw[eJ,cM x];rfl
    rw[hE.out]at h1;unfold oX at h1;rw[jv,eJ,cM t]at h1;injection h1 with h1
    exact h1.symm
   obtain⟨b,off,rfl,x0,x1⟩:=zt (S.r 0 rfl) i x;have p:∀W,Rd W (some ⟨b,off,none⟩) (BI ls)→Cv W b (off+i*2) (.int .i64 ls[i].l)∧Cv W b (off+i*2+1) (.slice ls[i].A ls[i].bs.length ls[i].c):=fun W h=>by
    obtain⟨b9,o9,e9,y0,y1⟩:=zt h i x;injection e9 with e9
    injection e9 with e91 e92
    subst e91 e92;exact⟨y0,y1⟩
   obtain⟨b',f,rfl,-⟩:=Cg (S.r 1 rfl) i t _ rfl;obtain⟨s,hs⟩:=ex (ls[i])
   obtain⟨u,hu⟩:=ex (xs[i])
   rw[hs]at g1 z x0 x1;simp only[hs]at p;rw[hu]at g2 g3 z;replace hu:=φ hu;have g:Hid (∀W,St w W [] [(some ⟨b,off,none⟩,BI ls),(some ⟨b',f,none⟩,Bl xs)]→ ∀j v,j<11→(MQ u)[j]?=some v→Cv W b' (f+i*11+j) v):=fun W h=>by
    obtain⟨b9,o9,e9,hc⟩:=Cg (h.r 1 rfl) i t u hu;injection e9 with e9
    injection e9 with e91 e92
    subst e91 e92;exact hc
   clear hs hu;obtain⟨l,As,bs,cs⟩:=s;obtain⟨l',mm,A2,c2,B2,d2⟩:=u;simp only[iP]at z g1 g2 g3 x0 x1 p;obtain⟨rfl,rfl⟩:=z;have C:iy mm=jY mm:=by unfold iy;rw[cR g3]
   rw[C]at g1 x1;simp only[C]at p;have RP:=fun W (hb:cI w W)=>xF W (Ih mm A2 c2 B2 d2) mm ⟨A2,c2,B2,d2,rfl,g2.below hb⟩ g3
   unfold qX Ih at RP;clear g2 g3 C;generalize hY:jY mm=Y at *;clear hY;replace RP:=φ RP;replace g1:=φ g1;go_upto_region 6 with fail;clear e0;have hS:∀W,St w W [] [(some ⟨b,off,none⟩,BI ls),(some ⟨b',f,none⟩,Bl xs)]→(Cv W b (off+i*2) l∧Cv W b (off+i*2+1) (.slice As Y.length cs)∧Cv W b' (f+i*11) l∧Cv W b' (f+i*11+1) mm.k∧Cv W b' (f+i*11+1+1) mm.n∧Cv W b' (f+i*11+1+2) mm.b∧Cv W b' (f+i*11+1+3) mm.h∧Cv W b' (f+i*11+1+4) mm.y.o∧Cv W b' (f+i*11+1+5) mm.y.s∧Cv W b' (f+i*11+1+6) mm.y.a∧Cv W b' (f+i*11+1+7) mm.y.ov∧Cv W b' (f+i*11+1+8) (.slice A2 mm.y.adj.length c2)∧Cv W b' (f+i*11+1+9) (.slice B2 mm.y.pre.length d2)∧(convert 89 9 (.slice As Y.length cs)).run prog W= .ok (.string ⟨Y.toArray⟩) W):=fun W T=>⟨(p W (T.r 0 rfl)).1,(p W (T.r 0 rfl)).2,g W T 0 _ (by omega) rfl,g W T 1 _ (by omega) rfl,g W T 2 _ (by omega) rfl,g W T 3 _ (by omega) rfl,g W T 4 _ (by omega) rfl,g W T 5 _ (by omega) rfl,g W T 6 _ (by omega) rfl,g W T 7 _ (by omega) rfl,g W T 8 _ (by omega) rfl,g W T 9 _ (by omega) rfl,g W T 10 _ (by omega) rfl,lI W underlying89 underlying5 underlying9 (n:=Y.length) (cap:=cs) (g1.out.below T.b) rfl⟩
   have T:=S.drew;have e1:(l !=l)=false:=by simp
   refine gF (S:=fun W=>Cv W b (off+i*2) l∧Cv W b (off+i*2+1) (.slice As Y.length cs)∧Cv W b' (f+i*11) l∧Cv W b' (f+i*11+1) mm.k∧Cv W b' (f+i*11+1+1) mm.n∧Cv W b' (f+i*11+1+2) mm.b∧Cv W b' (f+i*11+1+3) mm.h∧Cv W b' (f+i*11+1+4) mm.y.o∧Cv W b' (f+i*11+1+5) mm.y.s∧Cv W b' (f+i*11+1+6) mm.y.a∧Cv W b' (f+i*11+1+7) mm.y.ov∧Cv W b' (f+i*11+1+8) (.slice A2 mm.y.adj.length c2)∧Cv W b' (f+i*11+1+9) (.slice B2 mm.y.pre.length d2)∧(convert 89 9 (.slice As Y.length cs)).run prog W= .ok (.string ⟨Y.toArray⟩) W) (hS _ T) (fun q=>?_);generalize wr.drew=w3 at *;clear x0 x1;(iterate 23 refine tA ?_);refine rF 23 (fun K hK=>?_);go_simp;refine (RP _ T.b).mono ?_;rintro e w4 ⟨A6,c6,rfl,o6,F⟩;dsimp only;replace T:=T.call F;refine hK _ _ (hS _ T) (fun q=>?_);clear hK K F RP;have cw:=lI w4 underlying89 underlying5 underlying9 (n:=Y.length) (cap:=c6) (ki o6).1 rfl;refine rF 24 (fun K hK=>?_);go_simp;refine hK _ _ (hS _ T) (fun q=>?_);clear hK K cw o6;(iterate 2 refine tA ?_);refine dF ?_;clear q hS g p g1 S;go_wp2;go_round
   case rel=>exact⟨i+1,by go_num,by omega,T⟩
   case measure=>simp[intOf];omega
  ·obtain rfl:i=n:=by omega
   go_wp2;go_ret;exact⟨rfl,S.b⟩
end Go.Proofs.YtehimhbgakpenaaGreat
