/- Lemmas. -/
import Derived.Test.YtehimhbgakpenaaGreatN
set_option linter.all false
set_option maxRecDepth 100000
set_option maxHeartbeats 16000000
namespace Go.Proofs.YtehimhbgakpenaaGreat
open Go.RowKit Go.Maps Go.Sort
def tQ(s:Rs):Rs :=
 if s.is=true then
  if s.x.y.a=3600 then⟨s.x,s.l - 1,if s.l - 1=0 then false else true⟩
  else if s.x.y.a+1=3600 then⟨⟨iH s.x.y,none,0,none,0⟩,60,true⟩
  else⟨⟨{ s.x.y with a:=s.x.y.a+1 },s.x.A,s.x.c,s.x.B,s.x.d⟩,s.l,true⟩
 else s
def Jp(s:Rs):Bool:=s.is&& (!decide (s.x.y.a=3600)&&decide (s.x.y.a+1=3600))
def qK(R:Nat→Rs)(k:Nat):Nat→Rs:=fun i=>if i<k then tQ (R i)else R i
def mC(R:Nat→Rs)(k:Nat):List Int:=((List.range k).filter fun i=>Jp (R i)).map fun(i:Nat)=>(i:Int)
def Lt(R:Nat→Rs):qK R 0=R:=by funext i;simp[qK]
def Th(R:Nat→Rs)(k:Nat):qK R k k=R k:=by simp[qK]
def Lu(R:Nat→Rs)(k:Nat):qK R (k+1)=nY (qK R k) k (tQ (R k)):=by
 funext i
 unfold qK nY
 by_cases h:i=k
 ·subst h;simp
 ·by_cases h2:i<k
  ·have h3:i<k+1:=by omega
   simp[h,h2,h3]
  ·have h3:¬i<k+1:=by omega
   simp[h,h2,h3]
def VL{R:Nat→Rs}{k:Nat}(h:Jp (R k)=true):mC R (k+1)=mC R k++ [(k:Int)]:=by simp[mC,jj,gC,h]
def VM{R:Nat→Rs}{k:Nat}(h:Jp (R k)=false):mC R (k+1)=mC R k:=by simp[mC,jj,gC,h]
def O0(R:Nat→Rs)(k:Nat):(mC R k).length≤k:=by
 unfold mC;rw[dh];refine cZ cz ?_;simp
def KX{R R':Nat→Rs}(h:∀i,i<64→R i=R' i):fP R=fP R' :=
 DH (fm R) (fun i hi=>by rw[mo R hi,h i hi]) (fun i hi j hj=>by rw[ej R hi hj,h i hi])
def Pk(R:Nat→Rs):fP (qK R 64)=fP (fun i=>tQ (R i)):=KX fun i hi=>by simp[qK,hi]
def Om(w:World)(x:La):jD w ⟨iH x,none,0,none,0⟩ :=
 ⟨none,0,none,0,rfl,Rd.nil _ _,Rd.nil _ _,by simp[iH],by simp[maxLen],by simp[iH],by simp[maxLen],by simp[iH]⟩
def Vp{w:World}{s:Rs}(h:jD w s.x):jD w (tQ s).x:=by
 unfold tQ;split
 ·split
  ·exact h
  ·split
   ·exact Om w _
   ·unfold jD at *;exact h.mK s.x.y.o s.x.y.s (s.x.y.a+1) s.x.y.ov
 ·exact h
structure AT (w wr:World) (R':Nat→Rs) (v:Value) (os:List Int):Prop where
 sz:w.heap.size+2≤wr
 own:wr.ownsRow (w.heap.size+2) 3 1 v os.length (os.map encZ)
 st:St w wr [(w.heap.size+1,fP (fun _=>MD)),(w,fP R')] []
section
variable {w wr w':World} {R':Nat → Rs} {v:Value} {os:List Int}
def AT.set(h:AT w wr R' v os)(j:Nat)(u:Value)(R2:Nat→Rs)(hj:j<512)(e:(fP R').set j u=fP R2):AT w (wr.setCell ⟨w,j,none⟩ u) R2 v os :=
 ⟨by have:=h.sz; simpa using this,mq h.own (p:=⟨w,j,none⟩) (fun b e=>by have:=h.own.lt b e; simp only; omega) u,
  h.st.set 1 j u rfl (by rw [fm]; omega) cj (by simp) _ (by rw [e]; rfl)⟩
def AT.NC(h:AT w wr R' v os){k:Nat}(hk:k<64){j:Nat}(hj:j<7)(u:Value)(s t:Rs)(ht:R' k=t)(hs:s.is=t.is)(hv:(LO t).set j u=LO s):AT w (wr.setCell ⟨w,64+k*7+j,none⟩ u) (nY R' k s) v os :=
 h.set _ u _ (by omega) (jM R' hk hj u s t ht hs hv)
def AT.below(h:AT w wr R' v os)(hb:cI wr w'):AT w w' R' v os:=⟨cZ h.sz hb.size,dg h.own hb,h.st.call hb⟩
def AT.NG(h:AT w wr R' v os){k:Nat}(hk:k<64)(s t:Rs)(ht:R' k=t)(hs:s.is=t.is) :
  AT w (((((((wr.setCell ⟨w,64+k*7,none⟩ (.int .i64 s.x.y.o)).setCell ⟨w,64+k*7+1,none⟩ (.int .i64 s.x.y.s)).setCell ⟨w,64+k*7+2,none⟩ (.int .i64 s.x.y.a)).setCell ⟨w,64+k*7+3,none⟩ (.bool s.x.y.ov)).setCell ⟨w,64+k*7+4,none⟩ (.slice s.x.A s.x.y.adj.length s.x.c)).setCell ⟨w,64+k*7+5,none⟩ (.slice s.x.B s.x.y.pre.length s.x.d)).setCell ⟨w,64+k*7+6,none⟩ (.int .i64 s.l)) (nY R' k s) v os:=by
 refine⟨by have:=h.sz;simpa using this,?_,h.st.NG (i:=1) rfl (by simp) cj hk s (by rw[ht];exact hs) _ rfl⟩
 have hb:∀b,v.ownBlock=some b→b≠w.heap.size:=fun b e=>by have:=h.own.lt b e;omega
 exact mq (mq (mq (mq (mq (mq (mq h.own (p:=⟨w,_,none⟩) hb _) (p:=⟨w,_,none⟩) hb _) (p:=⟨w,_,none⟩) hb _) (p:=⟨w,_,none⟩) hb _) (p:=⟨w,_,none⟩) hb _) (p:=⟨w,_,none⟩) hb _) (p:=⟨w,_,none⟩) hb _
def AT.c(h:AT w wr R' v os)(j:Nat){u:Value}(e:(fP R')[j]?=some u):wr.cell? ⟨w,j,none⟩=some u:=h.st.c 1 j rfl e
def AT.f(h:AT w wr R' v os){j:Nat}(hj:j<512):wr.frozen? ⟨w,j,none⟩=false:=h.st.f 1 j rfl (cM (by rw[fm];exact hj))
def zN{base:Nat}{e:TypeId}{size:Nat}{v:Value}{n:Nat}{xs:cH}(g:Nat)(hg:∀b,v.ownBlock=some b→b≠g):∀(vs:cH) (o:Nat) (w:World),w.ownsRow base e size v n xs→(w.setCells g o vs).ownsRow base e size v n xs
 | [],_,_,h=>h
 |u :: r,o,w,h=>by
   rw[World.setCells];exact zN g hg r (o+1) _ (mq h (p:=⟨g,o,none⟩) hg u)
def AT.app(h:AT w wr R' v os){os':List Int}{v':Value}(ho:w'.ownsRow (w.heap.size+2) 3 1 v' os'.length (os'.map encZ))(hb:Below (w.heap.size+2) wr w'):AT w w' R' v' os' :=
 ⟨cZ h.sz hb.size,ho,h.st.Yf hb (by omega) (by simp)⟩
def AT.at(h:AT w wr R' v os){k:Nat}(hk:k<64){j:Nat}(hj:j<7){u:Value}(t:Rs)(ht:R' k=t)(e:(LO t)[j]?=some u):wr.cell? ⟨w,64+k*7+j,none⟩=some u:=h.c _ (by rw[ej R' hk hj,ht];exact e)
end
def yc(w:World)(R:Nat→Rs)(e:Ending)(w':World):Prop :=
 ∃A c,e= .returned (.tuple #[.agg (fP (fun i=>tQ (R i))).toArray,.slice A (mC R 64).length c])∧w'.ownsRow w 3 1 (.slice A (mC R 64).length c) (mC R 64).length ((mC R 64).map encZ)∧cI w w'
def qA(w:World)(R:Nat→Rs)(hR:BV w R)(D:lY (fx R)):Calls Tryz.prog 100 #[.agg (fP R).toArray] w (yc w R):=by
 have T0:AT w ((w.alloc (.cells (fP R).toArray 57)).alloc (.cells Tryz.zeroCells57 57)) (qK R 0) (.slice none (mC R 0).length 0) (mC R 0) :=
  ⟨by simp,cn,((St.start w).iE (fP R).toArray 57 w (fP (qK R 0)) rfl (by rw[Lt])).iE Tryz.zeroCells57 57 (w.heap.size+1) (fP (fun _=>MD)) (by simp) (by rw[←Fo])⟩
 have C:Hid (∀A c w',w'.ownsRow (w.heap.size+2) 3 1 (.slice A (mC R 64).length c) (mC R 64).length ((mC R 64).map encZ)→cI w w'→yc w R (.returned (.tuple #[.agg (fP (qK R 64)).toArray,.slice A (mC R 64).length c])) w'):=fun A c w' h1 h2=>⟨A,c,by rw[Pk],dx h1 (by omega),h2⟩
 replace D:=φ D;go_in;go_upto_region 1 with fail;generalize World.alloc (World.alloc w _) _=w1 at *;replace T0:=φ T0;go_wp2_with fail;go_loopw [4,5] (fun v4 v5 wr=>∃(k:Nat) (A:cG) (c:Nat),v5= .int .i64 k∧v4= .slice A (mC R k).length c∧k≤64∧Hid (AT w wr (qK R k) (.slice A (mC R k).length c) (mC R k))) (fun _ v5 _=>64 - (intOf v5).toNat)
 case atStart=>exact⟨0,none,0,rfl,rfl,by omega,T0⟩
 case round=>
  clear T0;obtain⟨k,A,c,rfl,rfl,hk,hT⟩:=hrel
  by_cases hkn:k<64
  ·have T:=hT.out;clear hT;have hlen:=O0 R k;have d:=Lu R k;have g:=Th R k;have t:(R k).is=true→dS (R k).x.y∧(R k).x.y.o=(k:Int)∧1≤(R k).l∧(R k).l≤60:=fun h=>D.out k ⟨(R k).x.y,(R k).l⟩ (by unfold fx;rw[cR ⟨hkn,h⟩])
   have r:=@VL R k;have q:=@VM R k;generalize z:R k=s at d t r q g;obtain⟨⟨y,A9,c9,B9,d9⟩,lf,is⟩:=s;simp only at t;have c0:=T.c k (mo (qK R k) hkn);rw[g]at c0;simp only at c0;cases is with
   |false=>
     rw[show tQ ⟨⟨y,A9,c9,B9,d9⟩,lf,false⟩=⟨⟨y,A9,c9,B9,d9⟩,lf,false⟩from rfl]at d;have e1:qK R (k+1)=qK R k:=by
      rw[d,←g];funext i;unfold nY;split
      ·rename_i h;rw[h]
      ·rfl
     have e2:=q rfl;rw[←e1,←e2]at T;rw[←e2];replace T:=φ T;clear d r q t e1 e2 z g hlen;go_wp2;go_round
     case rel=>exact⟨k+1,A,c,by go_num,rfl,by omega,T⟩
     case measure=>simp[intOf];omega
   |true=>
     obtain⟨G,-,M,L⟩:=t rfl;have ha:=G.2.2.1;clear t G;have x2:=T.at hkn (j:=2) (by omega) _ g rfl
     by_cases hag:y.a=3600
     ·have p:tQ ⟨⟨y,A9,c9,B9,d9⟩,lf,true⟩=⟨⟨y,A9,c9,B9,d9⟩,lf - 1,if lf - 1=0 then false else true⟩:=by unfold tQ;simp[hag]
      have e2:=q (by simp[Jp,hag]);have e0:(y.a==3600)=true:=by simp[hag]
      rw[p]at d;rw[←e2]at T;rw[←e2];have x6:=T.at hkn (j:=6) (by omega) _ g rfl;have f6:=T.f (j:=64+k*7+6) (by omega);have T2:=T.NC hkn (j:=6) (by omega) (.int .i64 (lf - 1)) ⟨⟨y,A9,c9,B9,d9⟩,lf - 1,true⟩ _ g rfl rfl;clear T p e2 r q hlen z g;go_upto_region 8 with fail;clear x2 x6 f6 c0 e0;generalize World.setCell _ _ _=w2 at *;have x6:=T2.at hkn (j:=6) (by omega) _ (eK _ _ _) rfl
      by_cases hl0:lf - 1=0
      ·have g0:=T2.f (j:=k) (by omega);have c0:=T2.c k (mo _ hkn);have T3:=T2.set k (.bool false) (qK R (k+1)) (by omega) (by rw[vl _ hkn,nh,eK,d,cR hl0]);have e3:(lf - 1==0)=true:=by simp[hl0]
       clear d T2 hl0;go_wp2_with fail;generalize World.setCell _ _ _=w3 at *;replace T3:=φ T3;go_round
       case rel=>exact⟨k+1,A,c,by go_num,rfl,by omega,T3⟩
       case measure=>simp[intOf];omega
      ·rw[cN hl0]at d;rw[←d]at T2;have e3:(lf - 1==0)=false:=by simp[hl0]
       clear d hl0;replace T2:=φ T2;go_wp2;go_round
       case rel=>exact⟨k+1,A,c,by go_num,rfl,by omega,T2⟩
       case measure=>simp[intOf];omega
     ·have e0:(y.a==3600)=false:=by simp[hag]
      have f2:=T.f (j:=64+k*7+2) (by omega);have T2:=T.NC hkn (j:=2) (by omega) (.int .i64 (y.a+1)) ⟨⟨{ y with a:=y.a+1 },A9,c9,B9,d9⟩,lf,true⟩ _ g rfl rfl;have I:=z;clear T z g;go_upto_region 11 with fail;clear x2 f2 c0 e0;generalize World.setCell _ _ _=w2 at *;have x2:=T2.at hkn (j:=2) (by omega) _ (eK _ _ _) rfl
      by_cases hl0:y.a+1=3600
      ·have p:tQ ⟨⟨y,A9,c9,B9,d9⟩,lf,true⟩=⟨⟨iH y,none,0,none,0⟩,60,true⟩:=by unfold tQ;simp[hag,hl0]
       have e2:=r (by simp[Jp,hl0];omega);have e3:(y.a+1==3600)=true:=by simp[hl0]
       rw[p]at d;have H:eU w2 (ig y.o y.s (y.a+1) y.ov A9 y.adj.length c9 B9 y.pre.length d9) { y with a:=y.a+1 }:=by
        have:=hR k hkn;rw[I]at this;unfold jD at this;exact(this.mK y.o y.s (y.a+1) y.ov).below T2.st.b
       have PG:=HE w2 _ _ H;have x0:=T2.at hkn (j:=0) (by omega) _ (eK _ _ _) rfl;have x1:=T2.at hkn (j:=1) (by omega) _ (eK _ _ _) rfl;have x3:=T2.at hkn (j:=3) (by omega) _ (eK _ _ _) rfl;have x4:=T2.at hkn (j:=4) (by omega) _ (eK _ _ _) rfl;have x5:=T2.at hkn (j:=5) (by omega) _ (eK _ _ _) rfl;simp only[Nat.add_zero]at x0 x1 x3 x4 x5 PG;replace PG:=φ PG;clear hl0 p H hag r q;go_wp2_with fail;(with_reducible refine(PG.out).mono ?_);rintro e w3 ⟨rfl,hb⟩;replace T2:=T2.below hb;clear x0 x1 x2 x3 x4 x5 PG hb e3;have T3:=T2.NG hkn ⟨⟨iH y,none,0,none,0⟩,60,true⟩ _ (eK _ _ _) rfl;rw[nh,←d]at T3;have x0:=T2.at hkn (j:=0) (by omega) _ (eK _ _ _) rfl;have x1:=T2.at hkn (j:=1) (by omega) _ (eK _ _ _) rfl;have x2:=T2.at hkn (j:=2) (by omega) _ (eK _ _ _) rfl;have x3:=T2.at hkn (j:=3) (by omega) _ (eK _ _ _) rfl;have x4:=T2.at hkn (j:=4) (by omega) _ (eK _ _ _) rfl;have x5:=T2.at hkn (j:=5) (by omega) _ (eK _ _ _) rfl;have x6:=T2.at hkn (j:=6) (by omega) _ (eK _ _ _) rfl;simp only[Nat.add_zero]at x0;have f0:=T2.f (j:=64+k*7) (by omega);have f1:=T2.f (j:=64+k*7+1) (by omega);have f2:=T2.f (j:=64+k*7+2) (by omega);have f3:=T2.f (j:=64+k*7+3) (by omega);have f4:=T2.f (j:=64+k*7+4) (by omega);have f5:=T2.f (j:=64+k*7+5) (by omega);have f6:=T2.f (j:=64+k*7+6) (by omega);simp only[iH,List.length_nil]at T3;clear d T2;go_upto_region 13 with fail;clear x0 x1 x2 x3 x4 x5 x6 f0 f1 f2 f3 f4 f5 f6;generalize World.setCell _ _ _=w4 at *;have T4:=T3.below (cQ w4 (.cells #[(k:Int)] 3));have F:=Rd.lit w4 #[(k:Int)] 3;have o4:=T4.own;have B:=T4.sz;clear T3;have E:(mC R (k+1)).length=(mC R k).length+1:=by rw[e2];simp
       generalize hn:(mC R k).length=n at *;replace hn:=φ hn;replace E:=φ E;replace e2:=φ e2;go_wp2_with (at_builtin;refine dK rfl D1 (.tmp 68) (.tmp 70) rfl (w.heap.size+2) rfl o4 (m:=1) rfl (by simp) F (by simp[Value.oneCell']) (by simp only[maxLen];omega) (by omega) B (n+1) ((mC R k++ [(k:Int)]).map encZ) rfl (by simp) ?_;intro v6 w6 o6 u K J);rw[←e2.out,←E.out]at o6;have T5:=T4.app o6 u;obtain⟨A7,c7,rfl,-⟩:=dN o6;replace T5:=φ T5;clear T4 o4 F o6 u K J B;go_wp2;go_round
       case rel=>exact⟨k+1,A7,c7,by go_num,rfl,by omega,T5⟩
       case measure=>simp[intOf];omega
      ·have p:tQ ⟨⟨y,A9,c9,B9,d9⟩,lf,true⟩=⟨⟨{ y with a:=y.a+1 },A9,c9,B9,d9⟩,lf,true⟩:=by unfold tQ;simp[hag,hl0]
       have e2:=q (by simp[Jp,hl0]);have e3:(y.a+1==3600)=false:=by simp[hl0]
       rw[p]at d;rw[←d,←e2]at T2;rw[←e2];clear d hl0 p e2 r q hlen hag;replace T2:=φ T2;go_wp2;go_round
       case rel=>exact⟨k+1,A,c,by go_num,rfl,by omega,T2⟩
       case measure=>simp[intOf];omega
  ·obtain rfl:k=64:=by omega
   have T:=hT.out;clear hT;go_wp2_with (first|(refine jP rfl (.tmp 1) rfl rfl (T.st.box 1 rfl) ?_)|(refine kW rfl (.tmp 2) (.tmp 72) rfl rfl rfl (T.st.box 0 rfl) ?_));have T9:=T.st.vZ 0 (qK R 64) rfl (by omega) (by simp) _ rfl;have ho:=zN (w.heap.size+1) (fun b e=>by have:=T.own.lt b e;omega) (fP (qK R 64)) 0 wr T.own;exact dc (v:=.tuple #[.agg (fP (qK R 64)).toArray,.slice A (mC R 64).length c]) (Ob rfl (T9.box 0 rfl) rfl rfl) rfl (C.out _ _ _ ho T9.b)
def HC:Nat→Rs→Rs
 |0,s=>s
 |n+1,s=>tQ (HC n s)
def QO:Nat→Rs→Bool
 |0,_=>false
 |n+1,s=>QO n s||Jp (HC n s)
def Tr(s:Rs):Option Hd→Prop
 |none=>s.is=false
 |some h=>s.is=true∧s.x.y=h.x∧s.l=h.l
def Fg{s:Rs}(b:s.is=true)(d:0≤s.x.y.a)(ha:s.x.y.a≤3600)(c:1≤s.l)(hl:s.l≤60):∀n:Nat,Tr (HC n s) (kY n ⟨s.x.y,s.l⟩).1∧QO n s=(kY n ⟨s.x.y,s.l⟩).2
 |0=>by
   unfold kY HC QO
   by_cases h:s.x.y.a<3600
   ·simp only[cR h,show((0:Nat):Int)<3600 - s.x.y.a from by omega,gy];exact⟨⟨b,by simp,rfl⟩,trivial⟩
   ·simp only[cN h];rw[cN (by omega)];exact⟨⟨b,by simp,by simp⟩,by simp⟩
 |n+1=>by
   obtain⟨h1,h2⟩:=Fg b d ha c hl n;show Tr (tQ (HC n s)) _∧(QO n s||Jp (HC n s))=_
   rw[h2];obtain⟨y,l⟩:∃p:La× Int,p=(s.x.y,s.l):=⟨_,rfl⟩
   generalize HC n s=t at *;unfold kY at h1 h2 ⊢;simp only at *
   by_cases h:s.x.y.a<3600
   ·simp only[cR h]at h1 h2 ⊢
    by_cases hn:(n:Int)<3600 - s.x.y.a
    ·simp only[cR hn]at h1 h2 ⊢;obtain⟨k1,k2,k3⟩:=h1;have ka:t.x.y.a=s.x.y.a+n:=by rw[k2]
     by_cases hn1:((n+1:Nat):Int)<3600 - s.x.y.a
     ·simp only[cR hn1];unfold tQ Jp;rw[cR k1,cN (by omega),cN (by omega)];refine⟨⟨rfl,?_,k3⟩,?_⟩
      ·simp only[k2];congr 1;omega
      ·have:¬t.x.y.a+1=3600:=by omega
       simp[this]
     ·simp only[cN hn1];unfold tQ Jp;rw[cR k1,cN (by omega),cR (by omega),cN (by omega)];refine⟨⟨rfl,?_,?_⟩,?_⟩
      ·simp only[k2];rfl
      ·simp only;omega
      ·have e1:t.x.y.a+1=3600:=by omega
       have e2:¬t.x.y.a=3600:=by omega
       simp[k1,e1,e2]
    ·simp only[cN hn]at h1 h2 ⊢;rw[cN (by omega)];simp only[Bool.true_or,fv]
     by_cases hr:60≤(n:Int) - (3600 - s.x.y.a)
     ·rw[cR hr]at h1;rw[cR (by omega)];have k1:t.is=false:=h1;show(tQ t).is=false
      unfold tQ;rw[cN (by simp[k1])];exact k1
     ·rw[cN hr]at h1;obtain⟨k1,k2,k3⟩:=h1;have ka:t.x.y.a=3600:=by rw[k2];rfl
      simp only at k3;unfold tQ;rw[cR k1,cR ka]
      by_cases hr2:60≤((n+1:Nat):Int) - (3600 - s.x.y.a)
      ·rw[cR hr2,cR (by omega)];rfl
      ·rw[cN hr2,cN (by omega)];exact⟨rfl,k2,by simp only;omega⟩
   ·simp only[cN h]at h1 h2 ⊢
    by_cases hr:s.l≤(n:Int)
    ·rw[cR hr]at h1;rw[cR (by omega)];have k1:t.is=false:=h1;refine⟨?_,by simp[Jp,k1]⟩
     show(tQ t).is=false
     unfold tQ;rw[cN (by simp[k1])];exact k1
    ·rw[cN hr]at h1;obtain⟨k1,k2,k3⟩:=h1;have ka:t.x.y.a=3600:=by rw[k2];simp only;omega
     simp only at k3;refine⟨?_,by simp[Jp,ka]⟩
     unfold tQ;rw[cR k1,cR ka]
     by_cases hr2:s.l≤((n+1:Nat):Int)
     ·rw[cR hr2,cR (by omega)];rfl
     ·rw[cN hr2,cN (by omega)];exact⟨rfl,k2,by simp only;omega⟩
def zF{s:Rs}(h:s.is=false):∀n,HC n s=s∧QO n s=false
 |0=>⟨rfl,rfl⟩
 |n+1=>by
   obtain⟨h1,h2⟩:=zF h n;show tQ (HC n s)=s∧(QO n s||Jp (HC n s))=false
   rw[h1,h2];exact⟨by unfold tQ;rw[cN (by simp[h])],by simp[Jp,h]⟩
def NQ{R:Nat→Rs}(a:lY (fx R))(n:Nat):fx (fun i=>HC n (R i))=ic n (fx R)∧ ∀i,i<64→QO n (R i)=wS n (fx R i):=by
 have key:∀i,i<64→((R i).is=true→Tr (HC n (R i)) (kY n ⟨(R i).x.y,(R i).l⟩).1∧QO n (R i)=(kY n ⟨(R i).x.y,(R i).l⟩).2):=fun i hi h=>by
  have:=a i ⟨(R i).x.y,(R i).l⟩ (by unfold fx;rw[if_pos ⟨hi,h⟩]);exact Fg h this.1.2.2.1.1 this.1.2.2.1.2 this.2.2.1 this.2.2.2 n
 constructor
 ·funext i
  unfold ic
  by_cases hi:i<64
  ·by_cases h:(R i).is=true
   ·obtain⟨h1,h2⟩:=key i hi h;have e:fx R i=some ⟨(R i).x.y,(R i).l⟩:=by unfold fx;rw[if_pos ⟨hi,h⟩]
    rw[e];simp only;unfold fx;cases ht:(kY n ⟨(R i).x.y,(R i).l⟩).1 with
    |none=>rw[ht]at h1;have:(HC n (R i)).is=false:=h1;rw[if_neg (by simp[this])]
    |some x=>rw[ht]at h1;obtain⟨k1,k2,k3⟩:=h1;rw[if_pos ⟨hi,k1⟩,k2,k3]
   ·have h':(R i).is=false:=by simpa using h
    have e:fx R i=none:=by unfold fx;rw[if_neg (by simp[h'])]
    rw[e];unfold fx;rw[if_neg (by show ¬(i<64∧(HC n (R i)).is=true);rw[(zF h' n).1];simp[h'])]
  ·have e:fx R i=none:=by unfold fx;rw[if_neg (by simp[hi])]
   rw[e];unfold fx;rw[if_neg (by simp[hi])]
 ·intro i hi
  by_cases h:(R i).is=true
  ·have e:fx R i=some ⟨(R i).x.y,(R i).l⟩:=by unfold fx;rw[if_pos ⟨hi,h⟩]
   rw[e,(key i hi h).2];rfl
  ·have h':(R i).is=false:=by simpa using h
   have e:fx R i=none:=by unfold fx;rw[if_neg (by simp[h'])]
   rw[e,(zF h' n).2];rfl
def Zd(f:Nat→Bool):List Int:=((List.range 64).filter f).map fun(i:Nat)=>(i:Int)
def Qb{R:Nat→Rs}(a:lY (fx R))(n:Nat):Zd (fun i=>QO n (R i))=kh n (fx R):=by
 unfold Zd kh eR;rw[ZS,zc]
 congr 1
 refine gN fun i hi=>?_
 have h:=(NQ a n).2 i (ec.1 hi);simp only[Function.comp,Int.toNat_natCast];rw[h];cases fx R i with
 |none=>rfl
 |some x=>simp
def Ng{n:Int}(hn:0≤n){h h':Hd}(hv:dS h.x)(h1:1≤h.l)(h2:h.l≤60)(e:(kY n h).1=some h'):dS h'.x∧h'.x.o=h.x.o∧1≤h'.l∧h'.l≤60:=by
 unfold kY at e;obtain⟨k1,k2,k3,k4,k5,k6,k7,k8⟩:=id hv;split at e
 ·split at e
  ·injection e with e;subst e
   exact⟨⟨k1,k2,⟨by simp only;omega,by simp only;omega⟩,k4,k5,fun h=>by simp only at h;omega,k7,k8⟩,rfl,h1,h2⟩
  ·split at e
   ·cases e
   ·injection e with e;subst e
    exact⟨IJ h.x.o h.x.s k1.1 k1.2 k2.1 k2.2,rfl,by simp only;omega,by simp only;omega⟩
 ·split at e
  ·cases e
  ·injection e with e;subst e
   exact⟨hv,rfl,by simp only;omega,by simp only;omega⟩
def Ds{N:Db}(h:lY N){n:Int}(hn:0≤n):lY (ic n N):=fun i x e=>by
 unfold ic at e;cases hN:N i with
 |none=>rw[hN]at e;cases e
 |some y=>
   rw[hN]at e;obtain⟨h1,h2,h3,h4⟩:=h i y hN;obtain⟨k1,k2,k3,k4⟩:=Ng hn h1 h3 h4 e;exact⟨k1,by rw[k2,h2],k3,k4⟩
def uL(g:Nat):∀(vs:cH) (o:Nat) (w:World) (k:Nat),k≠g→(w.setCells g o vs).heap[k]?=w.heap[k]?
 | [],_,_,_,_=>rfl
 |v :: r,o,w,k,h=>by
   rw[World.setCells,uL g r (o+1) _ k h];exact lV w ⟨g,o,none⟩ k v h
def uJ(g:Nat):∀(vs:cH) (o:Nat) (w:World),(w.setCells g o vs).heap.size=w.heap.size
 | [],_,_=>rfl
 |v :: r,o,w=>by rw[World.setCells,uJ g r (o+1)];simp
def uK(g:Nat):∀(vs:cH) (o:Nat) (w:World),(w.setCells g o vs).os=w.os∧(w.setCells g o vs).tape=w.tape∧(w.setCells g o vs).output=w.output
 | [],_,_=>⟨rfl,rfl,rfl⟩
 |v :: r,o,w=>by
   rw[World.setCells];obtain⟨h1,h2,h3⟩:=uK g r (o+1) (w.setCell ⟨g,o,none⟩ v);exact⟨h1,h2,h3⟩
def oW(w:World)(g o:Nat)(vs:cH):w.grownBy (w.setCells g o vs) (some g):=by
 obtain⟨h1,h2,h3⟩:=uK g vs o w;exact⟨h1,h2,h3,by rw[uJ];exact cj,fun k _ hk=>uL g vs o w k (fun e=>hk (by rw[e]))⟩
def Ui(R:Nat→Rs)(v:Value)(a:La)(R':Nat→Rs):Prop:=∀i,i<64→R' i=R i∨ ∃A c B d,v=ig a.o a.s a.a a.ov A a.adj.length c B a.pre.length d∧(R' i).x=⟨a,A,c,B,d⟩
def yd(w:World)(R:Nat→Rs)(v:Value)(a:La)(N':Db)(r:Int)(e:Ending)(w':World):Prop :=
 ∃R',e= .returned (.tuple #[.agg (fP R').toArray,r])∧Ui R v a R'∧fx R'=N'∧cI w w'
def qc(w:World)(R:Nat→Rs)(v:Value)(a:La)(hR:BV w R)(hv:eU w v a)(H:dS a):Calls Tryz.prog 135 #[.agg (fP R).toArray,v] w (yd w R v a (instN (fx R) a) (instR (fx R) a)):=by
 obtain⟨A,c,B,d,rfl,hl⟩:=hv.opened;clear hv;obtain⟨ao,sq,aa,g,h,pre⟩:=a;have ho:=H.1;simp only at ho hl;obtain⟨k,rfl⟩:=de ho.1;have hk:k<64:=by omega
 have m:Hid (∀R' r w',cI w w'→Ui R (ig k sq aa g A h.length c B pre.length d) ⟨k,sq,aa,g,h,pre⟩ R'→fx R'=instN (fx R) ⟨k,sq,aa,g,h,pre⟩→instR (fx R) ⟨k,sq,aa,g,h,pre⟩=r→yd w R (ig k sq aa g A h.length c B pre.length d) ⟨k,sq,aa,g,h,pre⟩ (instN (fx R) ⟨k,sq,aa,g,h,pre⟩) (instR (fx R) ⟨k,sq,aa,g,h,pre⟩) (.returned (.tuple #[.agg (fP R').toArray,r])) w'):=fun R' r w' h1 h2 h3 h4=>⟨R',by rw[h4],h2,h3,h1⟩
 have E:=nA H;have M:(k:Int)<64:=by omega
 have hN:fx R k=if (R k).is=true then some ⟨(R k).x.y,(R k).l⟩else none:=by unfold fx;by_cases e:(R k).is=true<;>simp[e,hk]
 have t:Hid (∀(hr:instR (fx R) ⟨k,sq,aa,g,h,pre⟩=1),fx (nY (nY R k { R k with is:=true }) k ⟨⟨⟨k,sq,aa,g,h,pre⟩,A,c,B,d⟩,60,true⟩)=instN (fx R) ⟨k,sq,aa,g,h,pre⟩):=fun hr=>by
  rw[nh,TR R hk _ rfl];unfold instN;rw[cR ⟨E,hr⟩];simp
 have q:Hid (Ui R (ig k sq aa g A h.length c B pre.length d) ⟨k,sq,aa,g,h,pre⟩ (nY (nY R k { R k with is:=true }) k ⟨⟨⟨k,sq,aa,g,h,pre⟩,A,c,B,d⟩,60,true⟩)):=fun i hi=>by
  rw[nh]
  by_cases e:i=k
  ·subst e;exact .inr ⟨A,c,B,d,rfl,by rw[eK]⟩
  ·exact .inl (oJ R _ e)
 have S:=(((St.start w).iE (fP R).toArray 57 w (fP R) rfl (by simp)).nw #[k,sq,aa,g,.slice A h.length c,.slice B pre.length d] 41 (w.heap.size+1)).iE Tryz.zeroCells57 57 (w.heap.size+2) (fP (fun _=>MD)) (by simp) (by rw[←Fo]);obtain⟨is,I⟩:=ex ((R k).is)
 rw[I]at hN;have J:∀x∈([(w.heap.size+2,fP (fun _=>MD)),(w.heap.size+1,[k,sq,aa,g,.slice A h.length c,.slice B pre.length d]),(w,fP R)]:List (Nat× cH)).eraseIdx 2,x.1≠w.heap.size:=by simp
 go_in;go_upto_region 1 with fail;generalize World.alloc _ _=w1 at *;have b0:=S.c 1 0 rfl rfl;have c0:=S.c 2 k rfl (mo R hk);rw[I]at c0;cases is with
 |false=>
   have hr:instR (fx R) ⟨k,sq,aa,g,h,pre⟩=1:=by
    unfold instR;rw[E,cR rfl];simp only[Int.toNat_natCast,hN];simp
   have n:Hid (∀w',cI w w'→yd w R (ig k sq aa g A h.length c B pre.length d) ⟨k,sq,aa,g,h,pre⟩ (instN (fx R) ⟨k,sq,aa,g,h,pre⟩) (instR (fx R) ⟨k,sq,aa,g,h,pre⟩) (.returned (.tuple #[.agg (fP (nY (nY R k { R k with is:=true }) k ⟨⟨⟨k,sq,aa,g,h,pre⟩,A,c,B,d⟩,60,true⟩)).toArray,.int .i64 1])) w'):=fun w' hb=>m.out _ 1 w' hb q.out (t.out hr) hr
   clear hN t hr m q;go_upto_region 7 with fail;have T:=S.set 2 k (.bool true) rfl (by rw[fm];omega) cj J [(w.heap.size+2,fP (fun _=>MD)),(w.heap.size+1,[k,sq,aa,g,.slice A h.length c,.slice B pre.length d]),(w,fP (nY R k { R k with is:=true }))] (by rw[vl R hk];rfl);have T7:=T.NG (i:=2) rfl (by simp) cj hk ⟨⟨⟨k,sq,aa,g,h,pre⟩,A,c,B,d⟩,60,true⟩ (by rw[eK]) _ rfl;clear b0 c0;obtain⟨b0,b1,b2,b3,b4,b5⟩:=(S.box 1 rfl).b6;have c0:=S.c 2 k rfl (mo R hk);have g0:=S.f 2 k rfl (mo R hk);have x0:=T.c 2 (64+k*7+0) rfl ((ej _ hk (by omega)).trans (by rw[eK];rfl));have f0:=S.f 2 (64+k*7+0) rfl ((ej R hk (by omega)).trans rfl);have x1:=T.c 2 (64+k*7+1) rfl ((ej _ hk (by omega)).trans (by rw[eK];rfl));have f1:=S.f 2 (64+k*7+1) rfl ((ej R hk (by omega)).trans rfl);have x2:=T.c 2 (64+k*7+2) rfl ((ej _ hk (by omega)).trans (by rw[eK];rfl));have f2:=S.f 2 (64+k*7+2) rfl ((ej R hk (by omega)).trans rfl);have x3:=T.c 2 (64+k*7+3) rfl ((ej _ hk (by omega)).trans (by rw[eK];rfl));have f3:=S.f 2 (64+k*7+3) rfl ((ej R hk (by omega)).trans rfl);have x4:=T.c 2 (64+k*7+4) rfl ((ej _ hk (by omega)).trans (by rw[eK];rfl));have f4:=S.f 2 (64+k*7+4) rfl ((ej R hk (by omega)).trans rfl);have x5:=T.c 2 (64+k*7+5) rfl ((ej _ hk (by omega)).trans (by rw[eK];rfl));have f5:=S.f 2 (64+k*7+5) rfl ((ej R hk (by omega)).trans rfl);have x6:=T.c 2 (64+k*7+6) rfl ((ej _ hk (by omega)).trans (by rw[eK];rfl));have f6:=S.f 2 (64+k*7+6) rfl ((ej R hk (by omega)).trans rfl);simp only[Nat.add_zero]at x0 f0;clear S T;simp only at T7;have T8:=T7.drew;clear T7;go_region_law (fail)
   all_goals
    clear b0 c0 g0 x0 x1 x2 x3 x4 x5 x6 f0 f1 f2 f3 f4 f5 f6;generalize World.drew _=w8 at *;generalize nY (nY R k _) k _=R2 at *;go_wp2_with (first|(refine jP rfl (.tmp 2) rfl rfl (T8.box 2 rfl) ?_)|(refine kW rfl (.tmp 4) (.tmp 35) rfl rfl rfl (T8.box 0 rfl) ?_));have T9:=T8.vZ 0 R2 rfl (by omega) (by simp) _ rfl;exact dc (v:=.tuple #[.agg (fP R2).toArray,.int .i64 1]) (Ob rfl (T9.box 0 rfl) rfl rfl) rfl (n.out _ T9.b)
 |true=>
   have D:fx R k=some ⟨(R k).x.y,(R k).l⟩:=by rw[hN];simp
   clear hN;have C:=hR k hk;unfold jD at C;have u:=fun j (hj:j<7)=>ej R hk (j:=j) hj
   obtain⟨s,hs⟩:=ex (R k)
   have x0:=cell_regrown (S.c 2 (64+k*7+0) rfl ((u 0 (by omega)).trans rfl));have x1:=cell_regrown (S.c 2 (64+k*7+1) rfl ((u 1 (by omega)).trans rfl));have x2:=cell_regrown (S.c 2 (64+k*7+2) rfl ((u 2 (by omega)).trans rfl));have x3:=cell_regrown (S.c 2 (64+k*7+3) rfl ((u 3 (by omega)).trans rfl));have x4:=cell_regrown (S.c 2 (64+k*7+4) rfl ((u 4 (by omega)).trans rfl));have x5:=cell_regrown (S.c 2 (64+k*7+5) rfl ((u 5 (by omega)).trans rfl));simp only[Nat.add_zero]at x0;rw[hs]at C D x0 x1 x2 x3 x4 x5;obtain⟨⟨y,A9,c9,B9,d9⟩,lf,L⟩:=s;simp only at C D x0 x1 x2 x3 x4 x5;obtain⟨z,hz⟩:=ex (kO ⟨k,sq,aa,g,h,pre⟩ y)
   have NW:Hid (∀W,cI w1 W→Calls Tryz.prog 154 #[ig k sq aa g A h.length c B pre.length d,ig y.o y.s y.a y.ov A9 y.adj.length c9 B9 y.pre.length d9] W fun e w'=>e= .returned (.int .i64 z)∧cI W w'):=fun W hb=>by
    have:=kF W _ _ _ y ((hl.below S.b).below hb) ((C.below S.b).below hb)
    rwa[hz]at this
   have p:instR (fx R) ⟨k,sq,aa,g,h,pre⟩=if z=0 then 2 else if z= -1 then 3 else 1:=by
    unfold instR;rw[E,cR rfl];simp only[Int.toNat_natCast,D,hz]
   clear u D hs hz C;go_upto_region 2 with fail;clear b0;have b0:=cell_regrown (S.c 1 0 rfl rfl);have b1:=cell_regrown (S.c 1 1 rfl rfl);have b2:=cell_regrown (S.c 1 2 rfl rfl);have b3:=cell_regrown (S.c 1 3 rfl rfl);have b4:=cell_regrown (S.c 1 4 rfl rfl);have b5:=cell_regrown (S.c 1 5 rfl rfl);refine wp_region_quiet_below (by kernel_rfl) (by kernel_rfl) ?_
   repeat (go_big_quiet_step ((first|(go_at_call 154;with_reducible exact Calls.regrown_of (NW.out _ (below_regrown _ _ _))))))
   refine fI ?_;intro _ K;obtain⟨⟨dq,F⟩,G⟩:=K;subst G;replace S:=S.call (below_regrown _ dq F);generalize grow (redrawn _ dq) F=w2 at *;clear x0 x1 x2 x3 x4 x5 NW c0 b0
   by_cases hz0:z=0
   ·subst hz0;rw[cR rfl]at p;have n:Hid (∀w',cI w w'→yd w R (ig k sq aa g A h.length c B pre.length d) ⟨k,sq,aa,g,h,pre⟩ (instN (fx R) ⟨k,sq,aa,g,h,pre⟩) (instR (fx R) ⟨k,sq,aa,g,h,pre⟩) (.returned (.tuple #[.agg (fP R).toArray,.int .i64 2])) w'):=fun w' hb=>m.out _ 2 w' hb (fun i _=>.inl rfl) (by unfold instN;rw[p,cN (by simp)]) p
    clear p m t q;go_wp2_with (first|(refine jP rfl (.tmp 2) rfl rfl (S.box 2 rfl) ?_)|(refine kW rfl (.tmp 4) (.tmp 21) rfl rfl rfl (S.box 0 rfl) ?_));have T9:=S.vZ 0 R rfl (by omega) (by simp) _ rfl;exact dc (v:=.tuple #[.agg (fP R).toArray,.int .i64 2]) (Ob rfl (T9.box 0 rfl) rfl rfl) rfl (n.out _ T9.b)
   by_cases hz1:z= -1
   ·subst hz1;rw[cN (by omega),cR rfl]at p;have n:Hid (∀w',cI w w'→yd w R (ig k sq aa g A h.length c B pre.length d) ⟨k,sq,aa,g,h,pre⟩ (instN (fx R) ⟨k,sq,aa,g,h,pre⟩) (instR (fx R) ⟨k,sq,aa,g,h,pre⟩) (.returned (.tuple #[.agg (fP R).toArray,.int .i64 3])) w'):=fun w' hb=>m.out _ 3 w' hb (fun i _=>.inl rfl) (by unfold instN;rw[p,cN (by simp)]) p
    clear p m t q hz0;go_wp2_with (first|(refine jP rfl (.tmp 2) rfl rfl (S.box 2 rfl) ?_)|(refine kW rfl (.tmp 4) (.tmp 24) rfl rfl rfl (S.box 0 rfl) ?_));have T9:=S.vZ 0 R rfl (by omega) (by simp) _ rfl;exact dc (v:=.tuple #[.agg (fP R).toArray,.int .i64 3]) (Ob rfl (T9.box 0 rfl) rfl rfl) rfl (n.out _ T9.b)
   have hr:instR (fx R) ⟨k,sq,aa,g,h,pre⟩=1:=by rw[p,cN hz0,cN hz1]
   have z0:(z==0)=false:=by simpa using hz0
   have z1:(z== -1)=false:=by simpa using hz1
   clear p hz0 hz1;have n:Hid (∀w',cI w w'→yd w R (ig k sq aa g A h.length c B pre.length d) ⟨k,sq,aa,g,h,pre⟩ (instN (fx R) ⟨k,sq,aa,g,h,pre⟩) (instR (fx R) ⟨k,sq,aa,g,h,pre⟩) (.returned (.tuple #[.agg (fP (nY (nY R k { R k with is:=true }) k ⟨⟨⟨k,sq,aa,g,h,pre⟩,A,c,B,d⟩,60,true⟩)).toArray,.int .i64 1])) w'):=fun w' hb=>m.out _ 1 w' hb q.out (t.out hr) hr
   clear t hr m q;go_upto_region 7 with fail;have T:=S.set 2 k (.bool true) rfl (by rw[fm];omega) cj J [(w.heap.size+2,fP (fun _=>MD)),(w.heap.size+1,[k,sq,aa,g,.slice A h.length c,.slice B pre.length d]),(w,fP (nY R k { R k with is:=true }))] (by rw[vl R hk];rfl);have T7:=T.NG (i:=2) rfl (by simp) cj hk ⟨⟨⟨k,sq,aa,g,h,pre⟩,A,c,B,d⟩,60,true⟩ (by rw[eK]) _ rfl;have b0:=(S.box 1 rfl).b6;have c0:=S.c 2 k rfl (mo R hk);have g0:=S.f 2 k rfl (mo R hk);have x0:=T.c 2 (64+k*7+0) rfl ((ej _ hk (by omega)).trans (by rw[eK];rfl));have f0:=S.f 2 (64+k*7+0) rfl ((ej R hk (by omega)).trans rfl);have x1:=T.c 2 (64+k*7+1) rfl ((ej _ hk (by omega)).trans (by rw[eK];rfl));have f1:=S.f 2 (64+k*7+1) rfl ((ej R hk (by omega)).trans rfl);have x2:=T.c 2 (64+k*7+2) rfl ((ej _ hk (by omega)).trans (by rw[eK];rfl));have f2:=S.f 2 (64+k*7+2) rfl ((ej R hk (by omega)).trans rfl);have x3:=T.c 2 (64+k*7+3) rfl ((ej _ hk (by omega)).trans (by rw[eK];rfl));have f3:=S.f 2 (64+k*7+3) rfl ((ej R hk (by omega)).trans rfl);have x4:=T.c 2 (64+k*7+4) rfl ((ej _ hk (by omega)).trans (by rw[eK];rfl));have f4:=S.f 2 (64+k*7+4) rfl ((ej R hk (by omega)).trans rfl);have x5:=T.c 2 (64+k*7+5) rfl ((ej _ hk (by omega)).trans (by rw[eK];rfl));have f5:=S.f 2 (64+k*7+5) rfl ((ej R hk (by omega)).trans rfl);have x6:=T.c 2 (64+k*7+6) rfl ((ej _ hk (by omega)).trans (by rw[eK];rfl));have f6:=S.f 2 (64+k*7+6) rfl ((ej R hk (by omega)).trans rfl);simp only[Nat.add_zero]at x0 f0;clear S T;simp only at T7;have T8:=T7.drew;clear T7;go_region_law (fail)
   all_goals
    clear b0 c0 g0 x0 x1 x2 x3 x4 x5 x6 f0 f1 f2 f3 f4 f5 f6;generalize World.drew _=w8 at *;generalize nY (nY R k _) k _=R2 at *;go_wp2_with (first|(refine jP rfl (.tmp 2) rfl rfl (T8.box 2 rfl) ?_)|(refine kW rfl (.tmp 4) (.tmp 35) rfl rfl rfl (T8.box 0 rfl) ?_));have T9:=T8.vZ 0 R2 rfl (by omega) (by simp) _ rfl;exact dc (v:=.tuple #[.agg (fP R2).toArray,.int .i64 1]) (Ob rfl (T9.box 0 rfl) rfl rfl) rfl (n.out _ T9.b)
end Go.Proofs.YtehimhbgakpenaaGreat
