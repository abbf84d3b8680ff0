/- Lemmas. -/
import Derived.Test.YtehimhbgakpenaaGreatai
set_option linter.all false
set_option maxRecDepth 100000
set_option maxHeartbeats 16000000
namespace Go.Proofs.YtehimhbgakpenaaGreat
open Go.RowKit Go.Maps Go.Sort Go.Proofs.Tryz
def Q6{R:Nat→Rs}(b:lY (fx R)){i:Nat}(hi:i<64)(h:(R i).is=false∨(R i).x.y.a=3600):(vX (fx R) (i:Int)).ov=false∧(vX (fx R) (i:Int)).adj= []:=by
 unfold vX jR;rw[cR ⟨by omega,by omega⟩,cU];cases hN:fx R i with
 |none=>exact⟨rfl,rfl⟩
 |some z=>
   have hv:=(b i z hN).1;unfold fx at hN;split at hN
   ·next e=>
    injection hN with hN
    subst hN;rcases h with h|h
    ·rw[h]at e;cases e.2
    ·have:=hv.2.2.2.2.2.1 h;exact⟨this.1,this.2.1⟩
   ·cases hN
def Q5{R:Nat→Rs}{i:Nat}(hi:i<64)(h:(R i).is=true):vX (fx R) (i:Int)=(R i).x.y:=by
 unfold vX jR;rw[cR ⟨by omega,by omega⟩,cU];unfold fx;rw[cR ⟨hi,h⟩];rfl
def tz(w:World)(x:La)(e:Ending)(w':World):Prop :=
 ∃v q y,e= .returned (.tuple #[v,q])∧eU w' v y∧y.ov=x.ov∧y.adj=x.adj∧cI w w'
def Cn(w:World)(R:Nat→Rs)(hR:BV w R)(q:lY (fx R))(i:Nat)(hi:i<64) :
  Calls prog 58 #[.agg (fP R).toArray,i] w (tz w (vX (fx R) (i:Int))):=by
 have S:=((St.start w).iE (fP R).toArray 57 w (fP R) rfl (by simp)).nw #[i0,i0,i0,false,sn,sn] 41 (w.heap.size+1);have f:=Q6 q hi;have a:=Q5 (R:=R) hi;have hx:=hR i hi;obtain⟨is,m⟩:=ex ((R i).is)
 obtain⟨s,hs⟩:=ex ((R i).x)
 rw[m,hs]at f;rw[m,hs]at a;rw[hs]at hx;have k:=fun j hj=>ej R hi (j:=j) hj
 have h:R i=⟨s,(R i).l,is⟩:=by rw[←hs,←m]
 obtain⟨x0,p⟩:=ex (vX (fx R) (i:Int))
 rw[p]at f a ⊢;clear p hR q;go_in;go_upto_region 1 with fail;generalize World.alloc _ _=w1 at *;have c0:=S.c 1 i rfl (mo R hi);rw[m]at c0;have r:(i:Int)<64:=by omega
 obtain⟨⟨o,sq,ag,ov,n,pre⟩,A,c,B,d⟩:=s;unfold jD at hx;simp only at hx f a;have y0:=S.c 1 (64+i*7+0) rfl ((k 0 (by omega)).trans (by rw[h];rfl));have y1:=S.c 1 (64+i*7+1) rfl ((k 1 (by omega)).trans (by rw[h];rfl));have y2:=S.c 1 (64+i*7+2) rfl ((k 2 (by omega)).trans (by rw[h];rfl));have y3:=S.c 1 (64+i*7+3) rfl ((k 3 (by omega)).trans (by rw[h];rfl));have y4:=S.c 1 (64+i*7+4) rfl ((k 4 (by omega)).trans (by rw[h];rfl));have y5:=S.c 1 (64+i*7+5) rfl ((k 5 (by omega)).trans (by rw[h];rfl));simp only[Nat.add_zero]at y0;have q0:=S.c 0 0 rfl rfl;obtain⟨q0,q1,q2,q3,q4,q5⟩:=(S.box 0 rfl).b6;have f0:=(S.box 0 rfl).f6;clear k h hs m;have hz:=fun W=>(fQ W W).at
 by_cases hd:is=false∨ag=3600
 ·obtain⟨e1,e2⟩:=f hd;have S9:=S.wg 0 0 0 false sn sn (by simp) (by simp);have g:Hid (∀W,cI w W→tz w x0 (.returned (.tuple #[ig 0 0 0 false none 0 0 none 0 0,false])) W):=fun W hb=>⟨_,_,dT,rfl,hz W,e1.symm,e2.symm,hb⟩
  have hb9:=S9.b;clear hz f a e1 e2 S9;rcases hd with rfl|hd
  ·go_wp2;exact dc (v:=.tuple #[ig 0 0 0 false none 0 0 none 0 0,false]) (by simp[results,results58,go_sem,q0,q1,q2,q3,q4,q5]) rfl (g _ hb9)
  ·subst hd;cases is
   ·go_wp2;exact dc (v:=.tuple #[ig 0 0 0 false none 0 0 none 0 0,false]) (by simp[results,results58,go_sem,q0,q1,q2,q3,q4,q5]) rfl (g _ hb9)
   ·go_wp2;exact dc (v:=.tuple #[ig 0 0 0 false none 0 0 none 0 0,false]) (by simp[results,results58,go_sem,q0,q1,q2,q3,q4,q5]) rfl (g _ hb9)
 ·obtain rfl:is=true:=by
   cases is with
   |true=>rfl
   |false=>exact absurd (.inl rfl) hd
  have t:(ag==3600)=false:=by simp;exact fun e=>hd (.inr e)
  have e1:=a rfl;have S9:=S.wg o sq ag ov (.slice A n.length c) (.slice B pre.length d) (by simp) (by simp);have g:Hid (∀W,cI w W→tz w x0 (.returned (.tuple #[ig o sq ag ov A n.length c B pre.length d,true])) W):=fun W hb=>⟨_,_,_,rfl,hx.below hb,by rw[e1],by rw[e1],hb⟩
  have hb9:=S9.b;clear hz f a e1 hd S9 hx;generalize n.length=an at *;generalize pre.length=pn at *;go_wp2;exact dc (v:=.tuple #[ig o sq ag ov A an c B pn d,true]) (by simp[results,results58,go_sem,q0,q1,q2,q3,q4,q5]) rfl (g _ hb9)
def yf(w:World)(r:Option Int)(e:Ending)(w':World):Prop:=e= .returned (.int .i64 (r.getD 0))∧cI w w'
def KZ(w:World)(R:Nat→Rs)(hR:BV w R)(p:lY (fx R))(node tn lk:Int)(hi:0≤node∧node<64) :
  Calls prog 59 #[.agg (fP R).toArray,node,tn,lk] w (yf w (mU (vX (fx R) node).adj tn lk)):=by
 obtain⟨i,rfl⟩:=de hi.1;have S:=(St.start w).iE (fP R).toArray 57 w (fP R) rfl (by simp);have LV:=fun W hb=>Cn W R (hR.below hb) p i (by omega)
 unfold tz at LV;obtain⟨x,hx⟩:=ex (vX (fx R) (i:Int))
 rw[hx]at LV ⊢;replace LV:=φ LV;clear hx hR p;unfold yf;obtain⟨r,hr⟩:=ex (mU x.adj tn lk)
 rw[hr];replace hr:=φ hr;go_in;go_upto_region 1 with fail;generalize World.alloc _ _=w1 at *;have u:=S.box 0 rfl;go_wp2_with (first|(refine jP (R:=R) rfl (.tmp 4) rfl rfl ?hb ?_;(case hb=>exact u)));refine (LV _ S.b).mono ?_;rintro e w2 ⟨v,q,y,rfl,hy,-,g,hb⟩;replace S:=(S.call hb).dX [] (by simp);clear LV u;have B0:=φ S.b;have j:=S.b.size;have f:Hid (∀W bs rs,St w2 W bs rs→cI w W):=fun W bs rs S'=>B0.out.trans (S'.b.mono j)
 clear j;obtain⟨A,c,B,d,rfl,rA,rB,h1,h2,h3,h4,hu⟩:=hy;have hlen:=cZ h1 h2;unfold maxLen at hlen;have T:=((St.start w2).read rA).nw #[y.o,y.s,y.a,y.ov,.slice A y.adj.length c,.slice B y.pre.length d] 41 w2;clear rA rB h1 h2 h3 h4 hu S hb;have l:mU y.adj tn lk=r:=by rw[g];exact hr
 clear g hr;generalize y.adj=al at *;obtain⟨n,hn⟩:=ex al.length
 rw[hn]at T hlen;rw[hn];replace hn:=φ hn;generalize y.pre.length=pn at *;have m:Hid (mU (al.drop 0) tn lk=r):=l;clear l;go_upto_region 2 with fail;generalize World.alloc w2 _=w3 at *;generalize w2.heap.size=g2 at *;go_wp2_with fail;go_loopw [11] (fun v11 wr=>∃k:Nat,v11= .int .i64 k∧k≤n∧Hid (mU (al.drop k) tn lk=r)∧St w2 wr [(g2,[y.o,y.s,y.a,y.ov,.slice A n c,.slice B pn d])] [(A,jN al)]) (fun v11 _=>n - (intOf v11).toNat)
 case atStart=>exact⟨0,rfl,by omega,m,T⟩
 case round=>
  clear T m;obtain⟨k,rfl,hk,hr,S⟩:=hrel;have r0:=(S.box 0 rfl).b6
  by_cases hkn:k<n
  ·have t:k<al.length:=by have:=hn.out;omega
   obtain⟨ba,off,rfl,hc⟩:=se (S.r 0 rfl) (by omega);obtain⟨x0,x1,x2⟩:=hc k t;have hd:mU (al.drop k) tn lk=_:=C5 t tn lk;rw[hr.out]at hd;generalize al[k]=z at *;obtain⟨p0,p1,p2⟩:=z;simp only at x0 x1 x2 hd;replace hd:=φ hd;clear hc hr
   by_cases e1:p0=tn
   ·by_cases e2:p1=lk
    ·have e3:=hd.out;rw[cR ⟨e2,e1⟩]at e3;subst e3 e1 e2;clear hd;go_wp2;go_ret;exact⟨rfl,f _ _ _ S⟩
    ·have e3:Hid (mU (al.drop (k+1)) tn lk=r):=by
      have:=hd.out;rw[cN (fun h=>e2 h.1)]at this;exact this.symm
     subst e1;go_wp2;go_round
     case rel=>exact⟨k+1,by go_num,by omega,e3,S⟩
     case measure=>simp[intOf];omega
   ·have e3:Hid (mU (al.drop (k+1)) tn lk=r):=by
     have:=hd.out;rw[cN (fun h=>e1 h.2)]at this;exact this.symm
    go_wp2;go_round
    case rel=>exact⟨k+1,by go_num,by omega,e3,S⟩
    case measure=>simp[intOf];omega
  ·obtain rfl:k=n:=by omega
   have e3:=hr.out;rw[gG (by have:=hn.out;omega)]at e3;subst e3;go_wp2;go_ret;exact⟨rfl,f _ _ _ S⟩
def Qk{l:List Ad}{a b c:Int}(h:mU l a b=some c):(a,b,c)∈l:=by
 induction l with
 |nil=>cases h
 |cons x l ih=>
   unfold mU at h;split at h
   ·next e=>
    obtain⟨e1,e2⟩:=e;injection h with h
    obtain⟨p0,p1,p2⟩:=x;simp only at e1 e2 h;subst e1 e2 h;exact List.mem_cons_self
   ·exact fy _ (ih h)
def ur(w:World)(N:Db)(t:Tp)(e:Ending)(w':World):Prop :=
 ∃v D c,e= .returned (.tuple #[v,.slice D (2*t.ln.length) c])∧js w' v (jx N t)∧Rd w' D (iw (qb N 0 t.ln))∧cI w w'
def FK{w:World}{base g0:Nat}{e:TypeId}{size:Nat}{A:cG}{n c:Nat}{xs:cH}(h:w.ownsRow base e size (.slice A n c) n xs)(h0:g0<w.heap.size):∃g,(0<n∧A=some ⟨g,0,none⟩∧base≤g∨n=0∧g=g0)∧g<w∧fq w g xs:=by
 rcases fF n with hn|hn
 ·refine⟨g0,.inr ⟨hn,rfl⟩,h0,?_⟩
  have hl:=h.1;rw[hn,pP]at hl;obtain rfl:xs= []:=dy hl;intro i u hu;simp at hu
 ·obtain⟨g,h1,h2,h3,h4⟩:=DP h hn;exact⟨g,.inl ⟨hn,h1,h2⟩,h3,h4⟩
structure GM (w wx:World) (R:Nat→Rs) (q:Nat) (l:List Lk) (m:Nat) (A:cG) (k c:Nat) (B:cG) (d:Nat) (vO:Value) (g6 gB:Nat) (B1:cG) (d1:Nat):Prop where
 st:St w wx [(g6,[(q:Int),vO,.slice B1 m d1]),(gB,fw l),(w.heap.size+2,[.int .i64 0,.slice none 0 0,.slice none 0 0]),(w.heap.size+1,[(q:Int),.slice A k c,.slice B m d]),(w,fP R)] [(B,fw l)]
 e:0<m∧B1=some ⟨gB,0,none⟩∧w.heap.size+3≤gB∨m=0∧gB=w.heap.size
 l6:w.heap.size+3≤g6
 ne:g6≠gB
 h6:g6<wx.heap.size
 hB:gB<wx
def WD{w:World}{g gB:Nat}{l:List Lk}{v0 v2:Value}{A:cG}{n c:Nat}(h1:fq w g [v0,.slice A n c,v2])(h2:fq w gB (fw l))(h:0<l.length):g≠gB:=fun e=>by
 subst e;cases l with
 |nil=>cases h
 |cons x r=>
   have a:=h1.c 1 rfl;have b:=h2.c 1 rfl;rw[a]at b;cases b
def GM.of{w w2:World}{R:Nat→Rs}{q:Nat}{l:List Lk}{m:Nat}{A:cG}{k c:Nat}{B:cG}{d:Nat}{g6:Nat}{B1:cG}{d1:Nat}{u0 u2:Value}
  (S2:St w w2 [(g6,[u0,.slice none 0 0,u2]),(w.heap.size+2,[.int .i64 0,.slice none 0 0,.slice none 0 0]),(w.heap.size+1,[q,.slice A k c,.slice B m d]),(w,fP R)] [(B,fw l)])
  (ho:w2.ownsRow (w.heap.size+3) 79 7 (.slice B1 m d1) m (fw l)) (hm:l.length=m) (h6:w.heap.size+3≤g6) :
  ∃gB,GM w ((((w2.setCell ⟨g6,0,none⟩ (.int .i64 (q:Int))).setCell ⟨g6,1,none⟩ (.slice none 0 0)).setCell ⟨g6,2,none⟩ (.slice B1 m d1))) R q l m A k c B d (.slice none 0 0) g6 gB B1 d1:=by
 have b:=(S2.box 0 rfl).lt (by simp);obtain⟨gB,e,h1,h2⟩:=FK (g0:=w.heap.size) ho (by omega);have a:g6≠gB:=by
  rcases e with ⟨e1,_,_⟩|⟨_,e2⟩
  ·exact WD (S2.box 0 rfl) h2 (by omega)
  ·omega
 have S3:=(S2.Ek h2).dX [(g6,[u0,sn,u2]),(gB,fw l),(w.heap.size+2,[i0,sn,sn]),(w.heap.size+1,[q,.slice A k c,.slice B m d]),(w,fP R)] (by simp);have S4:=S3.NH (.int .i64 (q:Int)) sn (.slice B1 m d1) (by omega) (by
  intro x hx;simp only[dA,eF,ik]at hx;rcases hx with rfl|rfl|rfl|rfl
  ·exact fun e=>a e.symm
  ·simp only;omega
  ·simp only;omega
  ·simp only; omega)
 exact⟨gB,S4,e,h6,a,by simpa using b,by simpa using h1⟩
def GM.of2{w w2:World}{R:Nat→Rs}{q:Nat}{l:List Lk}{m:Nat}{A:cG}{k c:Nat}{B:cG}{d:Nat}{B1:cG}{d1:Nat}
  (S2:St w w2 [(w.heap.size+2,[.int .i64 0,.slice none 0 0,.slice none 0 0]),(w.heap.size+1,[q,.slice A k c,.slice B m d]),(w,fP R)] [(B,fw l)])
  (ho:w2.ownsRow (w.heap.size+3) 79 7 (.slice B1 m d1) m (fw l)) (hm:l.length=m) :
  ∃gB,GM w ((w2.alloc (.cells #[q,.slice none 0 0,.slice B1 m d1] 25))) R q l m A k c B d (.slice none 0 0) w2 gB B1 d1:=by
 have a:=(S2.box 0 rfl).lt (by simp);obtain⟨gB,e,h1,h2⟩:=FK (g0:=w.heap.size) ho (by omega);have S4:=((S2.Ek h2).iE #[q,sn,.slice B1 m d1] 25 w2 [q,sn,.slice B1 m d1] rfl rfl)
 exact⟨gB,S4,e,by omega,by omega,by simp,by simp;omega⟩
def KI(w:World)(R:Nat→Rs)(hR:BV w R)(ap:lY (fx R))(v:Value)(t:Tp)(ht:js w v t)(au:mE t):Calls prog 15 #[.agg (fP R).toArray,v] w (ur w (fx R) t):=by
 obtain⟨A,c,B,d,rfl,rA,rB,h3,h4⟩:=id ht;have S:=((((St.start w).read rB).iE (fP R).toArray 57 w.heap.size (fP R) rfl (by simp)).nw #[t.n,.slice A t.ov.length c,.slice B t.ln.length d] 25 (w.heap.size+1)).nw #[i0,sn,sn] 25 (w.heap.size+2);have bl:=au.ln;obtain⟨q,hq⟩:∃q:Nat,t.n=(q:Int):=⟨t.n.toNat,by have:=au.n;omega⟩
 have bo:1≤q∧q≤64:=by have:=au.n;omega
 have a7:Hid (∀x∈t.ln,sC (q:Int) x):=by have:=au.all;rw[hq]at this;exact this
 obtain⟨l,hl⟩:=ex t.ln
 obtain⟨N,hN⟩:=ex (fx R)
 have av:Hid (∀w' A' c' B' d' D c3,Rd w' A' (iw (uw N q))→Rd w' B' (fw (Bm N 0 l))→Rd w' D (iw (qb N 0 l))→cI w w'→ur w N t (.returned (.tuple #[EA (q:Int) A' q c' B' l.length d',.slice D (2*l.length) c3])) w'):=fun w' A' c' B' d' D c3 r1 r2 r3 hb=>by
  refine⟨_,D,c3,by rw[hl],⟨A',c',B',d',?_,?_,?_,?_,?_⟩,by rw[hl];exact r3,hb⟩
  ·simp only[jx,rk,nX,hq,Int.toNat_natCast,hl]
  ·simp only[jx,hq,Int.toNat_natCast];exact r1
  ·simp only[jx,hl];exact r2
  ·simp only[jx,hq,Int.toNat_natCast,rk,maxLen];omega
  ·simp only[jx,nX,maxLen];omega
 obtain⟨m,hm⟩:=ex l.length
 rw[hq,hl,hm]at S;rw[hl,hm]at bl;rw[hm]at av;rw[hl]at a7;simp only[hq,hl,hm];have LV:=fun W (hb:cI w W) (i:Nat) hi=>Cn W R (hR.below hb) ap i hi
 have CO:=fun W (hb:cI w W) a b (i:Int) hi=>KZ W R (hR.below hb) ap a b i hi
 unfold tz at LV;unfold yf at CO;rw[hN]at LV CO ⊢;have aI:Hid (∀a b i c,mU (vX N a).adj b i=some c→1≤c):=fun a b i c h=>by
  have ab:=Qk h;unfold vX at ab;cases ho:jR N a with
  |none=>rw[ho]at ab;simp[eX,dT]at ab
  |some z=>
    rw[ho]at ab;have hz:dS z.x:=by
     unfold jR at ho;split at ho
     ·rw[←hN]at ho;exact(ap _ z ho).1
     ·cases ho
    obtain⟨n,hn⟩:=List.getElem?_of_mem ab;exact(hz.2.2.2.2.2.2.1 n _ (dj.1 hn).1 hn).2.2.2.1.1
 change Hid _ at LV CO hm;clear rA rB h3 h4 ht au hq hl hR ap hN;generalize t.ov.length=k at *;obtain⟨l0,a8⟩:=ex (ur w N t)
 rw[a8]at av ⊢;clear a8;go_in;go_upto_region 1 with fail;generalize World.alloc _ _=w1 at *;have c0:=(S.box 1 rfl).b3;have S0:=S.drew;have a6:w.heap.size+3≤w1.heap.size:=by have:=(S.box 0 rfl).lt (by simp);omega
 have Sa:=S.alloc (.cells #[] 79);have az:=S.nw #[i0,sn,sn] 25 w1.heap.size;have Sb:=az.alloc (.cells #[] 79);have Sc:=(S.alloc (.cells #[] 79)).nw #[i0,sn,sn] 25 (w1.heap.size+1);have bi:=Sa.drew;have bg:=az.drew;have bh:=Sb.drew;have bf:=Sc.drew;have oA:=dx (lQ w1 79 7) a6;have oB:=dx (lQ (w1.alloc (.cells #[i0,sn,sn] 25)) 79 7) (base:=w.heap.size+3) (by simp;omega);have oC:=dg oA (cQ _ (.cells #[i0,sn,sn] 25));simp only[fD]at oB;have aB:(fw l).length=m*7:=by rw[fK,hm.out]
 have ao:=FZ l;have aF:0+m≤maxLen:=by simp only[maxLen];omega
 have aE:(0+m)*56≤140737488355328:=by omega
 have ra:=Sa.r 0 rfl;have rb:=Sb.r 0 rfl;have rc:=Sc.r 0 rfl;have aZ:w.heap.size+3≤(w1.alloc (.cells #[] 79)).heap.size:=by simp;omega
 have aY:w.heap.size+3≤((w1.alloc (.cells #[i0,sn,sn] 25)).alloc (.cells #[] 79)).heap.size:=by simp;omega
 have aX:w.heap.size+3≤((w1.alloc (.cells #[] 79)).alloc (.cells #[i0,sn,sn] 25)).heap.size:=by simp;omega
 have k0:Cv w1 (w.heap.size+1) 0 (q:Int)∧Cv w1 (w.heap.size+1) 2 (.slice B m d):=⟨S.c 1 0 rfl rfl,S.c 1 2 rfl rfl⟩
 have k1:(w1.alloc (.cells #[] 79)).cell? ⟨w.heap.size+1,0,none⟩=some (.int .i64 (q:Int))∧(w1.alloc (.cells #[] 79)).cell? ⟨w.heap.size+1,2,none⟩=some (.slice B m d):=⟨Sa.c 1 0 rfl rfl,Sa.c 1 2 rfl rfl⟩
 have k2:(w1.alloc (.cells #[i0,sn,sn] 25)).cell? ⟨w.heap.size+1,0,none⟩=some (.int .i64 (q:Int))∧(w1.alloc (.cells #[i0,sn,sn] 25)).cell? ⟨w.heap.size+1,2,none⟩=some (.slice B m d):=⟨az.c 2 0 rfl rfl,az.c 2 2 rfl rfl⟩
 have k3:((w1.alloc (.cells #[i0,sn,sn] 25)).alloc (.cells #[] 79)).cell? ⟨w.heap.size+1,0,none⟩=some (.int .i64 (q:Int))∧((w1.alloc (.cells #[i0,sn,sn] 25)).alloc (.cells #[] 79)).cell? ⟨w.heap.size+1,2,none⟩=some (.slice B m d):=⟨Sb.c 2 0 rfl rfl,Sb.c 2 2 rfl rfl⟩
 have k4:((w1.alloc (.cells #[] 79)).alloc (.cells #[i0,sn,sn] 25)).cell? ⟨w.heap.size+1,0,none⟩=some (.int .i64 (q:Int))∧((w1.alloc (.cells #[] 79)).alloc (.cells #[i0,sn,sn] 25)).cell? ⟨w.heap.size+1,2,none⟩=some (.slice B m d):=⟨Sc.c 2 0 rfl rfl,Sc.c 2 2 rfl rfl⟩
 have aO:w.heap.size≤w1.heap.size:=by omega
 have aH:w.heap.size≤w1.heap.size+1:=by omega
 have ba:∀x∈([(w.heap.size+2,[i0,sn,sn]),(w.heap.size+1,[(q:Int),.slice A k c,.slice B m d]),(w.heap.size,fP R)]:List (Nat× cH)),x.1≠w1.heap.size∧0<x.2.length:=by
  intro x hx;simp only[dA,eF,ik]at hx;rcases hx with rfl|rfl|rfl
  ·exact⟨by simp only;omega,by simp⟩
  ·exact⟨by simp only;omega,by simp⟩
  ·exact⟨by simp only;omega,by simp only[fm];omega⟩
 have aK:∀x∈([(w1.heap.size,[i0,sn,sn]),(w.heap.size+2,[i0,sn,sn]),(w.heap.size+1,[(q:Int),.slice A k c,.slice B m d]),(w.heap.size,fP R)]:List (Nat× cH)),x.1≠w1.heap.size+1∧0<x.2.length:=by
  intro x hx;simp only[dA,eF,ik]at hx;rcases hx with rfl|rfl|rfl|rfl
  ·exact⟨by simp only;omega,by simp⟩
  ·exact⟨by simp only;omega,by simp⟩
  ·exact⟨by simp only;omega,by simp⟩
  ·exact⟨by simp only;omega,by simp only[fm];omega⟩
 have aJ:∀x∈([(w1.heap.size+1,[i0,sn,sn]),(w.heap.size+2,[i0,sn,sn]),(w.heap.size+1,[(q:Int),.slice A k c,.slice B m d]),(w.heap.size,fP R)]:List (Nat× cH)),x.1≠w1.heap.size∧0<x.2.length:=by
  intro x hx;simp only[dA,eF,ik]at hx;rcases hx with rfl|rfl|rfl|rfl
  ·exact⟨by simp only;omega,by simp⟩
  ·exact⟨by simp only;omega,by simp⟩
  ·exact⟨by simp only;omega,by simp⟩
  ·exact⟨by simp only;omega,by simp only[fm];omega⟩
 go_cut [6] (fun v6 wx=>∃g6 gB B1 d1,v6= pt g6∧Hid (GM w wx R q l m A k c B d sn g6 gB B1 d1))
 case first=>
  go_region_held3 (fun W=>Cv W (w.heap.size + 1) 0 (q:Int) ∧ Cv W (w.heap.size + 1) 2 (.slice B m d)) (first | assumption | go_keep) (first
   |(refine fJ (o:=⟨some 21,_,_,_,_,_⟩) rfl YG (.tmp 18) (.tmp 20) (by rfl) (w.heap.size+3) (by rfl) (show(w1.alloc (.cells #[] 79)).drew.ownsRow _ _ _ _ _ _ from oA) (by rfl) aB (show Rd (w1.alloc (.cells #[] 79)).drew _ _ from ra) ao aF aE aZ m (fw l) (iQ m) (iC _) ?_;intro v2 w2 C aw ad _;obtain⟨B2,d2,rfl,-⟩:=dN C;have ac:World.grownBy _ w2 (some w1.heap.size):=ad;have T2:=St.via bi ac aO ba;have aV:=GM.of2 T2 C hm.out;have k5:Cv w2 (w.heap.size+1) 0 (q:Int)∧Cv w2 (w.heap.size+1) 2 (.slice B m d):=⟨T2.c 1 0 rfl rfl,T2.c 1 2 rfl rfl⟩;have k6:(w2.alloc (.cells #[i0,sn,sn] 25)).cell? ⟨w.heap.size+1,0,none⟩=some (.int .i64 (q:Int))∧(w2.alloc (.cells #[i0,sn,sn] 25)).cell? ⟨w.heap.size+1,2,none⟩=some (.slice B m d):=⟨(T2.alloc (.cells #[i0,sn,sn] 25)).c 1 0 rfl rfl,(T2.alloc (.cells #[i0,sn,sn] 25)).c 1 2 rfl rfl⟩;have k7:(w2.alloc (.cells #[(q:Int),sn,.slice B2 m d2] 25)).cell? ⟨w.heap.size+1,0,none⟩=some (.int .i64 (q:Int))∧(w2.alloc (.cells #[(q:Int),sn,.slice B2 m d2] 25)).cell? ⟨w.heap.size+1,2,none⟩=some (.slice B m d):=⟨(T2.alloc (.cells #[(q:Int),sn,.slice B2 m d2] 25)).c 1 0 rfl rfl,(T2.alloc (.cells #[(q:Int),sn,.slice B2 m d2] 25)).c 1 2 rfl rfl⟩)
   |(refine fJ (o:=⟨some 21,_,_,_,_,_⟩) rfl YG (.tmp 18) (.tmp 20) (by rfl) (w.heap.size+3) (by rfl) (show((w1.alloc (.cells #[i0,sn,sn] 25)).alloc (.cells #[] 79)).drew.ownsRow _ _ _ _ _ _ from oB) (by rfl) aB (show Rd ((w1.alloc (.cells #[i0,sn,sn] 25)).alloc (.cells #[] 79)).drew _ _ from rb) ao aF aE aY m (fw l) (iQ m) (iC _) ?_;intro v2 w2 C aw ad _;obtain⟨B2,d2,rfl,-⟩:=dN C;have ac:World.grownBy _ w2 (some (w1.heap.size+1)):=ad;have T2:=St.via bh ac aH aK;have aV:=GM.of T2 C hm.out (by omega);have k5:Cv w2 (w.heap.size+1) 0 (q:Int)∧Cv w2 (w.heap.size+1) 2 (.slice B m d):=⟨T2.c 2 0 rfl rfl,T2.c 2 2 rfl rfl⟩;have T3:=T2.NH (.int .i64 (q:Int)) sn (.slice B2 m d2) (by omega) (by simp;omega);have k7:(((w2.setCell ⟨w1.heap.size,0,none⟩ (q:Int)).setCell ⟨w1.heap.size,1,none⟩ sn).setCell ⟨w1.heap.size,2,none⟩ (.slice B2 m d2)).cell? ⟨w.heap.size+1,0,none⟩=some (.int .i64 (q:Int))∧(((w2.setCell ⟨w1.heap.size,0,none⟩ (q:Int)).setCell ⟨w1.heap.size,1,none⟩ sn).setCell ⟨w1.heap.size,2,none⟩ (.slice B2 m d2)).cell? ⟨w.heap.size+1,2,none⟩=some (.slice B m d):=⟨T3.c 2 0 rfl rfl,T3.c 2 2 rfl rfl⟩;obtain⟨p0,p1,p2⟩:=(T2.box 0 rfl).b3;obtain⟨f0,f1,-⟩:=(T2.box 0 rfl).f3;have f2:=T2.f 0 2 rfl rfl)
   | (refine fJ (o:=⟨some 21,_,_,_,_,_⟩) rfl YG (.tmp 18) (.tmp 20) (by rfl) (w.heap.size + 3) (by rfl) (show ((w1.alloc (.cells #[] 79)).alloc (.cells #[i0,sn,sn] 25)).drew.ownsRow _ _ _ _ _ _ from oC) (by rfl) aB (show Rd ((w1.alloc (.cells #[] 79)).alloc (.cells #[i0,sn,sn] 25)).drew _ _ from rc) ao aF aE aX m (fw l) (iQ m) (iC _) ?_; intro v2 w2 C aw ad _; obtain ⟨B2,d2,rfl,-⟩:=dN C; have ac:World.grownBy _ w2 (some w1.heap.size):=ad; have T2:=St.via bf ac aO aJ; have aV:=GM.of T2 C hm.out (by omega); have k5:Cv w2 (w.heap.size + 1) 0 (q:Int) ∧ Cv w2 (w.heap.size + 1) 2 (.slice B m d):=⟨T2.c 2 0 rfl rfl,T2.c 2 2 rfl rfl⟩; have T3:=T2.NH (.int .i64 (q:Int)) sn (.slice B2 m d2) (by omega) (by simp; omega); have k7:(((w2.setCell ⟨w1.heap.size + 1,0,none⟩ (q:Int)).setCell ⟨w1.heap.size + 1,1,none⟩ sn).setCell ⟨w1.heap.size + 1,2,none⟩ (.slice B2 m d2)).cell? ⟨w.heap.size + 1,0,none⟩= some (.int .i64 (q:Int)) ∧ (((w2.setCell ⟨w1.heap.size + 1,0,none⟩ (q:Int)).setCell ⟨w1.heap.size + 1,1,none⟩ sn).setCell ⟨w1.heap.size + 1,2,none⟩ (.slice B2 m d2)).cell? ⟨w.heap.size + 1,2,none⟩= some (.slice B m d):=⟨T3.c 2 0 rfl rfl,T3.c 2 2 rfl rfl⟩; have p0:=T2.c 0 0 rfl rfl; have p1:=T2.c 0 1 rfl rfl; have p2:=T2.c 0 2 rfl rfl; have f0:=T2.f 0 0 rfl rfl; have f1:=T2.f 0 1 rfl rfl; have f2:=T2.f 0 2 rfl rfl))
  all_goals
   obtain⟨gB,aT⟩:=aV;replace aT:=φ aT;go_wp2;go_meet;exact⟨_,gB,B2,d2,rfl,aT⟩
 case rest=>
 obtain⟨g6,gB,B1,d1,rfl,P⟩:=hcut;clear k0 k1 k2 k3 k4 ba aK aJ aO aH a6 aZ aY aX ra rb rc aF aE ao aB oA oB oC Sa az Sb Sc bi bg bh bf S S0 c0;have bv:(q:Int)<65:=by omega
 have ax:=P.out.e;have bB:=P.out.l6;have bA:=P.out.ne;have br:=P.out.h6;have bq:=P.out.hB;have S:=P.out.st;clear P;replace ax:=φ ax;generalize hM:wc.heap.size=M at *;have Z:M≤wc.heap.size:=by omega
 clear hM;have aa:Hid (wc.ownsRow M 4 1 sn 0 (iw (uw N 0))):=cn;go_wp2_with fail;go_loopw [7] (fun v7 wr=>∃(i:Nat) (AO:cG) (cO:Nat),v7= .int .i64 i∧i≤q∧M≤wr.heap.size∧Hid (wr.ownsRow M 4 1 (.slice AO i cO) i (iw (uw N i)))∧St w wr [(g6,[(q:Int),.slice AO i cO,.slice B1 m d1]),(gB,fw l),(w.heap.size+2,[i0,sn,sn]),(w.heap.size+1,[(q:Int),.slice A k c,.slice B m d]),(w.heap.size,fP R)] [(B,fw l)]) (fun v7 _=>q - (intOf v7).toNat)
 case atStart=>exact⟨0,none,0,rfl,by omega,Z,aa,S⟩
 case round=>
  clear S Z aa;obtain⟨i,AO,cO,rfl,hi,Z,F,S⟩:=hrel
  by_cases hiq:i<q
  ·have aG:=LV.out wr S.b i (by omega);replace aG:=φ aG;have bd:=S.box 4 rfl;obtain⟨r0,r1,r2⟩:=(S.box 3 rfl).b3;go_wp2_with (first|(refine jP (R:=R) rfl (.tmp 2) rfl rfl ?hb ?_;(case hb=>exact bd)));(with_reducible refine aG.out.mono ?_);rintro e w5 ⟨v5,q5,y,rfl,hy,aA,-,hb⟩;clear aG bd;replace aA:=φ aA;clear r0;replace S:=S.call hb;replace F:=φ (dg F.out hb);replace Z:=cZ Z hb.size;clear hb;obtain⟨A5,c5,B5,d5,rfl⟩:=hy.form;clear hy;have aS:=cQ w5 (.cells #[y.o,y.s,y.a,.bool y.ov,.slice A5 y.adj.length c5,.slice B5 y.pre.length d5] 41);replace S:=S.nw #[y.o,y.s,y.a,.bool y.ov,.slice A5 y.adj.length c5,.slice B5 y.pre.length d5] 41 w5.heap.size;replace F:=φ (dg F.out aS);replace Z:=cZ Z aS.size;clear aS;go_upto_region 6 with fail;generalize World.alloc w5 _=w6 at *;generalize w5.heap.size=g8 at *;obtain⟨a0,a1,a2,a3,a4,a5⟩:=(S.box 0 rfl).b6;obtain⟨u0,u1,u2⟩:=(S.box 1 rfl).b3;generalize y.ov=yo at *;have C:=dg F.out (cQ w6 (.cells #[.bool yo] 4));have Q:=Rd.lit w6 #[.bool yo] 4;have L:M≤(w6.alloc (.cells #[.bool yo] 4)).heap.size:=by simp;omega
   replace S:=(S.alloc (.cells #[.bool yo] 4)).dX [(g6,[(q:Int),.slice AO i cO,.slice B1 m d1]),(gB,fw l),(w.heap.size+2,[i0,sn,sn]),(w.heap.size+1,[(q:Int),.slice A k c,.slice B m d]),(w.heap.size,fP R)] (by simp);have U:Hid (uw N (i+1)=uw N i++ [yo]):=by
    show _=_
    rw[EG,←aA.out]
   go_wp2_with (at_builtin;refine dK rfl Ua (.tmp 36) (.tmp 39) rfl M rfl C (m:=1) rfl (by simp) Q (by simp[Value.oneCell']) (by simp only[maxLen];omega) (by omega) L (i+1) _ rfl rfl ?_;intro v3 w7 u E ah af;obtain⟨A7,c7,rfl,-⟩:=dN u;have S7:=S.Yf E (by omega) (by simp;omega);have f1:=S7.f 0 1 rfl rfl;have bk:=S7.c 0 1 rfl rfl;clear ah af);have S8:=S7.set 0 1 (.slice A7 (i+1) c7) rfl (by simp) (by omega) (by simp;omega) [(g6,[(q:Int),.slice A7 (i+1) c7,.slice B1 m d1]),(gB,fw l),(w.heap.size+2,[i0,sn,sn]),(w.heap.size+1,[(q:Int),.slice A k c,.slice B m d]),(w.heap.size,fP R)] rfl;have Y:=cV (a:=⟨g6,1,none⟩) u (by simp only;omega) (.slice A7 (i+1) c7);rw[show iw (uw N i)++ [Value.bool yo]=iw (uw N (i+1))by rw[U.out];simp[iw]]at Y;have ag:M≤(w7.setCell ⟨g6,1,none⟩ (.slice A7 (i+1) c7)).heap.size:=by have:=E.size;simp;omega
   replace Y:=φ Y;clear a0 a1 a2 a3 a4 a5 u0 S7 bk u E C Q L U aA S F Z;generalize World.setCell w7 _ _=w8 at *;go_wp2;go_round
   case rel=>exact⟨i+1,A7,c7,by go_num,by omega,ag,Y,S8⟩
   case measure=>simp[intOf];omega
  ·obtain rfl:i=q:=by omega
   obtain⟨gO,rfl,bp,a9,bc⟩:=DP F.out (by omega);replace S:=(S.Ek bc).dX [(gO,iw (uw N i)),(g6,[(i:Int),.slice (some ⟨gO,0,none⟩) i cO,.slice B1 m d1]),(gB,fw (oe N l 0)),(w.heap.size+2,[i0,sn,sn]),(w.heap.size+1,[(i:Int),.slice A k c,.slice B m d]),(w.heap.size,fP R)] (by rw[zu];simp);clear F bc;obtain⟨M2,aU⟩:=ex wr.heap.size
   have X:M2≤wr.heap.size:=by omega
   rw[aU]at a9;have aa:Hid (wr.ownsRow M2 4 1 sn (2*0) (iw (qb N 0 (l.take 0)))):=cn;rw[aU]at Z;clear aU;obtain⟨r0,r1,r2⟩:=(S.box 4 rfl).b3;go_wp2_with fail;clear r0;go_loopw [10,11] (fun v10 v11 wr=>∃(j:Nat) (AD:cG) (cD:Nat),v11= .int .i64 j∧v10= .slice AD (2*j) cD∧j≤m∧M2≤wr.heap.size∧Hid (wr.ownsRow M2 4 1 (.slice AD (2*j) cD) (2*j) (iw (qb N 0 (l.take j))))∧St w wr [(gO,iw (uw N i)),(g6,[(i:Int),.slice (some ⟨gO,0,none⟩) i cO,.slice B1 m d1]),(gB,fw (oe N l j)),(w.heap.size+2,[i0,sn,sn]),(w.heap.size+1,[(i:Int),.slice A k c,.slice B m d]),(w.heap.size,fP R)] [(B,fw l)]) (fun _ v11 _=>m - (intOf v11).toNat)
   case atStart=>exact⟨0,none,0,rfl,rfl,by omega,X,aa,S⟩
   case round=>
    clear S X aa;obtain⟨j,AD,cD,rfl,rfl,hj,X,F,S⟩:=hrel
    by_cases hjm:j<m
    ·have aq:j<l.length:=by have:=hm.out;omega
     obtain⟨bn,bC⟩:B1=some ⟨gB,0,none⟩∧w.heap.size+3≤gB:=by
      rcases ax.out with ⟨_,e1,e2⟩|⟨e1,_⟩
      ·exact⟨e1,e2⟩
      ·omega
     subst bn;obtain⟨bt,ot,rfl,bb⟩:=sR (S.r 0 rfl) (by omega);have hk:=a7.out l[j] (di aq);have J:=Jg N l aq;have G:=ES N l aq;have V:qb N 0 (l.take (j+1))=qb N 0 (l.take j)++ [ID N j l[j],ID N j l[j]]:=by
      rw[cT aq,Ja];simp only[eM,iQ,lK (iR aq)]
     have hx:=bb j aq;obtain⟨x,aW⟩:=ex (l[j])
     rw[aW]at hk J G V hx;clear bb aW;obtain⟨pA,aQ⟩:=ex (cA N j x)
     obtain⟨pB,aP⟩:=ex (cB N j x)
     have ak:=fun W hb=>CO.out W hb x.a x.b (j:Int) ⟨hk.a.1,by have:=hk.a.2;omega⟩
     have aj:=fun W hb=>CO.out W hb x.b x.a (j:Int) ⟨hk.b.1,by have:=hk.b.2;omega⟩
     have eA:mU (vX N x.a).adj x.b (j:Int)=pA:=aQ;have eB:mU (vX N x.b).adj x.a (j:Int)=pB:=aP;have am:Hid (∀p,pA=some p→1≤p):=fun p h=>aI.out x.a x.b (j:Int) p (by rw[eA,h])
     have al:Hid (∀p,pB=some p→1≤p):=fun p h=>aI.out x.b x.a (j:Int) p (by rw[eB,h])
     simp only[eA]at ak;simp only[eB]at aj;unfold Re at J G;unfold ID at V;rw[aQ,aP]at J G V;clear eA eB aQ aP hk;change Hid _ at J G V;replace ak:=φ ak;replace aj:=φ aj;obtain⟨x0,x1,x2,x3,bj,x4,x5,x6⟩:=hx;obtain⟨r0,r1,r2⟩:=(S.box 4 rfl).b3;go_upto_region 12 with fail;clear x0 x1 x2 x3 bj x4 x5 x6 r0;replace S:=S.nw #[x.a,x.b,x.c,x.d,x.cap,x.del,x.grp] 79 wr.heap.size;replace F:=φ (dg F.out (cQ wr (.cells #[x.a,x.b,x.c,x.d,x.cap,x.del,x.grp] 79)));replace X:=cZ X (cQ wr (.cells #[x.a,x.b,x.c,x.d,x.cap,x.del,x.grp] 79)).size;generalize World.alloc wr _=w5 at *;generalize wr.heap.size=ay at *;have hS:∀W,St w W ((ay,[x.a,x.b,x.c,x.d,x.cap,x.del,x.grp]) :: [(gO,iw (uw N i)),(g6,[(i:Int),.slice (some ⟨gO,0,none⟩) i cO,.slice (some ⟨gB,0,none⟩) m d1]),(gB,fw (oe N l j)),(w.heap.size+2,[i0,sn,sn]),(w.heap.size+1,[(i:Int),.slice A k c,.slice (some ⟨bt,ot,none⟩) m d]),(w.heap.size,fP R)]) [(some ⟨bt,ot,none⟩,fw l)]→Cv W ay 0 x.a∧Cv W ay 1 x.b∧W.rangeAt w.heap.size 0 (fP R):=fun W T=>⟨T.c 0 0 rfl rfl,T.c 0 1 rfl rfl,(T.box 6 rfl).range⟩
     have be:=hS _ S.drew;replace hS:=φ hS;have O:Hid (∀wa,Below w5.drew.heap.size w5.drew wa→cI w5 wa):=fun wa h=>⟨h.os,h.tape,h.output,h.size,h.block⟩
     refine gF (S:=fun W=>Cv W ay 0 x.a∧Cv W ay 1 x.b∧W.rangeAt w.heap.size 0 (fP R)) be (fun ai=>?_);clear be;refine tF 1 55 ?_;refine tF 2 56 ?_;refine tF 3 57 ?_;refine tF 4 58 ?_;refine tF 5 59 ?_;refine tF 8 62 ?_;refine tF 9 63 ?_;refine tF 10 64 ?_;refine tF 11 65 ?_;refine tF 12 66 ?_;refine zr (i:=0) (R:=R) (g:=w.heap.size) (some 54) rfl rfl (by kernel_rfl) (by kernel_rfl) (by kernel_rfl) (fun _ _ _ h=>h) rfl (.tmp 2) rfl rfl (fun _ h=>h.2.2) (by assumption) ?_
     try simp only[Act.put,eH,List.set_cons_succ,List.set_cons_zero]
     refine zr (i:=7) (R:=R) (g:=w.heap.size) (some 61) rfl rfl (by kernel_rfl) (by kernel_rfl) (by kernel_rfl) (fun _ _ _ h=>h) rfl (.tmp 2) rfl rfl (fun _ h=>h.2.2) (by assumption) ?_
     try simp only[Act.put,eH,List.set_cons_succ,List.set_cons_zero]
     refine rF 6 (fun K hK=>?_);go_simp;(with_reducible refine(ak.out w5.drew S.drew.b).mono ?_);rintro e wa ⟨rfl,aD⟩;dsimp only;have Sa:=S.call (O.out _ aD);have ar:=φ (dg F.out (O.out _ aD));have aL:=cZ X (O.out _ aD).size;refine hK.out _ _ (hS.out _ Sa) (fun ai=>?_);clear hK K S F X aD;refine rF 13 (fun K hK=>?_);go_simp;(with_reducible refine(aj.out wa Sa.b).mono ?_);rintro e wb ⟨rfl,aC⟩;dsimp only;have Sb:=Sa.call aC;have H:=φ (dg ar.out aC);have ae:=cZ aL aC.size;refine hK.out _ _ (hS.out _ Sb) (fun ai=>?_);clear hK K Sa ar aL aC;refine tV 14 13 (.int .i64 (pA.getD 0)) ?_
     refine tV 15 14 (.int .i64 (pB.getD 0)) ?_
     refine dF ?_;clear ai;rcases pA with _|pa
     ·have en:Hid (oe N l (j+1)=oe N l j):=G.out (cN (by simp));replace Sb:=Sb.dX [(gO,iw (uw N i)),(g6,[(i:Int),.slice (some ⟨gO,0,none⟩) i cO,.slice (some ⟨gB,0,none⟩) m d1]),(gB,fw (oe N l (j+1))),(w.heap.size+2,[i0,sn,sn]),(w.heap.size+1,[(i:Int),.slice A k c,.slice (some ⟨bt,ot,none⟩) m d]),(w.heap.size,fP R)] (by rw[en.out];simp);clear J G en am al hS O ak aj;go_upto_region 16 with fail;generalize aN:wb=wz at *;clear aN;have C:=dg H.out (cQ wz (.cells #[.bool true,.bool true] 4));have Q:=Rd.lit wz #[.bool true,.bool true] 4;have L:M2≤(wz.alloc (.cells #[.bool true,.bool true] 4)).heap.size:=by simp;omega
      replace Sb:=Sb.alloc (.cells #[.bool true,.bool true] 4);have U:Hid (iw (qb N 0 (l.take j))++ [.bool true,.bool true]=iw (qb N 0 (l.take (j+1)))):=by
       show _=_
       rw[V.out];simp[iw]
      clear V H ae;go_wp2_with (at_builtin;refine dK rfl Ua (.tmp 83) (.tmp 88) rfl M2 rfl C (m:=2) rfl (by simp) Q (by simp[Value.oneCell']) (by simp only[maxLen];omega) (by omega) L (2*(j+1)) _ (by omega) rfl ?_;intro v3 w7 u E ah af;obtain⟨A7,c7,rfl,-⟩:=dN u;clear ah af);replace Sb:=Sb.Yf E (by omega) (by simp;omega);have ag:M2≤w7.heap.size:=cZ L E.size;rw[show iw (qb N 0 (l.take j))++ #[Value.bool true,Value.bool true].toList=iw (qb N 0 (l.take (j+1)))from U.out]at u;replace u:=φ u;clear E C Q L U;go_wp2;go_round
      case rel=>exact⟨j+1,A7,c7,by go_num,by with_reducible rfl,by omega,ag,u,Sb⟩
      case measure=>simp[intOf];omega
     have bz:decide (0<pa)=true:=by have:=am.out pa rfl;simp;omega
     rcases pB with _|pb
     ·have en:Hid (oe N l (j+1)=oe N l j):=G.out (cN (by simp));replace Sb:=Sb.dX [(gO,iw (uw N i)),(g6,[(i:Int),.slice (some ⟨gO,0,none⟩) i cO,.slice (some ⟨gB,0,none⟩) m d1]),(gB,fw (oe N l (j+1))),(w.heap.size+2,[i0,sn,sn]),(w.heap.size+1,[(i:Int),.slice A k c,.slice (some ⟨bt,ot,none⟩) m d]),(w.heap.size,fP R)] (by rw[en.out];simp);clear J G en am al hS O ak aj;go_upto_region 16 with fail;generalize aN:wb=wz at *;clear aN;have C:=dg H.out (cQ wz (.cells #[.bool true,.bool true] 4));have Q:=Rd.lit wz #[.bool true,.bool true] 4;have L:M2≤(wz.alloc (.cells #[.bool true,.bool true] 4)).heap.size:=by simp;omega
      replace Sb:=Sb.alloc (.cells #[.bool true,.bool true] 4);have U:Hid (iw (qb N 0 (l.take j))++ [.bool true,.bool true]=iw (qb N 0 (l.take (j+1)))):=by
       show _=_
       rw[V.out];simp[iw]
      clear V H ae;go_wp2_with (at_builtin;refine dK rfl Ua (.tmp 83) (.tmp 88) rfl M2 rfl C (m:=2) rfl (by simp) Q (by simp[Value.oneCell']) (by simp only[maxLen];omega) (by omega) L (2*(j+1)) _ (by omega) rfl ?_;intro v3 w7 u E ah af;obtain⟨A7,c7,rfl,-⟩:=dN u;clear ah af);replace Sb:=Sb.Yf E (by omega) (by simp;omega);have ag:M2≤w7.heap.size:=cZ L E.size;rw[show iw (qb N 0 (l.take j))++ #[Value.bool true,Value.bool true].toList=iw (qb N 0 (l.take (j+1)))from U.out]at u;replace u:=φ u;clear E C Q L U;go_wp2;go_round
      case rel=>exact⟨j+1,A7,c7,by go_num,by with_reducible rfl,by omega,ag,u,Sb⟩
      case measure=>simp[intOf];omega
     have bx:decide (0<pb)=true:=by have:=al.out pb rfl;simp;omega
     have ed:Hid (((fw (oe N l j)).set (j*7+2) (.int .i64 pa)).set (j*7+3) (.int .i64 pb)=fw (oe N l (j+1))):=J.out pa pb (cR rfl);replace Sb:=Sb.dX [(gO,iw (uw N i)),(g6,[(i:Int),.slice (some ⟨gO,0,none⟩) i cO,.slice (some ⟨gB,0,none⟩) m d1]),(gB,fw (oe N l j)),(w.heap.size+2,[i0,sn,sn]),(w.heap.size+1,[(i:Int),.slice A k c,.slice (some ⟨bt,ot,none⟩) m d]),(w.heap.size,fP R)] (by simp);have bm:(fw (oe N l j)).length=m*7:=by rw[fK,Dt N l (by omega),hm.out]
     have y2:=Sb.f 2 (j*7+2) rfl (cM (by omega));have y3:=Sb.f 2 (j*7+3) rfl (cM (by omega));have z2:=Sb.c 2 (j*7+2) rfl (cM (by omega));have z3:=Sb.c 2 (j*7+3) rfl (cM (by omega));generalize (fw (oe N l j))[j*7+2]'_=bu at z2;generalize (fw (oe N l j))[j*7+3]'_=bs at z3;obtain⟨u0,u1,u2⟩:=(Sb.box 1 rfl).b3;have S9:=(Sb.set 2 (j*7+2) (.int .i64 pa) rfl (by omega) (by omega) (by simp;omega) _ rfl).set 2 (j*7+3) (.int .i64 pb) rfl (by rw[dw];omega) (by omega) (by simp;omega) [(gO,iw (uw N i)),(g6,[(i:Int),.slice (some ⟨gO,0,none⟩) i cO,.slice (some ⟨gB,0,none⟩) m d1]),(gB,fw (oe N l (j+1))),(w.heap.size+2,[i0,sn,sn]),(w.heap.size+1,[(i:Int),.slice A k c,.slice (some ⟨bt,ot,none⟩) m d]),(w.heap.size,fP R)] (by rw[←ed.out];rfl);have I:=cV (a:=⟨gB,j*7+3,none⟩) (cV (a:=⟨gB,j*7+2,none⟩) H.out (by simp only;omega) (.int .i64 pa)) (by simp only;omega) (.int .i64 pb);have aM:M2≤((wb.setCell ⟨gB,j*7+2,none⟩ pa).setCell ⟨gB,j*7+3,none⟩ pb).heap.size:=by simp;omega
     replace I:=φ I;clear J G ed am al hS O ak aj;go_upto_region 16 with fail;clear y2 y3 z2 z3 bm H ae Sb u0;generalize World.setCell (World.setCell wb _ _) _ _=wz at *;have H:=I;have ae:=aM;have Sb:=S9;clear I aM S9;have C:=dg H.out (cQ wz (.cells #[.bool false,.bool false] 4));have Q:=Rd.lit wz #[.bool false,.bool false] 4;have L:M2≤(wz.alloc (.cells #[.bool false,.bool false] 4)).heap.size:=by simp;omega
     replace Sb:=Sb.alloc (.cells #[.bool false,.bool false] 4);have U:Hid (iw (qb N 0 (l.take j))++ [.bool false,.bool false]=iw (qb N 0 (l.take (j+1)))):=by
      show _=_
      rw[V.out];simp[iw]
     clear V H ae;go_wp2_with (at_builtin;refine dK rfl Ua (.tmp 83) (.tmp 88) rfl M2 rfl C (m:=2) rfl (by simp) Q (by simp[Value.oneCell']) (by simp only[maxLen];omega) (by omega) L (2*(j+1)) _ (by omega) rfl ?_;intro v3 w7 u E ah af;obtain⟨A7,c7,rfl,-⟩:=dN u;clear ah af);replace Sb:=Sb.Yf E (by omega) (by simp;omega);have ag:M2≤w7.heap.size:=cZ L E.size;rw[show iw (qb N 0 (l.take j))++ #[Value.bool false,Value.bool false].toList=iw (qb N 0 (l.take (j+1)))from U.out]at u;replace u:=φ u;clear E C Q L U;go_wp2;go_round
     case rel=>exact⟨j+1,A7,c7,by go_num,by with_reducible rfl,by omega,ag,u,Sb⟩
     case measure=>simp[intOf];omega
    ·obtain rfl:j=m:=by omega
     have eL:oe N l j=Bm N 0 l:=by rw[←hm.out];exact Jh N l
     rw[eL]at S;rw[show l.take j=l by rw[←hm.out];exact dE]at F;have r0:=(S.box 1 rfl).b3;obtain⟨a0,a1,a2⟩:=(S.box 3 rfl).b3;have u0:=(S.box 4 rfl).b3;have f0:=(S.box 3 rfl).f3;have bw:gB=w.heap.size∨w.heap.size+3≤gB:=by
      rcases ax.out with ⟨_,_,e⟩|⟨_,e⟩
      ·exact .inr e
      ·exact .inl e
     have S9:=(((S.set 3 0 (.int .i64 (i:Int)) rfl (by simp) (by omega) (by simp;omega) _ rfl).set 3 1 (.slice (some ⟨gO,0,none⟩) i cO) rfl (by simp) (by omega) (by simp;omega) _ rfl).set 3 2 (.slice B1 j d1) rfl (by simp) (by omega) (by simp;omega) _ rfl)
     have R1:=(S9.box 0 rfl).rd;have R3:Rd _ B1 (fw (Bm N 0 l)):=fun hn=>by
      rcases ax.out with ⟨_,e,_⟩|⟨e,_⟩
      ·have:=(S9.box 2 rfl).rd hn
       rwa[←e]at this
      ·rw[fK,nX,hm.out]at hn;omega
     have I:=cV (a:=⟨w.heap.size+2,2,none⟩) (cV (a:=⟨w.heap.size+2,1,none⟩) (cV (a:=⟨w.heap.size+2,0,none⟩) F.out (by simp only;omega) (.int .i64 (i:Int))) (by simp only;omega) (.slice (some ⟨gO,0,none⟩) i cO)) (by simp only;omega) (.slice B1 j d1);have R0:=dQ I;have aR:=av.out _ _ cO _ d1 _ cD R1 R3 R0 S9.b;replace aR:=φ aR;clear R1 R0 R3 S9 S F I;go_wp2;exact dc (v:=.tuple #[EA (i:Int) (some ⟨gO,0,none⟩) i cO B1 j d1,.slice AD (2*j) cD]) (by simp[results,results15,go_sem,a0,a1,a2]) rfl aR.out
end Go.Proofs.YtehimhbgakpenaaGreat
