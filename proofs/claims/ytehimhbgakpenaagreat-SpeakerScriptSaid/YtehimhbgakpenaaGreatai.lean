/- Lemmas. -/
import Derived.Test.YtehimhbgakpenaaGreatae
set_option linter.all false
set_option maxRecDepth 100000
set_option maxHeartbeats 16000000
namespace Go.Proofs.YtehimhbgakpenaaGreat
open Go.RowKit Go.Maps Go.Sort Go.Proofs.Tryz
def mU:List Ad→Int→Int→Option Int
 | [],_,_=>none
 |x :: l,tn,lk=>if x.2.1=lk∧x.1=tn then some x.2.2 else mU l tn lk
def vX(N:Db)(i:Int):La:=eX (jR N i)
def Bi(w:World)(r:Option Int)(e:Ending)(w':World):Prop:=e= .returned (.tuple #[(r.getD 0),r.isSome])∧cI w w'
def iN.look{w:World}{g b:Nat}{N:Db}(h:iN w g b N)(hf:Dg N)(i:Int)(hi:(Lit.int .i64 i).wf=true) :
  ∃A c B d l,(∀w',cI w w'→(Instr.lookup 157 (.map (some b)) (.int .i64 i) false).run prog w'= .ok (vM (vX N i) A c B d l) w')∧eU w (ig (vX N i).o (vX N i).s (vX N i).a (vX N i).ov A (vX N i).adj.length c B (vX N i).pre.length d) (vX N i):=by
 obtain⟨M,hm,hs,⟨A,c,B,d,l,hv,hl⟩,_⟩:=CY h hf i;refine⟨A,c,B,d,l,fun w' hb=>?_,hl⟩
 have:=(hm.below hb).mM hi;rw[hv]at this;exact this
def C5{l:List Ad}{k:Nat}(hk:k<l.length)(tn lk:Int):mU (l.drop k) tn lk=if l[k].2.1=lk∧l[k].1=tn then some l[k].2.2 else mU (l.drop (k+1)) tn lk:=by
 rw[iG hk];rfl
def LF(o s a:Int)(ov:Bool)(A:cG)(n c:Nat)(B:cG)(m d:Nat)(W:World):(Instr.field 41 (ig o s a ov A n c B m d) 4).run prog W= .ok (.slice A n c) W:=by kernel_rfl
def LG(o s a:Int)(ov:Bool)(A:cG)(n c:Nat)(B:cG)(m d:Nat)(W:World):(Instr.field 41 (ig o s a ov A n c B m d) 3).run prog W= .ok (.bool ov) W:=by kernel_rfl
def C4(w:World)(g b:Nat)(N:Db)(node tn lk:Int)(h:iN w g b N)(hf:Dg N)(hi:(Lit.int .i64 node).wf=true) :
  Calls prog 106 #[.pointer (some ⟨g,0,none⟩),node,tn,lk] w (Bi w (mU (vX N node).adj tn lk)):=by
 obtain⟨A,c,B,d,l,L,la⟩:=h.look hf node hi;have K:=L w cy;have FL:=Ak (vX N node) A c B d l;have c0:=h.cell;unfold vM at K FL;obtain⟨x,hx⟩:=ex (vX N node)
 rw[hx]at K FL la ⊢;have rA:Rd w A (jN x.adj):=by
  obtain⟨A',c',B',d',e,h1,_⟩:=la;simp only[ig,eE,eS,dJ,dp]at e;obtain⟨-,-,-,-,⟨rfl,-,-⟩,-⟩:=e;exact h1
 have hlen:x.adj.length≤maxLen:=by
  obtain⟨A',c',B',d',e,h1,h2,h3,h4,_⟩:=la;exact cZ h3 h4
 unfold maxLen at hlen;have S:=(St.start w).read rA;clear L la rA hx h hi;obtain⟨al,m⟩:=ex x.adj
 rw[m]at S K FL hlen ⊢;obtain⟨n,hn⟩:=ex al.length
 rw[hn]at K FL hlen;replace hn:=φ hn;clear m;obtain⟨r,hr⟩:=ex (mU al tn lk)
 rw[hr];have i:Hid (mU (al.drop 0) tn lk=r):=hr;clear hr;unfold Bi;have p:=LF x.o x.s x.a x.ov A n c B x.pre.length d;go_in;go_wp2_with fail;clear K FL p c0;go_loopw [21] (fun f wr=>∃k:Nat,f= .int .i64 k∧k≤n∧Hid (mU (al.drop k) tn lk=r)∧St w wr [] [(A,jN al)]) (fun f _=>n - (intOf f).toNat)
 case atStart=>exact⟨0,rfl,by omega,i,S⟩
 case round=>
  clear S i;obtain⟨k,rfl,hk,hr,S⟩:=hrel
  by_cases hkn:k<n
  ·have j:k<al.length:=by have:=hn.out;omega
   obtain⟨ba,off,rfl,hc⟩:=se (S.r 0 rfl) (by omega);obtain⟨x0,x1,x2⟩:=hc k j;have hd:mU (al.drop k) tn lk=_:=C5 j tn lk;rw[hr.out]at hd;generalize al[k]=y at *;obtain⟨p0,p1,p2⟩:=y;simp only at x0 x1 x2 hd;replace hd:=φ hd;clear hc hr;go_upto_region 4 with fail;replace S:=S.nw #[p0,p1,p2] 169 wr;clear x0 x1 x2;generalize World.alloc wr _=w4 at *;generalize wr.heap.size=g4 at *;have d0:=(S.box 0 rfl).b3
   by_cases e1:p1=lk
   ·by_cases e2:p0=tn
    ·have e3:=hd.out;rw[cR ⟨e1,e2⟩]at e3;subst e3 e1 e2;clear hd;go_wp2;go_ret2;exact⟨rfl,S.b⟩
    ·have e3:Hid (mU (al.drop (k+1)) tn lk=r):=by
      have:=hd.out;rw[cN (fun h=>e2 h.2)]at this;exact this.symm
     subst e1;go_wp2;go_round
     case rel=>exact⟨k+1,by go_num,by omega,e3,S.dX _ (by simp)⟩
     case measure=>simp[intOf];omega
   ·have e3:Hid (mU (al.drop (k+1)) tn lk=r):=by
     have:=hd.out;rw[cN (fun h=>e1 h.1)]at this;exact this.symm
    go_wp2;go_round
    case rel=>exact⟨k+1,by go_num,by omega,e3,S.dX _ (by simp)⟩
    case measure=>simp[intOf];omega
  ·obtain rfl:k=n:=by omega
   have e3:=hr.out;rw[gG (by have:=hn.out;omega)]at e3;subst e3;go_wp2;go_ret2;exact⟨rfl,S.b⟩
def cA(N:Db)(i:Nat)(x:Lk):Option Int:=mU (vX N x.a).adj x.b (i:Int)
def cB(N:Db)(i:Nat)(x:Lk):Option Int:=mU (vX N x.b).adj x.a (i:Int)
def Re(N:Db)(i:Nat)(x:Lk):Lk:=if (cA N i x).isSome&& (cB N i x).isSome then { x with c:=(cA N i x).getD 0,d:=(cB N i x).getD 0 }else x
def ID(N:Db)(i:Nat)(x:Lk):Bool:=!((cA N i x).isSome&& (cB N i x).isSome)
def Bm(N:Db):Nat→List Lk→List Lk
 |_,[]=>[]
 |i,x :: l=>Re N i x :: Bm N (i+1) l
def qb(N:Db):Nat→List Lk→List Bool
 |_,[]=>[]
 |i,x :: l=>ID N i x :: ID N i x :: qb N (i+1) l
def uw(N:Db)(n:Nat):List Bool:=(List.range n).map fun(i:Nat)=>(vX N (i:Int)).ov
def jx(N:Db)(t:Tp):Tp:=⟨t.n,uw N t.n.toNat,Bm N 0 t.ln⟩
section
variable (N:Db)
def nX(l:List Lk):∀i,(Bm N i l).length=l.length:=by
 induction l with
 |nil=>intro i;rfl
 |cons x l ih=>intro i;simp only[Bm,List.length_cons,ih]
def Dn(l:List Lk):∀i,(qb N i l).length=2*l.length:=by
 induction l with
 |nil=>intro i;rfl
 |cons x l ih=>intro i;simp only[qb,List.length_cons,ih];omega
def rk(n:Nat):(uw N n).length=n:=by simp[uw]
def EG(n:Nat):uw N (n+1)=uw N n++ [(vX N (n:Int)).ov]:=by simp[uw,jj]
def Q4(x:Lk)(l:List Lk):∀i,Bm N i (l++ [x])=Bm N i l++ [Re N (i+l.length) x]:=by
 induction l with
 |nil=>intro i;rfl
 |cons y l ih=>intro i;simp only[List.cons_append,Bm,ih,List.length_cons];rw[show i+1+l.length=i+(l.length+1)by omega]
def Ja(x:Lk)(l:List Lk):∀i,qb N i (l++ [x])=qb N i l++ [ID N (i+l.length) x,ID N (i+l.length) x]:=by
 induction l with
 |nil=>intro i;rfl
 |cons y l ih=>intro i;simp only[List.cons_append,qb,ih,List.length_cons];rw[show i+1+l.length=i+(l.length+1)by omega]
def G5(n k:Nat):List Bool:=uw N k++List.replicate (n - k) false
def oe(l:List Lk)(k:Nat):List Lk:=Bm N 0 (l.take k)++l.drop k
def uI(l:List Lk)(k:Nat):List Bool:=qb N 0 (l.take k)++List.replicate (2*(l.length - k)) false
def No(n:Nat):G5 N n 0=List.replicate n false:=by simp[G5,uw]
def Rx(n:Nat):G5 N n n=uw N n:=by simp[G5]
def zu(l:List Lk):oe N l 0=l:=by simp[oe,Bm]
def Jh(l:List Lk):oe N l l.length=Bm N 0 l:=by simp[oe]
def Nq(l:List Lk):uI N l 0=List.replicate (2*l.length) false:=by simp[uI,qb]
def RD(l:List Lk):uI N l l.length=qb N 0 l:=by simp[uI]
def Rw{n k:Nat}(hk:k≤n):(G5 N n k).length=n:=by simp[G5,rk];omega
def Dt(l:List Lk){k:Nat}(hk:k≤l.length):(oe N l k).length=l.length:=by simp[oe,nX];omega
def Rz(l:List Lk){k:Nat}(hk:k≤l.length):(uI N l k).length=2*l.length:=by simp[uI,Dn];omega
def Ee(P Q:List Bool)(a u:Bool):(iw (P++a :: Q)).set P.length (.bool u)=iw (P++u :: Q):=by
 simp[iw]
def Np{n k:Nat}(hk:k<n):(iw (G5 N n k)).set k (.bool (vX N (k:Int)).ov)=iw (G5 N n (k+1)):=by
 have e:G5 N n k=uw N k++false :: List.replicate (n - (k+1)) false:=by
  unfold G5;rw[show n - k=(n - (k+1))+1 by omega,Ex]
 rw[e];have h:=Ee (uw N k) (List.replicate (n - (k+1)) false) false (vX N (k:Int)).ov;rw[rk]at h;rw[h];unfold G5;rw[EG];simp
def Hq(l:List Lk){k:Nat}(hk:k<l.length):oe N l k=Bm N 0 (l.take k)++l[k] :: l.drop (k+1):=by
 unfold oe;rw[iG hk]
def ER(l:List Lk){k:Nat}(hk:k<l.length):oe N l (k+1)=Bm N 0 (l.take k)++Re N k l[k] :: l.drop (k+1):=by
 unfold oe;rw[cT hk,Q4];simp only[eM,iQ,lK (iR hk),dI,List.singleton_append]
def ES(l:List Lk){k:Nat}(hk:k<l.length)(h:Re N k l[k]=l[k]):oe N l (k+1)=oe N l k:=by
 rw[ER N l hk,Hq N l hk,h]
def wJ(P Q:List Lk)(x y:Lk)(j:Nat)(hj:j<7)(v:Value)(h:(MG x).set j v=MG y):(fw (P++x :: Q)).set (P.length*7+j) v=fw (P++y :: Q):=by
 rw[yD,yD];simp only[fw];rw[iJ _ _ (by rw[fK];omega),fK,show P.length*7+j - P.length*7=j by omega,B6 _ _ (by exact hj),h]
def Jg(l:List Lk){k:Nat}(hk:k<l.length)(p q:Int)(hu:Re N k l[k]= { l[k]with c:=p,d:=q }) :
  ((fw (oe N l k)).set (k*7+2) (.int .i64 p)).set (k*7+3) (.int .i64 q)=fw (oe N l (k+1)):=by
 have hl:(Bm N 0 (l.take k)).length=k:=by rw[nX,eM];omega
 rw[ER N l hk,Hq N l hk,hu];have h1:=wJ (Bm N 0 (l.take k)) (l.drop (k+1)) l[k] { l[k]with c:=p } 2 (by omega) (.int .i64 p) rfl;have h2:=wJ (Bm N 0 (l.take k)) (l.drop (k+1)) { l[k]with c:=p } { l[k]with c:=p,d:=q } 3 (by omega) (.int .i64 q) rfl;rw[hl]at h1 h2;rw[h1,h2]
def Ns(l:List Lk){k:Nat}(hk:k<l.length):uI N l k=qb N 0 (l.take k)++false :: false :: List.replicate (2*(l.length - (k+1))) false:=by
 unfold uI;rw[show 2*(l.length - k)=(2*(l.length - (k+1))+1)+1 by omega,Ex,Ex]
def ET(l:List Lk){k:Nat}(hk:k<l.length):uI N l (k+1)=qb N 0 (l.take k)++ID N k l[k] :: ID N k l[k] :: List.replicate (2*(l.length - (k+1))) false:=by
 unfold uI;rw[cT hk,Ja];simp only[eM,iQ,lK (iR hk),dI,List.cons_append,List.nil_append]
def Nr(l:List Lk){k:Nat}(hk:k<l.length)(h:ID N k l[k]=false):uI N l (k+1)=uI N l k:=by
 rw[ET N l hk,Ns N l hk,h]
def Ry(l:List Lk){k:Nat}(hk:k<l.length)(h:ID N k l[k]=true):((iw (uI N l k)).set (2*k) (.bool true)).set (2*k+1) (.bool true)=iw (uI N l (k+1)):=by
 have hl:(qb N 0 (l.take k)).length=2*k:=by rw[Dn,eM];omega
 rw[ET N l hk,Ns N l hk,h];have h1:=Ee (qb N 0 (l.take k)) (false :: List.replicate (2*(l.length - (k+1))) false) false true;have h2:=Ee (qb N 0 (l.take k)++ [true]) (List.replicate (2*(l.length - (k+1))) false) false true;rw[hl]at h1;rw[cX,hl]at h2;simp only[dI,List.singleton_append,List.length_singleton]at h2;rw[h1,h2]
end
def OO{w:World}{base g0:Nat}{e:TypeId}{size:Nat}{A:cG}{n c:Nat}{xs:cH}(h:w.ownsRow base e size (.slice A n c) n xs)(h0:g0<w.heap.size)(hs:0<size):∃g,(0<n→A=some ⟨g,0,none⟩∧base≤g)∧(g=g0∨base≤g)∧g<w∧fq w g xs:=by
 rcases fF n with hn|hn
 ·refine⟨g0,fun h=>by omega,.inl rfl,h0,?_⟩
  have hl:=h.1;rw[hn,pP]at hl;obtain rfl:xs= []:=dy hl;intro i u hu;simp at hu
 ·obtain⟨g,h1,h2,h3,h4⟩:=DP h hn;exact⟨g,fun _=>⟨h1,h2⟩,.inr h2,h3,h4⟩
def St.Ek{W w:World}{bs:List (Nat× cH)}{rs:List (cG× cH)}{g:Nat}{cs:cH}(S:St W w bs rs)(h:fq w g cs):St W w ((g,cs) :: bs) rs :=
 ⟨S.b,fun i x hx=>by
  cases i with
  |zero=>simp at hx;subst hx;exact h
  | succ i=>exact S.bx i x (by simpa using hx),S.rd⟩
def fq.rd {w:World} {g:Nat} {cs:cH} (h:fq w g cs):Rd w (some ⟨g,0,none⟩) cs:=fun _=>⟨_,rfl,fun j u hu=>by
 rw[show(⟨g,0,none⟩:Addr).add j=⟨g,j,none⟩by unfold Addr.add;split<;>simp_all];exact (h j u hu).1⟩
def xn(w:World)(N:Db)(t:Tp)(e:Ending)(w':World):Prop :=
 ∃v D c,e= .returned (.tuple #[v,.slice D (2*t.ln.length) c,.int .i64 0])∧js w' v (jx N t)∧Rd w' D (iw (qb N 0 t.ln))∧cI w w'
def Mf(w:World)(g b:Nat)(N:Db)(v:Value)(t:Tp)(h:iN w g b N)(hf:Dg N)(ht:js w v t)(F:mE t):Calls prog 57 #[pt g,v] w (xn w N t):=by
 obtain⟨A,c,B,d,rfl,rA,rB,h3,h4⟩:=id ht;have S:=((St.start w).nw #[t.n,.slice A t.ov.length c,.slice B t.ln.length d] 25 w).nw #[i0,sn,sn] 25 (w.heap.size+1);have TV:=zm _ _ t (ht.below S.b);rw[Vl F]at TV;have am:t.ov.length≤64:=by have:=F.ov;have:=F.n;omega
 have GC:=fun W hb=>Iq W _ t (ht.below hb) (by omega) (by have:=F.ln;omega)
 unfold Kb at GC;have ai:=F.ln;obtain⟨q,hq⟩:∃q:Nat,t.n=(q:Int):=⟨t.n.toNat,by have:=F.n;omega⟩
 have ak:1≤q∧q≤64:=by have:=F.n;omega
 have ad:Hid (∀x∈t.ln,sC (q:Int) x):=by have:=F.all;rw[hq]at this;exact this
 obtain⟨l,hl⟩:=ex t.ln
 have O:Hid (∀w' A' c' B' d' D c3,Rd w' A' (iw (uw N q))→Rd w' B' (fw (Bm N 0 l))→Rd w' D (iw (qb N 0 l))→cI w w'→xn w N t (.returned (.tuple #[EA (q:Int) A' q c' B' l.length d',.slice D (2*l.length) c3,i0])) w'):=fun w' A' c' B' d' D c3 r1 r2 r3 hb=>by
  refine⟨_,D,c3,by rw[hl],⟨A',c',B',d',?_,?_,?_,?_,?_⟩,by rw[hl];exact r3,hb⟩
  ·simp only[jx,rk,nX,hq,Int.toNat_natCast,hl]
  ·simp only[jx,hq,Int.toNat_natCast];exact r1
  ·simp only[jx,hl];exact r2
  ·simp only[jx,hq,Int.toNat_natCast,rk,maxLen];omega
  ·simp only[jx,nX,maxLen];omega
 obtain⟨m,hm⟩:=ex l.length
 rw[hq,hl,hm]at S TV GC;rw[hl,hm]at ai;rw[hm]at O;rw[hl]at ad;simp only[hq,hl,hm];have L:=fun i=>h.look hf i
 have hc:=h.cell;have nK:=φ h;have ay:=h.lt;change Hid _ at L hm;replace TV:=φ TV;replace GC:=φ GC;clear rA rB h h3 h4 ht F hq hl;generalize t.ov.length=k at *;obtain⟨l0,ae⟩:=ex (xn w N t)
 rw[ae]at O ⊢;clear ae;obtain⟨a0,a1,a2⟩:=(S.box 1 rfl).b3;go_in;go_wp2_with fail;refine TV.out.mono ?_;rintro e w1 ⟨rfl,hb⟩;clear a0 a1 a2 TV;replace S:=S.call hb;clear hb;obtain⟨a0,a1,a2⟩:=(S.box 1 rfl).b3;go_wp2_with fail;refine (GC.out _ S.b).mono ?_;rintro e w2 ⟨A1,c1,B1,d1,rfl,o1,hb⟩;clear a0 a1 a2 GC;have aw:=S.b.size;have av:=hb.size;have ac:=S.box 0 rfl;have al:w.heap.size+1<w1:=(S.box 0 rfl).lt (by simp);clear ac;replace S:=S.call hb;clear hb;go_upto_region 6 with fail;obtain⟨gB,Q,aC,aD,ah⟩:=OO (g0:=w.heap.size) o1 (by omega) (by omega);replace S:=(S.Ek ah).nw #[q,.slice A1 k c1,.slice B1 m d1] 25 w2;clear o1 ah;generalize Z:World.alloc w2 _=w3 at *;have au:w2.heap.size<w3.heap.size:=by rw[←Z];simp
 clear Z;generalize w2.heap.size=g7 at *;replace Q:=φ Q;have MK:=fun W=>oM (P:=prog) Ua rfl .i64 .i64 q q cj (by omega) (by omega) W
 obtain⟨a0,a1,a2⟩:=(S.box 3 rfl).b3;obtain⟨r0,r1,r2⟩:=(S.box 0 rfl).b3;obtain⟨f0,f1,f2⟩:=(S.box 0 rfl).f3;have S2:=((S.s 0 1 (.slice (some ⟨w3,0,none⟩) q q)).iE (ia (.bool false) q) 4 w3 (iw (G5 N q 0)) (by simp) (by rw[No];simp[ia,iw])).dX [(w3,iw (G5 N q 0)),(g7,[q,.slice (some ⟨w3,0,none⟩) q q,.slice B1 m d1]),(gB,fw l),(w.heap.size+1,[i0,sn,sn]),(w,[q,.slice A k c,.slice B m d])] (by simp);go_upto_region 7 with fail;clear S MK a0 a1 a2 r0 f0;generalize World.alloc (World.setCell w3 _ _) _=w4 at *;generalize w3.heap.size=gO at *;obtain⟨r0,r1,r2⟩:=(S2.box 1 rfl).b3;go_wp2_with fail;clear r0;go_loopw [32] (fun v32 wr=>∃i:Nat,v32= .int .i64 i∧i≤q∧St w wr [(gO,iw (G5 N q i)),(g7,[q,.slice (some ⟨gO,0,none⟩) q q,.slice B1 m d1]),(gB,fw l),(w.heap.size+1,[i0,sn,sn]),(w,[q,.slice A k c,.slice B m d])] []) (fun v32 _=>q - (intOf v32).toNat)
 case atStart=>exact⟨0,rfl,by omega,S2⟩
 case round=>
  clear S2;obtain⟨i,rfl,hi,S⟩:=hrel
  by_cases hiq:i<q
  ·obtain⟨A9,c9,B9,d9,l9,L9,-⟩:=L.out (i:Int) (lW (by omega) (by omega));have hu:=Ak (vX N (i:Int)) A9 c9 B9 d9 l9;have hv:=fun W=>LG (vX N (i:Int)).o (vX N (i:Int)).s (vX N (i:Int)).a (vX N (i:Int)).ov A9 (vX N (i:Int)).adj.length c9 B9 (vX N (i:Int)).pre.length d9 W
   have ab:=Np N hiq;have c0:=cW S.b hc;have LK:=L9 _ S.b.drew;have aF:Cv wr.drew g 0 (.map (some b)):=c0;have hlen:(G5 N q i).length=q:=Rw N hi;have af:∃u,Cv wr gO i u:=⟨_,S.c 0 i rfl (cM (by rw[fN];omega))⟩
   obtain⟨u,af⟩:=af;have az:=S.f 0 i rfl (cM (by rw[fN];omega));unfold vM at LK hu;generalize hx:vX N (i:Int)=x at *;clear L9;have T:=S.drew;have S3:=(S.set 0 i (.bool x.ov) rfl (by rw[fN];omega) (by omega) (by simp;omega) [(gO,iw (G5 N q (i+1))),(g7,[q,.slice (some ⟨gO,0,none⟩) q q,.slice B1 m d1]),(gB,fw l),(w.heap.size+1,[i0,sn,sn]),(w,[q,.slice A k c,.slice B m d])] (by rw[←ab];rfl)).drew;clear S;obtain⟨r0,r1,r2⟩:=(T.box 1 rfl).b3;go_upto_region 10 with fail;go_region_law (fail)
   all_goals clear T ab LK hv hu r0
   all_goals (first|(refine⟨⟨i+1,by go_num,by omega,S3⟩,?_⟩;simp[intOf];omega)|(generalize World.drew (World.setCell _ _ _)=w6 at *;go_wp2;go_round;all_goals (first|exact⟨i+1,by go_num,by omega,S3⟩|(simp[intOf];omega))))
  ·obtain rfl:i=q:=by omega
   rw[Rx]at S;have AR:=fun W=>GA (i:Int) (.slice A k c) B m d W (by omega)
   have MK:∀W:World,(Instr.makeSlice 22 (.int .i64 (2*(m:Int))) (.int .i64 (2*(m:Int)))).run prog W= .ok (.slice (some ⟨W,0,none⟩) (2*m) (2*m)) (W.alloc (.cells (ia (.bool false) (2*m)) 4)):=fun W=>by
    have:=oM (P:=prog) Ua rfl .i64 .i64 (2*m) (2*m) cj (by omega) (by omega) W;rw[Int.natCast_mul]at this;exact this
   replace AR:=φ AR;obtain⟨a0,a1,a2⟩:=(S.box 4 rfl).b3;go_wp2_with fail;refine (AR.out _).mono ?_;rintro e w7 ⟨rfl,hb⟩;clear a0 a1 a2 AR;replace S:=S.call hb;clear hb;have aB:=(S.box 0 rfl).lt (by rw[fN,rk];omega);replace S:=S.iE (ia (.bool false) (2*m)) 4 w7 (iw (uI N l 0)) rfl (by rw[Nq,hm.out];simp[ia,iw]);rw[←zu N l]at S;have e0:uI N (oe N l 0) 0=uI N l 0:=by rw[zu]
   rw[e0]at S;clear e0;go_upto_region 13 with fail;generalize World.alloc w7 _=w8 at *;generalize w7.heap.size=gD at *;obtain⟨r0,r1,r2⟩:=(S.box 2 rfl).b3;go_wp2_with fail;clear r0 MK;go_loopw [54] (fun R wr=>∃j:Nat,R= .int .i64 j∧j≤m∧St w wr [(gD,iw (uI N l j)),(gO,iw (uw N i)),(g7,[i,.slice (some ⟨gO,0,none⟩) i i,.slice B1 m d1]),(gB,fw (oe N l j)),(w.heap.size+1,[i0,sn,sn]),(w,[i,.slice A k c,.slice B m d])] []) (fun R _=>m - (intOf R).toNat)
   case atStart=>exact⟨0,rfl,by omega,S⟩
   case round=>
    clear S;obtain⟨j,rfl,hj,S⟩:=hrel
    by_cases hjm:j<m
    ·have H:j<l.length:=by have:=hm.out;omega
     obtain⟨aj,aE⟩:=Q.out (by omega);subst aj;have hk:=ad.out l[j] (di H);have ag:=Hq N l H;have C:=Jg N l H;have p:=ES N l H;have y:=Ry N l H;have r:=Nr N l H;have aa:(Bm N 0 (l.take j)).length=j:=by rw[nX,eM];omega
     have I:∀(q:Nat) (hq:q<7) (u:Value),(MG l[j])[q]?=some u→(fw (oe N l j))[7*j+q]?=some u:=fun q hq u hu=>by
      have hlen:j< (oe N l j).length:=by rw[Dt N l (by omega)];exact H
      rw[F0 _ j hlen q hq];have e:(oe N l j)[j]=l[j]:=by
       have:(oe N l j)[j]?=some l[j]:=by rw[ag,dY (by omega),aa];simp
       rw[cM hlen]at this;exact Option.some.inj this
      rw[e];exact hu
     have aA:(uI N l j).length=2*m:=by rw[Rz N l (by omega),hm.out]
     have ax:(fw (oe N l j)).length=m*7:=by rw[fK,Dt N l (by omega),hm.out]
     obtain⟨x,hx⟩:=ex (l[j])
     rw[hx]at hk C p y r;simp only[hx]at I;clear ag hx aa;have E:∀W,St w W [(gD,iw (uI N l j)),(gO,iw (uw N i)),(g7,[i,.slice (some ⟨gO,0,none⟩) i i,.slice (some ⟨gB,0,none⟩) m d1]),(gB,fw (oe N l j)),(w.heap.size+1,[i0,sn,sn]),(w,[i,.slice A k c,.slice B m d])] []→ ∀(q:Nat) (hq:q<7) (u:Value),(MG x)[q]?=some u→Cv W gB (j*7+q) u:=fun W S q hq u hu=>by
      have:=S.c 3 (7*j+q) rfl (I q hq u hu)
      rwa[show 7*j+q=j*7+q by omega]at this
     have J:=fun W (hb:cI wr W)=>C4 W g b N x.a x.b (j:Int) (nK.out.below (S.b.trans (hb.mono S.b.size))) hf (lW hk.a.1 (by have:=hk.a.2;omega))
     have G:=fun W (hb:cI w W)=>C4 W g b N x.b x.a (j:Int) (nK.out.below hb) hf (lW hk.b.1 (by have:=hk.b.2;omega))
     unfold Bi at J G;obtain⟨pA,X⟩:=ex (cA N j x)
     obtain⟨pB,V⟩:=ex (cB N j x)
     have eA:mU (vX N x.a).adj x.b (j:Int)=pA:=X;have eB:mU (vX N x.b).adj x.a (j:Int)=pB:=V;rw[eA]at J;rw[eB]at G;unfold Re at C p;unfold ID at y r;rw[X,V]at C p y r;clear I eA eB X V hk;change Hid _ at C p y r E J G;obtain⟨r0,r1,r2⟩:=(S.box 2 rfl).b3;go_upto_region 17 with fail;clear r0;have x0:=cell_regrown (E.out _ S 0 (by omega) _ rfl);have x1:=cell_regrown (E.out _ S 1 (by omega) _ rfl);simp only[Nat.add_zero]at x0 x1;refine wp_region_quiet_below (by kernel_rfl) (by kernel_rfl) ?_
     repeat (go_big_quiet_step ((first|(go_at_call 106;with_reducible exact Calls.regrown_of (J.out _ (below_regrown _ _ _))))))
     refine fI ?_;intro _ U;obtain⟨⟨dq,K⟩,M⟩:=U;subst M;replace S:=S.call (below_regrown _ dq K);generalize grow (redrawn _ dq) K=w5 at *;clear x0 x1 J;replace G:=φ (fun W hb=>G.out W (S.b.trans (Below.mono hb S.b.size)));have x0:=cell_regrown (E.out _ S 0 (by omega) _ rfl);have x1:=cell_regrown (E.out _ S 1 (by omega) _ rfl);simp only[Nat.add_zero]at x0 x1;go_upto_region 18 with fail;refine wp_region_quiet_below (by kernel_rfl) (by kernel_rfl) ?_
     repeat (go_big_quiet_step ((first|(go_at_call 106;with_reducible exact Calls.regrown_of (G.out _ (below_regrown _ _ _))))))
     refine fI ?_;intro _ U;obtain⟨⟨dq,K⟩,M⟩:=U;subst M;replace S:=S.call (below_regrown _ dq K);generalize grow (redrawn _ dq) K=w6 at *;clear x0 x1 G;have x2:=E.out _ S 2 (by omega) _ rfl;have x3:=E.out _ S 3 (by omega) _ rfl;have y2:=S.f 3 (j*7+2) rfl (cM (by omega));have y3:=S.f 3 (j*7+3) rfl (cM (by omega));have z0:=S.c 0 (2*j) rfl (cM (by rw[fN];omega));have z1:=S.c 0 (2*j+1) rfl (cM (by rw[fN];omega));have q0:=S.f 0 (2*j) rfl (cM (by rw[fN];omega));have q1:=S.f 0 (2*j+1) rfl (cM (by rw[fN];omega));generalize (iw (uI N l j))[2*j]'_=ap at z0;generalize (iw (uI N l j))[2*j+1]'_=ao at z1;have ar:IntKind.i64.wrap (2*(j:Int))=2*(j:Int):=kV _ (by omega);have aq:IntKind.i64.wrap (2*(j:Int)+1)=2*(j:Int)+1:=kV _ (by omega);rcases pA with _|pa
     ·clear x2 x3 y2 y3;have en:Hid (oe N l (j+1)=oe N l j):=p.out (cN (by simp));have ed:Hid (((iw (uI N l j)).set (2*j) (.bool true)).set (2*j+1) (.bool true)=iw (uI N l (j+1))):=y.out rfl;clear C p y r E;have S9:=(S.set 0 (2*j) (.bool true) rfl (by rw[fN];omega) (by omega) (by simp;omega) _ rfl).set 0 (2*j+1) (.bool true) rfl (by rw[dw,fN];omega) (by omega) (by simp;omega) [(gD,iw (uI N l (j+1))),(gO,iw (uw N i)),(g7,[i,.slice (some ⟨gO,0,none⟩) i i,.slice (some ⟨gB,0,none⟩) m d1]),(gB,fw (oe N l (j+1))),(w.heap.size+1,[i0,sn,sn]),(w,[i,.slice A k c,.slice B m d])] (by rw[←ed.out,en.out];rfl);clear en ed;replace S9:=φ S9;go_wp2;go_round
      case rel=>exact⟨j+1,by go_num,by omega,S9.out⟩
      case measure=>simp[intOf];omega
     rcases pB with _|pb
     ·clear x2 x3 y2 y3;have en:Hid (oe N l (j+1)=oe N l j):=p.out (cN (by simp));have ed:Hid (((iw (uI N l j)).set (2*j) (.bool true)).set (2*j+1) (.bool true)=iw (uI N l (j+1))):=y.out rfl;clear C p y r E;have S9:=(S.set 0 (2*j) (.bool true) rfl (by rw[fN];omega) (by omega) (by simp;omega) _ rfl).set 0 (2*j+1) (.bool true) rfl (by rw[dw,fN];omega) (by omega) (by simp;omega) [(gD,iw (uI N l (j+1))),(gO,iw (uw N i)),(g7,[i,.slice (some ⟨gO,0,none⟩) i i,.slice (some ⟨gB,0,none⟩) m d1]),(gB,fw (oe N l (j+1))),(w.heap.size+1,[i0,sn,sn]),(w,[i,.slice A k c,.slice B m d])] (by rw[←ed.out,en.out];rfl);clear en ed;replace S9:=φ S9;go_wp2;go_round
      case rel=>exact⟨j+1,by go_num,by omega,S9.out⟩
      case measure=>simp[intOf];omega
     have en:Hid (uI N l (j+1)=uI N l j):=r.out rfl;have ed:Hid (((fw (oe N l j)).set (j*7+2) (.int .i64 pa)).set (j*7+3) (.int .i64 pb)=fw (oe N l (j+1))):=C.out pa pb (cR rfl);clear C p y r E z0 z1 q0 q1;have S9:=(S.set 3 (j*7+2) (.int .i64 pa) rfl (by omega) (by omega) (by simp;omega) _ rfl).set 3 (j*7+3) (.int .i64 pb) rfl (by rw[dw];omega) (by omega) (by simp;omega) [(gD,iw (uI N l (j+1))),(gO,iw (uw N i)),(g7,[i,.slice (some ⟨gO,0,none⟩) i i,.slice (some ⟨gB,0,none⟩) m d1]),(gB,fw (oe N l (j+1))),(w.heap.size+1,[i0,sn,sn]),(w,[i,.slice A k c,.slice B m d])] (by rw[←ed.out,en.out];rfl);clear en ed;replace S9:=φ S9;go_wp2;go_round
     case rel=>exact⟨j+1,by go_num,by omega,S9.out⟩
     case measure=>simp[intOf];omega
    ·obtain rfl:j=m:=by omega
     have eL:oe N l j=Bm N 0 l:=by rw[←hm.out];exact Jh N l
     have eD:uI N l j=qb N 0 l:=by rw[←hm.out];exact RD N l
     rw[eL,eD]at S;clear eL eD;have r0:=(S.box 2 rfl).b3;obtain⟨a0,a1,a2⟩:=(S.box 4 rfl).b3;have f0:=(S.box 4 rfl).f3;have S9:=(((S.s 4 0 (.int .i64 (i:Int))).s 4 1 (.slice (some ⟨gO,0,none⟩) i i)).s 4 2 (.slice B1 j d1))
     have R1:=(S9.box 1 rfl).rd;have R0:=(S9.box 0 rfl).rd;have R3:Rd _ B1 (fw (Bm N 0 l)):=fun hn=>by
      obtain⟨e,_⟩:=Q.out (by rw[fK,nX,hm.out]at hn;omega);have:=(S9.box 3 rfl).rd hn
      rwa[←e]at this
     have Y:=O.out _ _ i _ d1 _ (2*j) R1 R3 R0 S9.b;replace Y:=φ Y;clear R1 R0 R3 S9 S;go_wp2;exact dc (v:=.tuple #[EA (i:Int) (some ⟨gO,0,none⟩) i i B1 j d1,.slice (some ⟨gD,0,none⟩) (2*j) (2*j),i0]) (by simp[results,results57,go_sem,a0,a1,a2]) rfl Y.out
def xZ(w:World)(S:Sp)(e:Ending)(w':World):Prop :=
 ∃v D c,e= .returned (.tuple #[v,.slice D (2*S.tp.ln.length) c])∧js w' v (jx S.db S.tp)∧Rd w' D (iw (qb S.db 0 S.tp.ln))∧cI w w'
def fe.tpa{w:World}{m:Sm}{S:Sp}{col:Nat→Nat}{c:Nat}(h:fe w m S col c):js w (EA S.tp.n m.O S.tp.ov.length m.co m.L S.tp.ln.length m.cl) S.tp:=⟨m.O,m.co,m.L,m.cl,rfl,h.rO.1,h.rL.1,h.lT⟩
def HK{w:World}{A:cG}{xs:cH}(hr:Rd w A xs){g:Nat}(a:0<xs.length→ ∀ad,A=some ad→ad.block≠g)(j:Nat)(u:Value):Rd (w.setCell ⟨g,j,none⟩ u) A xs:=fun hx=>by
 obtain⟨ad,e,hc⟩:=hr hx;refine⟨ad,e,fun i v hv=>?_⟩
 have e2:(w.setCell ⟨g,j,none⟩ u).heap[(ad.add i).block]?=w.heap[(ad.add i).block]?:=by rw[fu];exact lV w _ _ u (a hx ad e)
 rw[cY e2];exact hc i v hv
def lA{w:World}{A:cG}{xs:cH}(hr:Rd w A xs){g:Nat}(a:0<xs.length→ ∀ad,A=some ad→ad.block≠g)(u0 u1 u2:Value):Rd (((w.setCell ⟨g,0,none⟩ u0).setCell ⟨g,1,none⟩ u1).setCell ⟨g,2,none⟩ u2) A xs :=
 HK (HK (HK hr a 0 u0) a 1 u1) a 2 u2
def Of{w:World}{A:cG}{xs:cH}{k:Nat}{T:TypeId}(hr:Rd w A xs)(hh:w.heap[k]?=some (.cells #[.int .i64 0,.slice none 0 0,.slice none 0 0] T (0,0))){j:Nat}{u:Value}(hj:xs[j]?=some u)(hc:(∃b,u= .bool b)∨3≤j):∀ad,A=some ad→ad.block≠k:=fun ad ha e=>by
 have hx:=(dj.1 hj).1;obtain⟨b,off,e1,h1⟩:=gE hr (by omega);rw[ha]at e1;injection e1 with e1
 subst e1;simp only at e;subst e;have h2:=h1 j u hj;unfold World.cell? at h2;rw[hh]at h2;rcases hc with ⟨v,rfl⟩|h3
 ·rcases hi:off+j with _|_|_|i<;>simp[hi]at h2
 ·have:¬off+j<3:=by omega
  simp[this]at h2
def pC{w:World}{A:cG}{l:List Bool}{k:Nat}{T:TypeId}(hr:Rd w A (iw l))(hh:w.heap[k]?=some (.cells #[.int .i64 0,.slice none 0 0,.slice none 0 0] T (0,0))):0< (iw l).length→ ∀ad,A=some ad→ad.block≠k:=fun hx=>by
 cases l with
 |nil=>simp[iw]at hx
 |cons b l=>exact Of hr hh (j:=0) (u:=.bool b) rfl (.inl ⟨b,rfl⟩)
def wL{w:World}{A:cG}{l:List Lk}{k:Nat}{T:TypeId}(hr:Rd w A (fw l))(hh:w.heap[k]?=some (.cells #[.int .i64 0,.slice none 0 0,.slice none 0 0] T (0,0))):0< (fw l).length→ ∀ad,A=some ad→ad.block≠k:=fun hx=>by
 cases l with
 |nil=>simp[fw]at hx
 |cons b l=>exact Of hr hh (j:=6) (u:=.int .i64 b.grp) rfl (.inr (by omega))
def Ym(w wx:World)(S:Sp)(v4 v5:Value):Prop :=
 ∃k A' c1 B' d1 D c3,v4= .pointer (some ⟨k,0,none⟩)∧v5= .slice D (2*S.tp.ln.length) c3∧St w wx [(k,[.int .i64 (jx S.db S.tp).n,.slice A' (jx S.db S.tp).ov.length c1,.slice B' (jx S.db S.tp).ln.length d1]),(w,[.int .i64 0,.slice none 0 0,.slice none 0 0])] [] ∧
   js wx (EA (jx S.db S.tp).n A' (jx S.db S.tp).ov.length c1 B' (jx S.db S.tp).ln.length d1) (jx S.db S.tp)∧Rd wx D (iw (qb S.db 0 S.tp.ln))∧w<k∧wx.heap[w.heap.size]?=some (.cells #[.int .i64 0,.slice none 0 0,.slice none 0 0] 25 (0,0))
def zw(w:World)(m:Sm)(S:Sp)(E:Nat→Nat)(c:Nat)(h:fe w m S E c)(ok:eO S) :
  Calls prog 14 #[.pointer (some ⟨m.g,0,none⟩)] w (xZ w S):=by
 have S0:=(St.start w).nw #[i0,sn,sn] 25 w;have VW:=fun W (hb:cI w W)=>Mf W m.gd m.bd S.db _ S.tp (h.below hb).db ok.db.X5 (h.below hb).tpa ok.tp
 unfold xn at VW;have i:=fun W (hb:cI w W)=>(h.below hb).cs
 obtain⟨T,hT⟩:=ex (jx S.db S.tp)
 obtain⟨DL,d⟩:=ex (iw (qb S.db 0 S.tp.ln))
 have z:T.n=S.tp.n:=by rw[←hT];rfl
 have hq:Hid (∀w' v D c,js w' v T→Rd w' D DL→cI w w'→xZ w S (.returned (.tuple #[v,.slice D (2*S.tp.ln.length) c])) w'):=fun w' v D c h1 h2 h3=>⟨v,D,c,rfl,by rw[hT];exact h1,by rw[d];exact h2,h3⟩
 have q:Hid (∀wx k A' c1 B' d1 D c3,St w wx [(k,[T.n,.slice A' T.ov.length c1,.slice B' T.ln.length d1]),(w,[i0,sn,sn])] []→js wx (EA T.n A' T.ov.length c1 B' T.ln.length d1) T→Rd wx D DL→w<k→wx.heap[w.heap.size]?=some (.cells #[i0,sn,sn] 25 (0,0))→Ym w wx S (pt k) (.slice D (2*S.tp.ln.length) c3)):=fun wx k A' c1 B' d1 D c3 h1 h2 h3 h4 h5=>⟨k,A',c1,B',d1,D,c3,rfl,rfl,by rw[hT];exact h1,by rw[hT];exact h2,by rw[d];exact h3,h4,h5⟩
 have j:Hid (∀W {D:cG} {k:Nat} {T2:TypeId},Rd W D DL→W.heap[k]?=some (.cells #[i0,sn,sn] T2 (0,0))→0<DL.length→ ∀ad,D=some ad→ad.block≠k):=fun W {D k T2} h1 h2=>by rw[←d]at h1 ⊢;exact pC h1 h2
 simp only[hT,d]at VW;change Hid _ at i z;replace VW:=φ VW;have C:=φ hT;have A:=φ d;clear h ok hT d;go_in;go_upto_region 3 with fail;have x:=ib w (.cells #[i0,sn,sn] 25);generalize B:World.alloc w _=w1 at *;clear B;go_cut [4,5] (fun v4 v5 wx=>Ym w wx S v4 v5)
 case first=>
  have y:=S0.b;have cs:=i.out w1.drew (y.trans cy.drew);have o:True:=trivial;have l:=i.out (World.alloc w1 (.cells #[i0,sn,sn] 25)).drew ((y.trans ((cQ w1 (.cells #[i0,sn,sn] 25)).mono S0.b.size)).drew);have G:=cs.c12;have a0:=cs.c0;have a1:=cs.c1;have a2:=cs.c2;have F:=l.c12;have b0:=l.c0;have b1:=l.c1;have b2:=l.c2;clear cs l;have SA:=S0.drew;have SB:=(S0.nw #[i0,sn,sn] 25 w1).drew;have r:w.heap.size<w1.heap.size:=(S0.box 0 rfl).lt (by simp);have t:=ib w1 (.cells #[i0,sn,sn] 25);go_region_law
   (first
    |(clear o;rw[cR (by simp[Region.wanted])];go_simp;refine (VW.out _ SA.b).mono ?_;rintro e wa ⟨v,D,c3,rfl,u,hD,a⟩;dsimp only;obtain⟨A',c1,B',d1,rfl,r1,r2,r3⟩:=u;have S9:=(SA.call a).nw #[T.n,.slice A' T.ov.length c1,.slice B' T.ln.length d1] 25 wa;have hb9:=cQ wa (.cells #[T.n,.slice A' T.ov.length c1,.slice B' T.ln.length d1] 25);have hN:=φ (q.out _ _ _ _ _ _ D c3 S9 ⟨A',c1,B',d1,rfl,r1.below hb9,r2.below hb9,r3⟩ (hD.below hb9) (by have:=a.size;have e:w1.drew.heap.size=w1.heap.size:=rfl;omega) ((hb9.block w (by have:=a.size;have e:w1.drew.heap.size=w1.heap.size:=rfl;omega)).trans ((a.block w r).trans x)));clear S9)
    | (clear o; rw [cR (by simp [Region.wanted])]; go_simp; (with_reducible refine (VW.out _ SB.b).mono ?_); rintro e wa ⟨v,D,c3,rfl,u,hD,a⟩; dsimp only; obtain ⟨A',c1,B',d1,rfl,r1,r2,r3⟩:=u; have s:=a.block w1 (by show w1.heap.size < (World.alloc w1 (.cells #[i0,sn,sn] 25)).heap.size; simp); have S8:=SB.call a; have k0:=S8.c 0 0 rfl rfl; have k1:=S8.c 0 1 rfl rfl; have k2:=S8.c 0 2 rfl rfl; have j0:=S8.f 0 0 rfl rfl; have j1:=S8.f 0 1 rfl rfl; have j2:=S8.f 0 2 rfl rfl; have S9:=S8.NH (.int .i64 T.n) (.slice A' T.ov.length c1) (.slice B' T.ln.length d1) (by omega) (by simp; omega); have hN:=φ (q.out _ _ _ _ _ _ D c3 S9 ⟨A',c1,B',d1,rfl,lA r1 (pC r1 (s.trans t)) _ _ _,lA r2 (wL r2 (s.trans t)) _ _ _,r3⟩ (lA hD (j.out _ hD (s.trans t)) _ _ _) r ((((((cQ w1 (.cells #[i0,sn,sn] 25)).drew.trans (a.mono (by show w1.heap.size ≤ (World.alloc w1 (.cells #[i0,sn,sn] 25)).heap.size; simp))).setCell (p:=⟨w1,0,none⟩) cj _).setCell (p:=⟨w1,1,none⟩) cj _).setCell (p:=⟨w1,2,none⟩) cj _).block w r |>.trans x)); clear S9))
  all_goals go_wp2_with fail
  all_goals go_meet
  all_goals exact hN.out
 case rest=>
  obtain⟨k,A',c1,B',d1,D,c3,rfl,rfl,S9,h1,h2,h3,h5⟩:=hcut;rw[C.out]at S9 h1;rw[A.out]at h2;have k0:=(S9.box 0 rfl).b3;obtain⟨r0,r1,r2⟩:=(S9.box 1 rfl).b3;have f0:=(S9.box 1 rfl).f3;have hb9:=((S9.b.setCell (p:=⟨w,0,none⟩) cj (.int .i64 T.n)).setCell (p:=⟨w,1,none⟩) cj (.slice A' T.ov.length c1)).setCell (p:=⟨w,2,none⟩) cj (.slice B' T.ln.length d1);obtain⟨a1,a2,a3,a4,a5,q1,q2,q3⟩:=h1;simp only[eE,eS,dJ,dp,fE,fv]at a5;obtain⟨⟨rfl,rfl⟩,rfl,rfl⟩:=a5;have hf:=hq.out _ (EA T.n A' T.ov.length c1 B' T.ln.length d1) D c3 ⟨A',c1,B',d1,rfl,lA q1 (pC q1 h5) (.int .i64 T.n) (.slice A' T.ov.length c1) (.slice B' T.ln.length d1),lA q2 (wL q2 h5) _ _ _,q3⟩ (lA h2 (j.out _ h2 h5) _ _ _) hb9;have Sz:=S9.s 1 0 (.int .i64 T.n);clear S9 hb9 hq q VW i q1 q2 q3 h2 h5;go_wp2;exact dc (v:=.tuple #[EA T.n A' T.ov.length c1 B' T.ln.length d1,.slice D (2*S.tp.ln.length) c3]) (by simp[results,results14,go_sem,r0,r1,r2]) rfl hf
end Go.Proofs.YtehimhbgakpenaaGreat
