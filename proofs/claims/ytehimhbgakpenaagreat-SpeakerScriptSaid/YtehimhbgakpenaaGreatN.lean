/- Lemmas. -/
import Derived.Deep.MidRow
import Derived.Test.YtehimhbgakpenaaGreatM
set_option linter.all false
set_option maxRecDepth 100000
set_option maxHeartbeats 16000000
namespace Go.Proofs.YtehimhbgakpenaaGreat
open Go.RowKit Go.Maps Go.Sort Go.Proofs.Tryz
def Mm{B:Nat}{w0 w w':World}{g:Nat}(h:Below B w0 w)(hg:w.grownBy w' (some g))(hB:B≤g)(hs:B≤w):Below B w0 w':=h.grown hg hs (fun k hk=>by injection hk with hk;omega)
def IB(x:La):Mc x x=true:=by simp[Mc,kS,pL]
def bare(o s a:Int)(ov:Bool):La:=⟨o,s,a,ov,[],[]⟩
def IJ(o s:Int)(h0:0≤o)(h1:o≤63)(h2:1≤s)(h3:s≤1073741824):dS (bare o s 3600 false):=by
 refine⟨⟨h0,h1⟩,⟨h2,h3⟩,by simp[bare],by simp[bare],by simp[bare],fun h=>by simp[bare],fun k x hk=>by simp[bare]at hk,fun k x hk=>by simp[bare]at hk⟩
end Go.Proofs.YtehimhbgakpenaaGreat
namespace Go.Proofs.YtehimhbgakpenaaGreat
open Go.RowKit Go.Sort Go.ChangeShapes Go.WideShapes Go.ChangeAt Go.Proofs.Tryz
structure Lx where
 y:La
 A:cG
 c:Nat
 B:cG
 d:Nat
def Bv(s:Lx):cH:=[s.y.o,s.y.s,s.y.a,s.y.ov,.slice s.A s.y.adj.length s.c,.slice s.B s.y.pre.length s.d]
def nr:List Lx→cH
 | []=>[]
 |s :: l=>Bv s++nr l
def jD(w:World)(s:Lx):Prop:=eU w (ig s.y.o s.y.s s.y.a s.y.ov s.A s.y.adj.length s.c s.B s.y.pre.length s.d) s.y
def yV(l:List Lx):(nr l).length=l.length*6:=by
 induction l with
 |nil=>rfl
 |cons r l ih=>simp only[nr,Bv,cX,List.length_cons,List.length_nil,ih];omega
def DV(l:List Lx):∀(k:Nat) (hk:k<l.length) (j:Nat) (hj:j<6),(nr l)[6*k+j]?=(Bv l[k])[j]?:=by
 induction l with
 |nil=>intro k hk;simp at hk
 |cons r l ih=>
   intro k hk j hj;have h8:(Bv r).length=6:=rfl;cases k with
   |zero=>simp only[nr,List.getElem_cons_zero];rw[eP (by omega)];simp
   |succ k=>
     simp only[nr,List.getElem_cons_succ];rw[dY (by omega),h8,show 6*(k+1)+j - 6=6*k+j by omega];exact ih k (by simpa using hk) j hj
def Fm{w:World}{A:cG}{l:List Lx}(h:Rd w A (nr l))(hn:0<l.length) :
  ∃b off,A=some ⟨b,off,none⟩∧ ∀k (hk:k<l.length) j (u:Value),j<6→(Bv l[k])[j]?=some u→w.cell? ⟨b,off+k*6+j,none⟩=some u:=by
 obtain⟨b,off,e,hc⟩:=gE h (by rw[yV];omega);refine⟨b,off,e,fun k hk j u hj hu=>?_⟩
 rw[iS];exact hc _ _ (by rw[gl k 6,DV l k hk j hj];exact hu)
end Go.Proofs.YtehimhbgakpenaaGreat
namespace Go.Proofs.YtehimhbgakpenaaGreat
open Go.RowKit Go.Maps Go.Sort Go.Proofs.Tryz
structure Rs where
 x:Lx
 l:Int
 is:Bool
def LO(s:Rs):cH:=Bv s.x++ [.int .i64 s.l]
def Mp(R:Nat→Rs):Nat→cH
 |0=>[]
 |n+1=>Mp R n++LO (R n)
def fP(R:Nat→Rs):cH:=(List.range 64).map (fun i=>.bool (R i).is)++Mp R 64
section
variable (R:Nat → Rs)
def JQ(s:Rs):(LO s).length=7:=rfl
def tl:∀n,(Mp R n).length=n*7
 |0=>rfl
 |n+1=>by rw[Mp,cX,tl n,JQ];omega
def J0:∀n i,i<n→ ∀j,j<7→(Mp R n)[i*7+j]?=(LO (R i))[j]?
 |0,i,h=>by omega
 |n+1,i,h=>fun j hj=>by
   rw[Mp]
   by_cases e:i=n
   ·subst e;rw[dY (by rw[tl];omega),tl]
    congr 1;omega
   ·rw[eP (by rw[tl];omega)];exact J0 n i (by omega) j hj
def fm:(fP R).length=512:=by unfold fP;rw[cX,tl];simp
def mo{i:Nat}(hi:i<64):(fP R)[i]?=some (.bool (R i).is):=by
 unfold fP;rw[eP (by simpa using hi)];simp[hi]
def ej{i:Nat}(hi:i<64){j:Nat}(hj:j<7):(fP R)[64+i*7+j]?=(LO (R i))[j]?:=by
 unfold fP;rw[dY (by simp;omega)];simp only[dh,List.length_range];rw[show 64+i*7+j - 64=i*7+j by omega];exact J0 R 64 i hi j hj
end
def DH{l:cH}{R:Nat→Rs}(hl:l.length=512)(h1:∀i,i<64→l[i]?=some (.bool (R i).is))(h2:∀i,i<64→ ∀j,j<7→l[64+i*7+j]?=(LO (R i))[j]?):l=fP R:=by
 apply List.ext_getElem?;intro n
 by_cases h:n<64
 ·rw[h1 n h,mo R h]
 ·by_cases h5:n<512
  ·have e:n=64+(n - 64) / 7*7+(n - 64) % 7:=by omega
   rw[e,h2 _ (by omega) _ (by omega),ej R (by omega) (by omega)]
  ·rw[qp (by omega),qp (by rw[fm];omega)]
def nY(R:Nat→Rs)(i:Nat)(s:Rs):Nat→Rs:=fun j=>if j=i then s else R j
def eK(R:Nat→Rs)(i:Nat)(s:Rs):nY R i s i=s:=by simp[nY]
def oJ(R:Nat→Rs){i j:Nat}(s:Rs)(h:j≠i):nY R i s j=R j:=by simp[nY,h]
def nh(R:Nat→Rs)(i:Nat)(s s':Rs):nY (nY R i s) i s'=nY R i s':=by funext j;unfold nY;split<;>rfl
def vl(R:Nat→Rs){i:Nat}(hi:i<64)(b:Bool):(fP R).set i (.bool b)=fP (nY R i { R i with is:=b }):=by
 refine DH (by rw[dw,fm]) (fun k hk=>?_) (fun k hk j hj=>?_)
 ·by_cases e:i=k
  ·subst e;rw[fX (by rw[fm];omega),eK]
  ·rw[fU e,mo R hk,oJ R _ (fun h=>e h.symm)]
 ·rw[fU (by omega),ej R hk hj]
  by_cases e:i=k
  ·subst e;rw[eK];rfl
  ·rw[oJ R _ (fun h=>e h.symm)]
def HL(R:Nat→Rs){i:Nat}(hi:i<64){j:Nat}(hj:j<7)(v:Value)(s:Rs)(hs:s.is=(R i).is)(hv:(LO (R i)).set j v=LO s):(fP R).set (64+i*7+j) v=fP (nY R i s):=by
 refine DH (by rw[dw,fm]) (fun k hk=>?_) (fun k hk m hm=>?_)
 ·rw[fU (by omega),mo R hk]
  by_cases e:i=k
  ·subst e;rw[eK,hs]
  ·rw[oJ R _ (fun h=>e h.symm)]
 ·by_cases e:i=k
  ·subst e;rw[eK,←hv]
   by_cases e2:j=m
   ·subst e2;rw[fX (by rw[fm];omega),fX (by rw[JQ];omega)]
   ·rw[fU (by omega),fU e2,ej R hi hm]
  ·rw[oJ R _ (fun h=>e h.symm),fU (by omega),ej R hk hm]
def DG(R:Nat→Rs):∀v∈fP R,v.oneCell'=true:=by
 intro v hv;obtain⟨n,hn,rfl⟩:=eG hv;rw[fm]at hn
 by_cases h:n<64
 ·have:=mo R h;rw[cM (by rw[fm];omega)]at this;injection this with this
  rw[this];rfl
 ·have e:n=64+(n - 64) / 7*7+(n - 64) % 7:=by omega
  have:=ej R (i:=(n - 64) / 7) (by omega) (j:=(n - 64) % 7) (by omega);rw[←e,cM (by rw[fm];omega)]at this;have hm:=eu this.symm;simp only[LO,Bv,List.cons_append,List.nil_append,dA,eF,ik]at hm;rcases hm with e|e|e|e|e|e|e<;>rw[e]<;>rfl
def fx(R:Nat→Rs):Db:=fun i=>if i<64∧(R i).is=true then some ⟨(R i).x.y,(R i).l⟩else none
def BV(w:World)(R:Nat→Rs):Prop:=∀i,i<64→jD w (R i).x
def BV.below{w w':World}{R:Nat→Rs}(h:BV w R)(hb:cI w w'):BV w' R:=fun i hi=>by
 have:=h i hi;unfold jD at *;exact this.below hb
def lxZ:Lx:=⟨dT,none,0,none,0⟩
def MD:Rs:=⟨lxZ,0,false⟩
def Mj:fx (fun _=>MD)=fun _=>none:=by funext i;unfold fx;rw[if_neg (by simp[MD])]
def Fo:(fP (fun _=>MD)).toArray=zeroCells57:=by kernel_rfl
def fq.range{w:World}{g:Nat}{cs:cH}(h:fq w g cs):w.rangeAt g 0 cs:=fun j v hv=>by rw[iQ];exact(h j v hv).1
def fq.there{w:World}{g:Nat}{cs:cH}(h:fq w g cs){n:Nat}(hn:cs.length=n):w.there g 0 n:=fun j hj=>by
 have:=h j _ (cM (by omega));rw[iQ];exact⟨by rw[this.1];rfl,this.2⟩
def fq.zz{w:World}{g:Nat}{cs:cH}(h:fq w g cs)(a:cH)(hl:a.length=cs.length):fq (w.setCells g 0 a) g a:=fun i u hu=>by
 have h1:=World.rangeAt_setCells_same w g 0 a (by rw[hl];exact h.there rfl) i u hu;rw[iQ]at h1;refine⟨h1,?_⟩
 rw[qn];exact(h i _ (cM (by have:=(dj.1 hu).1;omega))).2
def fq.vy{w:World}{g:Nat}{cs:cH}(h:fq w g cs)(g' o:Nat)(vs:cH)(hk:g'≠g):fq (w.setCells g' o vs) g cs:=fun i u hu=>by
 refine⟨?_,by rw[qn];exact(h i u hu).2⟩
 rw[YK g' vs o w ⟨g,i,none⟩ (fun e _=>absurd e.symm hk)];exact(h i u hu).1
def ti{W:World}{g:Nat}(hg:W≤g):∀(vs:cH) (o:Nat) (w:World),cI W w→cI W (w.setCells g o vs)
 | [],_,_,h=>h
 |v :: r,o,w,h=>by
   rw[World.setCells];exact ti hg r (o+1) _ (h.setCell (p:=⟨g,o,none⟩) hg v)
def St.zz{W w:World}{bs:List (Nat× cH)}{rs:List (cG× cH)}(S:St W w bs rs)(i:Nat)(a:cH){g:Nat}{cs:cH}(hi:bs[i]?=some (g,cs))(hl:a.length=cs.length)(hg:W≤g)
  (hd:∀x∈bs.eraseIdx i,x.1≠g) (c:List (Nat× cH)) (d:bs.set i (g,a)=c):St W (w.setCells g 0 a) c rs:=by
 subst d;refine⟨ti hg a 0 w S.b,fun k x hx=>?_,S.rd⟩
 by_cases hk:i=k
 ·subst hk;rw[fX (by have:=(dj.1 hi).1;exact this)]at hx;injection hx with hx
  subst hx;exact(S.bx i _ hi).zz a hl
 ·rw[fU hk]at hx;exact(S.bx k x hx).vy g 0 a (fun e=>hd x (MB.2 ⟨k,fun e'=>hk e'.symm,hx⟩) e.symm)
def ZI:iF prog 48 41 (.agg #[.int .i64 0,.int .i64 0,.int .i64 0,false,.slice none 0 0,.slice none 0 0]) 6 80:=⟨underlying48,by kernel_rfl,rfl,by omega⟩
def JG(s:Lx):∀u∈Bv s,u.oneCell'=true:=by
 intro u hu;simp only[Bv,dA,eF,ik]at hu;rcases hu with e|e|e|e|e|e<;>rw[e]<;>rfl
def zV(a b:List Lx):nr (a++b)=nr a++nr b:=by
 induction a with
 |nil=>rfl
 |cons r l ih=>simp only[List.cons_append,nr,ih,dI]
def pE(R:Nat→Rs)(k:Nat):List Lx:=((List.range k).filter fun i=>(R i).is).map fun i=>(R i).x
abbrev nN(R:Nat→Rs):List Lx:=pE R 64
def WM{R:Nat→Rs}{k:Nat}(h:(R k).is=true):pE R (k+1)=pE R k++ [(R k).x]:=by simp[pE,jj,gC,h]
def WN{R:Nat→Rs}{k:Nat}(h:(R k).is=false):pE R (k+1)=pE R k:=by simp[pE,jj,gC,h]
def GG(R:Nat→Rs)(k:Nat):(pE R k).length≤k:=by
 unfold pE;rw[dh];refine cZ cz ?_;simp
def Fp(w:World)(R:Nat→Rs):Calls prog 13 #[.agg (fP R).toArray] w fun e w'=>∃A c,e= .returned (.slice A (nN R).length c)∧w'.ownsRow w 41 6 (.slice A (nN R).length c) (nN R).length (nr (nN R))∧cI w w':=by
 have S:=(St.start w).iE (fP R).toArray 57 w (fP R) rfl (by simp);have t:w.heap.size+1≤(w.alloc (.cells (fP R).toArray 57)).heap.size:=by simp
 go_in;go_upto_region 2 with fail;generalize World.alloc w _=w1 at *;have f:Hid (w1.ownsRow (w.heap.size+1) 41 6 sn (pE R 0).length (nr (pE R 0))):=cn;go_wp2_with fail;go_loopw [3,4] (fun v3 v4 wr=>∃(k:Nat) (A:cG) (c:Nat),v4= .int .i64 k∧v3= .slice A (pE R k).length c∧k≤64∧w.heap.size+1≤wr∧Hid (wr.ownsRow (w.heap.size+1) 41 6 (.slice A (pE R k).length c) (pE R k).length (nr (pE R k)))∧St w wr [(w,fP R)] []) (fun _ v4 _=>64 - (intOf v4).toNat)
 case atStart=>exact⟨0,none,0,rfl,rfl,by omega,t,f,S⟩
 case round=>
  clear S f t;obtain⟨k,A,c,rfl,rfl,hk,t,f,S⟩:=hrel
  by_cases hkn:k<64
  ·have c0:=S.c 0 k rfl (mo R hkn);have hlen:=GG R k;obtain⟨is,r⟩:=ex ((R k).is)
   rw[r]at c0;cases is with
   |false=>
     rw[←WN r]at f ⊢;clear hlen r;go_wp2;go_round
     case rel=>exact⟨k+1,A,c,by go_num,rfl,by omega,t,f,S⟩
     case measure=>simp[intOf];omega
   |true=>
     have h:=WM r;obtain⟨s,hs⟩:=ex ((R k).x)
     have l:=fun j hj=>ej R hkn (j:=j) hj
     have x0:=S.c 0 (64+k*7+0) rfl ((l 0 (by omega)).trans rfl);have x1:=S.c 0 (64+k*7+1) rfl ((l 1 (by omega)).trans rfl);have x2:=S.c 0 (64+k*7+2) rfl ((l 2 (by omega)).trans rfl);have x3:=S.c 0 (64+k*7+3) rfl ((l 3 (by omega)).trans rfl);have x4:=S.c 0 (64+k*7+4) rfl ((l 4 (by omega)).trans rfl);have x5:=S.c 0 (64+k*7+5) rfl ((l 5 (by omega)).trans rfl);simp only[Nat.add_zero]at x0;rw[hs]at x0 x1 x2 x3 x4 x5 h;have q:=dg f (cQ wr (.cells #[s.y.o,s.y.s,s.y.a,s.y.ov,.slice s.A s.y.adj.length s.c,.slice s.B s.y.pre.length s.d] 41));have C:=Rd.lit wr #[s.y.o,s.y.s,s.y.a,s.y.ov,.slice s.A s.y.adj.length s.c,.slice s.B s.y.pre.length s.d] 41;have S2:=S.alloc (.cells #[s.y.o,s.y.s,s.y.a,s.y.ov,.slice s.A s.y.adj.length s.c,.slice s.B s.y.pre.length s.d] 41);have p:w.heap.size+1≤(wr.alloc (.cells #[s.y.o,s.y.s,s.y.a,s.y.ov,.slice s.A s.y.adj.length s.c,.slice s.B s.y.pre.length s.d] 41)).heap.size:=by simp;omega
     have v:(pE R (k+1)).length=(pE R k).length+1:=by rw[h];simp
     have u:nr (pE R (k+1))=nr (pE R k)++Bv s:=by rw[h,zV];simp[nr]
     generalize nr (pE R k)=L at *;generalize (pE R k).length=n at *;change Hid _ at v u;clear l hs h f S r;go_wp2_with (at_builtin;refine dK rfl ZI (.tmp 13) (.tmp 19) rfl (w.heap.size+1) rfl q (m:=1) rfl (by simp) C (JG s) (by simp only[maxLen];omega) (by omega) p (n+1) _ rfl rfl ?_;intro v3 w7 g i F E);clear x0 x1 x2 x3 x4 x5 c0 C q;replace S2:=S2.Yf i (by omega) (by simp);have D:=cZ p i.size;rw[←v.out,show L++ [_,_,_,_,_,_]=L++Bv s from rfl,←u.out]at g;obtain⟨A7,c7,rfl,-⟩:=dN g;replace g:=φ g;clear i F E p;go_wp2;go_round
     case rel=>exact⟨k+1,A7,c7,by go_num,rfl,by omega,D,g,S2⟩
     case measure=>simp[intOf];omega
  ·obtain rfl:k=64:=by omega
   go_wp2;go_ret;exact⟨A,c,rfl,dx f (by omega),S.b⟩
def iN.el{w:World}{g b:Nat}{N:Db}(h:iN w g b N){q:Nat}(hq:q<64){hh:Hd}(hN:N q=some hh) :
  ∃A c B d,(∀w',cI w w'→(Instr.lookup 157 (.map (some b)) (.int .i64 (q:Int)) false).run prog w'= .ok (vM hh.x A c B d hh.l) w')∧eU w (ig hh.x.o hh.x.s hh.x.a hh.x.ov A hh.x.adj.length c B hh.x.pre.length d) hh.x:=by
 obtain⟨⟨M,hm,he⟩,hc⟩:=h;have heq:=he q hq;rw[hN]at heq;cases hM:M (q:Int)with
 |none=>rw[hM]at heq;exact heq.elim
 |some vv=>
   rw[hM]at heq;obtain⟨A,c,B,d,rfl,e⟩:=heq;refine⟨A,c,B,d,fun w' hb=>?_,e.1⟩
   have:=(hm.below hb).mM (i:=(q:Int)) (lW (by omega) (by omega));rw[hM]at this;exact this
def Ak(x:La)(A:cG)(c:Nat)(B:cG)(d:Nat)(l:Int)(W:World):(Instr.field 206 (vM x A c B d l) 0).run prog W= .ok (ig x.o x.s x.a x.ov A x.adj.length c B x.pre.length d) W:=by kernel_rfl
def nH{w:World}{b off:Nat}{l:List Lx}(h:Rd w (some ⟨b,off,none⟩) (nr l))(k:Nat)(hk:k<l.length)(s:Lx)(hs:l[k]=s) :
  w.cell? ⟨b,off+k*6,none⟩=some (.int .i64 s.y.o)∧w.cell? ⟨b,off+k*6+1,none⟩=some (.int .i64 s.y.s)∧w.cell? ⟨b,off+k*6+2,none⟩=some (.int .i64 s.y.a) ∧
  w.cell? ⟨b,off+k*6+3,none⟩=some (.bool s.y.ov)∧w.cell? ⟨b,off+k*6+4,none⟩=some (.slice s.A s.y.adj.length s.c)∧w.cell? ⟨b,off+k*6+5,none⟩=some (.slice s.B s.y.pre.length s.d):=by
 subst hs;obtain⟨b',f,e,hc⟩:=Fm h (by omega);injection e with e
 injection e with e1 e2 e3
 subst e1 e2;have x0:=hc k hk 0 _ (by omega) rfl;have x1:=hc k hk 1 _ (by omega) rfl;have x2:=hc k hk 2 _ (by omega) rfl;have x3:=hc k hk 3 _ (by omega) rfl;have x4:=hc k hk 4 _ (by omega) rfl;have x5:=hc k hk 5 _ (by omega) rfl;simp only[Nat.add_zero]at x0;exact⟨x0,x1,x2,x3,x4,x5⟩
def tX{w:World}{A:cG}{l:List Lx}(h:Rd w A (nr l))(hn:0<l.length):∃b off,A=some ⟨b,off,none⟩:=by
 obtain⟨b,off,e,_⟩:=Fm h hn;exact⟨b,off,e⟩
def St.via{W w w':World}{bs:List (Nat× cH)}{rs:List (cG× cH)}{g:Nat}(S:St W w bs rs)(hg:w.grownBy w' (some g))(hB:W≤g)(hd:∀x∈bs,x.1≠g∧0<x.2.length):St W w' bs rs :=
 ⟨Mm S.b hg hB S.b.size,fun i x hx=>(S.bx i x hx).kept hg (fun e=>by injection e with e;exact(hd x (eu hx)).1 e) (hd x (eu hx)).2,S.rd⟩
abbrev pz(l:List Lx):List La:=l.map (·.y)
def yX(l:List Lx)(k:Nat)(hk:k<l.length):(pz l)[k]'(by simpa[pz]using hk)=l[k].y:=by simp[pz]
def fV{w w':World}{base:Nat}{e:TypeId}{size:Nat}{v:Value}{n:Nat}{xs:cH}{row:Option Nat}(h:w.ownsRow base e size v n xs)(hg:w.grownBy w' row)(a:v.ownBlock=none∨v.ownBlock≠row):w'.ownsRow base e size v n xs:=by
 refine⟨h.1,?_⟩
 rcases h.2 with h2|⟨g,cap,cur,rfl,b,hh,r⟩
 ·exact .inl h2
 ·exact .inr ⟨g,cap,cur,rfl,b,(hg.block g (h.lt g rfl).2 (fun e=>by
   rcases a with h3|h3
   ·cases h3
   ·exact h3 e)).trans hh,r⟩
def fh.app{w w':World}{base a:Nat}{u:Value}{x:La}{v2:Value}{n:Nat}{xs:cH}(h:fh w base u x)(hl:w.ownsRow a 41 6 v2 n xs)(hg:w.grownBy w' v2.ownBlock):fh w' base u x:=by
 obtain⟨A,c,B,d,rfl,o1,o2,hu⟩:=h;exact⟨A,c,B,d,rfl,fV o1 hg (nS o1 hl (by decide)),fV o2 hg (nS o2 hl (by decide)),hu⟩
def fh.XL{w:World}{base base':Nat}{u:Value}{x:La}(h:fh w base u x)(hb:base'≤base):fh w base' u x:=by
 obtain⟨A,c,B,d,rfl,o1,o2,hu⟩:=h;exact⟨A,c,B,d,rfl,dx o1 hb,dx o2 hb,hu⟩
def qY(w:World)(base:Nat)(s:Lx):Prop:=fh w base (ig s.y.o s.y.s s.y.a s.y.ov s.A s.y.adj.length s.c s.B s.y.pre.length s.d) s.y
def qY.ok{w:World}{base:Nat}{s:Lx}(h:qY w base s):jD w s:=fh.at h
def ku(N:Db):List La:=(eR N).map fun i=>eX (N i.toNat)
def re(w:World)(N:Db)(e:Ending)(w':World):Prop :=
 ∃A c ls,e= .returned (.slice A (eR N).length c)∧w'.ownsRow w 41 6 (.slice A (eR N).length c) (eR N).length (nr ls)∧pz ls=ku N∧(∀s∈ls,qY w' w s)∧cI w w'
structure xt (w wr:World) (N:Db) (B:cG) (d:Nat) (k:Nat) (v:Value) (ls:List Lx):Prop where
 og:wr.ownsRow w 3 1 (.slice B (eR N).length d) (eR N).length ((eR N).map encZ)
 own:wr.ownsRow w 41 6 v k (nr ls)
 la:pz ls=(ku N).take k
 ok:∀s∈ls,qY wr w s
 bel:cI w wr
def xt.below{w wr w':World}{N:Db}{B:cG}{d k:Nat}{v:Value}{ls:List Lx}(h:xt w wr N B d k v ls)(hb:cI wr w'):xt w w' N B d k v ls :=
 ⟨dg h.og hb,dg h.own hb,h.la,fun s hs=>fh.below (h.ok s hs) hb,h.bel.trans (hb.mono h.bel.size)⟩
def xt.app{w wr w':World}{N:Db}{B:cG}{d k:Nat}{v v':Value}{ls:List Lx}(h:xt w wr N B d k v ls){s:Lx}(hs:qY wr w s)(hk:k< (eR N).length)(hy:s.y=eX (N (eR N)[k].toNat))
  (ho:w'.ownsRow w 41 6 v' (k+1) (nr ls++Bv s)) (hb:Below w wr w') (hg:wr.grownBy w' v.ownBlock):xt w w' N B d (k+1) v' (ls++ [s]):=by
 refine⟨fV h.og hg (nS h.og h.own (by decide)),by rw[zV];simpa[nr]using ho,?_,fun z hz=>?_,h.bel.trans hb⟩
 ·have a:k< (ku N).length:=by simpa[ku]using hk
  rw[cT a,←h.la];have e2:(ku N)[k]=s.y:=by rw[hy];simp[ku]
  rw[e2];simp[pz]
 ·rcases eZ.1 hz with hz|hz
  ·exact fh.app (h.ok z hz) h.own hg
  ·rw[ew.1 hz];exact fh.app hs h.own hg
def Gr(w:World)(g b:Nat)(N:Db)(h:iN w g b N)(C:lY N):Calls prog 56 #[.pointer (some ⟨g,0,none⟩)] w (re w N):=by
 have O:=wU w g b N h;have hlen:=lg N;have z:Hid (∀w' A c ls B d,xt w w' N B d (eR N).length (.slice A (eR N).length c) ls→re w N (.returned (.slice A (eR N).length c)) w'):=fun w' A c ls B d T=>⟨A,c,ls,rfl,T.own,by rw[T.la,dn (by simp[ku])],T.ok,T.bel⟩
 obtain⟨n,hn⟩:∃n,(eR N).length=n:=⟨_,rfl⟩
 rw[hn]at O hlen z;replace O:=φ O;replace C:=φ C;replace hn:=φ hn;replace h:=φ h;go_in;go_wp2_with fail;(with_reducible refine(O.out).mono ?_);rintro e w1 ⟨B,d,rfl,I,hb⟩;have hT:Hid (xt w w1 N B d 0 (.slice none 0 0) []):=⟨by rw[hn.out];exact I,cn,by simp[pz],by simp,hb⟩
 clear O I hb;go_wp2_with fail;go_loopw [3,9] (fun v3 v9 wr=>∃(k:Nat) (A:cG) (c:Nat) (ls:List Lx),v9= .int .i64 k∧v3= .slice A k c∧k≤n∧Hid (xt w wr N B d k (.slice A k c) ls)) (fun _ v9 _=>n - (intOf v9).toNat)
 case atStart=>exact⟨0,none,0,[],rfl,rfl,by omega,hT⟩
 case round=>
  clear hT;obtain⟨k,A,c,ls,rfl,rfl,hk,hT⟩:=hrel
  by_cases hkn:k<n
  ·have D:k< (eR N).length:=by rw[hn.out];exact hkn
   have j:=(jf (N:=N) (eR N)[k]).1 (di D);have T:=hT.out;have og:=T.og;rw[hn.out]at og;obtain⟨S,P,rfl,u⟩:=gE (dQ og) (by simp only[dh];omega);have G:=u k _ (by rw[eJ,cM D];rfl);obtain⟨q,hq⟩:=de j.1.1;rw[hq]at j G;rw[cU]at j;have L:q<64:=by have:=j.1.2;omega
   obtain⟨x,t⟩:=dC.1 j.2;have r:eX (N (eR N)[k].toNat)=x.x:=by rw[hq,cU,t];rfl
   have hd:=h.out.below T.bel;obtain⟨A1,c1,B1,d1,L1,J⟩:=hd.el L t;have hf:=C.out.X5 q x t;have x0:=hd.cell;have K1:=L1 wr cy;have F:=Ak x.x A1 c1 B1 d1 x.l;have CL:=py 105 (.inl rfl) wr _ x.x J hf.1 hf.2;unfold vM at K1 F;obtain⟨y,hy⟩:∃y,x.x=y:=⟨_,rfl⟩
   rw[hy]at K1 F CL r;replace CL:=φ CL;replace r:=φ r;clear hd og u j hq t L1 J hf hy hT;replace T:=φ T;go_wp2_with fail;(with_reducible refine(CL.out).mono ?_);rintro e w2 ⟨v2,rfl,v,hb⟩;clear G x0 K1 F CL;have i:fh w2 w v2 y:=v.XL T.out.bel.size;replace T:=T.out.below hb;obtain⟨A5,c5,B5,d5,R⟩:=i.at.form;subst R;have E:=cQ w2 (.cells #[y.o,y.s,y.a,y.ov,.slice A5 y.adj.length c5,.slice B5 y.pre.length d5] 41);have H:=Rd.lit w2 #[y.o,y.s,y.a,y.ov,.slice A5 y.adj.length c5,.slice B5 y.pre.length d5] 41;have T3:=T.below E;have f:qY _ w ⟨y,A5,c5,B5,d5⟩:=fh.below i E;have K:=T3.bel.size;have o3:=T3.own;clear v i hb E T;replace T3:=φ T3;replace f:=φ f;go_wp2_with (at_builtin;refine dK rfl ZI (.tmp 13) (.tmp 22) rfl w rfl o3 (m:=1) rfl (by simp) H (JG ⟨y,A5,c5,B5,d5⟩) (by simp only[maxLen];omega) (by omega) K (k+1) _ rfl rfl ?_;intro v6 w6 o6 p M Q);obtain⟨A7,c7,rfl,-⟩:=dN o6;have T4:=φ (T3.out.app f.out D r.out.symm o6 p M);clear o6 p M Q o3 H T3 f K;go_wp2;go_round
   case rel=>exact⟨k+1,A7,c7,_,by go_num,rfl,by omega,T4⟩
   case measure=>simp[intOf];omega
  ·obtain rfl:k=n:=by omega
   have hf:=z.out _ _ _ _ _ _ hT.out;replace hf:=φ hf;go_wp2;go_ret;exact hf.out
def s9(R:Nat→Rs):(prog.info? 57).map (·.size)=some (fP R).length:=by rw[fm];kernel_rfl
def KJ{w:World}{g:Nat}{R:Nat→Rs}(h:fq w g (fP R)):(loadVar 57 ⟨g,0,none⟩).run prog w= .ok (.agg (fP R).toArray) w :=
 run_loadVar_mid w g 0 _ (fP R) _ h.range underlying57 rfl (s9 R)
def jP{w:World}{g:Nat}{R:Nat→Rs}{ops:Array Oper}{rest:List Oper}{op:Oper}{a:Act}{Q:Exit→Act→World→Prop}(b:op.guard=none)(x:Operand)(ho:op.op= .load 57 x)(hx:a.eval x= .pointer (some ⟨g,0,none⟩))(h:fq w g (fP R))
  (hK:wpList prog ops Q rest (a.put op.dst (.agg (fP R).toArray)) w):wpList prog ops Q (op :: rest) a w :=
 wpList_load_mid b _ x ho g 0 hx (fP R) _ h.range underlying57 rfl (s9 R) hK
def kW{w:World}{g:Nat}{R R':Nat→Rs}{ops:Array Oper}{rest:List Oper}{op:Oper}{a:Act}{Q:Exit→Act→World→Prop}(b:op.guard=none)(x y:Operand)(ho:op.op= .store 57 x y)(hx:a.eval x= .pointer (some ⟨g,0,none⟩))(hy:a.eval y= .agg (fP R').toArray)(h:fq w g (fP R))
  (hK:wpList prog ops Q rest (a.put op.dst undef) (w.setCells g 0 (fP R'))):wpList prog ops Q (op :: rest) a w :=
 wpList_store_mid b _ x y ho g 0 (fP R').toArray hx hy (by rw[fT,fm];exact h.there (fm R)) (by rw[fT];exact s9 R') (all_oneCell_toArray (DG R')) (by simpa using hK)
def Ob{fn:Func}{p u:Tmp}(h:fn.results= #[.cell p 57,.tmp u]){tmps:Array Value}{w:World}{g:Nat}{R:Nat→Rs}(hb:fq w g (fP R))(hp:tmps.getD p undef= .pointer (some ⟨g,0,none⟩)){v:Value}(hu:tmps.getD u undef=v) :
  (results fn tmps).run prog w= .ok (.tuple #[.agg (fP R).toArray,v]) w:=by
 rw[results_cell_tmp h,hp,hu];simp only[asAddr,Sem.run_pure,Result.andThen_ok,KJ hb]
def St.vZ{W w:World}{bs:List (Nat× cH)}{rs:List (cG× cH)}(S:St W w bs rs)(i:Nat)(R':Nat→Rs){g:Nat}{R:Nat→Rs}(hi:bs[i]?=some (g,fP R))(hg:W≤g)
  (hd:∀x∈bs.eraseIdx i,x.1≠g) (a:List (Nat× cH)) (b:bs.set i (g,fP R')=a):St W (w.setCells g 0 (fP R')) a rs :=
 S.zz i (fP R') hi (by rw[fm,fm]) hg hd a b
def jM(R:Nat→Rs){i:Nat}(hi:i<64){j:Nat}(hj:j<7)(v:Value)(s t:Rs)(ht:R i=t)(hs:s.is=t.is)(hv:(LO t).set j v=LO s):(fP R).set (64+i*7+j) v=fP (nY R i s) :=
 HL R hi hj v s (by rw[ht];exact hs) (by rw[ht];exact hv)
def Oh(R:Nat→Rs){i:Nat}(hi:i<64)(s:Rs)(hs:s.is=(R i).is) :
  (((((((fP R).set (64+i*7) (.int .i64 s.x.y.o)).set (64+i*7+1) (.int .i64 s.x.y.s)).set (64+i*7+2) (.int .i64 s.x.y.a)).set (64+i*7+3) (.bool s.x.y.ov)).set (64+i*7+4) (.slice s.x.A s.x.y.adj.length s.x.c)).set (64+i*7+5) (.slice s.x.B s.x.y.pre.length s.x.d)).set (64+i*7+6) (.int .i64 s.l)=fP (nY R i s):=by
 obtain⟨⟨⟨o,sq,ag,ov,g,pre⟩,A,c,B,d⟩,l,is⟩:=s;obtain⟨t,ht⟩:=ex (R i)
 rw[ht]at hs;obtain⟨⟨⟨o',k,h,f,e,b⟩,A',c',B',d'⟩,l',m⟩:=t;simp only at hs ⊢;subst hs;have e0:=jM R hi (j:=0) (by omega) (.int .i64 o) ⟨⟨⟨o,k,h,f,e,b⟩,A',c',B',d'⟩,l',is⟩ _ ht rfl rfl;rw[fM]at e0;rw[e0,jM (nY R i ⟨⟨⟨o,k,h,f,e,b⟩,A',c',B',d'⟩,l',is⟩) hi (j:=1) (by omega) (.int .i64 sq) ⟨⟨⟨o,sq,h,f,e,b⟩,A',c',B',d'⟩,l',is⟩ ⟨⟨⟨o,k,h,f,e,b⟩,A',c',B',d'⟩,l',is⟩ (eK _ _ _) rfl rfl,nh,jM (nY R i ⟨⟨⟨o,sq,h,f,e,b⟩,A',c',B',d'⟩,l',is⟩) hi (j:=2) (by omega) (.int .i64 ag) ⟨⟨⟨o,sq,ag,f,e,b⟩,A',c',B',d'⟩,l',is⟩ ⟨⟨⟨o,sq,h,f,e,b⟩,A',c',B',d'⟩,l',is⟩ (eK _ _ _) rfl rfl,nh,jM (nY R i ⟨⟨⟨o,sq,ag,f,e,b⟩,A',c',B',d'⟩,l',is⟩) hi (j:=3) (by omega) (.bool ov) ⟨⟨⟨o,sq,ag,ov,e,b⟩,A',c',B',d'⟩,l',is⟩ ⟨⟨⟨o,sq,ag,f,e,b⟩,A',c',B',d'⟩,l',is⟩ (eK _ _ _) rfl rfl,nh,jM (nY R i ⟨⟨⟨o,sq,ag,ov,e,b⟩,A',c',B',d'⟩,l',is⟩) hi (j:=4) (by omega) (.slice A g.length c) ⟨⟨⟨o,sq,ag,ov,g,b⟩,A,c,B',d'⟩,l',is⟩ ⟨⟨⟨o,sq,ag,ov,e,b⟩,A',c',B',d'⟩,l',is⟩ (eK _ _ _) rfl rfl,nh,jM (nY R i ⟨⟨⟨o,sq,ag,ov,g,b⟩,A,c,B',d'⟩,l',is⟩) hi (j:=5) (by omega) (.slice B pre.length d) ⟨⟨⟨o,sq,ag,ov,g,pre⟩,A,c,B,d⟩,l',is⟩ ⟨⟨⟨o,sq,ag,ov,g,b⟩,A,c,B',d'⟩,l',is⟩ (eK _ _ _) rfl rfl,nh,jM (nY R i ⟨⟨⟨o,sq,ag,ov,g,pre⟩,A,c,B,d⟩,l',is⟩) hi (j:=6) (by omega) (.int .i64 l) ⟨⟨⟨o,sq,ag,ov,g,pre⟩,A,c,B,d⟩,l,is⟩ ⟨⟨⟨o,sq,ag,ov,g,pre⟩,A,c,B,d⟩,l',is⟩ (eK _ _ _) rfl rfl,nh]
def St.Dy{W w:World}{bs:List (Nat× cH)}{rs:List (cG× cH)}{i g:Nat}{cs:cH}(S:St W w bs rs∧bs[i]?=some (g,cs)∧(∀x∈bs.eraseIdx i,x.1≠g))(hg:W≤g)(j:Nat)(u:Value)(hj:j<cs.length)(a:cH)(b:cs.set j u=a) :
  St W (w.setCell ⟨g,j,none⟩ u) (bs.set i (g,a)) rs∧(bs.set i (g,a))[i]?=some (g,a)∧(∀x∈(bs.set i (g,a)).eraseIdx i,x.1≠g):=by
 subst b;obtain⟨S,hi,hd⟩:=S;have hl:i<bs.length:=(dj.1 hi).1;exact⟨S.set i j u hi hj hg hd _ rfl,by rw[fX hl],by rwa[Zz]⟩
def St.NG{W w:World}{bs:List (Nat× cH)}{rs:List (cG× cH)}{i g:Nat}{R:Nat→Rs}(S:St W w bs rs)(hi:bs[i]?=some (g,fP R))(hd:∀x∈bs.eraseIdx i,x.1≠g)(hg:W≤g){k:Nat}(hk:k<64)(s:Rs)(hs:s.is=(R k).is)(b:List (Nat× cH))(e:bs.set i (g,fP (nY R k s))=b) :
  St W (((((((w.setCell ⟨g,64+k*7,none⟩ (.int .i64 s.x.y.o)).setCell ⟨g,64+k*7+1,none⟩ (.int .i64 s.x.y.s)).setCell ⟨g,64+k*7+2,none⟩ (.int .i64 s.x.y.a)).setCell ⟨g,64+k*7+3,none⟩ (.bool s.x.y.ov)).setCell ⟨g,64+k*7+4,none⟩ (.slice s.x.A s.x.y.adj.length s.x.c)).setCell ⟨g,64+k*7+5,none⟩ (.slice s.x.B s.x.y.pre.length s.x.d)).setCell ⟨g,64+k*7+6,none⟩ (.int .i64 s.l)) b rs:=by
 have hl:(fP R).length=512:=fm R;have T:=St.Dy (St.Dy (St.Dy (St.Dy (St.Dy (St.Dy (St.Dy ⟨S,hi,hd⟩ hg (64+k*7) (.int .i64 s.x.y.o) (by omega) _ rfl) hg (64+k*7+1) (.int .i64 s.x.y.s) (by simp only[dw];omega) _ rfl) hg (64+k*7+2) (.int .i64 s.x.y.a) (by simp only[dw];omega) _ rfl) hg (64+k*7+3) (.bool s.x.y.ov) (by simp only[dw];omega) _ rfl) hg (64+k*7+4) (.slice s.x.A s.x.y.adj.length s.x.c) (by simp only[dw];omega) _ rfl) hg (64+k*7+5) (.slice s.x.B s.x.y.pre.length s.x.d) (by simp only[dw];omega) _ rfl) hg (64+k*7+6) (.int .i64 s.l) (by simp only[dw];omega) _ (Oh R hk s hs);have T1:=T.1;simp only[lu]at T1
 rwa[e]at T1
def TR(R:Nat→Rs){k:Nat}(hk:k<64)(s:Rs)(hs:s.is=true):fx (nY R k s)=fun i=>if i=k then some ⟨s.x.y,s.l⟩else fx R i:=by
 funext i
 unfold fx
 by_cases e:i=k
 ·subst e;rw[eK,if_pos ⟨hk,hs⟩,if_pos rfl]
 ·rw[oJ R _ e,if_neg e]
section
variable {P:Program} {ops:Array Oper} {Q:Exit → Act → World → Prop} {md:Region.Mode} {S:World → Prop} {i:Nat} {oi:Oper} {fuel:Nat} {listed:Array Bool} {a:Act} {w:World} {R:Nat → Rs}
def mL{v:Value}(d:Option Tmp)(hi:ops[i]?=some oi)(hd:oi.dst=d)(hs:Region.noSelect ops=true)(hf:Region.free md ops listed i=true)(hr:(Region.ready md ops listed).contains i=true)
  (hQ:∀c a w,Q (.panic c) (a.put d v) w→Q (.panic c) a w) (hy:YieldsIf P ops S oi v a) (hS:S w)
  (h:wpAnyH P md ops Q S fuel (listed.setIfInBounds i true) (a.put d v) w):wpAnyH P md ops Q S (fuel+1) listed a w:=by
 subst hd;exact wpAnyH_take hi hs hf hr hQ hy hS h
def zr(d:Option Tmp)(hi:ops[i]?=some oi)(hd:oi.dst=d)(hs:Region.noSelect ops=true)(hf:Region.free md ops listed i=true)(hr:(Region.ready md ops listed).contains i=true)
  (hQ:∀c a w,Q (.panic c) (a.put d (.agg (fP R).toArray)) w→Q (.panic c) a w) (hw:Region.wanted oi (yielded ops a.tmps)=true) (x:Operand) (ho:oi.op= .load 57 x) {g:Nat} (hx:a.eval x= .pointer (some ⟨g,0,none⟩)) (b:∀w,S w→w.rangeAt g 0 (fP R)) (hS:S w)
  (h:wpAnyH prog md ops Q S fuel (listed.setIfInBounds i true) (a.put d (.agg (fP R).toArray)) w):wpAnyH prog md ops Q S (fuel+1) listed a w :=
 mL d hi hd hs hf hr hQ (yieldsIf_load_mid hw _ x ho g 0 hx (fP R) _ b underlying57 rfl (s9 R)) hS h
end
end Go.Proofs.YtehimhbgakpenaaGreat
