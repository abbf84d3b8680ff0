/- Lemmas. -/
import Derived.Test.YtehimhbgakpenaaGreatV
import Derived.Test.YtehimhbgakpenaaGreatP
import Derived.Test.YtehimhbgakpenaaGreatW
import Derived.Test.YtehimhbgakpenaaGreatN
import Derived.Test.YtehimhbgakpenaaGreatX
set_option linter.all false
set_option maxRecDepth 100000
set_option maxHeartbeats 16000000
namespace Go.Proofs.YtehimhbgakpenaaGreat
open Go.RowKit Go.Maps Go.Sort
def gW(ps:List Po):List Ad:=ps.filterMap fun p=>if p.ph=2 then some (p.o,p.l,p.c)else none
def jS(S:Sp):La:=⟨0,0,0,S.ov,gW S.ps,S.pre⟩
noncomputable def lX(F:Fd.Fn)(a:La)(z:Int):Fd.Fn:=if vB a=true then Fd.zv F a z else F
noncomputable def nF(S:Sp):Sp:={ S with db:=instN S.db (xW S.x S.md),fl:=lX S.fl (xW S.x S.md) (-1) }
noncomputable def ft(S:Sp):Sp :=
 if (ke S.x S.md (jS S)).made=true then nF { S with x:=(ke S.x S.md (jS S)).x,md:=(ke S.x S.md (jS S)).now }
 else { S with x:=(ke S.x S.md (jS S)).x,md:=(ke S.x S.md (jS S)).now }
def jq(p:Po)(ph lf:Int):Po:=⟨p.l,p.o,p.c,ph,lf,if ph=0 then 0 else p.bt⟩
noncomputable def jB(S:Sp)(i:Nat)(ph lf:Int):Sp :=
 match S.ps[i]? with
 |none=>S
 |some p=>
   { S with
     ps:=S.ps.set i (jq p ph lf)
     fl:=if He.oz p.ph ph = 1 then Fd.eY S.fl p.l.toNat (Fd.pJ (fun _=>none) (ku S.db)) else if He.oz p.ph ph = 2 then Fd.gx S.fl p.l.toNat else S.fl }
def QV(S:Sp)(i:Nat):Int:=match S.ps[i]? with|some p=>p.ph|none=>0
noncomputable def jl(S:Sp)(i:Nat)(ph lf:Int):Sp:=if He.oz (QV S i) ph=0 then jB S i ph lf else ft (jB S i ph lf)
def qj(S:Sp)(i:Nat)(b:Int):Sp:=match S.ps[i]? with|none=>S|some p=>{ S with ps:=S.ps.set i ⟨p.l,p.o,p.c,p.ph,p.lf,b⟩ }
def qS(S:Sp)(i:Nat)(c:Int):Sp:=match S.ps[i]? with|none=>S|some p=>{ S with ps:=S.ps.set i ⟨p.l,p.o,c,p.ph,p.lf,p.bt⟩ }
noncomputable def Ai(S:Sp)(i:Nat)(b h:Int):Sp :=
 match S.ps[i]? with
 |none=>S
 |some p=>jl (qj (if p.ph≠0∧p.bt≠b then jl S i 0 0 else S) i b) i (if h=S.bo then 2 else 1) S.h2
noncomputable def pM(F:Fd.Fn)(l:Nat)(a:La):Fd.Fn:=match F l with|some D=>Fd.eY F l (Fd.pN D a)|none=>F
noncomputable def rJ(F:Fd.Fn)(l:Nat)(a:La):Fd.Fn:=match F l with|some D=>if vB a=true then Fd.eY F l (Fd.mu D a)else F|none=>F
noncomputable def rR(S:Sp)(l:Int)(a:La):Sp× Bool :=
 if instR S.db a=1 then({ S with db:=instN S.db a,fl:=lX S.fl a l },true)
 else if instR S.db a=2 then({ S with db:=instN S.db a,fl:=pM S.fl l.toNat a },true)
 else({ S with db:=instN S.db a,fl:=rJ S.fl l.toNat (eX (jR (instN S.db a) a.o)) },false)
noncomputable def jz(S:Sp)(l:Int)(a:La):Sp× Bool :=
 if a.o=S.nd then
  if (gI S.x S.md a).made=true then(nF { S with x:=(gI S.x S.md a).x,md:=(gI S.x S.md a).now },false)
  else if (gI S.x S.md a).err≠0 then({ S with x:=(gI S.x S.md a).x,md:=(gI S.x S.md a).now },false)
  else rR { S with x:=(gI S.x S.md a).x,md:=(gI S.x S.md a).now } l a
 else rR S l a
def jZ(ps:List Po)(l:Int):Option Nat:=ps.findIdx? fun p=>p.l==l
noncomputable def gV(S:Sp)(i:Nat)(m:Ms):Sp× List (Int× Ms) :=
 match S.ps[i]? with
 |none=>(S,[])
 |some p=>
   if m.k=1 then(Ai S i m.b m.h,[])
   else if p.ph≠2∨p.bt≠m.b then(S,[])
   else if m.k=2 then((jz S p.l m.y).1,if (jz S p.l m.y).2=true then [(p.l,⟨3,0,S.bo,0,m.y⟩)]else [])
   else({ S with fl:=pM S.fl p.l.toNat m.y },[])
noncomputable def pR(S:Sp):Nat→Sp
 |0=>S
 |k+1=>match (pR S k).ps[k]? with|none=>pR S k|some p=>jB (pR S k) k (He.vc p.ph p.lf 1) (He.Bp p.ph p.lf 1)
def pw(ps:List Po)(k:Nat):Bool:=(ps.take k).any fun p=>decide (He.oz p.ph (He.vc p.ph p.lf 1)=2)
noncomputable def wu(nd:Int)(N:Db)(F:Fd.Fn)(l:List Int):Fd.Fn:=l.foldl (fun F n=>match jR N n with|some h=>if n≠nd then lX F h.x (-1)else F|none=>F) F
noncomputable def Bq(S:Sp):Sp:=pR { S with tm:=S.tm+1 } S.ps.length
noncomputable def lD(S:Sp):Sp:=if pw S.ps S.ps.length=true then ft (Bq S)else Bq S
noncomputable def nC(S:Sp):Sp:={ lD S with db:=ic 1 (lD S).db,fl:=wu S.nd (ic 1 (lD S).db) (lD S).fl (kh 1 (lD S).db) }
noncomputable def vd(S:Sp):Sp:=if kZ (nC S).x (nC S).md 1=true then nF { nC S with x:=ix (nC S).x (nC S).md 1 }else { nC S with x:=ix (nC S).x (nC S).md 1 }
noncomputable def G4(S:Sp):Sp:={ vd S with fl:=Fd.ve 1 (vd S).fl }
def iI(S:Sp):List (Int× Ms):=if (S.tm - 1) % S.h1=0 then S.ps.map fun p=>(p.l,⟨1,S.nd,S.bo,p.bt,dT⟩)else []
def mf(S:Sp):List (Int× Ms):=(Fd.oU S.fl (Fd.iA S.fl)).map fun qx=>(qx.1,⟨2,0,S.bo,0,qx.2⟩)
def vY(S:Sp):Sp:={ S with fl:=Fd.wB S.h3 S.fl }
noncomputable def oR(S:Sp):Sp× List (Int× Ms):=(vY (G4 S),iI (G4 S)++mf (G4 S))
structure Yr (p:Po):Prop where
 l:0≤p.l∧p.l<256
 o:0≤p.o∧p.o<64
 c:1≤p.c∧p.c≤65535
 st:He.vQ p.ph p.lf=true
 bt:0≤p.bt∧p.bt≤1073741824
structure eO (S:Sp):Prop where
 tp:mE S.tp
 nd:0≤S.nd∧S.nd<S.tp.n
 bo:1≤S.bo∧S.bo≤1073741824
 h1:1≤S.h1∧S.h1≤65536
 h2:1≤S.h2∧S.h2≤65536
 h3:1≤S.h3∧S.h3≤65536
 tm:0≤S.tm
 ps:∀p∈S.ps,Yr p
 uq:(S.ps.map (·.l)).Nodup
 pl:S.ps.length≤512
 pre:S.pre.length≤64
 db:lY S.db
 dz:∀i,64≤i→S.db i=none
 fl:Fd.pI S.fl
 up:∀l:Nat,(S.fl l).isSome=true↔ ∃p∈S.ps,p.l=(l:Int)∧p.ph=2
 xo:S.x.o=S.nd
 xs:0≤S.x.s∧S.x.s≤1073741824
 xa:0≤S.x.a∧S.x.a≤3599
 xm:S.md=true
 xv:dS S.x
 xl:S.x.adj.length≤256∧S.x.pre.length≤64
structure SpC (w:World) (m:Sm) (S:Sp):Prop where
 c0:w.cell? ⟨m.g,0,none⟩=some (.int .i64 S.tp.n)
 c1:w.cell? ⟨m.g,1,none⟩=some (.slice m.O S.tp.ov.length m.co)
 c2:w.cell? ⟨m.g,2,none⟩=some (.slice m.L S.tp.ln.length m.cl)
 c3:w.cell? ⟨m.g,3,none⟩=some (.int .i64 S.nd)
 c4:w.cell? ⟨m.g,4,none⟩=some (.int .i64 S.bo)
 c5:w.cell? ⟨m.g,5,none⟩=some (.int .i64 S.h1)
 c6:w.cell? ⟨m.g,6,none⟩=some (.int .i64 S.h2)
 c7:w.cell? ⟨m.g,7,none⟩=some (.int .i64 S.h3)
 c8:w.cell? ⟨m.g,8,none⟩=some (.int .i64 S.tm)
 c9:w.cell? ⟨m.g,9,none⟩=some (.slice m.P S.ps.length m.cp)
 c10:w.cell? ⟨m.g,10,none⟩=some (.bool S.ov)
 c11:w.cell? ⟨m.g,11,none⟩=some (.slice m.B S.pre.length m.cb)
 c12:w.cell? ⟨m.g,12,none⟩=some (.pointer (some ⟨m.gd,0,none⟩))
 c13:w.cell? ⟨m.g,13,none⟩=some (.pointer (some ⟨m.gf,0,none⟩))
 c14:w.cell? ⟨m.g,14,none⟩=some (.pointer (some ⟨m.go,0,none⟩))
section
variable {w w':World} {m:Sm} {S:Sp} {col:Nat → Nat} {c:Nat}
def fe.cs(h:fe w m S col c):SpC w m S:=⟨h.bx.c 0 rfl,h.bx.c 1 rfl,h.bx.c 2 rfl,h.bx.c 3 rfl,h.bx.c 4 rfl,h.bx.c 5 rfl,h.bx.c 6 rfl,h.bx.c 7 rfl,h.bx.c 8 rfl,h.bx.c 9 rfl,h.bx.c 10 rfl,h.bx.c 11 rfl,h.bx.c 12 rfl,h.bx.c 13 rfl,h.bx.c 14 rfl⟩
structure ZJ (w:World) (b o:Nat) (p:Po):Prop where
 c0:w.cell? ⟨b,o,none⟩=some (.int .i64 p.l)
 c1:w.cell? ⟨b,o+1,none⟩=some (.int .i64 p.o)
 c2:w.cell? ⟨b,o+2,none⟩=some (.int .i64 p.c)
 c3:w.cell? ⟨b,o+3,none⟩=some (.int .i64 p.ph)
 c4:w.cell? ⟨b,o+4,none⟩=some (.int .i64 p.lf)
 c4':w.cell? ⟨b,o+3+1,none⟩=some (.int .i64 p.lf)
 c5:w.cell? ⟨b,o+5,none⟩=some (.int .i64 p.bt)
def fe.gp(h:fe w m S col c)(hn:0<S.ps.length):∃gp,m.P=some ⟨gp,0,none⟩∧ ∀i (hi:i<S.ps.length),ZJ w gp (i*6) S.ps[i]:=by
 rcases h.po.2 with ⟨e,e2⟩|⟨gp,cap,cur,e,d,hh,r⟩
 ·omega
 ·injection e with e _ _
  refine⟨gp,e,fun i hi=>?_⟩
  have b:(Value.slice m.P S.ps.length m.cp).ownBlock=some gp:=by rw[e];rfl
  have key:∀j (u:Value),j<6→(QT S.ps[i])[j]?=some u→Cv w gp (i*6+j) u:=fun j u hj hu=>by
   have hp:=h.po;rw[e]at hp;have hc:=hp.cells (g:=gp) rfl (i*6+j) u (by rw[Sv S.ps i hi j hj];exact hu);have a:(⟨gp,0,none⟩:Addr).add (i*6+j)=⟨gp,i*6+j,none⟩:=by unfold Addr.add;split<;>simp_all
   rwa[a]at hc
  exact⟨key 0 _ (by omega) rfl,key 1 _ (by omega) rfl,key 2 _ (by omega) rfl,key 3 _ (by omega) rfl,key 4 _ (by omega) rfl,key 4 _ (by omega) rfl,key 5 _ (by omega) rfl⟩
def fe.free(h:fe w m S col c){gp:Nat}(hP:m.P=some ⟨gp,0,none⟩)(j:Nat):w.frozen? ⟨gp,j,none⟩=false:=by
 rcases h.po.2 with ⟨e,e2⟩|⟨b,cap,cur,e,a,hh,r⟩
 ·rw[hP]at e;cases e
 ·rw[hP]at e;injection e with e _ _
  injection e with e
  injection e with e
  subst e;simp[World.frozen?,hh]
end
def WO(m m':Sm):Prop:=m'.g=m.g∧m'.P=m.P∧m'.gd=m.gd∧m'.gf=m.gf∧m'.go=m.go
def gT(w:World)(m:Sm)(col:Nat→Nat)(c:Nat)(S':Sp)(w':World):Prop:=∃m' col',WO m m'∧(∀k,k<w.heap.size→col' k=col k)∧fe w' m' S' col' c∧Ev col c w w'
def kI{col col':Nat→Nat}{c:Nat}{w w' w'':World}(h:Ev col c w w')(h2:Ev col' c w' w'')(hc:∀k,k<w.heap.size→col' k=col k):Ev col c w w'':=gA.trans h h2 fun k hk e=>by rw[←hc k hk];exact e
def gT.from{w w1 w2:World}{m:Sm}{S':Sp}{col:Nat→Nat}{c:Nat}(v:Ev col c w w1)(h:gT w1 m col c S' w2):gT w m col c S' w2:=by
 obtain⟨m',col',e,hc,h1,h2⟩:=h;exact⟨m',col',e,fun k hk=>hc k (eh hk v.size),h1,v.tr h2⟩
def gT.next{w w1 w2:World}{m m1:Sm}{S':Sp}{b a:Nat→Nat}{c:Nat}(v:Ev b c w w1)(e1:WO m m1)(d:∀k,k<w.heap.size→a k=b k)(h:gT w1 m1 a c S' w2):gT w m b c S' w2:=by
 obtain⟨m',f,e,hc,h1,h2⟩:=h;exact⟨m',f,⟨e.1.trans e1.1,e.2.1.trans e1.2.1,e.2.2.1.trans e1.2.2.1,e.2.2.2.1.trans e1.2.2.2.1,e.2.2.2.2.trans e1.2.2.2.2⟩,fun k hk=>(hc k (eh hk v.size)).trans (d k hk),h1,kI v h2 d⟩
def gX(w:World)(m:Sm)(col:Nat→Nat)(c:Nat)(S':Sp)(v:Value)(e:Ending)(w':World):Prop:=e= .returned v∧fe w' m S' col c∧Ev col c w w'
def Ao{ps:List Po}{l:Int}(h:∀i (hi:i<ps.length),ps[i].l≠l):jZ ps l=none:=by
 unfold jZ;rw[List.findIdx?_eq_none_iff];intro p hp;obtain⟨i,hi,rfl⟩:=eG hp;simpa using h i hi
def An{ps:List Po}{l:Int}{i:Nat}(hi:i<ps.length)(h:ps[i].l=l)(hn:∀j (hj:j<i),(ps[j]'(by omega)).l≠l):jZ ps l=some i:=by
 unfold jZ;rw[jV];exact⟨hi,by simpa using h,fun j hj=>by simpa using hn j hj⟩
def pG(w:World)(m:Sm)(S:Sp)(l:Int)(e:Ending)(w':World):Prop :=
 w=w'∧match jZ S.ps l with|none=>e= .returned (.pointer none)|some i=>∃gp,m.P=some ⟨gp,0,none⟩∧e= .returned (.pointer (some ⟨gp,i*6,none⟩))
def wA(w:World)(m:Sm)(S:Sp)(o:Nat→Nat)(c:Nat)(h:fe w m S o c)(hl:S.ps.length≤100000)(l:Int) :
  Calls Tryz.prog 61 #[.pointer (some ⟨m.g,0,none⟩),l] w (pG w m S l):=by
 have k9:=h.cs.c9;have f:=fun(hn:0<S.ps.length)=>h.gp hn
 have d:Hid (∀_:(∀i (hi:i<S.ps.length),S.ps[i].l≠l),pG w m S l (.returned (.pointer none)) w):=fun hn=>⟨rfl,by rw[Ao hn]⟩
 have a:Hid (∀i gp (hi:i<S.ps.length),S.ps[i].l=l→(∀j (hj:j<i),(S.ps[j]'(by omega)).l≠l)→m.P=some ⟨gp,0,none⟩→pG w m S l (.returned (.pointer (some ⟨gp,i*6,none⟩))) w):=fun i gp hi h1 h2 hP=>⟨rfl,by rw[An hi h1 h2];exact⟨gp,hP,rfl⟩⟩
 clear h;go_in;go_wp2_with fail;go_loop [11] (fun v11=>∃i:Nat,v11= .int .i64 i∧i≤S.ps.length∧Hid (∀j (hj:j<i) (k:j<S.ps.length),S.ps[j].l≠l)) (fun v11=>S.ps.length - (intOf v11).toNat)
 case atStart=>exact⟨0,rfl,by omega,fun j hj=>by omega⟩
 case round=>
  obtain⟨i,rfl,hi,hn⟩:=hrel
  by_cases hin:i<S.ps.length
  ·obtain⟨gp,hP,hc⟩:=f (by omega);have hp:=hc i hin;obtain⟨p,b⟩:=ex (S.ps[i])
   rw[b]at hp;have c0:=hp.c0;rw[hP]at k9
   by_cases hl2:p.l=l
   ·have e1:(p.l==l)=true:=by simp[hl2]
    have hf:=a.out i gp hin (by rw[b];exact hl2) (fun j hj=>hn j hj (by omega)) hP;clear f hc d a b hp hn;go_wp2;go_ret;exact hf
   ·have e1:(p.l==l)=false:=by simp[hl2]
    have n:Hid (∀j (hj:j<i+1) (k:j<S.ps.length),S.ps[j].l≠l):=fun j hj k=>by
     by_cases e:j=i
     ·subst e;rw[b];exact hl2
     ·exact hn j (by omega) k
    clear f hc d a b hp hn;go_wp2;go_round
    case rel=>exact⟨i+1,by go_num,by omega,n⟩
    case measure=>simp[intOf];omega
  ·have hf:=d.out (fun j hj=>hn j (by omega) hj);have e1:decide ((i:Int)< (S.ps.length:Int))=false:=by simp;omega
   clear f d a hn;go_wp2;go_ret;exact hf
def fh.UC{w w':World}{base k:Nat}{v:Value}{x:La}(h:fh w base v x)(hg:w.grownBy w' (some k))(hk:k<base):fh w' base v x:=by
 obtain⟨A,c,B,d,rfl,o1,o2,hu⟩:=h;have key:∀ {e:TypeId} {size:Nat} {v:Value} {n:Nat} {xs:cH},w.ownsRow base e size v n xs→w'.ownsRow base e size v n xs:=fun {e size v n xs} h=>by
  refine⟨h.1,?_⟩
  rcases h.2 with e1|⟨g,cap,cur,rfl,a,hh,r⟩
  ·exact .inl e1
  ·exact .inr ⟨g,cap,cur,rfl,a,(hg.block g (h.lt g rfl).2 (fun e=>by injection e with e;omega)).trans hh,r⟩
 exact⟨A,c,B,d,rfl,key o1,key o2,hu⟩
def Dv(w:World)(m:Sm)(S:Sp)(b:Nat→Nat)(c:Nat)(h:fe w m S b c)(v:Value)(a:La)(hv:eU w v a)(z:Int) :
  Calls Tryz.prog 93 #[.pointer (some ⟨m.gf,0,none⟩),v,z] w fun e w'=>(∃r,e= .returned (.int .i64 r))∧fe w' m { S with fl:=lX S.fl a z } b c∧Ev b c w w':=by
 by_cases hva:dS a
 ·refine(Fd.Gj w m.gf m.bf S.h3 S.fl m.ff h.fl v a hv hva z).mono ?_;rintro e w' ⟨rfl,hf,hk⟩;have e1:lX S.fl a z=Fd.zv S.fl a z:=by unfold lX;rw[cR (nA hva)]
  rw[e1];exact⟨⟨_,rfl⟩,h.D9 hk hf (fun l=>by unfold Fd.zv;simp)⟩
 ·refine(Fd.Gi w m.gf v a hv hva z).mono ?_;rintro e w' ⟨rfl,hb⟩;have e1:lX S.fl a z=S.fl:=by unfold lX;rw[cN (by rw[uZ hva];simp)]
  rw[e1];exact⟨⟨_,rfl⟩,h.below hb,gA.below hb⟩
def sT(w:World)(m:Sm)(S:Sp)(f:Nat→Nat)(c:Nat)(h:fe w m S f c)(D:S.x.adj.length≤1000000)(n:S.x.pre.length≤1000000) :
  Calls Tryz.prog 78 #[.pointer (some ⟨m.g,0,none⟩)] w (gX w m f c (nF S) (.tuple #[])):=by
 have CU:=yI w m.go S.x S.md h.og D n;unfold zb at CU;obtain⟨x,hx⟩:=ex (xW S.x S.md)
 have q:Hid (∀w',fe w' m { S with db:=instN S.db x,fl:=lX S.fl x (-1) } f c→Ev f c w w'→gX w m f c (nF S) (.tuple #[]) (.returned (.tuple #[])) w'):=fun w' h1 h2=>by
  unfold nF;rw[hx];exact⟨rfl,h1,h2⟩
 rw[hx]at CU;replace CU:=φ CU;have F:=h.cs.c14;replace h:=φ h;clear hx;go_in;go_wp2_with fail;refine CU.out.mono ?_;rintro e w1 ⟨v,rfl,j,hb⟩;obtain⟨A,d,B,d2,hv⟩:=j.at.form;subst hv;clear CU;have G:w.heap.size≤w1.heap.size:=hb.size;have n:=cQ w1 (.cells #[x.o,x.s,x.a,x.ov,.slice A x.adj.length d,.slice B x.pre.length d2] 41);have S3:=((((St.start w).call hb).nw #[x.o,x.s,x.a,x.ov,.slice A x.adj.length d,.slice B x.pre.length d2] 41 w1)).drew;have l:=(j.below n).below bd;have H3:=h.out.below S3.b;have V3:Ev f c w _:=gA.below S3.b;clear j hb n;go_upto_region 1 with fail;generalize C:World.alloc w1 _=w2 at *;clear C;generalize w1.heap.size=k at *;have I:=φ (wV w2.drew m.gd m.bd S.db _ x H3.db l.at);have z:=H3.cs.c12;obtain⟨c0,c1,c2,c3,c4,c5⟩:=(S3.box 0 rfl).b6;go_still_tail 5,(by kernel_rfl)
 change wpList _ _ _ _ _ w2.drew;clear c0 z;generalize w2.drew=w3 at *;go_wp2_with fail;refine I.out.mono ?_;rintro e w4 ⟨rfl,t,hg⟩;clear I;obtain⟨H4,V4⟩:=H3.IF hg t;have H:k≠m.bd:=fun e=>by have:=h.out.db.lt.2;omega
 have u:=(S3.box 0 rfl).kept hg (by intro e;injection e;contradiction) (by simp);have p:=l.UC hg (by have:=h.out.db.lt.2;omega);have i:=V3.tr V4;clear l S3 H3 t hg V3 V4;have H5:=H4.below bd;have SP:=φ (Dv w4.drew m _ f c H5 _ x (p.below bd).at (-1));have y:=H5.cs.c13;have c0:=u.b6;replace i:=i.tr (gA.below (E:=fun k=>f k=c) bd);replace i:=φ i;clear H4 H5 p u;go_upto_region 2 with fail;go_still_tail 5,(by kernel_rfl)
 change wpList _ _ _ _ _ w4.drew;go_wp2_with fail;refine SP.out.mono ?_;rintro e w5 ⟨⟨r,rfl⟩,H6,V6⟩;have hf:=q.out _ H6 (i.out.tr V6);clear c0 SP H6 V6 i q y;go_wp2;exact fO (v:=.tuple #[]) (by simp[results,Tryz.results78,go_sem]) rfl hf
end Go.Proofs.YtehimhbgakpenaaGreat
