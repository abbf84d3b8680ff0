/- Lemmas. -/
import Derived.Laws.StructEq
import Derived.Test.YtehimhbgakpenaaGreatD
set_option linter.all false
set_option maxRecDepth 100000
set_option maxHeartbeats 16000000
namespace Go.Proofs.YtehimhbgakpenaaGreat
open Go.RowKit Go.Proofs.Tryz
def Mu:prog.underlying 169=some (.struct (prog.fieldsOf 169)):=by kernel_rfl
def Lh:prog.underlying 181=some (.struct (prog.fieldsOf 181)):=by kernel_rfl
def Ud:prog.stoodInHeld 169=false:=by kernel_rfl
def SD:prog.stoodInHeld 181=false:=by kernel_rfl
def AM:prog.eqGuardType prog.depth 169=false:=by kernel_rfl
def Fx:prog.eqGuardType prog.depth 181=false:=by kernel_rfl
abbrev UO(x:Ad):Value:=.agg #[x.1,x.2.1,x.2.2]
abbrev YD(x:Pf):Value:=.agg #[.int .u32 (x.1:Int),x.2]
def Yl:((prog.fieldsOf 169).toList.map fun f=>(f.name != "_",f.type,f.offset)) = [(true,3,0),(true,3,1),(true,3,2)]:=by kernel_rfl
def UK(w:World)(x y:Ad):(Op.equalIn 10000 169 (UO x) (UO y)).run prog w= .ok (decide (x=y)) w:=by
 rw[show(10000:Nat)=9999+1 from rfl,UZ w 9999 _ _ _ Mu Ud];have h:=Yl;obtain ⟨f0,f1,f2,hf,n0,t0,o0,n1,t1,o1,n2,t2,o2⟩:∃ f0 f1 f2:Field,(prog.fieldsOf 169).toList = [f0,f1,f2] ∧ (f0.name != "_") = true ∧ f0.type = 3 ∧ f0.offset = 0 ∧ (f1.name != "_") = true ∧ f1.type = 3 ∧ f1.offset = 1 ∧ (f2.name != "_") = true ∧ f2.type = 3 ∧ f2.offset = 2:=by
  generalize (prog.fieldsOf 169).toList=l at h;rcases l with _|⟨f0,_|⟨f1,_|⟨f2,_|⟨f3,l⟩⟩⟩⟩
  all_goals simp at h
  obtain⟨⟨a,b,c⟩,⟨d,e,f⟩,g,i,j⟩:=h;exact⟨f0,f1,f2,rfl,by simpa using a,b,c,by simpa using d,e,f,by simpa using g,i,j⟩
 rw[hf];obtain⟨x0,x1,x2⟩:=x;obtain⟨y0,y1,y2⟩:=y;simp only[ZP]at n0 n1 n2;simp[Op.eqFields,n0,n1,n2,t0,t1,t2,o0,o1,o2,part,sizeOf];have E:=fun(W:World) (a b:Int)=>uv (P:=prog) W 9998 3 .i64 .i64 a b underlying3
 simp only[show(9998+1:Nat)=9999 from rfl]at E;simp only[E,Result.andThen_ok]
 by_cases h0:x0=y0<;>by_cases h1:x1=y1<;>by_cases h2:x2=y2<;>simp[h0,h1,h2]
def XI:((prog.fieldsOf 181).toList.map fun f=>(f.name != "_",f.type,f.offset)) = [(true,179,0),(true,3,1)]:=by kernel_rfl
def X6(w:World)(x y:Pf):(Op.equalIn 10000 181 (YD x) (YD y)).run prog w= .ok (decide (x=y)) w:=by
 rw[show(10000:Nat)=9999+1 from rfl,UZ w 9999 _ _ _ Lh SD];have h:=XI;obtain ⟨f0,f1,hf,n0,t0,o0,n1,t1,o1⟩:∃ f0 f1:Field,(prog.fieldsOf 181).toList = [f0,f1] ∧ (f0.name != "_") = true ∧ f0.type = 179 ∧ f0.offset = 0 ∧ (f1.name != "_") = true ∧ f1.type = 3 ∧ f1.offset = 1:=by
  generalize (prog.fieldsOf 181).toList=l at h;rcases l with _|⟨f0,_|⟨f1,_|⟨f2,l⟩⟩⟩
  all_goals simp at h
  obtain⟨⟨a,b,c⟩,d,e,f⟩:=h;exact⟨f0,f1,rfl,by simpa using a,b,c,by simpa using d,e,f⟩
 rw[hf];obtain⟨x0,x1⟩:=x;obtain⟨y0,y1⟩:=y;simp only[ZP]at n0 n1;simp[Op.eqFields,n0,n1,t0,t1,o0,o1,part,sizeOf];have E:=fun(W:World) (a b:Int)=>uv (P:=prog) W 9998 3 .i64 .i64 a b underlying3
 have F:=fun(W:World) (a b:Int)=>uv (P:=prog) W 9998 179 .u32 .u32 a b underlying179
 simp only[show(9998+1:Nat)=9999 from rfl]at E F;simp only[E,F,Result.andThen_ok]
 by_cases h0:x0=y0<;>by_cases h1:x1=y1<;>simp[h0,h1]<;>omega
def Pg(w:World)(x y:Ad):(binOp .neq 169 (UO x) (UO y)).run prog w= .ok (.bool (!decide (x=y))) w:=by rw[Xe,UK];rfl
def Wt(w:World)(x y:Ad):(binOp .eql 169 (UO x) (UO y)).run prog w= .ok (.bool (decide (x=y))) w:=by rw[run_eql_struct,UK];rfl
def Pe(w:World)(x y:Pf):(binOp .neq 181 (YD x) (YD y)).run prog w= .ok (.bool (!decide (x=y))) w:=by rw[Xe,X6];rfl
def Jl(w:World)(A B:cG)(n c m d:Nat)(xs ys:List Pf)(hA:Rd w A (jU xs))(hB:Rd w B (jU ys))(hn:xs.length=n)(hm:ys.length=m)(b1:n≤9223372036854775807) :
  Calls prog 165 #[.slice A n c,.slice B m d] w fun e w'=>e= .returned (.bool (decide (xs=ys)))∧cI w w':=by
 obtain⟨R,hR⟩:=ex (decide (xs=ys))
 rw[hR];have hF:xs≠ys→R=false:=fun h=>by rw[←hR];exact eI h
 have hT:xs=ys→R=true:=fun h=>by rw[←hR];exact eo h
 clear hR
 by_cases hnm:n=m
 rotate_left
 ·obtain rfl:=hF (fun h=>hnm (by rw[←hn,←hm,h]));have t:((n:Int) !=(m:Int))=true:=by simp;omega
  clear hnm hn hm hF hT;go_in;go_wp2;go_ret;exact⟨rfl,cy⟩
 subst hnm;have S:=((St.start w).read hB).read hA;clear hA hB;change Hid _ at hn hm hF hT;go_in;go_wp2_with fail;go_loopw [13] (fun f wr=>∃i:Nat,f= .int .i64 i∧i≤n∧Hid (xs.take i=ys.take i)∧St w wr [] [(A,jU xs),(B,jU ys)]) (fun f _=>n - (intOf f).toNat)
 case atStart=>exact⟨0,rfl,by omega,rfl,S⟩
 case round=>
  clear S;obtain⟨i,rfl,hi,o,S⟩:=hrel
  by_cases him:i<n
  ·have p:i<xs.length:=by have:=hn.out;omega
   have a:i<ys.length:=by have:=hm.out;omega
   obtain⟨b,off,rfl,hc⟩:=yz (S.r 0 rfl) (by omega);obtain⟨b',s,rfl,q⟩:=yz (S.r 1 rfl) (by omega);obtain⟨x0,x1⟩:=hc i p;obtain⟨y0,y1⟩:=q i a;have j:=cT p;have g:=cT a;have k:xs[i]≠ys[i]→R=false:=fun h=>hF (fun h2=>h (by subst h2;rfl))
   clear hc q;generalize xs[i]=x at *;generalize ys[i]=y at *;obtain⟨p0,p1⟩:=x;obtain⟨q0,q1⟩:=y;simp only at x0 x1 y0 y1;have NE:=fun W=>Pe W (p0,p1) (q0,q1)
   have hG:=Fx
   by_cases e:(p0,p1)=(q0,q1)
   ·have l:Hid (xs.take (i+1)=ys.take (i+1)):=by show _=_;rw[j,g,o.out,e]
    rw[eo e]at NE;clear j g k e;go_wp2_with fail;go_quiet (fail);go_wp2;go_round
    case rel=>exact⟨i+1,by go_num,by omega,l,S.drewN nq⟩
    case measure=>simp[intOf];omega
   ·obtain rfl:=k e;rw[eI e]at NE;clear j g k e;go_wp2_with fail;go_quiet (fail);go_wp2;go_ret;exact⟨rfl,below_drewN S.b nq⟩
  ·obtain rfl:i=n:=by omega
   have heq:xs=ys:=by
    have:=o.out
    rwa[dn (by have:=hn.out;omega),dn (by have:=hm.out;omega)]at this
   obtain rfl:=hT.out heq;clear heq;go_wp2;go_ret;exact⟨rfl,S.b⟩
def KH(w:World)(x y:Ad):Calls prog 163 #[UO x,UO y] w fun e w'=>e= .returned (.bool (decide (x=y)))∧cI w w':=by
 have S:=((St.start w).nw #[x.1,x.2.1,x.2.2] 169 w).nw #[y.1,y.2.1,y.2.2] 169 (w.heap.size+1);have a:=S.b;have c0:=(S.box 1 rfl).b3;have d0:=(S.box 0 rfl).b3;have NE:=fun W=>Wt W x y
 have hG:=AM;generalize decide (x=y)=r at *;clear S;go_in;go_wp2;go_ret;exact⟨rfl,a⟩
def RJ(w:World)(A B:cG)(n c m d:Nat)(xs ys:List Ad)(hA:Rd w A (jN xs))(hB:Rd w B (jN ys))(hn:xs.length=n)(hm:ys.length=m)(b1:n≤9223372036854775807) :
  Calls prog 164 #[.slice A n c,.slice B m d,.func (.func 163) #[] #[]] w fun e w'=>e= .returned (.bool (decide (xs=ys)))∧cI w w':=by
 obtain⟨R,hR⟩:=ex (decide (xs=ys))
 rw[hR];have hF:xs≠ys→R=false:=fun h=>by rw[←hR];exact eI h
 have hT:xs=ys→R=true:=fun h=>by rw[←hR];exact eo h
 clear hR
 by_cases hnm:n=m
 rotate_left
 ·obtain rfl:=hF (fun h=>hnm (by rw[←hn,←hm,h]));have t:((n:Int) !=(m:Int))=true:=by simp;omega
  clear hnm hn hm hF hT;go_in;go_wp2;go_ret;exact⟨rfl,cy⟩
 subst hnm;have S:=((St.start w).read hB).read hA;clear hA hB;change Hid _ at hn hm hF hT;go_in;go_wp2_with fail;go_loopw [17] (fun f wr=>∃i:Nat,f= .int .i64 i∧i≤n∧Hid (xs.take i=ys.take i)∧St w wr [] [(A,jN xs),(B,jN ys)]) (fun f _=>n - (intOf f).toNat)
 case atStart=>exact⟨0,rfl,by omega,rfl,S⟩
 case round=>
  clear S;obtain⟨i,rfl,hi,o,S⟩:=hrel
  by_cases him:i<n
  ·have p:i<xs.length:=by have:=hn.out;omega
   have a:i<ys.length:=by have:=hm.out;omega
   obtain⟨b,off,rfl,hc⟩:=se (S.r 0 rfl) (by omega);obtain⟨b',s,rfl,q⟩:=se (S.r 1 rfl) (by omega);obtain⟨x0,x1,x2⟩:=hc i p;obtain⟨y0,y1,y2⟩:=q i a;have j:=cT p;have g:=cT a;have k:xs[i]≠ys[i]→R=false:=fun h=>hF (fun h2=>h (by subst h2;rfl))
   clear hc q;generalize xs[i]=x at *;generalize ys[i]=y at *;have b2:=cQ wr (.cells #[x.1,x.2.1,x.2.2] 169);have y0:=cW b2 y0;have y1:=cW b2 y1;have y2:=cW b2 y2;have S2:=(S.nw #[x.1,x.2.1,x.2.2] 169 wr).nw #[y.1,y.2.1,y.2.2] 169 (wr.heap.size+1);have c0:=(S2.box 1 rfl).b3;have d0:=(S2.box 0 rfl).b3;have SM:=fun W=>KH W x y
   by_cases e:x=y
   ·have l:Hid (xs.take (i+1)=ys.take (i+1)):=by show _=_;rw[j,g,o.out,e]
    rw[eo e]at SM;replace SM:=φ SM;clear j g k e b2;go_wp2_with fail;refine (SM _).mono ?_;rintro e w2 ⟨rfl,hb⟩;replace S2:=S2.call hb;clear c0 d0;go_wp2;go_round
    case rel=>exact⟨i+1,by go_num,by omega,l,S2.dX _ (by simp)⟩
    case measure=>simp[intOf];omega
   ·obtain rfl:=k e;rw[eI e]at SM;replace SM:=φ SM;clear j g k e b2;go_wp2_with fail;refine (SM _).mono ?_;rintro e w2 ⟨rfl,hb⟩;replace S2:=S2.call hb;clear c0 d0;go_wp2;go_ret;exact⟨rfl,S2.b⟩
  ·obtain rfl:i=n:=by omega
   have heq:xs=ys:=by
    have:=o.out
    rwa[dn (by have:=hn.out;omega),dn (by have:=hm.out;omega)]at this
   obtain rfl:=hT.out heq;clear heq;go_wp2;go_ret;exact⟨rfl,S.b⟩
def rf(w:World)(T:TypeId)(size n:Nat)(xs:cH)(e:Ending)(w':World):Prop :=
 ∃A c,e= .returned (.slice A n c)∧w'.ownsRow w T size (.slice A n c) n xs∧cI w w'
def Gv(w:World)(A:cG)(n c:Nat)(l:List Ad)(hr:Rd w A (jN l))(hn:l.length=n)(hb:n≤1000000) :
  Calls prog 157 #[.slice A n c] w (rf w 169 3 n (jN l)):=by
 rcases A with _|ad
 ·have h0:=hr.tW;rw[lC]at h0;obtain rfl:l= []:=dy (by omega);subst hn;have hE:=fun W=>gw W 38 169 none 0 c 0 0 underlying38
  go_in;go_wp2;go_ret;exact⟨none,0,rfl,cn,cy⟩
 ·have hl:(jN l).length=n*3:=by rw[lC,hn]
  clear hn;have hE:=fun W=>gw W 38 169 (some ad) n c 0 0 underlying38
  go_in;go_wp2_with (at_builtin;refine dK rfl YJ (.tmp 5) (.tmp 6) rfl w rfl (lQ _ _ _) (m:=n) rfl hl (hr.below (cQ _ _)) (Ue l) (by simp only[maxLen];omega) (by omega) (by simp) n (jN l) (by omega) (by simp) ?_;intro v' w' ho a _ _);go_ret;obtain⟨A',c',rfl,_⟩:=dN ho;exact⟨A',c',rfl,ho,(cQ _ _).trans a⟩
def AB(w:World)(A:cG)(n c:Nat)(l:List Pf)(hr:Rd w A (jU l))(hn:l.length=n)(hb:n≤1000000) :
  Calls prog 86 #[.slice A n c] w (rf w 181 2 n (jU l)):=by
 rcases A with _|ad
 ·have h0:=hr.tW;rw[gn]at h0;obtain rfl:l= []:=dy (by omega);subst hn;have hE:=fun W=>gw W 39 181 none 0 c 0 0 underlying39
  go_in;go_wp2;go_ret;exact⟨none,0,rfl,cn,cy⟩
 ·have hl:(jU l).length=n*2:=by rw[gn,hn]
  clear hn;have hE:=fun W=>gw W 39 181 (some ad) n c 0 0 underlying39
  go_in;go_wp2_with (at_builtin;refine dK rfl ZG (.tmp 5) (.tmp 6) rfl w rfl (lQ _ _ _) (m:=n) rfl hl (hr.below (cQ _ _)) (SF l) (by simp only[maxLen];omega) (by omega) (by simp) n (jU l) (by omega) (by simp) ?_;intro v' w' ho a _ _);go_ret;obtain⟨A',c',rfl,_⟩:=dN ho;exact⟨A',c',rfl,ho,(cQ _ _).trans a⟩
def Ny(w:World)(A B:cG)(n c m d:Nat)(xs ys:List Ad)(hA:Rd w A (jN xs))(hB:Rd w B (jN ys))(hn:xs.length=n)(hm:ys.length=m)(b1:n≤9223372036854775807) :
  Calls prog 173 #[.slice A n c,.slice B m d] w fun e w'=>e= .returned (.bool (decide (xs=ys)))∧cI w w':=by
 obtain⟨R,hR⟩:=ex (decide (xs=ys))
 rw[hR];have hF:xs≠ys→R=false:=fun h=>by rw[←hR];exact eI h
 have hT:xs=ys→R=true:=fun h=>by rw[←hR];exact eo h
 clear hR
 by_cases hnm:n=m
 rotate_left
 ·obtain rfl:=hF (fun h=>hnm (by rw[←hn,←hm,h]));have t:((n:Int) !=(m:Int))=true:=by simp;omega
  clear hnm hn hm hF hT;go_in;go_wp2;go_ret;exact⟨rfl,cy⟩
 subst hnm;have S:=((St.start w).read hB).read hA;clear hA hB;change Hid _ at hn hm hF hT;go_in;go_wp2_with fail;go_loopw [13] (fun f wr=>∃i:Nat,f= .int .i64 i∧i≤n∧Hid (xs.take i=ys.take i)∧St w wr [] [(A,jN xs),(B,jN ys)]) (fun f _=>n - (intOf f).toNat)
 case atStart=>exact⟨0,rfl,by omega,rfl,S⟩
 case round=>
  clear S;obtain⟨i,rfl,hi,o,S⟩:=hrel
  by_cases him:i<n
  ·have p:i<xs.length:=by have:=hn.out;omega
   have a:i<ys.length:=by have:=hm.out;omega
   obtain⟨b,off,rfl,hc⟩:=se (S.r 0 rfl) (by omega);obtain⟨b',s,rfl,q⟩:=se (S.r 1 rfl) (by omega);obtain⟨x0,x1,x2⟩:=hc i p;obtain⟨y0,y1,y2⟩:=q i a;have j:=cT p;have g:=cT a;have k:xs[i]≠ys[i]→R=false:=fun h=>hF (fun h2=>h (by subst h2;rfl))
   clear hc q;generalize xs[i]=x at *;generalize ys[i]=y at *;obtain⟨p0,p1,p2⟩:=x;obtain⟨q0,q1,q2⟩:=y;simp only at x0 x1 x2 y0 y1 y2;have NE:=fun W=>Pg W (p0,p1,p2) (q0,q1,q2)
   have hG:=AM
   by_cases e:(p0,p1,p2)=(q0,q1,q2)
   ·have l:Hid (xs.take (i+1)=ys.take (i+1)):=by show _=_;rw[j,g,o.out,e]
    rw[eo e]at NE;clear j g k e;go_wp2_with fail;go_quiet (fail);go_wp2;go_round
    case rel=>exact⟨i+1,by go_num,by omega,l,S.drewN nq⟩
    case measure=>simp[intOf];omega
   ·obtain rfl:=k e;rw[eI e]at NE;clear j g k e;go_wp2_with fail;go_quiet (fail);go_wp2;go_ret;exact⟨rfl,below_drewN S.b nq⟩
  ·obtain rfl:i=n:=by omega
   have heq:xs=ys:=by
    have:=o.out
    rwa[dn (by have:=hn.out;omega),dn (by have:=hm.out;omega)]at this
   obtain rfl:=hT.out heq;clear heq;go_wp2;go_ret;exact⟨rfl,S.b⟩
def Wq(x:La):Bool:=decide (x.adj.length≤300)&&decide (x.pre.length≤100)
def pL(x y:La):Bool:=(x.ov==y.ov)&& (decide (x.adj=y.adj)&&decide (x.pre=y.pre))
def wW{x y:La}:pL x y=true↔x.ov=y.ov∧x.adj=y.adj∧x.pre=y.pre:=by simp[pL]
def TG(w:World)(v:Value)(x:La)(h:eU w v x):Calls prog 9 #[v] w fun e w'=>e= .returned (.bool (Wq x))∧cI w w':=by
 obtain⟨A,c,B,d,rfl,_,_,h1,h2,h3,h4,_⟩:=h;unfold maxLen at h2 h4;have b:=cQ w (Wf x.o x.s x.a x.ov A x.adj.length c B x.pre.length d);have S:=fq.new w #[x.o,x.s,x.a,x.ov,.slice A x.adj.length c,.slice B x.pre.length d] 41;obtain⟨-,-,-,-,c4,c5⟩:=S.b6;clear S;unfold Wq;generalize x.adj.length=n at *;generalize x.pre.length=m at *
 by_cases h300:n≤300
 ·rw[eo h300,gi];go_in;go_wp2;go_ret;exact⟨fg (by rw[ga];simp;omega),b⟩
 ·rw[eI h300,gU];go_in;go_wp2;go_ret;exact⟨rfl,b⟩
def Nz(z:Int)(w:World):Calls prog 182 #[z] w fun e w'=>e= .returned (.int .i64 (kU z 0))∧w=w':=by
 by_cases h1:z<0
 ·have e:kU z 0= -1:=by unfold kU;rw[cR h1]
  rw[e];clear e;go_in;go_wp2;go_ret;exact⟨rfl,rfl⟩
 ·by_cases h2:0<z
  ·have e:kU z 0=1:=by unfold kU;rw[cN h1,cR h2]
   rw[e];clear e;go_in;go_wp2;go_ret;exact⟨rfl,rfl⟩
  ·have e:kU z 0=0:=by unfold kU;rw[cN h1,cN h2]
   rw[e];clear e;go_in;go_wp2;go_ret;exact⟨rfl,rfl⟩
def Gs(o s a:Int)(ov:Bool)(j:List Ad)(pre:List Pf)(A:cG)(n c:Nat)(B:cG)(m d:Nat)
  (o' s' a':Int) (l:Bool) (g:List Ad) (f:List Pf) (A':cG) (n' c':Nat) (B':cG) (m' d':Nat) (w:World)
  (hn:j.length=n) (hm:pre.length=m) (hA:Rd w A (jN j)) (hB:Rd w B (jU pre)) (p:g.length=n') (q:f.length=m') (L:Rd w A' (jN g)) (K:Rd w B' (jU f))
  (b1:n≤9223372036854775807) (b2:m≤9223372036854775807) (b3:n'≤9223372036854775807) (b4:m'≤9223372036854775807) :
  Calls prog 108 #[ig o s a ov A n c B m d,ig o' s' a' l A' n' c' B' m' d'] w fun e w'=>e= .returned (.bool (pL ⟨o,s,a,ov,j,pre⟩ ⟨o',s',a',l,g,f⟩))∧cI w w':=by
 have S:=((((((St.start w).read K).read L).read hB).read hA).nw #[o,s,a,ov,.slice A n c,.slice B m d] 41 w).nw #[o',s',a',l,.slice A' n' c',.slice B' m' d'] 41 (w.heap.size+1);clear hA hB L K;obtain⟨R,hR⟩:=ex (pL ⟨o,s,a,ov,j,pre⟩ ⟨o',s',a',l,g,f⟩)
 rw[hR];have hF:(¬(ov=l∧j=g∧pre=f))→R=false:=fun h=>by
  rw[←hR];cases hb:pL ⟨o,s,a,ov,j,pre⟩ ⟨o',s',a',l,g,f⟩with
  |false=>rfl
  |true=>exact absurd (wW.1 hb) h
 have hT:(ov=l∧j=g∧pre=f)→R=true:=fun h=>by rw[←hR];exact wW.2 h
 clear hR;change Hid _ at hF hT
 by_cases e1:ov=l
 rotate_left
 ·have I:=S.b;have c3:=S.c 1 3 rfl rfl;have d3:=S.c 0 3 rfl rfl;obtain rfl:=hF.out (fun h=>e1 h.1);clear hn p hm q;cases ov
  all_goals
   cases l
   all_goals
    first
    |exact absurd rfl e1
    | (clear e1
       go_in;go_wp2;go_ret;exact ⟨rfl,I⟩)
 subst e1;have I:=S.b;have c3:=S.c 1 3 rfl rfl;have d3:=S.c 0 3 rfl rfl;have c4:=S.c 1 4 rfl rfl;have d4:=S.c 0 4 rfl rfl
 by_cases e2:n=n'
 rotate_left
 ·obtain rfl:=hF.out (fun h=>e2 (by rw[←hn,←p,h.2.1]));have N:((n:Int) !=(n':Int))=true:=by simp;omega
  clear e2 hn p hm q;go_in;go_wp2;go_ret;exact⟨rfl,I⟩
 subst e2;have c5:=S.c 1 5 rfl rfl;have d5:=S.c 0 5 rfl rfl
 by_cases e3:m=m'
 rotate_left
 ·obtain rfl:=hF.out (fun h=>e3 (by rw[←hm,←q,h.2.2]));have M:((m:Int) !=(m':Int))=true:=by simp;omega
  clear e3 hn p hm q;go_in;go_wp2;go_ret;exact⟨rfl,I⟩
 subst e3;change Hid _ at hn hm p q;go_in;go_wp2_with fail;clear I c3 d3 c4 d4 c5 d5;generalize (w.alloc (.cells #[o,s,a,ov,.slice A n c,.slice B m d] 41)).alloc (.cells #[o',s',a',ov,.slice A' n c',.slice B' m d'] 41)=w1 at *;go_loopw [5] (fun v5 wr=>∃k:Nat,v5= .int .i64 k∧k≤n∧Hid (j.take k=g.take k)∧St w wr [(w.heap.size+1,[o',s',a',ov,.slice A' n c',.slice B' m d']),(w,[o,s,a,ov,.slice A n c,.slice B m d])] [(A,jN j),(B,jU pre),(A',jN g),(B',jU f)]) (fun v5 _=>n - (intOf v5).toNat)
 case atStart=>exact⟨0,rfl,by omega,rfl,S⟩
 case round=>
  clear S;obtain⟨k,rfl,hk,E,S⟩:=hrel;have c4:=S.c 1 4 rfl rfl;have d4:=S.c 0 4 rfl rfl
  by_cases hkn:k<n
  ·have G:k<j.length:=by have:=hn.out;omega
   have t:k<g.length:=by have:=p.out;omega
   obtain⟨b,off,rfl,hc⟩:=se (S.r 0 rfl) (by omega);obtain⟨b',J,rfl,H⟩:=se (S.r 2 rfl) (by omega);obtain⟨x0,x1,x2⟩:=hc k G;obtain⟨y0,y1,y2⟩:=H k t;have v:=cT G;have u:=cT t;have z:j[k]≠g[k]→R=false:=fun h=>hF (fun h2=>h (by have:=h2.2.1;subst this;rfl))
   clear hc H;generalize j[k]=x at *;generalize g[k]=y at *;obtain⟨p0,p1,p2⟩:=x;obtain⟨q0,q1,q2⟩:=y;simp only at x0 x1 x2 y0 y1 y2;have NE:=fun W=>Pg W (p0,p1,p2) (q0,q1,q2)
   have hG:=AM
   by_cases e:(p0,p1,p2)=(q0,q1,q2)
   ·have D:Hid (j.take (k+1)=g.take (k+1)):=by show _=_;rw[v,u,E.out,e]
    rw[eo e]at NE;clear v u z e;go_wp2_with fail;go_quiet (fail);go_wp2;go_round
    case rel=>exact⟨k+1,by go_num,by omega,D,S.drewN nq⟩
    case measure=>simp[intOf];omega
   ·obtain rfl:=z e;rw[eI e]at NE;clear v u z e;go_wp2_with fail;go_quiet (fail);go_wp2;go_ret;exact⟨rfl,below_drewN S.b nq⟩
  ·obtain rfl:k=n:=by omega
   have C:j=g:=by
    have:=E.out
    rwa[dn (by have:=hn.out;omega),dn (by have:=p.out;omega)]at this
   replace C:=φ C;go_wp2_with fail;clear c4 d4;go_loopw [6] (fun v5 wr=>∃i:Nat,v5= .int .i64 i∧i≤m∧Hid (pre.take i=f.take i)∧St w wr [(w.heap.size+1,[o',s',a',ov,.slice A' k c',.slice B' m d']),(w,[o,s,a,ov,.slice A k c,.slice B m d])] [(A,jN j),(B,jU pre),(A',jN g),(B',jU f)]) (fun v5 _=>m - (intOf v5).toNat)
   case atStart=>exact⟨0,rfl,by omega,rfl,S⟩
   case round=>
    clear S;obtain⟨i,rfl,hi,E,S⟩:=hrel;have c5:=S.c 1 5 rfl rfl;have d5:=S.c 0 5 rfl rfl
    by_cases him:i<m
    ·have G:i<pre.length:=by have:=hm.out;omega
     have t:i<f.length:=by have:=q.out;omega
     obtain⟨b,off,rfl,hc⟩:=yz (S.r 1 rfl) (by omega);obtain⟨b',J,rfl,H⟩:=yz (S.r 3 rfl) (by omega);obtain⟨x0,x1⟩:=hc i G;obtain⟨y0,y1⟩:=H i t;have v:=cT G;have u:=cT t;have z:pre[i]≠f[i]→R=false:=fun h=>hF (fun h2=>h (by have:=h2.2.2;subst this;rfl))
     clear hc H;generalize pre[i]=x at *;generalize f[i]=y at *;obtain⟨p0,p1⟩:=x;obtain⟨q0,q1⟩:=y;simp only at x0 x1 y0 y1;have NE:=fun W=>Pe W (p0,p1) (q0,q1)
     have hG:=Fx
     by_cases e:(p0,p1)=(q0,q1)
     ·have D:Hid (pre.take (i+1)=f.take (i+1)):=by show _=_;rw[v,u,E.out,e]
      rw[eo e]at NE;clear v u z e;go_wp2_with fail;go_quiet (fail);go_wp2;go_round
      case rel=>exact⟨i+1,by go_num,by omega,D,S.drewN nq⟩
      case measure=>simp[intOf];omega
     ·obtain rfl:=z e;rw[eI e]at NE;clear v u z e;go_wp2_with fail;go_quiet (fail);go_wp2;go_ret;exact⟨rfl,below_drewN S.b nq⟩
    ·obtain rfl:i=m:=by omega
     have F:pre=f:=by
      have:=E.out
      rwa[dn (by have:=hm.out;omega),dn (by have:=q.out;omega)]at this
     obtain rfl:=hT.out (by first|exact⟨rfl,C,F⟩|exact⟨trivial,C,F⟩);clear F;go_wp2;go_ret;exact⟨rfl,S.b⟩
def oD(w:World)(v u:Value)(x y:La)(hx:eU w v x)(hy:eU w u y):Calls prog 108 #[v,u] w fun e w'=>e= .returned (.bool (pL x y))∧cI w w':=by
 obtain⟨A,c,B,d,rfl,rA,rB,h1,h2,h3,h4,_⟩:=hx;obtain⟨A',c',B',d',rfl,b,a,i,g,h,f,_⟩:=hy;unfold maxLen at h2 h4 g f;exact Gs _ _ _ _ _ _ _ _ _ _ _ _ _ _ _ _ _ _ _ _ _ _ _ _ w rfl rfl rA rB rfl rfl b a (by omega) (by omega) (by omega) (by omega)
def kS(x y:La):Bool:=(x.o==y.o)&& ((x.s==y.s)&& (((x.a==3600)==(y.a==3600))&&pL x y))
def Mc(x y:La):Bool:=kS x y&& (x.a==y.a)
def iH(x:La):La:=⟨x.o,x.s,3600,false,[],[]⟩
def sO(w:World)(v u:Value)(x y:La)(hx:eU w v x)(hy:eU w u y):Calls prog 62 #[v,u] w fun e w'=>e= .returned (.bool (kS x y))∧cI w w':=by
 obtain⟨A,c,B,d,hv,_⟩:=id hx;obtain⟨A',c',B',d',hu,_⟩:=id hy;subst hv hu;have S:=((St.start w).nw #[x.o,x.s,x.a,x.ov,.slice A x.adj.length c,.slice B x.pre.length d] 41 w).nw #[y.o,y.s,y.a,y.ov,.slice A' y.adj.length c',.slice B' y.pre.length d'] 41 (w.heap.size+1);have CO:=oD _ _ _ x y (hx.below S.b) (hy.below S.b);have f:=S.b;have c0:=(S.box 1 rfl).b6;have d0:=(S.box 0 rfl).b6;clear S hx hy;unfold kS;generalize pL x y=cb at *;generalize x.adj.length=n at *;generalize x.pre.length=m at *;generalize y.adj.length=n' at *;generalize y.pre.length=m' at *;replace CO:=φ CO;rcases h1:(x.o==y.o)with _|_
 ·go_in;go_wp2;go_ret;exact⟨rfl,f⟩
 rcases h2:(x.s==y.s)with _|_
 ·go_in;go_wp2;go_ret;exact⟨rfl,f⟩
 rcases h3:(x.a==3600)with _|_
 ·rcases h4:(y.a==3600)with _|_
  ·go_in;go_wp2_with fail;refine CO.out.mono ?_;rintro e w1 ⟨rfl,hb⟩;cases cb
   all_goals
    go_wp2;go_ret;exact⟨rfl,f.trans (hb.mono f.size)⟩
  ·go_in;go_wp2;go_ret;exact⟨rfl,f⟩
 ·rcases h4:(y.a==3600)with _|_
  ·go_in;go_wp2;go_ret;exact⟨rfl,f⟩
  ·go_in;go_wp2_with fail;refine CO.out.mono ?_;rintro e w1 ⟨rfl,hb⟩;cases cb
   all_goals
    go_wp2;go_ret;exact⟨rfl,f.trans (hb.mono f.size)⟩
def CV(w:World)(v u:Value)(x y:La)(hx:eU w v x)(hy:eU w u y):Calls prog 55 #[v,u] w fun e w'=>e= .returned (.bool (Mc x y))∧cI w w':=by
 obtain⟨A,c,B,d,hv,_⟩:=id hx;obtain⟨A',c',B',d',hu,_⟩:=id hy;subst hv hu;have S:=((St.start w).nw #[x.o,x.s,x.a,x.ov,.slice A x.adj.length c,.slice B x.pre.length d] 41 w).nw #[y.o,y.s,y.a,y.ov,.slice A' y.adj.length c',.slice B' y.pre.length d'] 41 (w.heap.size+1);have CO:=sO _ _ _ x y (hx.below S.b) (hy.below S.b);obtain⟨c0,c1,c2,c3,c4,c5⟩:=(S.box 1 rfl).b6;obtain⟨d0,d1,d2,d3,d4,d5⟩:=(S.box 0 rfl).b6;clear hx hy;unfold Mc;generalize kS x y=cb at *;generalize x.adj.length=n at *;generalize x.pre.length=m at *;generalize y.adj.length=n' at *;generalize y.pre.length=m' at *;replace CO:=φ CO;go_in;go_wp2_with fail;refine CO.out.mono ?_;rintro e w1 ⟨rfl,hb⟩;replace S:=S.call hb;clear c0 c1 c2 c3 c4 c5 d0 d1 d2 d3 d4 d5;have c2:=S.c 1 2 rfl rfl;have d2:=S.c 0 2 rfl rfl;cases cb
 all_goals
  go_wp2;go_ret;exact⟨rfl,S.b⟩
def HE(w:World)(v:Value)(x:La)(hx:eU w v x):Calls prog 152 #[v] w fun e w'=>e= .returned (ig x.o x.s 3600 false none 0 0 none 0 0)∧cI w w':=by
 obtain⟨A,c,B,d,rfl,_⟩:=hx;have S:=((St.start w).nw #[x.o,x.s,x.a,x.ov,.slice A x.adj.length c,.slice B x.pre.length d] 41 w).nw #[x.o,x.s,.int .i64 3600,false,sn,sn] 41 (w.heap.size+1);have f:=S.b;have c0:=(S.box 1 rfl).b2;have d0:=(S.box 0 rfl).b6;go_in;go_wp2;exact dc (v:=ig x.o x.s 3600 false none 0 0 none 0 0) (by simp[results,results152,go_sem,d0]) rfl ⟨rfl,f⟩
def K8(w:World)(base:Nat)(x:La):fh w base (ig x.o x.s 3600 false none 0 0 none 0 0) (iH x) :=
 ⟨none,0,none,0,rfl,cn,cn,by simp[iH]⟩
def Lz(w:World)(v u:Value)(x y:La)(hx:eU w v x)(hy:eU w u y):Calls prog 122 #[v,u] w fun e w'=>e= .returned (.bool (kS x y))∧cI w w':=by
 obtain⟨A,c,B,d,rfl,rA,rB,h1,h2,h3,h4,_⟩:=hx;obtain⟨A',c',B',d',rfl,j,i,F,t,E,r,_⟩:=hy;unfold maxLen at h2 h4 t r;have S:=((((((St.start w).read i).read j).read rB).read rA).nw #[x.o,x.s,x.a,x.ov,.slice A x.adj.length c,.slice B x.pre.length d] 41 w).nw #[y.o,y.s,y.a,y.ov,.slice A' y.adj.length c',.slice B' y.pre.length d'] 41 (w.heap.size+1);have SA:=fun W (hb:cI w W)=>RJ W A A' _ c _ c' x.adj y.adj (rA.below hb) (j.below hb) rfl rfl (by omega)
 have SP:=fun W (hb:cI w W)=>Jl W B B' _ d _ d' x.pre y.pre (rB.below hb) (i.below hb) rfl rfl (by omega)
 have c0:=(S.box 1 rfl).b6;have d0:=(S.box 0 rfl).b6;clear rA rB j i;unfold kS pL;generalize decide (x.adj=y.adj)=ra at *;generalize decide (x.pre=y.pre)=rp at *;generalize x.adj.length=n at *;generalize x.pre.length=m at *;generalize y.adj.length=n' at *;generalize y.pre.length=m' at *;obtain⟨o,s,a,ov,G,pre⟩:=x;obtain⟨o',s',a',k,D,C⟩:=y;simp only at *;change Hid _ at SA SP;have f:=S.b
 by_cases h1:o=o'
 rotate_left
 ·have e1:(o==o')=false:=by simpa using h1
  have e2:(o !=o')=true:=by simpa using h1
  rw[e1];clear h1;go_in;go_wp2;go_ret;exact⟨rfl,f⟩
 by_cases h2:s=s'
 rotate_left
 ·have e1:(s==s')=false:=by simpa using h2
  have e2:(s !=s')=true:=by simpa using h2
  rw[e1];subst h1;clear h2;rw[gU,Up];go_in;go_wp2;go_ret;exact⟨rfl,f⟩
 subst h1 h2;rw[rh,rh,gi,gi];obtain⟨pa,p⟩:=ex (a==3600)
 obtain⟨pb,l⟩:=ex (a'==3600)
 rw[p,l]
 by_cases h3:ov=k
 rotate_left
 ·have e1:(ov==k)=false:=by simpa using h3
  rw[e1,gU,Up];clear e1;cases ov
  all_goals
   cases k
   all_goals
    first
    |exact absurd rfl h3
    | (clear h3
       go_in;go_wp2;go_ret;exact ⟨rfl,f⟩)
 subst h3;rw[rh,gi]
 by_cases h4:pa=pb
 rotate_left
 ·have e1:(pa==pb)=false:=by simpa using h4
  rw[e1,gU];clear e1;cases pa
  all_goals
   cases pb
   all_goals
    first
    |exact absurd rfl h4
    | (clear h4
       go_in;go_wp2;go_ret;exact ⟨rfl,f⟩)
 subst h4;rw[rh,gi];have h:=SA.out _ f;replace h:=φ h;go_in;go_wp2_with fail;refine h.out.mono ?_;rintro e w2 ⟨rfl,hb⟩;replace S:=S.call hb;clear c0 d0 h;have c5:=S.c 1 5 rfl rfl;have d5:=S.c 0 5 rfl rfl;have g:=SP.out _ S.b;replace g:=φ g;cases ra with
 |false=>
   go_wp2;go_ret;exact⟨rfl,S.b⟩
 |true=>
   go_wp2_with fail;refine g.out.mono ?_;rintro e w3 ⟨rfl,q⟩;replace S:=S.call q;clear c5 d5 g;go_wp2;go_ret;exact⟨rfl,S.b⟩
structure oG (W0 w:World) (x:La) (vA vB:Value):Prop where
 b:cI W0 w
 box:fq w W0 [x.o,x.s,x.a,x.ov,vA,vB]
 oA:w.ownsRow (W0.heap.size+1) 169 3 vA x.adj.length (jN x.adj)
 oB:w.ownsRow (W0.heap.size+1) 181 2 vB x.pre.length (jU x.pre)
 u:∀p∈x.pre,p.1<4294967296
def FJ{w:World}{base:Nat}{e:TypeId}{size:Nat}{v:Value}{n:Nat}{xs:cH}(h:w.ownsRow base e size v n xs){g:Nat}(hg:w≤g):v.ownBlock≠some g:=fun e=>by
 have:=(h.lt g e).2;omega
section
variable {W0 w w' w1 w2:World} {x:La} {vA vB:Value} {g:Nat} {bs:List UInt8}
def oG.call(h:oG W0 w x vA vB)(hb:cI w w'):oG W0 w' x vA vB :=
 ⟨h.b.trans (hb.mono h.b.size),h.box.later hb,dg h.oA hb,dg h.oB hb,h.u⟩
def oG.drew(h:oG W0 w x vA vB):oG W0 w.drew x vA vB:=⟨h.b.drew,h.box,h.oA,h.oB,h.u⟩
def oG.iX(h:oG W0 w x vA vB)(hg:W0<g)(hA:vA.ownBlock≠some g)(hB:vB.ownBlock≠some g)(u:Value):oG W0 (w.setCell ⟨g,0,none⟩ u) x vA vB :=
 ⟨h.b.setCell (p:=⟨g,0,none⟩) (iR hg) u,h.box.iX u (by simp only;omega),h.oA.kept (dk w g 0 u) (.inr hA),h.oB.kept (dk w g 0 u) (.inr hB),h.u⟩
def oG.start(W:World):oG W (W.alloc (.cells #[.int .i64 0,.int .i64 0,.int .i64 0,false,.slice none 0 0,.slice none 0 0] 41)) dT (.slice none 0 0) (.slice none 0 0) :=
 ⟨cQ W _,fq.new W #[i0,i0,i0,false,sn,sn] _,cn,cn,by simp[dT]⟩
def oG.head(h:oG W0 w x vA vB)(o s a:Int)(ov:Bool) :
  oG W0 ((((w.setCell ⟨W0,0,none⟩ (.int .i64 o)).setCell ⟨W0,1,none⟩ (.int .i64 s)).setCell ⟨W0,2,none⟩ (.int .i64 a)).setCell ⟨W0,3,none⟩ (.bool ov)) { x with o:=o,s:=s,a:=a,ov:=ov } vA vB:=by
 have k:∀(w:World) (v:Value) (j:Nat) (u:Value) {e:TypeId} {sz n:Nat} {xs:cH},w.ownsRow (W0.heap.size+1) e sz v n xs→(w.setCell ⟨W0,j,none⟩ u).ownsRow (W0.heap.size+1) e sz v n xs :=
  fun w v j u _ _ _ _ h=>cV h (il _) u
 have hb:=h.box;refine⟨(((h.b.setCell (p:=⟨_,_,none⟩) cj _).setCell (p:=⟨_,_,none⟩) cj _).setCell (p:=⟨_,_,none⟩) cj _).setCell (p:=⟨_,_,none⟩) cj _,?_,k _ _ _ _ (k _ _ _ _ (k _ _ _ _ (k _ _ _ _ h.oA))),k _ _ _ _ (k _ _ _ _ (k _ _ _ _ (k _ _ _ _ h.oB))),h.u⟩
 exact(((hb.set 0 (.int .i64 o) (by simp)).set 1 (.int .i64 s) (by simp)).set 2 (.int .i64 a) (by simp)).set 3 (.bool ov) (by simp)
def oG.Zi(h:oG W0 w x vA vB)(hb:cI w w1){a:Value}(z:Ad)(ho:w2.ownsRow (W0.heap.size+1) 169 3 a (x.adj.length+1) (jN x.adj++ [.int .i64 z.1,.int .i64 z.2.1,.int .i64 z.2.2]))(hg:w1.grownBy w2 vA.ownBlock) :
  oG W0 (w2.setCell ⟨W0.heap.size,4,none⟩ a) { x with adj:=x.adj++ [z] } a vB:=by
 have h1:=h.call hb;have c:vA.ownBlock≠some W0.heap.size:=fun e=>by have:=(h1.oA.lt _ e).1;omega
 have k1:=h1.box.kept hg (fun e=>c e.symm) (by simp);refine⟨(kP h1.b h1.oA hg (by omega) h1.b.size).setCell (p:=⟨_,_,none⟩) cj _,?_,?_,?_,h.u⟩
 ·exact k1.set 4 a (by simp)
 ·rw[vC,cX];exact cV ho (il _) _
 ·exact cV (h1.oB.kept hg (nS h1.oB h1.oA (by decide))) (il _) _
def oG.Zh(h:oG W0 w x vA vB)(hb:cI w w1){a:Value}(z:Pf)(hz:z.1<4294967296)(ho:w2.ownsRow (W0.heap.size+1) 181 2 a (x.pre.length+1) (jU x.pre++ [.int .u32 (z.1:Int),.int .i64 z.2]))(hg:w1.grownBy w2 vB.ownBlock) :
  oG W0 (w2.setCell ⟨W0.heap.size,5,none⟩ a) { x with pre:=x.pre++ [z] } vA a:=by
 have h1:=h.call hb;have c:vB.ownBlock≠some W0.heap.size:=fun e=>by have:=(h1.oB.lt _ e).1;omega
 have k1:=h1.box.kept hg (fun e=>c e.symm) (by simp);refine⟨(kP h1.b h1.oB hg (by omega) h1.b.size).setCell (p:=⟨_,_,none⟩) cj _,?_,?_,?_,?_⟩
 ·exact k1.set 5 a (by simp)
 ·exact cV (h1.oA.kept hg (nS h1.oA h1.oB (by decide))) (il _) _
 ·rw[HU,cX];exact cV ho (il _) _
 ·intro p hp;rcases eZ.1 hp with hp|hp
  ·exact h.u p hp
  ·obtain rfl:=ew.1 hp;exact hz
structure GW (W0 w:World) (x:La) (vA vB:Value) (g:Nat) (bs:List UInt8):Prop where
 acc:oG W0 w x vA vB
 tak:∃X m c,Uh w g bs X m c
 lt:W0<g
 fA:vA.ownBlock≠some g
 fB:vB.ownBlock≠some g
def GW.drew(h:GW W0 w x vA vB g bs):GW W0 w.drew x vA vB g bs:=by
 obtain⟨h1,⟨X,m,c,t⟩,h2,h3,h4⟩:=h;exact⟨h1.drew,⟨X,m,c,t.cel,t.frz,t.rd,t.len,t.mc,t.cm,t.iX⟩,h2,h3,h4⟩
def mi(w:World)(z:Int)(k:Nat)(hz:z=k)(hk:k≤4)(q:Nat)(a:List UInt8)(hq:ux (bs.take k)=q)(hb:bs.drop k=a)(h:GW W0 w x vA vB g bs) :
  Calls prog 160 #[z,.pointer (some ⟨g,0,none⟩)] w fun e w'=>e= .returned (.int .i64 q)∧GW W0 w' x vA vB g a:=by
 subst hz hq hb;obtain⟨h1,⟨X,m,c,t⟩,h2,h3,h4⟩:=h;refine(Ni w g bs X m c k t hk).mono ?_;rintro e w' ⟨he,rfl,ht⟩;exact⟨he,h1.iX h2 h3 h4 _,⟨_,_,_,ht⟩,h2,h3,h4⟩
def GW.start(h:oG W0 w x vA vB)(r:Rc){base:Nat}(hr:gK w base 5 r)(t1 t2:TypeId) :
  GW W0 ((w.alloc (.cells #[r.t,.slice r.A r.n r.c] t1)).alloc (.cells #[.slice r.A r.n r.c] t2)) x vA vB (w.heap.size+1) r.bs:=by
 have g:=cQ w (.cells #[r.t,.slice r.A r.n r.c] t1);have d:=g.trans ((cQ (w.alloc (.cells #[r.t,.slice r.A r.n r.c] t1)) (.cells #[.slice r.A r.n r.c] t2)).mono g.size);have hs:=h.b.size;have a:=(hr.below d).ok;have bx:=fq.new (w.alloc (.cells #[r.t,.slice r.A r.n r.c] t1)) #[.slice r.A r.n r.c] t2;rw[fD]at bx;refine⟨h.call d,⟨r.A,r.n,r.c,bx.c 0 rfl,bx.f 0 rfl,a.rd,a.len,a.nc,a.cm,?_⟩,by omega,FJ h.oA (by omega),FJ h.oB (by omega)⟩
 intro ad e;rcases hr.2 with ⟨e2,_⟩|⟨g',cap,cur,e2,_,hh,_⟩
 ·rw[e]at e2;cases e2
 ·rw[e]at e2;simp only[dp,dB]at e2;obtain⟨rfl,_⟩:=e2;have:=(df.1 hh).1;simp only;omega
end
def II(A B:cG)(n m c d:Nat)(xs bs:List UInt8)(w:World)(ha:Bs w A xs)(hb:Bs w B bs)(hn:xs.length=n)(hm:bs.length=m) :
  Calls prog 161 #[.slice A n c,.slice B m d] w fun e w'=>e= .returned (.bool (decide (xs=bs)))∧w=w':=by
 have cv:=lI (P:=prog) w (src:=89) (dst:=9) (e:=5) underlying89 underlying5 underlying9 (cap:=c) ha hn;have a:=lI (P:=prog) w (src:=89) (dst:=9) (e:=5) underlying89 underlying5 underlying9 (cap:=d) hb hm;clear ha hb hn hm;go_in;go_wp2;go_ret;exact⟨fg (by rw[ga];simp),rfl⟩
end Go.Proofs.YtehimhbgakpenaaGreat
