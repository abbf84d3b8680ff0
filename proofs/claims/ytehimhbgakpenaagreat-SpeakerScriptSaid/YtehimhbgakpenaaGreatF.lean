/- Lemmas. -/
import Derived.Deep.DeepCutAuto
import Derived.Deep.CutBlock
import Derived.Test.YtehimhbgakpenaaGreatE
set_option linter.all false
set_option maxRecDepth 100000
set_option maxHeartbeats 16000000
namespace Go.Proofs.YtehimhbgakpenaaGreat
open Go.RowKit Go.Maps Go.Sort Go.Proofs.Tryz
structure Lk where
 a:Int
 b:Int
 c:Int
 d:Int
 cap:Int
 del:Int
 grp:Int
def MG(x:Lk):cH:=[x.a,x.b,x.c,x.d,x.cap,x.del,x.grp]
def fw:List Lk→cH
 | []=>[]
 |x :: l=>MG x++fw l
def iw(l:List Bool):cH:=l.map .bool
structure Tp where
 n:Int
 ov:List Bool
 ln:List Lk
abbrev EA(n:Int)(A:cG)(k c:Nat)(B:cG)(m d:Nat):Value:=.agg #[n,.slice A k c,.slice B m d]
def js(w:World)(v:Value)(t:Tp):Prop:=∃A c B d,v=EA t.n A t.ov.length c B t.ln.length d∧Rd w A (iw t.ov)∧Rd w B (fw t.ln)∧t.ov.length≤maxLen∧t.ln.length≤maxLen
def js.below{w w':World}{v:Value}{t:Tp}(h:js w v t)(hb:cI w w'):js w' v t:=by
 obtain⟨A,c,B,d,rfl,h1,h2,h3⟩:=h;exact⟨A,c,B,d,rfl,h1.below hb,h2.below hb,h3⟩
def fK(l:List Lk):(fw l).length=l.length*7:=by
 induction l with
 |nil=>rfl
 |cons r l ih=>simp only[fw,MG,cX,List.length_cons,List.length_nil,ih];omega
def fN(l:List Bool):(iw l).length=l.length:=by simp[iw]
def yD(a b:List Lk):fw (a++b)=fw a++fw b:=by
 induction a with
 |nil=>rfl
 |cons r a ih=>simp only[List.cons_append,fw,ih,dI]
def Tm(x:Lk):∀u∈MG x,u.oneCell'=true:=by
 intro u hu;simp only[MG,dA,eF,ik]at hu;rcases hu with rfl|rfl|rfl|rfl|rfl|rfl|rfl<;>rfl
def FZ(l:List Lk):∀u∈fw l,u.oneCell'=true:=by
 induction l with
 |nil=>simp[fw]
 |cons r l ih=>
   intro u hu;simp only[fw,eZ]at hu;rcases hu with hu|hu
   ·exact Tm r u hu
   ·exact ih u hu
def TZ(l:List Bool):∀u∈iw l,u.oneCell'=true:=by
 intro u hu;obtain⟨b,_,rfl⟩:=dL.1 hu;rfl
def F0(l:List Lk):∀(k:Nat) (hk:k<l.length) (j:Nat) (hj:j<7),(fw l)[7*k+j]?=(MG l[k])[j]?:=by
 induction l with
 |nil=>intro k hk;simp at hk
 |cons r l ih=>
   intro k hk j hj;have h8:(MG r).length=7:=rfl;cases k with
   |zero=>simp only[fw,List.getElem_cons_zero];rw[eP (by omega)];simp
   |succ k=>
     simp only[fw,List.getElem_cons_succ];rw[dY (by omega),h8,show 7*(k+1)+j - 7=7*k+j by omega];exact ih k (by simpa using hk) j hj
structure Zp (w:World) (b o:Nat) (x:Lk):Prop where
 c0:w.cell? ⟨b,o,none⟩=some (.int .i64 x.a)
 c1:w.cell? ⟨b,o+1,none⟩=some (.int .i64 x.b)
 c2:w.cell? ⟨b,o+2,none⟩=some (.int .i64 x.c)
 c3:w.cell? ⟨b,o+2+1,none⟩=some (.int .i64 x.d)
 c3':w.cell? ⟨b,o+3,none⟩=some (.int .i64 x.d)
 c4:w.cell? ⟨b,o+4,none⟩=some (.int .i64 x.cap)
 c5:w.cell? ⟨b,o+5,none⟩=some (.int .i64 x.del)
 c6:w.cell? ⟨b,o+6,none⟩=some (.int .i64 x.grp)
def sR{w:World}{A:cG}{l:List Lk}(h:Rd w A (fw l))(hn:0<l.length) :
  ∃b off,A=some ⟨b,off,none⟩∧ ∀k (hk:k<l.length),Zp w b (off+k*7) l[k]:=by
 obtain⟨b,off,e,hc⟩:=gE h (by rw[fK];omega);have key:∀k (hk:k<l.length) j (u:Value),j<7→(MG l[k])[j]?=some u→Cv w b (off+k*7+j) u:=fun k hk j u hj hu=>by
  rw[iS];exact hc _ _ (by rw[gl k 7,F0 l k hk j hj];exact hu)
 exact⟨b,off,e,fun k hk=>⟨key k hk 0 _ (by omega) rfl,key k hk 1 _ (by omega) rfl,key k hk 2 _ (by omega) rfl,key k hk 3 _ (by omega) rfl,key k hk 3 _ (by omega) rfl,key k hk 4 _ (by omega) rfl,key k hk 5 _ (by omega) rfl,key k hk 6 _ (by omega) rfl⟩⟩
def zJ{w:World}{A:cG}{l:List Bool}(h:Rd w A (iw l))(hn:0<l.length) :
  ∃b off,A=some ⟨b,off,none⟩∧ ∀k (hk:k<l.length),w.cell? ⟨b,off+k,none⟩=some (.bool l[k]):=by
 obtain⟨b,off,e,hc⟩:=gE h (by rw[fN];omega);exact⟨b,off,e,fun k hk=>hc k _ (by simp[iw,cM hk])⟩
structure sC (n:Int) (x:Lk):Prop where
 a:0≤x.a∧x.a<n
 b:0≤x.b∧x.b<n
 ne:x.a≠x.b
 c:1≤x.c∧x.c≤65535
 d:1≤x.d∧x.d≤65535
 cap:0≤x.cap∧x.cap≤1048576
 del:1≤x.del∧x.del≤65536
 grp:0≤x.grp∧x.grp≤64
structure mE (t:Tp):Prop where
 n:1≤t.n∧t.n≤64
 ov:t.ov.length=0∨(t.ov.length:Int)=t.n
 ln:t.ln.length≤256
 all:∀x∈t.ln,sC t.n x
open Classical in
noncomputable def tB(t:Tp):Bool:=decide (mE t)
open Classical in
def Vl{t:Tp}(h:mE t):tB t=true:=by unfold tB;exact eo h
open Classical in
def Xs{t:Tp}(h:¬mE t):tB t=false:=by unfold tB;exact eI h
def Nj{t:Tp}:tB t=true↔mE t:=by unfold tB;simp
def lM(n l m:Int)(w:World):Calls prog 72 #[n,l,m] w fun e w'=>e= .returned (.bool (jI n l m))∧w=w':=by
 by_cases h1:l≤n
 ·have e:jI n l m=decide (n≤m):=by simp[jI,h1]
  rw[e];clear e;go_in;go_wp2_with fail
  all_goals (first|done|go_ret)
  all_goals exact⟨rfl,rfl⟩
 ·have e:jI n l m=false:=by simp[jI,h1]
  rw[e];clear e;go_in;go_wp2_with fail
  all_goals (first|done|go_ret)
  all_goals exact⟨rfl,rfl⟩
def jd(n l m:Int)(w:World):Calls prog 71 #[n,l,m] w fun e w'=>e= .returned (.bool (jI n l m))∧w=w':=by
 by_cases h1:l≤n
 ·have e:jI n l m=decide (n≤m):=by simp[jI,h1]
  rw[e];clear e;go_in;go_wp2_with fail
  all_goals (first|done|go_ret)
  all_goals exact⟨rfl,rfl⟩
 ·have e:jI n l m=false:=by simp[jI,h1]
  rw[e];clear e;go_in;go_wp2_with fail
  all_goals (first|done|go_ret)
  all_goals exact⟨rfl,rfl⟩
def Ls(n i:Int):Bool:=decide (0≤i)&&decide (i<n)
def Ux{n i:Int}(h:Ls n i=true):0≤i∧i<n:=by simpa[Ls]using h
def Uy{n i:Int}(h:Ls n i=false):¬(0≤i∧i<n):=fun h2=>by simp[Ls,h2.1,h2.2]at h
def zT(n i:Int)(u1 u2:Value)(h1:u1.oneCell'=true)(h2:u2.oneCell'=true)(w:World):Calls prog 32 #[.agg #[n,u1,u2],i] w fun e w'=>e= .returned (.bool (Ls n i))∧cI w w':=by
 have a:=cQ w (.cells #[n,u1,u2] 25);have S:=fq.new w #[n,u1,u2] 25;have c0:=S.c 0 rfl
 by_cases h1:0≤i
 ·have e:Ls n i=decide (i<n):=by simp[Ls,h1]
  rw[e];clear e S;go_in;go_wp2_with fail
  all_goals (first|done|go_ret)
  all_goals exact⟨rfl,a⟩
 ·have e:Ls n i=false:=by simp[Ls,h1]
  rw[e];clear e S;go_in;go_wp2_with fail
  all_goals (first|done|go_ret)
  all_goals exact⟨rfl,a⟩
def GA(n:Int)(u1:Value)(B:cG)(m d:Nat)(w:World)(hm:m≤1000000):Calls prog 75 #[.agg #[n,u1,.slice B m d]] w fun e w'=>e= .returned (.int .i64 ((2*m:Nat):Int))∧cI w w':=by
 have a:=cQ w (.cells #[n,u1,.slice B m d] 25);have S:=fq.new w #[n,u1,.slice B m d] 25;have c2:=S.c 2 rfl;clear S;go_in;go_wp2;go_ret;exact⟨by simp,a⟩
def Ua:iF prog 22 4 (.bool false) 1 1:=⟨underlying22,by kernel_rfl,rfl,by omega⟩
def YG:iF prog 23 79 (.agg #[.int .i64 0,.int .i64 0,.int .i64 0,.int .i64 0,.int .i64 0,.int .i64 0,.int .i64 0]) 7 56:=⟨underlying23,by kernel_rfl,rfl,by omega⟩
def Qq(w:World)(A:cG)(n c:Nat)(l:List Bool)(hr:Rd w A (iw l))(hn:l.length=n)(hb:n≤1000000) :
  Calls prog 73 #[.slice A n c] w (rf w 4 1 n (iw l)):=by
 rcases A with _|ad
 ·have h0:=hr.tW;rw[fN]at h0;obtain rfl:l= []:=dy (by omega);subst hn;have hE:=fun W=>gw W 22 4 none 0 c 0 0 underlying22
  go_in;go_wp2;go_ret;exact⟨none,0,rfl,cn,cy⟩
 ·have hl:(iw l).length=n*1:=by rw[fN,hn];omega
  clear hn;have hE:=fun W=>gw W 22 4 (some ad) n c 0 0 underlying22
  go_in;go_wp2_with (at_builtin;refine dK rfl Ua (.tmp 5) (.tmp 6) rfl w rfl (lQ _ _ _) (m:=n) rfl hl (hr.below (cQ _ _)) (TZ l) (by simp only[maxLen];omega) (by omega) (by simp) n (iw l) (by omega) (by simp) ?_;intro v' w' ho a _ _);go_ret;obtain⟨A',c',rfl,_⟩:=dN ho;exact⟨A',c',rfl,ho,(cQ _ _).trans a⟩
def Qp(w:World)(A:cG)(n c:Nat)(l:List Lk)(hr:Rd w A (fw l))(hn:l.length=n)(hb:n≤1000000) :
  Calls prog 74 #[.slice A n c] w (rf w 79 7 n (fw l)):=by
 rcases A with _|ad
 ·have h0:=hr.tW;rw[fK]at h0;obtain rfl:l= []:=dy (by omega);subst hn;have hE:=fun W=>gw W 23 79 none 0 c 0 0 underlying23
  go_in;go_wp2;go_ret;exact⟨none,0,rfl,cn,cy⟩
 ·have hl:(fw l).length=n*7:=by rw[fK,hn]
  clear hn;have hE:=fun W=>gw W 23 79 (some ad) n c 0 0 underlying23
  go_in;go_wp2_with (at_builtin;refine dK rfl YG (.tmp 5) (.tmp 6) rfl w rfl (lQ _ _ _) (m:=n) rfl hl (hr.below (cQ _ _)) (FZ l) (by simp only[maxLen];omega) (by omega) (by simp) n (fw l) (by omega) (by simp) ?_;intro v' w' ho a _ _);go_ret;obtain⟨A',c',rfl,_⟩:=dN ho;exact⟨A',c',rfl,ho,(cQ _ _).trans a⟩
end Go.Proofs.YtehimhbgakpenaaGreat
namespace Go.Proofs.YtehimhbgakpenaaGreat
open Go.RowKit Go.ChangeShapes Go.WideShapes Go.ChangeAt Go.Proofs.Tryz
section
variable {P:Program} {w:World} {t:TypeId}
def H9{f0 f1 f2 f3 f4 f5:Field}{R:Int→cH→Prop}{R2:Int× Int→cH→Prop}
  (ht:P.underlying t=some (.struct #[f0,f1,f2,f3,f4,f5])) (o0:f0.offset=0) (o1:f1.offset=1) (o2:f2.offset=2) (o3:f3.offset=4) (o4:f4.offset=5) (o5:f5.offset=6)
  (c0:P.cellsOf f0.type=1) (c1:P.cellsOf f1.type=1) (c2:P.cellsOf f2.type=2) (c3:P.cellsOf f3.type=1) (c4:P.cellsOf f4.type=1) (c5:P.cellsOf f5.type=1) (hC:P.cellsOf t=7)
  (h0:fH P w f0.type R) (h1:fH P w f1.type R) (h2:fH P w f2.type R2) (h3:fH P w f3.type R) (h4:fH P w f4.type R) (h5:fH P w f5.type R) :
  fH P w t (fun(x:Int× Int×(Int× Int)× Int× Int× Int) cs=>∃v0 v1 v2 a v3 v4 v5,cs= [v0,v1,v2,a,v3,v4,v5]∧R x.1 [v0]∧R x.2.1 [v1]∧R2 x.2.2.1 [v2,a]∧R x.2.2.2.1 [v3]∧R x.2.2.2.2.1 [v4]∧R x.2.2.2.2.2 [v5]):=by
 intro H c base spare held fuel cs x hx;obtain⟨xs,n,_,_,b,hl,hi⟩:=mH ht hx;simp at hl;have e0:=hi 0 f0 rfl;have e1:=hi 1 f1 rfl;have e2:=hi 2 f2 rfl;have e3:=hi 3 f3 rfl;have e4:=hi 4 f4 rfl;have e5:=hi 5 f5 rfl;rw[cM (by omega)]at e0 e1 e2 e3 e4 e5;rw[hC]at b
 match cs,b with
 | [v0,v1,v2,a,v3,v4,v5],_=>
   rw[o0,c0]at e0;rw[o1,c1]at e1;rw[o2,c2]at e2;rw[o3,c3]at e3;rw[o4,c4]at e4;rw[o5,c5]at e5;obtain⟨p0,r0,_⟩:=h0 e0;obtain⟨p1,r1,_⟩:=h1 e1;obtain⟨p2,r2,_⟩:=h2 e2;obtain⟨p3,r3,_⟩:=h3 e3;obtain⟨p4,r4,_⟩:=h4 e4;obtain⟨p5,r5,_⟩:=h5 e5;exact⟨(p0,p1,p2,p3,p4,p5),⟨v0,v1,v2,a,v3,v4,v5,rfl,r0,r1,r2,r3,r4,r5⟩,by simp[hC]⟩
end
def XQ(x:Int× Int×(Int× Int)× Int× Int× Int):Lk:=⟨x.1,x.2.1,x.2.2.1.1,x.2.2.1.2,x.2.2.2.1,x.2.2.2.2.1,x.2.2.2.2.2⟩
def Vv{xs:List (Int× Int×(Int× Int)× Int× Int× Int)}:∀ {vs:cH},En (fun(x:Int× Int×(Int× Int)× Int× Int× Int) cs=>∃v0 v1 v2 a v3 v4 v5,cs= [v0,v1,v2,a,v3,v4,v5]∧lj .i64 x.1 [v0]∧lj .i64 x.2.1 [v1]∧Ka (lj .i64) (lj .i64) x.2.2.1 [v2,a]∧lj .i64 x.2.2.2.1 [v3]∧lj .i64 x.2.2.2.2.1 [v4]∧lj .i64 x.2.2.2.2.2 [v5]) 7 xs vs→vs=fw (xs.map XQ):=by
 induction xs with
 |nil=>intro vs h;exact h
 |cons x t ih=>
   rintro vs ⟨c,q,rfl,⟨a0,a1,a2,b,a3,a4,a5,rfl,⟨e0,_⟩,⟨e1,_⟩,⟨c1,c2,e2,⟨rfl,_⟩,⟨rfl,_⟩⟩,⟨e3,_⟩,⟨e4,_⟩,⟨e5,_⟩⟩,_,hr⟩;rw[ih hr];simp only[dJ,fv,List.cons_append,List.nil_append]at e0 e1 e2 e3 e4 e5;obtain⟨rfl,rfl⟩:=e2;subst e0 e1 e3 e4 e5;rfl
def Vw{xs:List Bool}:∀ {vs:cH},En Bh 1 xs vs→vs=iw xs:=by
 induction xs with
 |nil=>intro vs h;exact h
 |cons x t ih=>
   rintro vs ⟨c,q,rfl,h1,_,hr⟩;unfold Bh at h1;rw[ih hr,h1];rfl
def Zq(w:World)(x:Tp)(cs:cH):Prop:=js w (.agg cs.toArray) x∧cs.length=3
def O5(w:World):fH prog w 25 (Zq w):=by
 have OI:fH prog w 3 _:=iL (w:=w) underlying3 (by kernel_rfl);have OL:fH prog w 79 _:=H9 (w:=w) underlying79 rfl rfl rfl rfl rfl rfl (by kernel_rfl) (by kernel_rfl) (by kernel_rfl) (by kernel_rfl) (by kernel_rfl) (by kernel_rfl) (by kernel_rfl) OI OI (Ia underlying77 (by kernel_rfl) OI) OI OI OI;have O:fH prog w 25 _:=qe (w:=w) underlying25 rfl rfl rfl (by kernel_rfl) (by kernel_rfl) (by kernel_rfl) (by kernel_rfl) OI
  (lR underlying22 (by kernel_rfl) (vn underlying4 (by kernel_rfl))) (lR underlying23 (by kernel_rfl) OL)
 intro H e base spare held fuel cs x hx;obtain⟨⟨p0,xs,ys⟩,⟨v0,v1,v2,rfl,⟨e0,_⟩,⟨A,c,vs,e1,l1,l2,r1,b⟩,⟨B,d,us,e2,l3,l4,r2,a⟩⟩,hl⟩:=O hx;rw[show prog.cellsOf 4=1 from by kernel_rfl]at r1;rw[show prog.cellsOf 79=7 from by kernel_rfl]at r2;obtain rfl:=Vw r1;obtain rfl:=Vv r2;simp only[dJ,fv]at e0 e1 e2;subst e0 e1 e2;simp only at l1 l3 ⊢;refine⟨⟨p0,xs,ys.map XQ⟩,⟨⟨A,c,B,d,?_,b,a,cZ l1 l2,by simp only[dh];exact cZ l3 l4⟩,rfl⟩,hl⟩
 simp only[dh]
section
variable {H:Type} {enc:TypeId × Value → H} {w:World} {base:Nat} {spare:Nat → Bool} {held:Bool} {r:Reach} {b0:Nat} {v:Value} {d:DataW H} {ps:List MemPlace}
def WG(hv:Value.okWide prog w r b0 25 v)(h:DataW.Trod enc prog w base spare held 25 v d ps):∃x,js w v x:=by
 obtain⟨cs,x,rfl,hx,_⟩:=AH underlying25 (O5 w) hv h;exact⟨x,hx⟩
end
end Go.Proofs.YtehimhbgakpenaaGreat
namespace Go.Proofs.YtehimhbgakpenaaGreat
open Go.RowKit Go.Maps Go.Sort Go.Proofs.Tryz
def zm(w:World)(v:Value)(t:Tp)(h:js w v t):Calls prog 30 #[v] w fun e w'=>e= .returned (.bool (tB t))∧cI w w':=by
 obtain⟨A,c,B,d,rfl,rA,rB,h1,h2⟩:=h;have S:=((St.start w).read rB).nw #[t.n,.slice A t.ov.length c,.slice B t.ln.length d] 25 w;clear rA rB;have g:Hid (∀b,(b=true→mE t)→(b=false→ ¬mE t)→b=tB t):=fun b h1 h2=>by
  cases b with
  |true=>exact(Vl (h1 rfl)).symm
  |false=>exact(Xs (h2 rfl)).symm
 obtain⟨n,hn⟩:=ex t.n
 obtain⟨k,hk⟩:=ex t.ov.length
 obtain⟨m,hm⟩:=ex t.ln.length
 obtain⟨l,hl⟩:=ex t.ln
 have K:l.length=m:=by rw[←hl,hm]
 rw[hn,hk,hm,hl]at S;rw[hm]at h2;rw[hk]at h1;unfold maxLen at h1 h2;simp only[hn,hk,hm];change Hid _ at hn hk hm hl K;obtain⟨tb,P⟩:=ex (tB t)
 rw[P]at g ⊢;clear P;obtain⟨c0,c1,c2⟩:=(S.box 0 rfl).b3;go_in;go_wp2_with fail;refine (lM _ _ _ _).mono ?_;rintro e w1 ⟨rfl,rfl⟩;rcases s:jI n 1 64 with _|_
 ·have:=kC s;obtain rfl:=g.out false (fun h=>by cases h) (fun _ h=>by have h5:=h.n;rw[hn.out]at h5;omega);go_wp2;go_ret;exact⟨rfl,S.b⟩
 replace s:=φ (jH s)
 by_cases hl1:256<m
 ·obtain rfl:=g.out false (fun h=>by cases h) (fun _ h=>by have:=h.ln;rw[hm.out]at this;omega);go_wp2;go_ret;exact⟨rfl,S.b⟩
 by_cases hk0:k=0∨(k:Int)=n
 rotate_left
 ·obtain rfl:=g.out false (fun h=>by cases h) (fun _ h=>by have:=h.ov;rw[hk.out,hn.out]at this;exact hk0 this);have V:k≠0:=fun h=>hk0 (.inl h)
  have Q:(k:Int)≠n:=fun h=>hk0 (.inr h)
  have e1:((k:Int) !=0)=true:=by simp;omega
  have e2:((k:Int) !=n)=true:=by simp;exact Q
  clear hk0 V Q;go_wp2;go_ret;exact⟨rfl,S.b⟩
 have T:Hid (∀b,(b=true→ ∀x∈l,sC n x)→(b=false→ ¬ ∀x∈l,sC n x)→b=tb):=fun b h1 h2=>g.out b
  (fun h=>⟨by rw[hn.out];exact s.out,by rw[hk.out,hn.out];exact hk0,by rw[hm.out];omega,by rw[hl.out,hn.out];exact h1 h⟩)
  (fun h h3=>h2 h (by have:=h3.all;rwa[hl.out,hn.out]at this))
 have hcut:(k:Int)=0∨((k:Int)≠0∧(k:Int)=n):=by omega
 have hT:Hid (∀j (hj:j<l.length),j<0→sC n l[j]):=fun j hj h=>absurd h (by omega)
 clear g hn hk hm hl h1 h2 s hk0;generalize World.alloc w _=w1 at *;have hq:((k:Int) !=0)=false∨(((k:Int) !=0)=true∧((k:Int) !=n)=false):=by
  rcases hcut with e|⟨e1,e2⟩
  ·left;simp;omega
  ·right;constructor
   ·simp;omega
   ·simp;omega
 clear hcut;rcases hq with e1|⟨e1,e3⟩
 all_goals
  go_wp2_with fail;clear e1;go_loopw [30] (fun v30 wr=>∃i:Nat,v30= .int .i64 i∧i≤m∧Hid (∀j (hj:j<l.length),j<i→sC n l[j])∧St w wr [(w,[n,.slice A k c,.slice B m d])] [(B,fw l)]) (fun v30 _=>m - (intOf v30).toNat)
  case atStart=>exact⟨0,rfl,by omega,hT,S⟩
  case round=>
   clear S hT;obtain⟨i,rfl,hi,hT,S⟩:=hrel;clear c0
   by_cases him:i<m
   ·have R:i<l.length:=by have:=K.out;omega
    obtain⟨b,off,rfl,hc⟩:=sR (S.r 0 rfl) (by omega);have U:Hid (sC n l[i]→ ∀j (hj:j<l.length),j<i+1→sC n l[j]):=fun h j hj aa=>by
     by_cases e:j=i
     ·subst e;exact h
     ·exact hT.out j hj (by omega)
    have f:Hid (¬sC n l[i]→false=tb):=fun h=>T.out false (fun h=>by cases h) (fun _ h2=>h (h2 _ (di R)))
    have X:=fun W (h:Rd W (some ⟨b,off,none⟩) (fw l))=>h
    obtain⟨x,hx⟩:=ex (l[i])
    have L:∀W,Rd W (some ⟨b,off,none⟩) (fw l)→Zp W b (off+i*7) x:=fun W h=>by
     obtain⟨b',Z,e,Y⟩:=sR h (by omega);simp only[dB,Addr.mk.injEq,fv]at e;obtain⟨rfl,rfl⟩:=e;have:=Y i R
     rwa[hx]at this
    rw[hx]at U f;clear hc X hx hT;obtain⟨xa,xb,xc,xd,O,N,M⟩:=x;replace L:=φ L;obtain⟨c0,c1,c2⟩:=(S.box 0 rfl).b3;obtain⟨x0,x1,x2,x3,E,x4,x5,x6⟩:=L.out _ (S.r 0 rfl);simp only at x0 x1 x2 x3 E x4 x5 x6;go_wp2_with fail
    by_cases D:xa=xb
    ·subst D;obtain rfl:=f.out (fun h=>h.ne rfl);go_quiet (fail);go_wp2;go_ret;exact⟨rfl,below_drewN S.b nq⟩
    have e1:(xa==xb)=false:=by simp[D]
    have NA:=fun W=>zT n xa (.slice A k c) (.slice (some ⟨b,off,none⟩) m d) rfl rfl W
    have NB:=fun W=>zT n xb (.slice A k c) (.slice (some ⟨b,off,none⟩) m d) rfl rfl W
    obtain⟨pa,C⟩:=ex (Ls n xa)
    obtain⟨pb,y⟩:=ex (Ls n xb)
    rw[C]at NA;rw[y]at NB;change Hid _ at NA NB D;clear c0 x2 x3 E x4 x5 x6;have c0:=cell_regrown (S.c 0 0 rfl rfl);have c1:=cell_regrown (S.c 0 1 rfl rfl);have c2:=cell_regrown (S.c 0 2 rfl rfl);replace x0:=cell_regrown x0;replace x1:=cell_regrown x1;rcases hpa2:pa with _|_
    ·subst hpa2;obtain rfl:=f.out (fun h=>Uy C h.a);refine wp_region_quiet_below (by kernel_rfl) (by kernel_rfl) ?_
     repeat (go_big_quiet_step ((first|(go_at_call 32;with_reducible exact Calls.regrown_of (NA.out _)))))
     refine fI ?_;intro _ u;obtain⟨⟨dq,o⟩,q⟩:=u;subst q;replace S:=S.call (below_regrown _ dq o);generalize grow (redrawn _ dq) o=w4 at *;go_wp2;go_ret;exact⟨rfl,S.b⟩
    subst hpa2;rcases hpb2:pb with _|_
    ·subst hpb2;obtain rfl:=f.out (fun h=>Uy y h.b);refine wp_region_quiet_below (by kernel_rfl) (by kernel_rfl) ?_
     repeat (go_big_quiet_step ((first|(go_at_call 32;with_reducible exact Calls.regrown_of (NA.out _))|(go_at_call 32;with_reducible exact Calls.regrown_of (NB.out _)))))
     refine fI ?_;intro _ u;obtain⟨⟨dq,o⟩,q⟩:=u;subst q;replace S:=S.call (below_regrown _ dq o);generalize grow (redrawn _ dq) o=w4 at *;go_wp2;go_ret;exact⟨rfl,S.b⟩
    subst hpb2;refine wp_region_quiet_below (by kernel_rfl) (by kernel_rfl) ?_
    repeat (go_big_quiet_step ((first|(go_at_call 32;with_reducible exact Calls.regrown_of (NA.out _))|(go_at_call 32;with_reducible exact Calls.regrown_of (NB.out _)))))
    refine fI ?_;intro _ u;obtain⟨⟨dq,o⟩,q⟩:=u;subst q;replace S:=S.call (below_regrown _ dq o);generalize grow (redrawn _ dq) o=w4 at *;clear x0 x1 c0 NA NB e1;replace C:=φ (Ux C);replace y:=φ (Ux y);obtain⟨x0,x1,x2,x3,E,x4,x5,x6⟩:=L.out _ (S.r 0 rfl);simp only at x0 x1 x2 x3 E x4 x5 x6;go_wp2_with fail;refine (lM _ _ _ _).mono ?_;rintro e w5 ⟨rfl,rfl⟩;rcases J:jI xc 1 65535 with _|_
    ·have h9:=kC J;obtain rfl:=f.out (fun h=>by have:=h.c;simp only at this;omega);go_wp2;go_ret;exact⟨rfl,S.b⟩
    replace J:=φ (jH J);go_wp2_with fail;refine (lM _ _ _ _).mono ?_;rintro e w5 ⟨rfl,rfl⟩;rcases I:jI xd 1 65535 with _|_
    ·have h9:=kC I;obtain rfl:=f.out (fun h=>by have:=h.d;simp only at this;omega);go_wp2;go_ret;exact⟨rfl,S.b⟩
    replace I:=φ (jH I);go_wp2_with fail;refine (lM _ _ _ _).mono ?_;rintro e w5 ⟨rfl,rfl⟩;rcases H:jI O 0 1048576 with _|_
    ·have h9:=kC H;obtain rfl:=f.out (fun h=>by have:=h.cap;simp only at this;omega);go_wp2;go_ret;exact⟨rfl,S.b⟩
    replace H:=φ (jH H);go_wp2_with fail;refine (lM _ _ _ _).mono ?_;rintro e w5 ⟨rfl,rfl⟩;rcases G:jI N 1 65536 with _|_
    ·have h9:=kC G;obtain rfl:=f.out (fun h=>by have:=h.del;simp only at this;omega);go_wp2;go_ret;exact⟨rfl,S.b⟩
    replace G:=φ (jH G);go_wp2_with fail;refine (lM _ _ _ _).mono ?_;rintro e w5 ⟨rfl,rfl⟩;rcases F:jI M 0 64 with _|_
    ·have h9:=kC F;obtain rfl:=f.out (fun h=>by have:=h.grp;simp only at this;omega);go_wp2;go_ret;exact⟨rfl,S.b⟩
    replace F:=φ (jH F);go_wp2;go_round
    case rel=>exact⟨i+1,by go_num,by omega,U.out ⟨C.out,y.out,D.out,J.out,I.out,H.out,G.out,F.out⟩,S⟩
    case measure=>simp[intOf];omega
   ·obtain rfl:i=m:=by omega
    obtain rfl:=T.out true (fun _ x hx=>by
     obtain⟨j,hj,rfl⟩:=eG hx;exact hT.out j hj (by have:=K.out; omega)) (fun h=>by cases h)
    have c0:=(S.box 0 rfl).b3;go_wp2;go_ret;exact⟨rfl,S.b⟩
def nD(x:Lk)(p:Bool):Int:=if p=true then x.b else x.a
def qT(k:Nat)(p:Bool):Int:=if p=true then 2*(k:Int)+1 else 2*(k:Int)
def J2(k:Nat)(p:Bool):(qT k p).tmod 2=if p=true then 1 else 0:=by
 cases p
 ·simp[qT]
 ·rw[jG (by simp only[qT];simp;omega)];simp[qT]
def J3(k:Nat)(p:Bool):(qT k p).tdiv 2=k:=by
 rw[uH (by cases p<;>simp only[qT]<;>simp<;>omega)];cases p<;>simp[qT]<;>omega
def EO(w:World)(v:Value)(t:Tp)(h:js w v t)(k:Nat)(p:Bool)(hk:k<t.ln.length)(hm:t.ln.length≤256):Calls prog 76 #[v,(qT k p)] w fun e w'=>e= .returned (.int .i64 (nD t.ln[k] p))∧cI w w':=by
 obtain⟨A,c,B,d,rfl,rA,rB,h3,h4⟩:=h;have hb:=cQ w (.cells #[t.n,.slice A t.ov.length c,.slice B t.ln.length d] 25);have S:=((St.start w).read rB).nw #[t.n,.slice A t.ov.length c,.slice B t.ln.length d] 25 w;obtain⟨b,off,hB,hc⟩:=sR (S.r 0 rfl) (by omega);subst hB;have L:=hc k hk;have e1:=J2 k p;have e2:=J3 k p;have l1:=L.c0;have l2:=L.c1;generalize t.ln[k]=x at *;generalize qT k p=z at *;clear hc L rA rB;have c0:=(S.box 0 rfl).b3;cases p
 ·simp only[nD];go_in;go_wp2;go_ret;exact⟨rfl,hb⟩
 ·simp only[nD];go_in;go_wp2;go_ret;exact⟨rfl,hb⟩
def Qw:∀k:Fin 256,∀p:Bool,bits .xor .i64 (qT k p) 1=qT k (!p):=by decide+kernel
def Uc(k:Nat)(hk:k<256)(p:Bool):bits .xor .i64 (qT k p) 1=qT k (!p):=Qw ⟨k,hk⟩ p
def PM(w:World)(v:Value)(t:Tp)(h:js w v t)(k:Nat)(p:Bool)(hk:k<t.ln.length)(hm:t.ln.length≤256):Calls prog 39 #[v,(qT k p)] w fun e w'=>e= .returned (.int .i64 (nD t.ln[k] (!p)))∧cI w w':=by
 have h':=h;obtain⟨A,c,B,d,rfl,rA,rB,h3,h4⟩:=h;have hb:=cQ w (.cells #[t.n,.slice A t.ov.length c,.slice B t.ln.length d] 25);have S:=(St.start w).nw #[t.n,.slice A t.ov.length c,.slice B t.ln.length d] 25 w;have TL:=φ (EO _ _ t (h'.below hb) k (!p) hk hm);have e1:=Uc k (by omega) p;generalize qT k p=z at *;generalize qT k (!p)=z' at *;clear rA rB h';have c0:=(S.box 0 rfl).b3;go_in;go_wp2_with fail;refine TL.out.mono ?_;rintro e w1 ⟨rfl,a⟩;go_wp2;go_ret;exact⟨rfl,hb.trans (a.mono hb.size)⟩
def uT(x:Lk)(p:Bool):Int:=if p=true then x.d else x.c
def Qm(w:World)(v:Value)(t:Tp)(h:js w v t)(k:Nat)(p:Bool)(hk:k<t.ln.length)(hm:t.ln.length≤256):Calls prog 40 #[v,(qT k p)] w fun e w'=>e= .returned (.int .i64 (uT t.ln[k] p))∧cI w w':=by
 obtain⟨A,c,B,d,rfl,rA,rB,h3,h4⟩:=h;have hb:=cQ w (.cells #[t.n,.slice A t.ov.length c,.slice B t.ln.length d] 25);have S:=((St.start w).read rB).nw #[t.n,.slice A t.ov.length c,.slice B t.ln.length d] 25 w;obtain⟨b,off,hB,hc⟩:=sR (S.r 0 rfl) (by omega);subst hB;have L:=hc k hk;have e1:=J2 k p;have e2:=J3 k p;have l1:=L.c2;have l2:=L.c3;generalize t.ln[k]=x at *;generalize qT k p=z at *;clear hc L rA rB;have c0:=(S.box 0 rfl).b3;cases p
 ·simp only[uT];go_in;go_wp2;go_ret;exact⟨rfl,hb⟩
 ·simp only[uT];go_in;go_wp2;go_ret;exact⟨rfl,hb⟩
def yR(t:Tp)(n:Nat):Bool:=t.ov[n]?.getD false
def OX(w:World)(v:Value)(t:Tp)(h:js w v t)(n:Nat)(z:Int)(hz:z=(n:Int))(hn:t.ov.length=0∨n<t.ov.length)(a:t.ov.length≤1000000):Calls prog 34 #[v,z] w fun e w'=>e= .returned (.bool (yR t n))∧cI w w':=by
 obtain⟨A,c,B,d,rfl,rA,rB,h3,h4⟩:=h;have hb:=cQ w (.cells #[t.n,.slice A t.ov.length c,.slice B t.ln.length d] 25);have S:=((St.start w).read rA).nw #[t.n,.slice A t.ov.length c,.slice B t.ln.length d] 25 w;rcases hn with hn|hn
 ·have e:yR t n=false:=by unfold yR;rw[qp (by omega)];rfl
  rw[e];rw[hn]at hb S ⊢;clear hn;have e1:decide ((0:Int)< ((0:Nat):Int))=false:=rfl;obtain⟨c0,c1,c2⟩:=(S.box 0 rfl).b3;clear rA rB e;go_in;go_wp2_with fail
  all_goals (first|done|go_ret)
  all_goals exact⟨rfl,hb⟩
 ·obtain⟨b,off,hB,hc⟩:=zJ (S.r 0 rfl) (by omega);subst hB;have L:=hc n hn;have e:yR t n=t.ov[n]:=by unfold yR;rw[cM hn];rfl
  rw[e];generalize t.ov[n]=x at *;subst hz;clear hc rA rB e;generalize t.ov.length=k at *;have e1:decide ((0:Int)< (k:Int))=true:=by simp;omega
  have c0:=(S.box 0 rfl).b3;go_in;go_wp2_with fail
  all_goals (first|done|go_ret)
  all_goals exact⟨rfl,hb⟩
def IL(i:Nat):qT (i / 2) (decide (i % 2=1))=(i:Int):=by
 unfold qT
 by_cases h:i % 2=1
 ·simp only[h,decide_true,gy];omega
 ·simp only[h,decide_false];simp;omega
def Dr(l:List Lk)(i:Nat):Int:=match l[i / 2]? with|some x=>nD x (decide (i % 2=1))|none=>-1
def wE(l:List Lk)(n:Int)(k:Nat):List Int:=((List.range k).filter fun i=>decide (Dr l i=n)).map fun(i:Nat)=>(i:Int)
def Lj(l:List Lk)(n:Int)(k:Nat):wE l n (k+1)=wE l n k++if Dr l k=n then [(k:Int)]else []:=by
 unfold wE;rw[jj,gC,ez]
 congr 1
 by_cases h:Dr l k=n<;>simp[h]
def FM(l:List Lk)(n:Int)(k:Nat):(wE l n k).length≤k:=by
 unfold wE;rw[dh];exact cZ cz (by simp)
def outs(t:Tp)(n:Int):List Int:=wE t.ln n (2*t.ln.length)
abbrev iV(z:Int):Value:=.int .i64 z
def Wl(l:List Int):∀u∈l.map iV,u.oneCell'=true:=by
 intro u hu;obtain⟨z,_,rfl⟩:=dL.1 hu;rfl
def YH:iF prog 58 3 (.int .i64 0) 1 8:=⟨underlying58,by kernel_rfl,rfl,by omega⟩
def Et(w:World)(l:List Int)(e:Ending)(w':World):Prop :=
 ∃A c,e= .returned (.slice A l.length c)∧w'.ownsRow w 3 1 (.slice A l.length c) l.length (l.map iV)∧cI w w'
def SR(w:World)(v:Value)(t:Tp)(h:js w v t)(z:Int)(hm:t.ln.length≤256):Calls prog 38 #[v,z] w (Et w (outs t z)):=by
 have h':=h;obtain⟨A,c,B,d,rfl,rA,rB,h3,h4⟩:=h;have S:=(St.start w).nw #[t.n,.slice A t.ov.length c,.slice B t.ln.length d] 25 w;have TL:=fun W (hb:cI w W) i (hi:i / 2<t.ln.length)=>EO W _ t (h'.below hb) (i / 2) (decide (i % 2=1)) hi hm
 have l:Hid (∀W,cI w W→ ∀i:Nat,i<2*t.ln.length→Calls prog 76 #[EA t.n A t.ov.length c B t.ln.length d,(i:Int)] W fun e w'=>e= .returned (.int .i64 (Dr t.ln i))∧cI W w'):=fun W hb i hi=>by
  have:=TL W hb i (by omega);rw[IL]at this;have e:Dr t.ln i=nD t.ln[i / 2] (decide (i % 2=1)):=by unfold Dr;rw[cM (by omega)]
  rw[e];exact this
 have f:Hid (∀w' A c,w'.ownsRow w 3 1 (.slice A (wE t.ln z (2*t.ln.length)).length c) (wE t.ln z (2*t.ln.length)).length ((wE t.ln z (2*t.ln.length)).map iV)→cI w w'→Et w (outs t z) (.returned (.slice A (wE t.ln z (2*t.ln.length)).length c)) w'):=fun w' A c ho hb=>⟨A,c,rfl,ho,hb⟩
 have hle:=fun k=>FM t.ln z k
 have a:=fun k=>Lj t.ln z k
 obtain⟨O,hO⟩:∃O,wE t.ln z=O:=⟨_,rfl⟩
 have h0:O 0= []:=by rw[←hO];rfl
 simp only[hO]at f hle a;obtain⟨Q,hQ⟩:∃Q,Et w (outs t z)=Q:=⟨_,rfl⟩
 rw[hQ]at f ⊢;clear hO hQ TL h' rA rB h3 h4;obtain⟨T,hT⟩:∃T,Dr t.ln=T:=⟨_,rfl⟩
 rw[hT]at l;simp only[hT]at a;clear hT;generalize t.ln.length=m at *;generalize t.ov.length=k at *;generalize t.n=n at *;replace hle:=φ hle;replace a:=φ a;obtain⟨c0,c1,c2⟩:=(S.box 0 rfl).b3;go_in;go_wp2_with fail;(with_reducible refine(GA n (.slice A k c) B m d _ (by omega)).mono ?_);rintro e w1 ⟨rfl,hb⟩;clear c0;replace S:=S.call hb;clear hb;go_wp2_with fail;go_loopw [5,9] (fun v5 v9 wr=>∃i:Nat,v9= .int .i64 i∧i≤2*m∧St w wr [(w,[.int .i64 n,.slice A k c,.slice B m d])] []∧wr.ownsRow (w.heap.size+1) 3 1 v5 (O i).length ((O i).map iV)) (fun _ v9 _=>2*m - (intOf v9).toNat)
 case atStart=>exact⟨0,rfl,by omega,S,by rw[h0];exact cn⟩
 case round=>
  clear S;obtain⟨i,rfl,hi,S,ho⟩:=hrel
  by_cases hin:i<2*m
  ·have TI:=φ (l.out wr S.b i hin);have hu:=φ (a.out i);have hl:=hle.out i;have c0:=(S.box 0 rfl).b3;go_wp2_with fail;(with_reducible refine(TI.out).mono ?_);rintro e w2 ⟨rfl,hb⟩;clear c0;clear TI;replace S:=S.call hb;replace ho:=dg ho hb;clear hb;rcases hT:(T i==z)with _|_
   ·have e:O (i+1)=O i:=by rw[hu.out,cN (by simpa using hT),gY]
    rw[←e]at ho;go_wp2;go_round
    case rel=>exact⟨i+1,by go_num,by omega,S,ho⟩
    case measure=>simp[intOf];omega
   ·have e:O i++ [(i:Int)]=O (i+1):=by rw[hu.out,cR (by simpa using hT)]
    have o:=Rd.lit w2 #[.int .i64 (i:Int)] 3;have j:=cQ w2 (.cells #[.int .i64 (i:Int)] 3);have q:=dg ho j;have S3:=S.call j;have p:w.heap.size+1≤(World.alloc w2 (.cells #[.int .i64 (i:Int)] 3)).heap.size:=(S3.box 0 rfl).lt (by simp);clear ho S j;have el:(O i).length+1=(O (i+1)).length:=by rw[←e];simp
    have r:(O i).map iV++ [.int .i64 (i:Int)]=(O (i+1)).map iV:=by rw[←e];simp
    clear e;go_wp2_with (at_builtin;refine dK rfl YH (.tmp 17) (.tmp 19) rfl (w.heap.size+1) rfl q (m:=1) rfl (by simp) o (Wl [(i:Int)]) (by simp only[maxLen];omega) (by omega) p _ _ el r ?_;intro v6 w6 o6 g s _);have S9:=S3.Yf g (by omega) (by simp);go_wp2;go_round
    case rel=>exact⟨i+1,by go_num,by omega,S9,o6⟩
    case measure=>simp[intOf];omega
  ·obtain rfl:i=2*m:=by omega
   obtain⟨A5,c5,rfl,-⟩:=dN ho;have hf:=f.out _ _ _ (dx ho (by omega)) S.b;go_wp2_with fail;exact hf
def Ff(w:World)(v:Value)(t:Tp)(h:js w v t):Calls prog 28 #[v] w fun e w'=>e= .returned (.bool (tB t))∧cI w w':=by
 obtain⟨A,c,B,d,rfl,rA,rB,h1,h2⟩:=h;have S:=((St.start w).read rB).nw #[t.n,.slice A t.ov.length c,.slice B t.ln.length d] 25 w;clear rA rB;have g:Hid (∀b,(b=true→mE t)→(b=false→ ¬mE t)→b=tB t):=fun b h1 h2=>by
  cases b with
  |true=>exact(Vl (h1 rfl)).symm
  |false=>exact(Xs (h2 rfl)).symm
 obtain⟨n,hn⟩:=ex t.n
 obtain⟨k,hk⟩:=ex t.ov.length
 obtain⟨m,hm⟩:=ex t.ln.length
 obtain⟨l,hl⟩:=ex t.ln
 have F:l.length=m:=by rw[←hl,hm]
 rw[hn,hk,hm,hl]at S;rw[hm]at h2;rw[hk]at h1;unfold maxLen at h1 h2;simp only[hn,hk,hm];change Hid _ at hn hk hm hl F;obtain⟨tb,L⟩:=ex (tB t)
 rw[L]at g ⊢;clear L;have c0:=S.c 0 0 rfl rfl;have c1:=S.c 0 1 rfl rfl;have c2:=S.c 0 2 rfl rfl;go_in;go_wp2_with fail;refine (jd _ _ _ _).mono ?_;rintro e w1 ⟨rfl,rfl⟩;rcases o:jI n 1 64 with _|_
 ·have:=kC o;obtain rfl:=g.out false (fun h=>by cases h) (fun _ h=>by have h5:=h.n;rw[hn.out]at h5;omega);go_wp2;go_ret;exact⟨rfl,S.b⟩
 replace o:=φ (jH o)
 by_cases hk0:k=0∨(k:Int)=n
 rotate_left
 ·obtain rfl:=g.out false (fun h=>by cases h) (fun _ h=>by have:=h.ov;rw[hk.out,hn.out]at this;exact hk0 this);have Q:k≠0:=fun h=>hk0 (.inl h)
  have M:(k:Int)≠n:=fun h=>hk0 (.inr h)
  have e1:((k:Int) !=0)=true:=by simp;omega
  have e2:((k:Int) !=n)=true:=by simp;exact M
  clear hk0 Q M;go_wp2;go_ret;exact⟨rfl,S.b⟩
 have hcut:(k:Int)=0∨((k:Int)≠0∧(k:Int)=n):=by omega
 have hT:Hid (∀j (hj:j<l.length),j<0→sC n l[j]):=fun j hj h=>absurd h (by omega)
 generalize World.alloc w _=w1 at *;have hq:((k:Int) !=0)=false∨(((k:Int) !=0)=true∧((k:Int) !=n)=false):=by
  rcases hcut with e|⟨e1,e2⟩
  ·left;simp;omega
  ·right;constructor
   ·simp;omega
   ·simp;omega
 clear hcut;rcases hq with e1|⟨e1,e3⟩
 all_goals
  by_cases hl1:256<m
  ·obtain rfl:=g.out false (fun h=>by cases h) (fun _ h=>by have:=h.ln;rw[hm.out]at this;omega);go_wp2;go_ret;exact⟨rfl,S.b⟩
  have O:Hid (∀b,(b=true→ ∀x∈l,sC n x)→(b=false→ ¬ ∀x∈l,sC n x)→b=tb):=fun b h1 h2=>g b
   (fun h=>⟨by rw[hn.out];exact o,by rw[hk.out,hn.out];exact hk0,by rw[hm.out];omega,by rw[hl.out,hn.out];exact h1 h⟩)
   (fun h h3=>h2 h (by have:=h3.all;rwa[hl.out,hn.out]at this))
  clear g hn hk hm hl h1 h2 hk0;go_wp2_with fail;clear e1;go_loopw [3] (fun v30 wr=>∃i:Nat,v30= .int .i64 i∧i≤m∧Hid (∀j (hj:j<l.length),j<i→sC n l[j])∧St w wr [(w,[n,.slice A k c,.slice B m d])] [(B,fw l)]) (fun v30 _=>m - (intOf v30).toNat)
  case atStart=>exact⟨0,rfl,by omega,hT,S⟩
  case round=>
   clear S hT;obtain⟨i,rfl,hi,hT,S⟩:=hrel;clear c0 c1 c2
   by_cases him:i<m
   ·have N:i<l.length:=by have:=F.out;omega
    obtain⟨b,off,rfl,hc⟩:=sR (S.r 0 rfl) (by omega);have P:Hid (sC n l[i]→ ∀j (hj:j<l.length),j<i+1→sC n l[j]):=fun h j hj X=>by
     by_cases e:j=i
     ·subst e;exact h
     ·exact hT j hj (by omega)
    have f:Hid (¬sC n l[i]→false=tb):=fun h=>O false (fun h=>by cases h) (fun _ h2=>h (h2 _ (di N)))
    have R:=fun W (h:Rd W (some ⟨b,off,none⟩) (fw l))=>h
    obtain⟨x,hx⟩:=ex (l[i])
    have J:∀W,Rd W (some ⟨b,off,none⟩) (fw l)→Zp W b (off+i*7) x:=fun W h=>by
     obtain⟨b',U,e,T⟩:=sR h (by omega);simp only[dB,Addr.mk.injEq,fv]at e;obtain⟨rfl,rfl⟩:=e;have:=T i N
     rwa[hx]at this
    rw[hx]at P f;clear hc R hx hT;obtain⟨xa,xb,xc,xd,I,H,G⟩:=x;replace J:=φ J;have c0:=S.c 0 0 rfl rfl;have c1:=S.c 0 1 rfl rfl;have c2:=S.c 0 2 rfl rfl;obtain⟨x0,x1,x2,x3,K,x4,x5,x6⟩:=J.out _ (S.r 0 rfl);simp only at x0 x1 x2 x3 K x4 x5 x6;have V:IntKind.i64.wrap (n - 1)=n - 1:=kV _ (by have:=o.out;omega);go_upto_region 7 with fail;replace S:=S.nw #[xa,xb,xc,xd,I,H,G] 79 wr;clear x0 x1 x2 x3 K x4 x5 x6 c0 c1 c2;generalize World.alloc wr _=w4 at *;generalize wr.heap.size=g4 at *;have d0:=S.c 0 0 rfl rfl;have d1:=S.c 0 1 rfl rfl;have d2:=S.c 0 2 rfl rfl;have d3:=S.c 0 3 rfl rfl;have d4:=S.c 0 4 rfl rfl;have d5:=S.c 0 5 rfl rfl;have d6:=S.c 0 6 rfl rfl;have c0:=S.c 1 0 rfl rfl;have c1:=S.c 1 1 rfl rfl;have c2:=S.c 1 2 rfl rfl;go_wp2_with fail;refine (jd _ _ _ _).mono ?_;rintro e w5 ⟨rfl,rfl⟩;rcases s:jI xa 0 (n - 1)with _|_
    ·have h9:=kC s;obtain rfl:=f.out (fun h=>by have:=h.a;simp only at this;omega);go_wp2;go_ret;exact⟨rfl,S.b⟩
    replace s:=φ (jH s);go_wp2_with fail;refine (jd _ _ _ _).mono ?_;rintro e w5 ⟨rfl,rfl⟩;rcases q:jI xb 0 (n - 1)with _|_
    ·have h9:=kC q;obtain rfl:=f.out (fun h=>by have:=h.b;simp only at this;omega);go_wp2;go_ret;exact⟨rfl,S.b⟩
    replace q:=φ (jH q)
    by_cases p:xa=xb
    ·subst p;obtain rfl:=f.out (fun h=>h.ne rfl);go_wp2;go_ret;exact⟨rfl,S.b⟩
    have e1:(xa==xb)=false:=by simp[p]
    replace p:=φ p;go_wp2_with fail;clear e1;refine (jd _ _ _ _).mono ?_;rintro e w5 ⟨rfl,rfl⟩;rcases E:jI xc 1 65535 with _|_
    ·have h9:=kC E;obtain rfl:=f.out (fun h=>by have:=h.c;simp only at this;omega);go_wp2;go_ret;exact⟨rfl,S.b⟩
    replace E:=φ (jH E);go_wp2_with fail;refine (jd _ _ _ _).mono ?_;rintro e w5 ⟨rfl,rfl⟩;rcases D:jI xd 1 65535 with _|_
    ·have h9:=kC D;obtain rfl:=f.out (fun h=>by have:=h.d;simp only at this;omega);go_wp2;go_ret;exact⟨rfl,S.b⟩
    replace D:=φ (jH D);go_wp2_with fail;refine (jd _ _ _ _).mono ?_;rintro e w5 ⟨rfl,rfl⟩;rcases C:jI I 0 1048576 with _|_
    ·have h9:=kC C;obtain rfl:=f.out (fun h=>by have:=h.cap;simp only at this;omega);go_wp2;go_ret;exact⟨rfl,S.b⟩
    replace C:=φ (jH C);go_wp2_with fail;refine (jd _ _ _ _).mono ?_;rintro e w5 ⟨rfl,rfl⟩;rcases y:jI H 1 65536 with _|_
    ·have h9:=kC y;obtain rfl:=f.out (fun h=>by have:=h.del;simp only at this;omega);go_wp2;go_ret;exact⟨rfl,S.b⟩
    replace y:=φ (jH y);go_wp2_with fail;refine (jd _ _ _ _).mono ?_;rintro e w5 ⟨rfl,rfl⟩;rcases u:jI G 0 64 with _|_
    ·have h9:=kC u;obtain rfl:=f.out (fun h=>by have:=h.grp;simp only at this;omega);go_wp2;go_ret;exact⟨rfl,S.b⟩
    replace u:=φ (jH u);go_wp2;go_round
    case rel=>exact⟨i+1,by go_num,by omega,P ⟨by have:=s.out;simp only;omega,by have:=q.out;simp only;omega,p,E,D,C,y,u⟩,S.dX _ (by simp)⟩
    case measure=>simp[intOf];omega
   ·obtain rfl:i=m:=by omega
    obtain rfl:=O.out true (fun _ x hx=>by
     obtain⟨j,hj,rfl⟩:=eG hx;exact hT j hj (by have:=F.out; omega)) (fun h=>by cases h)
    have c0:=S.c 0 0 rfl rfl;have c1:=S.c 0 1 rfl rfl;have c2:=S.c 0 2 rfl rfl;go_wp2;go_ret;exact⟨rfl,S.b⟩
end Go.Proofs.YtehimhbgakpenaaGreat
