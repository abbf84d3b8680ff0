/- Lemmas. -/
import Derived.Lib.QuietBelow
import Derived.Test.YtehimhbgakpenaaGreatC
set_option linter.all false
set_option maxRecDepth 100000
set_option maxHeartbeats 16000000
namespace Go.Proofs.YtehimhbgakpenaaGreat
open Go.RowKit Go.Sort Go.Proofs.Tryz
abbrev ig(o s a:Int)(ov:Bool)(A:cG)(n c:Nat)(B:cG)(m d:Nat):Value:=.agg #[o,s,a,ov,.slice A n c,.slice B m d]
abbrev Wf(o s a:Int)(ov:Bool)(A:cG)(n c:Nat)(B:cG)(m d:Nat):Obj:=.cells #[o,s,a,ov,.slice A n c,.slice B m d] 41
def i7(o s a:Int)(ov:Bool)(f:List Ad)(pre:List Pf)(A:cG)(n c:Nat)(B:cG)(m d:Nat)(w:World)(hn:f.length=n)(hm:pre.length=m)(hA:Rd w A (jN f))(hB:Rd w B (jU pre))(hu:∀x∈pre,x.1<4294967296) :
  Calls prog 126 #[ig o s a ov A n c B m d] w fun e w'=>e= .returned (.bool (vB ⟨o,s,a,ov,f,pre⟩))∧cI w w':=by
 have I:=cQ w (Wf o s a ov A n c B m d);have S:=fq.new w #[o,s,a,ov,.slice A n c,.slice B m d] 41;obtain⟨c0,c1,c2,c3,c4,c5⟩:=S.b6;replace hu:=φ hu;go_in;go_wp2_with fail;refine (kB _ _ _ _).mono ?_;rintro e w1 ⟨rfl,rfl⟩;rcases M:jI o 0 63 with _|_
 ·have:=kC M;go_wp2;go_ret;exact⟨fg (uZ (fun h=>by have:=h.1;simp only at this;omega)).symm,I⟩
 replace M:=φ (jH M);go_wp2_with fail;refine (kB _ _ _ _).mono ?_;rintro e w1 ⟨rfl,rfl⟩;rcases L:jI s 1 1073741824 with _|_
 ·have:=kC L;go_wp2;go_ret;exact⟨fg (uZ (fun h=>by have:=h.2.1;simp only at this;omega)).symm,I⟩
 replace L:=φ (jH L);go_wp2_with fail;refine (kB _ _ _ _).mono ?_;rintro e w1 ⟨rfl,rfl⟩;rcases K:jI a 0 3600 with _|_
 ·have:=kC K;go_wp2;go_ret;exact⟨fg (uZ (fun h=>by have:=h.2.2.1;simp only at this;omega)).symm,I⟩
 replace K:=φ (jH K)
 by_cases hl1:256<n
 ·go_wp2;go_ret;exact⟨fg (uZ (fun h=>by have:=h.2.2.2.1;simp only at this;omega)).symm,I⟩
 by_cases hl2:64<m
 ·go_wp2;go_ret;exact⟨fg (uZ (fun h=>by have:=h.2.2.2.2.1;simp only at this;omega)).symm,I⟩
 by_cases hb:a=3600∧(ov=true∨0<n∨0<m)
 ·have hz:vB ⟨o,s,a,ov,f,pre⟩ = false:=uZ (fun h=>by
   obtain⟨e1,e2,e3⟩:=h.2.2.2.2.2.1 hb.1;simp only at e1 e2 e3;subst e2 e3;rcases hb.2 with e|e|e
   ·rw[e]at e1;cases e1
   ·simp at hn;omega
   ·simp at hm; omega)
  obtain⟨rfl,hb⟩:=hb;rcases hb with rfl|hb|hb
  ·go_wp2_with fail
   all_goals go_ret
   all_goals exact⟨fg hz.symm,cQ w _⟩
  ·go_wp2_with fail
   all_goals go_ret
   all_goals exact⟨fg hz.symm,cQ w _⟩
  ·go_wp2_with fail
   all_goals go_ret
   all_goals exact⟨fg hz.symm,cQ w _⟩
 have hP:a=3600→ov=false∧f= []∧pre= []:=by
  intro e;refine⟨?_,?_,?_⟩
  ·cases ov with
   |false=>rfl
   |true=>exact absurd ⟨e,.inl rfl⟩ hb
  ·exact dy ((fF n).elim (fun h=>by omega) (fun h=>absurd ⟨e,.inr (.inl h)⟩ hb))
  ·exact dy ((fF m).elim (fun h=>by omega) (fun h=>absurd ⟨e,.inr (.inr h)⟩ hb))
 have hL:Hid (∀b,(b=true→mz o f n∧mY pre m)→(b=false→ ¬(mz o f n∧mY pre m))→b=vB ⟨o,s,a,ov,f,pre⟩):=by
  intro b h1 h2;cases b with
  |true=>exact(nA ⟨M.out,L.out,K.out,by simp only;omega,by simp only;omega,hP,by simp only;rw[hn];exact(h1 rfl).1,by simp only;rw[hm];exact(h1 rfl).2⟩).symm
  | false=>exact (uZ (fun h=>h2 rfl (by
    obtain⟨_,_,_,_,_,_,e1,e2⟩:=h;simp only[hn,hm]at e1 e2;exact ⟨e1,e2⟩))).symm
 replace hP:=φ hP;have hC:(a≠3600)∨(a=3600∧ov=false∧n=0∧m=0):=by
  by_cases e:a=3600
  ·obtain⟨e1,rfl,rfl⟩:=hP.out e;exact .inr ⟨e,e1,by simpa using hn.symm,by simpa using hm.symm⟩
  ·exact .inl e
 clear L K hb hP M;have S0:St w (w.alloc (Wf o s a ov A n c B m d)) [(w,[o,s,a,ov,.slice A n c,.slice B m d])] [(A,jN f),(B,jU pre)]:=((((St.start w).read hB).read hA).new #[o,s,a,ov,.slice A n c,.slice B m d] 41)
 clear S I;rcases hC with U|⟨U,Y,Z,aa⟩
 rotate_left
 ·subst U Y Z aa;have hr:vB ⟨o,s,3600,false,f,pre⟩=true:=(hL.out true (fun _=>⟨fun k x hk=>absurd hk (by omega),fun k x hk=>absurd hk (by omega)⟩) (fun h=>by cases h)).symm;clear hL;go_wp2_with fail;go_loop [55] (fun G=>G= .int .i64 0) (fun G=>0)
  case atStart=>rfl
  case round=>
   obtain rfl:=hrel;go_wp2_with fail;go_loop [101] (fun u=>u= .int .i64 0) (fun u=>0)
   case atStart=>rfl
   case round=>
    obtain rfl:=hrel;go_wp2;go_ret;exact⟨rfl,cQ w _⟩
 go_wp2_with fail;generalize w.alloc (.cells #[o,s,a,ov,.slice A n c,.slice B m d] 41)=w1 at *;clear c0 c1 c2 c3 c4 c5;go_loopw [55] (fun G wr=>∃k:Nat,G= .int .i64 k∧k≤n∧Hid (mz o f k)∧St w wr [(w,[o,s,a,ov,.slice A n c,.slice B m d])] [(A,jN f),(B,jU pre)]) (fun G _=>n - (intOf G).toNat)
 case atStart=>exact⟨0,rfl,by omega,fun k x hk=>absurd hk (by omega),S0⟩
 case round=>
  obtain⟨k,rfl,hk,F,S⟩:=hrel;clear S0 hA hB
  by_cases hkn:k<n
  ·obtain⟨b,off,rfl,l⟩:=se (S.r 0 rfl) (by omega);have c4:=S.c 0 4 rfl rfl;obtain⟨x0,x1,x2⟩:=l k (by omega);obtain⟨x,hx⟩:=ex (f[k]'(by omega))
   rw[hx]at x0 x1 x2;have H:f[k]?=some x:=by rw[cM (by omega),hx]
   have g:Hid (¬((0≤x.2.1∧x.2.1≤255)∧x.1≠o∧(0≤x.1∧x.1≤63)∧(1≤x.2.2∧x.2.2≤65535)∧(∀y,0<k→f[k - 1]?=some y→y.2.1<x.2.1))→false=vB ⟨o,s,a,ov,f,pre⟩):=fun h=>hL.out false (fun e=>by cases e) (fun _ e=>h (e.1 k x hkn H))
   have N:Hid ((0≤x.2.1∧x.2.1≤255)∧x.1≠o∧(0≤x.1∧x.1≤63)∧(1≤x.2.2∧x.2.2≤65535)∧(∀y,0<k→f[k - 1]?=some y→y.2.1<x.2.1)→mz o f (k+1)):=fun h=>F.out.snoc H h.1 h.2.1 h.2.2.1 h.2.2.2.1 h.2.2.2.2
   clear F;go_wp2_with fail;have S2:=S.new #[x.1,x.2.1,x.2.2] 169;have O:=cQ wr (.cells #[x.1,x.2.1,x.2.2] 169);clear c4 x0 x1 x2;generalize wr.alloc (.cells #[x.1,x.2.1,x.2.2] 169)=w2 at *;generalize ab:wr.heap.size=g2 at S2 ⊢;obtain⟨d0,d1,d2⟩:=(S2.box 0 rfl).b3;have c4:=S2.c 1 4 rfl rfl;have c0:=S2.c 1 0 rfl rfl;have W1:Hid (∀W,Calls prog 170 #[x.2.1,i0,.int .i64 255] W fun e w'=>e= .returned (.bool (jI x.2.1 0 255))∧W=w'):=fun W=>kB x.2.1 0 255 W
   obtain⟨b1,p⟩:=ex (jI x.2.1 0 255)
   rw[p]at W1;rcases fF k with R|Q
   ·have hd:decide ((0:Int)< (k:Int))=false:=by simp[R]
    have t:∀y,0<k→f[k - 1]?=some y→y.2.1<x.2.1:=fun y h=>absurd h (by omega)
    cases b1 with
    |false=>
      go_quiet ((go_at_call 170;exact vm (W1.out _)));go_wp2;go_ret;exact⟨fg (g.out (fun h=>by have:=kC p;omega)),below_drewN S2.b nq⟩
    |true=>
      go_quiet ((go_at_call 170;exact vm (W1.out _)));have S3:=S2.drewN nq;clear d0 d1 d2 c4 c0;obtain⟨d0,-,d2⟩:=(S3.box 0 rfl).b3;have c0:=S3.c 1 0 rfl rfl;clear S2;generalize w2.drewN nq=w3 at *;replace p:=jH p
      by_cases hto:x.1=o
      ·go_wp2;go_ret;exact⟨fg (g.out (fun h=>h.2.1 hto)),S3.b⟩
      go_wp2_with fail;refine (kB _ _ _ _).mono ?_;rintro e w4 ⟨rfl,rfl⟩;rcases C:jI x.1 0 63 with _|_
      ·have:=kC C;go_wp2;go_ret;exact⟨fg (g.out (fun h=>by have:=h.2.2.1;omega)),S3.b⟩
      replace C:=jH C;go_wp2_with fail;refine (kB _ _ _ _).mono ?_;rintro e w4 ⟨rfl,rfl⟩;rcases v:jI x.2.2 1 65535 with _|_
      ·have:=kC v;go_wp2;go_ret;exact⟨fg (g.out (fun h=>by have:=h.2.2.2.1;omega)),S3.b⟩
      replace v:=jH v;go_wp2;go_round
      case rel=>exact⟨k+1,by go_num,by omega,N.out ⟨p,hto,C,v,t⟩,S3.dX _ (by simp)⟩
      case measure=>simp[intOf];omega
   ·obtain⟨j,hj⟩:∃j,j+1=k:=⟨k - 1,by omega⟩
    have hd:decide ((0:Int)< (k:Int))=true:=by simp;omega
    have hw:IntKind.i64.wrap ((k:Int) - 1)=(j:Int):=by rw[show(k:Int) - 1=(j:Int)by omega,zf];omega
    have ac:j<n:=by omega
    obtain⟨y,hy⟩:=ex (f[j]'(by omega))
    have J:f[k - 1]?=some y:=by rw[←hj,uF,cM (by omega),hy]
    obtain⟨_,y1,_⟩:=l j (by omega);rw[hy]at y1;have y1:=cW (show cI wr w2 from O) y1
    by_cases hlt:y.2.1<x.2.1
    ·have t:∀y,0<k→f[k - 1]?=some y→y.2.1<x.2.1:=fun z _ h=>by rw[J]at h;injection h with h;rw[←h];exact hlt
     have T:decide (x.2.1≤y.2.1)=false:=by simp;omega
     cases b1 with
     |false=>
       go_quiet ((go_at_call 170;exact vm (W1.out _)));go_wp2;go_ret;exact⟨fg (g.out (fun h=>by have:=kC p;omega)),below_drewN S2.b nq⟩
     |true=>
       go_quiet ((go_at_call 170;exact vm (W1.out _)));have S3:=S2.drewN nq;clear d0 d1 d2 c4 c0;obtain⟨d0,-,d2⟩:=(S3.box 0 rfl).b3;have c0:=S3.c 1 0 rfl rfl;clear S2;generalize w2.drewN nq=w3 at *;replace p:=jH p
       by_cases hto:x.1=o
       ·go_wp2;go_ret;exact⟨fg (g.out (fun h=>h.2.1 hto)),S3.b⟩
       go_wp2_with fail;refine (kB _ _ _ _).mono ?_;rintro e w4 ⟨rfl,rfl⟩;rcases C:jI x.1 0 63 with _|_
       ·have:=kC C;go_wp2;go_ret;exact⟨fg (g.out (fun h=>by have:=h.2.2.1;omega)),S3.b⟩
       replace C:=jH C;go_wp2_with fail;refine (kB _ _ _ _).mono ?_;rintro e w4 ⟨rfl,rfl⟩;rcases v:jI x.2.2 1 65535 with _|_
       ·have:=kC v;go_wp2;go_ret;exact⟨fg (g.out (fun h=>by have:=h.2.2.2.1;omega)),S3.b⟩
       replace v:=jH v;go_wp2;go_round
       case rel=>exact⟨k+1,by go_num,by omega,N.out ⟨p,hto,C,v,t⟩,S3.dX _ (by simp)⟩
       case measure=>simp[intOf];omega
    ·have T:decide (x.2.1≤y.2.1)=true:=by simp;omega
     go_quiet ((go_at_call 170;exact vm (W1.out _)));go_wp2;go_ret;exact⟨fg (g.out (fun h=>by have:=h.2.2.2.2 y Q J;omega)),below_drewN S2.b nq⟩
  ·obtain rfl:k=n:=by omega
   have c5:=S.c 0 5 rfl rfl;go_wp2_with fail;clear c5;go_loopw [101] (fun u wr=>∃i:Nat,u= .int .i64 i∧i≤m∧Hid (mY pre i)∧St w wr [(w,[o,s,a,ov,.slice A k c,.slice B m d])] [(A,jN f),(B,jU pre)]) (fun u _=>m - (intOf u).toNat)
   case atStart=>exact⟨0,rfl,by omega,fun k x hk=>absurd hk (by omega),S⟩
   case round=>
    clear S;obtain⟨i,rfl,hi,P,S⟩:=hrel
    by_cases him:i<m
    ·obtain⟨b,off,rfl,l⟩:=yz (S.r 1 rfl) (by omega);have c5:=S.c 0 5 rfl rfl;obtain⟨x0,x1⟩:=l i (by omega);obtain⟨x,hx⟩:=ex (pre[i]'(by omega))
     rw[hx]at x0 x1;have H:pre[i]?=some x:=by rw[cM (by omega),hx]
     have X:x.1<4294967296:=hu.out x (eu H);have g:Hid (¬(mR x.1 x.2=true∧(∀y,0<i→pre[i - 1]?=some y→qi y.1 y.2 x.1 x.2<0))→false=vB ⟨o,s,a,ov,f,pre⟩):=fun h=>hL.out false (fun e=>by cases e) (fun _ e=>h (e.2 i x him H))
     have N:Hid (mR x.1 x.2=true∧(∀y,0<i→pre[i - 1]?=some y→qi y.1 y.2 x.1 x.2<0)→mY pre (i+1)):=fun h=>P.out.snoc H h.1 h.2
     clear P;go_wp2_with fail;have S2:=S.new #[.int .u32 (x.1:Int),x.2] 181;have O:=cQ wr (.cells #[.int .u32 (x.1:Int),x.2] 181);clear c5 x0 x1;generalize wr.alloc (.cells #[.int .u32 (x.1:Int),x.2] 181)=w2 at *;generalize ab:wr.heap.size=g2 at S2 ⊢;have d0:=cell_regrown (S2.c 0 0 rfl rfl);have d1:=cell_regrown (S2.c 0 1 rfl rfl);have c5:=cell_regrown (S2.c 1 5 rfl rfl);have V:Hid (∀W,Calls prog 171 #[.agg #[.int .u32 (x.1:Int),x.2]] W fun e w'=>e= .returned (.bool (mR x.1 x.2))∧cI W w'):=fun W=>HN x.1 x.2 X W
     obtain⟨b1,p⟩:=ex (mR x.1 x.2)
     rw[p]at V;cases b1 with
     |false=>
       refine wp_region_quiet_below (by kernel_rfl) (by kernel_rfl) ?_
       repeat (go_big_quiet_step (first
        | (go_at_call 171; with_reducible exact Calls.regrown_of (V.out _))))
       refine fI ?_;intro _ E;obtain⟨⟨dq,D⟩,q⟩:=E;subst q;go_wp2;go_ret;exact⟨fg (g.out (fun h=>by rw[p]at h;cases h.1)),S2.b.trans ((below_regrown _ dq D).mono S2.b.size)⟩
     |true=>
       rcases fF i with R|Q
       ·have hd:decide ((0:Int)< (i:Int))=false:=by simp[R]
        have t:∀y,0<i→pre[i - 1]?=some y→qi y.1 y.2 x.1 x.2<0:=fun y h=>absurd h (by omega)
        refine wp_region_quiet_below (by kernel_rfl) (by kernel_rfl) ?_
        repeat (go_big_quiet_step (first
         | (go_at_call 171; with_reducible exact Calls.regrown_of (V.out _))))
        refine fI ?_;intro _ E;obtain⟨⟨dq,D⟩,q⟩:=E;subst q;go_wp2;go_round
        case rel=>exact⟨i+1,by go_num,by omega,N.out ⟨p,t⟩,(S2.call (below_regrown _ dq D)).dX _ (by simp)⟩
        case measure=>simp[intOf];omega
       ·obtain⟨j,hj⟩:∃j,j+1=i:=⟨i - 1,by omega⟩
        have hd:decide ((0:Int)< (i:Int))=true:=by simp;omega
        have hw:IntKind.i64.wrap ((i:Int) - 1)=(j:Int):=by rw[show(i:Int) - 1=(j:Int)by omega,zf];omega
        have ad:j<m:=by omega
        obtain⟨y,hy⟩:=ex (pre[j]'(by omega))
        have J:pre[i - 1]?=some y:=by rw[←hj,uF,cM (by omega),hy]
        obtain⟨y0,y1⟩:=l j (by omega);rw[hy]at y0 y1;have y0:=cell_regrown (cW (show cI wr w2 from O) y0);have y1:=cell_regrown (cW (show cI wr w2 from O) y1)
        by_cases hlt:qi y.1 y.2 x.1 x.2<0
        ·have t:∀y,0<i→pre[i - 1]?=some y→qi y.1 y.2 x.1 x.2<0:=fun z _ h=>by rw[J]at h;injection h with h;rw[←h];exact hlt
         have T:decide (0≤qi y.1 y.2 x.1 x.2)=false:=by simp;omega
         refine wp_region_quiet_below (by kernel_rfl) (by kernel_rfl) ?_
         repeat (go_big_quiet_step (first
          |(go_at_call 171;with_reducible exact Calls.regrown_of (V.out _))
          | (go_at_call 172; with_reducible exact Calls.regrown_of (wD _ _ _ _ _))))
         refine fI ?_;intro _ E;obtain⟨⟨dq,D⟩,q⟩:=E;subst q;go_wp2;go_round
         case rel=>exact⟨i+1,by go_num,by omega,N.out ⟨p,t⟩,(S2.call (below_regrown _ dq D)).dX _ (by simp)⟩
         case measure=>simp[intOf];omega
        ·have T:decide (0≤qi y.1 y.2 x.1 x.2)=true:=by simp;omega
         refine wp_region_quiet_below (by kernel_rfl) (by kernel_rfl) ?_
         repeat (go_big_quiet_step (first
          |(go_at_call 171;with_reducible exact Calls.regrown_of (V.out _))
          | (go_at_call 172; with_reducible exact Calls.regrown_of (wD _ _ _ _ _))))
         refine fI ?_;intro _ E;obtain⟨⟨dq,D⟩,q⟩:=E;subst q;go_wp2;go_ret;exact⟨fg (g.out (fun h=>by have:=h.2 y Q J;omega)),S2.b.trans ((below_regrown _ dq D).mono S2.b.size)⟩
    ·obtain rfl:i=m:=by omega
     go_wp2;go_ret;exact⟨fg (hL.out true (fun _=>⟨F.out,P.out⟩) (fun e=>by cases e)),S.b⟩
def YJ:iF prog 38 169 (.agg #[.int .i64 0,.int .i64 0,.int .i64 0]) 3 24:=⟨underlying38,by kernel_rfl,rfl,by omega⟩
def ZG:iF prog 39 181 (.agg #[.int .u32 0,.int .i64 0]) 2 16:=⟨underlying39,by kernel_rfl,rfl,by omega⟩
def eU(w:World)(v:Value)(x:La):Prop:=∃A c B d,v=ig x.o x.s x.a x.ov A x.adj.length c B x.pre.length d∧Rd w A (jN x.adj)∧Rd w B (jU x.pre) ∧
 x.adj.length≤c∧c≤maxLen∧x.pre.length≤d∧d≤maxLen∧ ∀p∈x.pre,p.1<4294967296
def fh(w:World)(base:Nat)(v:Value)(x:La):Prop:=∃A c B d,v=ig x.o x.s x.a x.ov A x.adj.length c B x.pre.length d∧
 w.ownsRow base 169 3 (.slice A x.adj.length c) x.adj.length (jN x.adj)∧w.ownsRow base 181 2 (.slice B x.pre.length d) x.pre.length (jU x.pre)∧ ∀p∈x.pre,p.1<4294967296
def fh.at{w:World}{base:Nat}{v:Value}{x:La}(h:fh w base v x):eU w v x:=by
 obtain⟨A,c,B,d,rfl,h1,h2,h3⟩:=h;obtain⟨A',c',e1,r1,l1,m1⟩:=dN h1;obtain⟨B',d',e2,r2,l2,m2⟩:=dN h2;simp only[dp,fE]at e1 e2;obtain⟨rfl,rfl⟩:=e1;obtain⟨rfl,rfl⟩:=e2;exact⟨A,c,B,d,rfl,r1,r2,l1,m1,l2,m2,h3⟩
def fh.below{w w':World}{base:Nat}{v:Value}{x:La}(h:fh w base v x)(hb:cI w w'):fh w' base v x:=by
 obtain⟨A,c,B,d,rfl,h1,h2,h3⟩:=h;exact⟨A,c,B,d,rfl,dg h1 hb,dg h2 hb,h3⟩
def fh.mono{w:World}{base base':Nat}{v:Value}{x:La}(h:fh w base' v x)(hb:base≤base'):fh w base v x:=by
 obtain⟨A,c,B,d,rfl,h1,h2,h3⟩:=h;exact⟨A,c,B,d,rfl,dx h1 hb,dx h2 hb,h3⟩
def eU.below{w w':World}{v:Value}{x:La}(h:eU w v x)(hb:cI w w'):eU w' v x:=by
 obtain⟨A,c,B,d,rfl,h1,h2,h3⟩:=h;exact⟨A,c,B,d,rfl,h1.below hb,h2.below hb,h3⟩
def fQ(w:World)(base:Nat):fh w base (ig 0 0 0 false none 0 0 none 0 0) dT :=
 ⟨none,0,none,0,rfl,cn,cn,by simp[dT]⟩
structure Uh (w:World) (g:Nat) (bs:List UInt8) (X:cG) (m c:Nat):Prop where
 cel:w.cell? ⟨g,0,none⟩=some (.slice X m c)
 frz:w.frozen? ⟨g,0,none⟩=false
 rd:Bs w X bs
 len:bs.length=m
 mc:m≤c
 cm:c≤9223372036854775807
 iX:∀ad,X=some ad→ad.block≠g
def Ho{X:cG}{lo c:Nat}{ad:Addr}(h:oa X lo c=some ad):∃b,X=some b∧ad.block=b.block:=by
 unfold oa at h;split at h
 ·exact⟨ad,h,rfl⟩
 ·obtain⟨a,rfl,rfl⟩:=fW.1 h;exact⟨a,rfl,fu _ _⟩
def Rd.Vo{w:World}{A:cG}{xs:cH}(h:Rd w A xs){p:Addr}(u:Value)(hp:∀ad,A=some ad→ad.block≠p.block):Rd (w.setCell p u) A xs:=by
 intro hn;obtain⟨ad,e,hc⟩:=h hn;refine⟨ad,e,fun j v hv=>?_⟩
 rw[cell_far u (by intro e2;exact hp ad e (by rw[e2,fu]))];exact hc j v hv
def MX(bs:List UInt8)(h:bs.length≤4):ux bs<4294967296:=by
 unfold ux;split
 ·have:=zl bs;have:=mF (n:=256) (by omega) h;omega
 ·omega
def Ni(w:World)(g:Nat)(bs:List UInt8)(X:cG)(m c k:Nat)(h:Uh w g bs X m c)(hk:k≤4) :
  Calls prog 160 #[k,.pointer (some ⟨g,0,none⟩)] w fun e w'=>e= .returned (.int .i64 (ux (bs.take k))) ∧
   w'=w.setCell ⟨g,0,none⟩ (.slice (oa X (min k m) c) (m - min k m) (c - min k m))∧Uh w' g (bs.drop k) (oa X (min k m) c) (m - min k m) (c - min k m):=by
 have b:Hid (Uh (w.setCell ⟨g,0,none⟩ (.slice (oa X (min k m) c) (m - min k m) (c - min k m))) g (bs.drop k) (oa X (min k m) c) (m - min k m) (c - min k m)):=by
  obtain⟨c0,f0,rd,hl,i,j,iX⟩:=h;have hd:bs.drop k=bs.drop (min k m):=by
   rcases Nat.le_total k m with h|h
   ·rw[lK h]
   ·rw[Nat.min_eq_right h,gG (by omega),gG (by omega)]
  have f:∀ad,oa X (min k m) c=some ad→ad.block≠g:=by
   intro ad e;obtain⟨l,e1,e2⟩:=Ho e;rw[e2];exact iX l e1
  refine⟨fC w _ _ c0,by simp[f0],?_,by rw[fz];omega,by omega,by omega,f⟩
  rw[hd];have h2:=Rd.sub rd (min k m) c (by rw[dh];omega);rw[←ED]at h2;exact h2.Vo (p:=⟨g,0,none⟩) _ f
 obtain⟨c0,f0,rd,hl,i,j,iX⟩:=h;clear iX;have n:=MX (bs.take k) (by rw[eM];omega);have d:=rd.take k;rw[←WW]at d;have a:(bs.take k).length=min k m:=by rw[eM,hl]
 generalize bs.drop k=o at b ⊢;clear hl rd
 by_cases h:m<k
 ·rw[Nat.min_eq_right (by omega)]at b a ⊢;rw[Yx]at b ⊢;have U:=zh X m c (bs.take k) w d a (by omega);have hs:=fun W=>wh jm X m c m (by omega) W (P:=prog)
  replace a:=φ a;generalize ux (bs.take k)=un at *;generalize Rh (bs.take k)=ue at *;clear a d;generalize oa X m c=X2 at *;go_in;go_wp2_with fail;refine U.mono ?_;rintro e w1 ⟨rfl,rfl⟩;clear U;go_wp2;go_ret;exact⟨rfl,rfl,b⟩
 ·rw[lK (by omega)]at b a ⊢;have U:=zh X k c (bs.take k) w d a (by omega);have hs:=fun W=>wh jm X m c k (by omega) W (P:=prog)
  replace a:=φ a;generalize ux (bs.take k)=un at *;generalize Rh (bs.take k)=ue at *;clear a d;generalize oa X k c=X2 at *;go_in;go_wp2_with fail;refine U.mono ?_;rintro e w1 ⟨rfl,rfl⟩;clear U;go_wp2;go_ret;exact⟨rfl,rfl,b⟩
end Go.Proofs.YtehimhbgakpenaaGreat
namespace Go.Proofs.YtehimhbgakpenaaGreat
open Go.RowKit Go.ChangeShapes Go.WideShapes Go.ChangeAt Go.Proofs.Tryz
section
variable {P:Program} {w:World} {t:TypeId}
def qe{α β γ:Type}{R:α→cH→Prop}{S:β→cH→Prop}{T:γ→cH→Prop}{f g h:Field}(ht:P.underlying t=some (.struct #[f,g,h]))(hf:f.offset=0)(hg:g.offset=1)(hh:h.offset=2)
  (cf:P.cellsOf f.type=1) (cg:P.cellsOf g.type=1) (ch:P.cellsOf h.type=1) (hC:P.cellsOf t=3) (hR:fH P w f.type R) (hS:fH P w g.type S) (hT:fH P w h.type T) :
  fH P w t (fun(x:α× β× γ) cs=>∃a b c,cs= [a,b,c]∧R x.1 [a]∧S x.2.1 [b]∧T x.2.2 [c]):=by
 intro H e base spare held fuel cs x hx;obtain⟨xs,n,_,_,d,hl,hi⟩:=mH ht hx;simp at hl;have h0:=hi 0 f rfl;have h1:=hi 1 g rfl;have h2:=hi 2 h rfl;rw[cM (by omega)]at h0 h1 h2;rw[hC]at d
 match cs,d with
 | [a,b,c],_=>
   rw[hf,cf]at h0;rw[hg,cg]at h1;rw[hh,ch]at h2;obtain⟨p,rp,_⟩:=hR h0;obtain⟨q,rq,_⟩:=hS h1;obtain⟨r,rr,_⟩:=hT h2;exact⟨(p,q,r),⟨a,b,c,rfl,rp,rq,rr⟩,by simp[hC]⟩
def BL{α0 α1 α2 α3 α4 α5:Type}{R0:α0→cH→Prop}{R1:α1→cH→Prop}{R2:α2→cH→Prop}{R3:α3→cH→Prop}{R4:α4→cH→Prop}{R5:α5→cH→Prop}{f0 f1 f2 f3 f4 f5:Field}
  (ht:P.underlying t=some (.struct #[f0,f1,f2,f3,f4,f5])) (o0:f0.offset=0) (o1:f1.offset=1) (o2:f2.offset=2) (o3:f3.offset=3) (o4:f4.offset=4) (o5:f5.offset=5)
  (c0:P.cellsOf f0.type=1) (c1:P.cellsOf f1.type=1) (c2:P.cellsOf f2.type=1) (c3:P.cellsOf f3.type=1) (c4:P.cellsOf f4.type=1) (c5:P.cellsOf f5.type=1) (hC:P.cellsOf t=6)
  (h0:fH P w f0.type R0) (h1:fH P w f1.type R1) (h2:fH P w f2.type R2) (h3:fH P w f3.type R3) (h4:fH P w f4.type R4) (h5:fH P w f5.type R5) :
  fH P w t (fun(x:α0× α1× α2× α3× α4× α5) cs=>∃v0 v1 v2 v3 v4 v5,cs= [v0,v1,v2,v3,v4,v5]∧R0 x.1 [v0]∧R1 x.2.1 [v1]∧R2 x.2.2.1 [v2]∧R3 x.2.2.2.1 [v3]∧R4 x.2.2.2.2.1 [v4]∧R5 x.2.2.2.2.2 [v5]):=by
 intro H b base spare held fuel cs x hx;obtain⟨xs,n,_,_,a,hl,hi⟩:=mH ht hx;simp at hl;have e0:=hi 0 f0 rfl;have e1:=hi 1 f1 rfl;have e2:=hi 2 f2 rfl;have e3:=hi 3 f3 rfl;have e4:=hi 4 f4 rfl;have e5:=hi 5 f5 rfl;rw[cM (by omega)]at e0 e1 e2 e3 e4 e5;rw[hC]at a
 match cs,a with
 | [v0,v1,v2,v3,v4,v5],_=>
   rw[o0,c0]at e0;rw[o1,c1]at e1;rw[o2,c2]at e2;rw[o3,c3]at e3;rw[o4,c4]at e4;rw[o5,c5]at e5;obtain⟨p0,r0,_⟩:=h0 e0;obtain⟨p1,r1,_⟩:=h1 e1;obtain⟨p2,r2,_⟩:=h2 e2;obtain⟨p3,r3,_⟩:=h3 e3;obtain⟨p4,r4,_⟩:=h4 e4;obtain⟨p5,r5,_⟩:=h5 e5;exact⟨(p0,p1,p2,p3,p4,p5),⟨v0,v1,v2,v3,v4,v5,rfl,r0,r1,r2,r3,r4,r5⟩,by simp[hC]⟩
end
def R7{xs:List (Int× Int× Int)}:∀ {vs:cH},En (fun(x:Int× Int× Int) cs=>∃a b c,cs= [a,b,c]∧lj .i64 x.1 [a]∧lj .i64 x.2.1 [b]∧lj .i64 x.2.2 [c]) 3 xs vs→vs=jN xs:=by
 induction xs with
 |nil=>intro vs h;exact h
 |cons x t ih=>
   rintro vs ⟨c,q,rfl,⟨a1,a2,a3,rfl,⟨e1,_⟩,⟨e2,_⟩,⟨e3,_⟩⟩,_,hr⟩;rw[ih hr];simp only[dJ,fv]at e1 e2 e3;subst e1 e2 e3;rfl
def Jt{xs:List (Int× Int)}:∀ {vs:cH},En (Ka (lj .u32) (lj .i64)) 2 xs vs→ ∃l:List Pf,vs=jU l∧l.length=xs.length∧ ∀p∈l,p.1<4294967296:=by
 induction xs with
 |nil=>intro vs h;exact⟨[],h,rfl,by simp⟩
 |cons x t ih=>
   rintro vs ⟨c,q,rfl,⟨c1,c2,rfl,⟨rfl,w1⟩,⟨rfl,_⟩⟩,_,hr⟩;obtain⟨l,rfl,hl,a⟩:=ih hr;obtain⟨b0,b1⟩:=bounds_u32 w1;refine⟨(x.1.toNat,x.2) :: l,?_,by simp[hl],fun p hp=>?_⟩
   ·simp only[jU,List.cons_append,List.nil_append];rw[dR b0]
   ·rcases dA.1 hp with rfl|hp
    ·simp only;omega
    ·exact a p hp
section
variable {H:Type} {enc:TypeId × Value → H} {w:World} {base:Nat} {spare:Nat → Bool} {held:Bool} {r:Reach} {b0:Nat} {v:Value} {d:DataW H} {ps:List MemPlace}
def Zr(w:World)(x:La)(cs:cH):Prop:=eU w (.agg cs.toArray) x∧cs.length=6
def O8(w:World):fH prog w 41 (Zr w):=by
 have OA:fH prog w 169 _:=qe (w:=w) underlying169 rfl rfl rfl (by kernel_rfl) (by kernel_rfl) (by kernel_rfl) (by kernel_rfl) (iL underlying3 (by kernel_rfl)) (iL underlying3 (by kernel_rfl)) (iL underlying3 (by kernel_rfl));have OP:fH prog w 181 _:=uP (w:=w) underlying181 rfl (by kernel_rfl) (by kernel_rfl) (iL underlying179 (by kernel_rfl)) (iL underlying3 (by kernel_rfl));have O:fH prog w 41 _:=BL (w:=w) underlying41 rfl rfl rfl rfl rfl rfl (by kernel_rfl) (by kernel_rfl) (by kernel_rfl) (by kernel_rfl) (by kernel_rfl) (by kernel_rfl) (by kernel_rfl)
  (iL underlying3 (by kernel_rfl)) (iL underlying3 (by kernel_rfl)) (iL underlying3 (by kernel_rfl)) (vn underlying4 (by kernel_rfl))
  (lR underlying38 (by kernel_rfl) OA) (lR underlying39 (by kernel_rfl) OP)
 intro H g base spare held fuel cs x hx;obtain⟨⟨p0,p1,p2,p3,xs,ys⟩,⟨v0,v1,v2,v3,v4,v5,rfl,⟨e0,_⟩,⟨e1,_⟩,⟨e2,_⟩,e3,⟨A,c,vs,e4,l1,l2,r1,f⟩,⟨B,d,us,e5,l3,l4,r2,e⟩⟩,hl⟩:=O hx;rw[show prog.cellsOf 169=3 from by kernel_rfl]at r1;rw[show prog.cellsOf 181=2 from by kernel_rfl]at r2;obtain rfl:=R7 r1;obtain⟨l,rfl,b,a⟩:=Jt r2;unfold Bh at e3;simp only[dJ,fv]at e0 e1 e2 e3 e4 e5;subst e0 e1 e2 e3 e4 e5;simp only at l1 l3 b ⊢;refine⟨⟨p0,p1,p2,p3,xs,l⟩,⟨⟨A,c,B,d,?_,f,e,l1,l2,by simp only;omega,l4,a⟩,rfl⟩,hl⟩
 simp only[b]
end
end Go.Proofs.YtehimhbgakpenaaGreat
