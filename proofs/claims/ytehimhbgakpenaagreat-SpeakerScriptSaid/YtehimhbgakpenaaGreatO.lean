/- Lemmas. -/
import Derived.StillTailTactics
import Derived.Test.YtehimhbgakpenaaGreatK
set_option linter.all false
set_option maxRecDepth 100000
set_option maxHeartbeats 16000000
namespace Go.Proofs.YtehimhbgakpenaaGreat
open Go.RowKit Go.Sort Go.Proofs.Tryz
abbrev Qn(ov:Bool)(A:cG)(n c:Nat)(B:cG)(m d:Nat):Value:=.agg #[ov,.slice A n c,.slice B m d]
def yk(w:World)(v:Value)(x:La):Prop:=∃A c B d,v=Qn x.ov A x.adj.length c B x.pre.length d∧Rd w A (jN x.adj)∧Rd w B (jU x.pre) ∧
 x.adj.length≤c∧c≤maxLen∧x.pre.length≤d∧d≤maxLen∧ ∀p∈x.pre,p.1<4294967296
def Dh(w:World)(base:Nat)(v:Value)(x:La):Prop:=∃A c B d,v=Qn x.ov A x.adj.length c B x.pre.length d∧
 w.ownsRow base 169 3 (.slice A x.adj.length c) x.adj.length (jN x.adj)∧w.ownsRow base 181 2 (.slice B x.pre.length d) x.pre.length (jU x.pre)∧ ∀p∈x.pre,p.1<4294967296
def yk.below{w w':World}{v:Value}{x:La}(h:yk w v x)(hb:cI w w'):yk w' v x:=by
 obtain⟨A,c,B,d,rfl,h1,h2,h3⟩:=h;exact⟨A,c,B,d,rfl,h1.below hb,h2.below hb,h3⟩
def kG{w:World}{base:Nat}{e:TypeId}{size:Nat}{A:cG}{n c:Nat}{xs:cH}(h:w.ownsRow base e size (.slice A n c) n xs):Rd w A xs∧n≤c∧c≤maxLen∧ ∀ad,A=some ad→base≤ad.block:=by
 obtain⟨A',c',e1,r,l,m⟩:=dN h;simp only[dp,fE]at e1;obtain⟨rfl,rfl⟩:=e1;refine⟨r,l,m,fun ad e=>?_⟩
 rcases h.2 with ⟨e2,_⟩|⟨g,cap,cur,e2,hg,_⟩
 ·rw[e]at e2;cases e2
 ·rw[e]at e2;simp only[dp,dB]at e2;obtain⟨rfl,_⟩:=e2;exact hg
def Dh.at{w:World}{base:Nat}{v:Value}{x:La}(h:Dh w base v x):yk w v x:=by
 obtain⟨A,c,B,d,rfl,h1,h2,h3⟩:=h;obtain⟨r1,l1,m1,_⟩:=kG h1;obtain⟨r2,l2,m2,_⟩:=kG h2;exact⟨A,c,B,d,rfl,r1,r2,l1,m1,l2,m2,h3⟩
def num(o s a:Int)(x:La):La:=⟨o,s,a,x.ov,x.adj,x.pre⟩
def yk.form{w:World}{v:Value}{x:La}(h:yk w v x):∃A c B d,v=Qn x.ov A x.adj.length c B x.pre.length d:=by
 obtain⟨A,c,B,d,hv,_⟩:=h;exact⟨A,c,B,d,hv⟩
def jg(w:World)(g:Nat)(x:La)(mk:Bool):Prop:=∃A c B d,fq w g [x.ov,.slice A x.adj.length c,.slice B x.pre.length d,x.o,x.s,mk,x.a] ∧
 Rd w A (jN x.adj)∧Rd w B (jU x.pre)∧x.adj.length≤c∧c≤maxLen∧x.pre.length≤d∧d≤maxLen∧(∀p∈x.pre,p.1<4294967296)∧(∀ad,A=some ad→ad.block≠g)∧(∀ad,B=some ad→ad.block≠g)
def jg.below{w w':World}{g:Nat}{x:La}{mk:Bool}(h:jg w g x mk)(hb:cI w w'):jg w' g x mk:=by
 obtain⟨A,c,B,d,h0,h1,h2,h3⟩:=h;exact⟨A,c,B,d,h0.later hb,h1.below hb,h2.below hb,h3⟩
def jg.lt{w:World}{g:Nat}{x:La}{mk:Bool}(h:jg w g x mk):g<w:=by
 obtain⟨A,c,B,d,h0,_⟩:=h;exact h0.lt (by simp)
def Rd.grown{w w':World}{A:cG}{xs:cH}{g:Nat}(h:Rd w A xs)(hg:w.grownBy w' (some g))(hf:∀ad,A=some ad→ad.block≠g):Rd w' A xs:=by
 intro hn;obtain⟨ad,e,hb⟩:=h.block hn;obtain⟨a,e',hc⟩:=h hn;rw[e]at e';injection e' with e'
 subst e';refine⟨ad,e,fun j u hu=>?_⟩
 rw[cY (hg.block _ (by rw[fu];exact hb) (by rw[fu];intro e2;injection e2 with e2;exact hf ad e e2))];exact hc j u hu
def yJ(w:World)(v:Value)(x:La)(h:yk w v x)(j:x.adj.length≤1000000)(i:x.pre.length≤1000000) :
  Calls prog 129 #[v] w fun e w'=>∃v',e= .returned v'∧Dh w' w v' x∧cI w w':=by
 obtain⟨A,c,B,d,rfl,rA,rB,h1,h2,h3,h4,hu⟩:=h;have S:=((((St.start w).read rB).read rA).nw #[x.ov,.slice A x.adj.length c,.slice B x.pre.length d] 164 w).nw #[false,sn,sn] 164 (w.heap.size+1);have C1:=fun W (h:Rd W A (jN x.adj))=>Gv W A _ c x.adj h rfl j
 have C2:=fun W (h:Rd W B (jU x.pre))=>AB W B _ d x.pre h rfl i
 have g:∀W' A' c' B' d',W'.ownsRow w 169 3 (.slice A' x.adj.length c') x.adj.length (jN x.adj)→W'.ownsRow w 181 2 (.slice B' x.pre.length d') x.pre.length (jU x.pre)→Dh W' w (Qn x.ov A' x.adj.length c' B' x.pre.length d') x:=fun W' A' c' B' d' a b=>⟨A',c',B',d',rfl,a,b,hu⟩
 clear rA rB hu;replace C1:=φ C1;replace C2:=φ C2;replace g:=φ g;generalize x.adj.length=n at *;generalize x.pre.length=m at *;generalize x.ov=ov at *;obtain⟨a0,a1,a2⟩:=(S.box 1 rfl).b3;go_in;go_wp2_with fail;refine (C1 _ (S.r 0 rfl)).mono ?_;rintro e w1 ⟨A1,c1,rfl,o1,hb⟩;clear a0;replace S:=S.call hb;clear hb C1;simp only[fD]at o1;have f1:=S.f 1 1 rfl rfl;obtain⟨a0,a1,a2⟩:=(S.box 1 rfl).b3;have S2:=S.s 1 1 (.slice A1 n c1);replace o1:=cV (a:=⟨w,1,none⟩) o1 (by simp only;omega) (.slice A1 n c1);have k:=S2.b.size;have l:=S2.lt 0 rfl (by simp);go_wp2_with fail;generalize w1.setCell ⟨w,1,none⟩ (.slice A1 n c1)=w2 at *;refine (C2 _ (S2.r 1 rfl)).mono ?_;rintro e w3 ⟨B1,d1,rfl,o2,hb⟩;clear a0 f1 C2 S;replace o1:=dg o1 hb;replace S2:=S2.call hb;clear hb;have f2:=S2.f 1 2 rfl rfl;have e0:=(S2.box 0 rfl).f3;have a0:=(S2.box 1 rfl).b3;have b0:=(S2.box 0 rfl).b3;have S9:=(((S2.s 1 2 (.slice B1 m d1)).s 0 0 (.bool ov)).s 0 1 (.slice A1 n c1)).s 0 2 (.slice B1 m d1);have o3:=cV (a:=⟨w.heap.size+1,2,none⟩) (cV (a:=⟨w.heap.size+1,1,none⟩) (cV (a:=⟨w.heap.size+1,0,none⟩) (cV (a:=⟨w,2,none⟩) o1 (by simp only;omega) (.slice B1 m d1)) (by simp only;omega) (.bool ov)) (by simp only;omega) (.slice A1 n c1)) (by simp only;omega) (.slice B1 m d1);have o4:=cV (a:=⟨w.heap.size+1,2,none⟩) (cV (a:=⟨w.heap.size+1,1,none⟩) (cV (a:=⟨w.heap.size+1,0,none⟩) (cV (a:=⟨w,2,none⟩) o2 (by simp only;omega) (.slice B1 m d1)) (by simp only;omega) (.bool ov)) (by simp only;omega) (.slice A1 n c1)) (by simp only;omega) (.slice B1 m d1);have hf:=g.out _ _ _ _ _ (dx o3 (by omega)) (dx o4 (by omega));have hb9:=S9.b;go_wp2;exact dc (v:=Qn ov A1 n c1 B1 m d1) (by simp[results,results129,go_sem,b0]) rfl ⟨_,rfl,hf,hb9⟩
def Gu(w:World)(v u:Value)(x y:La)(hx:yk w v x)(hy:yk w u y) :
  Calls prog 128 #[v,u] w fun e w'=>e= .returned (.bool (pL x y))∧cI w w':=by
 obtain⟨A,c,B,d,rfl,rA,rB,h1,h2,h3,h4,_⟩:=hx;obtain⟨A',c',B',d',rfl,f,a,l,j,k,i,_⟩:=hy;unfold maxLen at h2 h4 j i;have S:=((((((St.start w).read a).read f).read rB).read rA).nw #[x.ov,.slice A x.adj.length c,.slice B x.pre.length d] 164 w).nw #[y.ov,.slice A' y.adj.length c',.slice B' y.pre.length d'] 164 (w.heap.size+1);have C1:=fun W (h:Rd W A (jN x.adj)) (h':Rd W A' (jN y.adj))=>Ny W A A' _ c _ c' x.adj y.adj h h' rfl rfl (by omega)
 have C2:=fun W (h:Rd W B (jU x.pre)) (h':Rd W B' (jU y.pre))=>Jl W B B' _ d _ d' x.pre y.pre h h' rfl rfl (by omega)
 clear rA rB f a;unfold pL;generalize decide (x.adj=y.adj)=r1 at *;generalize decide (x.pre=y.pre)=r2 at *;replace C1:=φ C1;replace C2:=φ C2;generalize x.adj.length=n at *;generalize x.pre.length=m at *;generalize y.adj.length=n' at *;generalize y.pre.length=m' at *;generalize x.ov=ov at *;generalize y.ov=g at *;obtain⟨a0,a1,a2⟩:=(S.box 1 rfl).b3;obtain⟨b0,b1,b2⟩:=(S.box 0 rfl).b3;rcases ho:(ov==g)with _|_
 ·go_in;go_wp2;go_ret;exact⟨rfl,S.b⟩
 ·go_in;go_wp2_with fail;refine (C1 _ (S.r 0 rfl) (S.r 2 rfl)).mono ?_;rintro e w1 ⟨rfl,hb⟩;clear a0 b0;replace S:=S.call hb;clear hb C1;cases r1 with
  |false=>
    go_wp2;go_ret;exact⟨rfl,S.b⟩
  |true=>
  have a0:=(S.box 1 rfl).b3;have b0:=(S.box 0 rfl).b3;go_wp2_with fail;refine (C2 _ (S.r 1 rfl) (S.r 3 rfl)).mono ?_;rintro e w2 ⟨rfl,hb⟩;replace S:=S.call hb;cases r2 with
  |false=>
    go_wp2;go_ret;exact⟨rfl,S.b⟩
  |true=>
    go_wp2;go_ret;exact⟨rfl,S.b⟩
def Kh(w:World)(x:La)(e:Ending)(w':World):Prop :=
 ∃v,e= .returned v∧fh w' w v x∧cI w w'
def AK(w:World)(g:Nat)(v:Value)(x:La)(node s a:Int)(hn:w.cell? ⟨g,3,none⟩=some (.int .i64 node))(h:yk w v x)(m:x.adj.length≤1000000)(l:x.pre.length≤1000000) :
  Calls prog 127 #[.pointer (some ⟨g,0,none⟩),v,s,a] w (Kh w (num node s a x)):=by
 obtain⟨A,c,B,d,rfl⟩:=h.form;have S:=((St.start w).nw #[x.ov,.slice A x.adj.length c,.slice B x.pre.length d] 164 w).nw #[i0,i0,i0,false,sn,sn] 41 (w.heap.size+1);have C:=fun W hb=>yJ W _ x (h.below hb) m l
 replace C:=φ C;replace hn:Hid (∀W,cI w W→Cv W g 3 node):=fun W hb=>cW hb hn
 obtain⟨a0,a1,a2⟩:=(S.box 1 rfl).b3;go_in;go_wp2_with fail;refine (C _ S.b).mono ?_;rintro e w1 ⟨v1,rfl,f,hb⟩;clear a0;have k:=S.lt 0 rfl (by simp);replace S:=S.call hb;have n:=S.lt 0 rfl (by simp);obtain⟨A1,c1,B1,d1,rfl,o1,o2,hu⟩:=f;clear hb C h;have S2:=((S.s 1 0 (.bool x.ov)).s 1 1 (.slice A1 x.adj.length c1)).s 1 2 (.slice B1 x.pre.length d1);have p1:=cV (a:=⟨w,2,none⟩) (cV (a:=⟨w,1,none⟩) (cV (a:=⟨w,0,none⟩) o1 (by simp only[fD];omega) (.bool x.ov)) (by simp only[fD];omega) (.slice A1 x.adj.length c1)) (by simp only[fD];omega) (.slice B1 x.pre.length d1);have p2:=cV (a:=⟨w,2,none⟩) (cV (a:=⟨w,1,none⟩) (cV (a:=⟨w,0,none⟩) o2 (by simp only[fD];omega) (.bool x.ov)) (by simp only[fD];omega) (.slice A1 x.adj.length c1)) (by simp only[fD];omega) (.slice B1 x.pre.length d1);simp only[fD]at p1 p2 k;obtain⟨a0,a1,a2⟩:=(S.box 1 rfl).b3;obtain⟨f0,f1,f2⟩:=(S.box 1 rfl).f3;go_upto_region 2 with fail;clear a0 f0 o1 o2 S;generalize World.setCell (World.setCell (World.setCell _ _ _) _ _) _ _=w2 at *;have j:=hn.out _ S2.b;clear hn;have a0:=(S2.box 1 rfl).b3;have b0:=(S2.box 0 rfl).b6;obtain⟨f0,f1,f2,f3,f4,f5⟩:=(S2.box 0 rfl).f6;have i:Hid (Kh w (num node s a x) (.returned (ig node s a x.ov A1 x.adj.length c1 B1 x.pre.length d1)) ((((((w2.drew.setCell ⟨w.heap.size+1,0,none⟩ node).setCell ⟨w.heap.size+1,1,none⟩ s).setCell ⟨w.heap.size+1,2,none⟩ a).setCell ⟨w.heap.size+1,3,none⟩ (.bool x.ov)).setCell ⟨w.heap.size+1,4,none⟩ (.slice A1 x.adj.length c1)).setCell ⟨w.heap.size+1,5,none⟩ (.slice B1 x.pre.length d1))):=by
  have S9:=S2.drew.wg node s a x.ov (.slice A1 x.adj.length c1) (.slice B1 x.pre.length d1) (by omega) (by simp);have q1:=jW (w:=w2.drew) p1 (g:=w.heap.size+1) (by omega) (.int .i64 node) (.int .i64 s) (.int .i64 a) (.bool x.ov) (.slice A1 x.adj.length c1) (.slice B1 x.pre.length d1);have q2:=jW (w:=w2.drew) p2 (g:=w.heap.size+1) (by omega) (.int .i64 node) (.int .i64 s) (.int .i64 a) (.bool x.ov) (.slice A1 x.adj.length c1) (.slice B1 x.pre.length d1);exact⟨_,rfl,⟨_,_,_,_,rfl,dx q1 (by omega),dx q2 (by omega),hu⟩,S9.b⟩
 clear p1 p2;go_still_tail 13,(by kernel_rfl)
 change wpList _ _ _ _ _ w2.drew;clear a0 b0 f0;replace S2:=S2.drew;have b0:=(S2.box 0 rfl).b6;have f0:=(S2.box 0 rfl).f6;clear j;generalize w2.drew=w3 at *;go_wp2;exact dc (v:=ig node s a x.ov A1 x.adj.length c1 B1 x.pre.length d1) (by simp[results,results127,go_sem,b0]) rfl i
def kd{w w':World}(hb:cI w w')(row:Option Nat):w.grownBy w' row:=⟨hb.os,hb.tape,hb.output,hb.size,fun k hk _=>hb.block k hk⟩
section
variable {w w':World} {g:Nat} {x:La} {mk:Bool}
def jg.RK(h:jg w g x mk)(s:Int):jg (w.setCell ⟨g,4,none⟩ (.int .i64 s)) g { x with s:=s } mk:=by
 obtain⟨A,c,B,d,h0,h1,h2,h3,h4,h5,h6,h7,h8,h9⟩:=h;exact⟨A,c,B,d,h0.set 4 (.int .i64 s) (by simp),h1.grown (dk _ _ _ _) h8,h2.grown (dk _ _ _ _) h9,h3,h4,h5,h6,h7,h8,h9⟩
def jg.yP(h:jg w g x mk)(m:Bool):jg (w.setCell ⟨g,5,none⟩ (.bool m)) g x m:=by
 obtain⟨A,c,B,d,h0,h1,h2,h3,h4,h5,h6,h7,h8,h9⟩:=h;exact⟨A,c,B,d,h0.set 5 (.bool m) (by simp),h1.grown (dk _ _ _ _) h8,h2.grown (dk _ _ _ _) h9,h3,h4,h5,h6,h7,h8,h9⟩
def jg.RM(h:jg w g x mk)(a:Int):jg (w.setCell ⟨g,6,none⟩ (.int .i64 a)) g { x with a:=a } mk:=by
 obtain⟨A,c,B,d,h0,h1,h2,h3,h4,h5,h6,h7,h8,h9⟩:=h;exact⟨A,c,B,d,h0.set 6 (.int .i64 a) (by simp),h1.grown (dk _ _ _ _) h8,h2.grown (dk _ _ _ _) h9,h3,h4,h5,h6,h7,h8,h9⟩
def jg.Xw(h:jg w g x mk){y:La}{A:cG}{c:Nat}{B:cG}{d base:Nat}(b:Dh w base (Qn y.ov A y.adj.length c B y.pre.length d) y)(hg:g<base) :
  jg (((w.setCell ⟨g,0,none⟩ (.bool y.ov)).setCell ⟨g,1,none⟩ (.slice A y.adj.length c)).setCell ⟨g,2,none⟩ (.slice B y.pre.length d)) g (num x.o x.s x.a y) mk:=by
 obtain⟨A',c',B',d',h0,_⟩:=h;obtain⟨A9,c9,B9,d9,e9,o1,o2,hu⟩:=b;simp only[Qn,eE,eS,dJ,dp,fE,fv]at e9;obtain⟨⟨rfl,rfl⟩,rfl,rfl⟩:=e9;obtain⟨r1,l1,m1,f1⟩:=kG o1;obtain⟨r2,l2,m2,f2⟩:=kG o2;have k1:∀ad,A=some ad→ad.block≠g:=fun ad e=>by have:=f1 ad e;omega
 have k2:∀ad,B=some ad→ad.block≠g:=fun ad e=>by have:=f2 ad e;omega
 have f:=((dk w g 0 (.bool y.ov)).trans (dk _ g 1 (.slice A y.adj.length c))).trans (dk _ g 2 (.slice B y.pre.length d));exact⟨A,c,B,d,((h0.set 0 (.bool y.ov) (by simp)).set 1 (.slice A y.adj.length c) (by simp)).set 2 (.slice B y.pre.length d) (by simp),r1.grown f k1,r2.grown f k2,l1,m1,l2,m2,hu,k1,k2⟩
def jg.co(h:jg w g x mk):∃A c B d,fq w g [x.ov,.slice A x.adj.length c,.slice B x.pre.length d,x.o,x.s,mk,x.a]∧yk w (Qn x.ov A x.adj.length c B x.pre.length d) x:=by
 obtain⟨A,c,B,d,h0,h1,h2,h3,h4,h5,h6,h7,_⟩:=h;exact⟨A,c,B,d,h0,A,c,B,d,rfl,h1,h2,h3,h4,h5,h6,h7⟩
end
def UW(w:World)(g b:Nat):Prop:=∀A n c,0<n→(w.cell? ⟨g,1,none⟩=some (.slice A n c)∨w.cell? ⟨g,2,none⟩=some (.slice A n c))→ ∀ad,A=some ad→ad.block≠b
def Ty(w:World)(k:Nat)(T:TypeId):Prop:=∃cur fr,w.heap[k]?=some (.cells cur T fr)
def ee(w w':World):Prop:=∀k T,Ty w k T→Ty w' k T
def ee.refl(w:World):ee w w:=fun _ _ h=>h
def ee.trans{w w1 w2:World}(h:ee w w1)(k:ee w1 w2):ee w w2:=fun b T e=>k b T (h b T e)
def ee.below{w w':World}(hb:cI w w'):ee w w':=fun k T ⟨cur,fr,e⟩=>⟨cur,fr,(hb.block k (df.1 e).1).trans e⟩
def ee.set(w:World)(p:Addr)(u:Value):ee w (w.setCell p u):=fun k T ⟨cur,fr,e⟩=>by
 by_cases h:k=p.block
 ·subst h;exact⟨_,fr,by simp[World.setCell,YP,e];rfl⟩
 ·exact⟨cur,fr,(lV w p k u h).trans e⟩
def MJ(w:World)(g:Nat):Prop:=(∀A n c,0<n→w.cell? ⟨g,1,none⟩=some (.slice A n c)→ ∀ad,A=some ad→Ty w ad.block 169)∧(∀A n c,0<n→w.cell? ⟨g,2,none⟩=some (.slice A n c)→ ∀ad,A=some ad→Ty w ad.block 181)
def MJ.qG{w w':World}{g:Nat}(h:MJ w g)(h1:w'.cell? ⟨g,1,none⟩=w.cell? ⟨g,1,none⟩)(h2:w'.cell? ⟨g,2,none⟩=w.cell? ⟨g,2,none⟩)(hp:ee w w'):MJ w' g :=
 ⟨fun A n c hn hc ad ha=>hp _ _ (h.1 A n c hn (by rw[←h1];exact hc) ad ha),fun A n c hn hc ad ha=>hp _ _ (h.2 A n c hn (by rw[←h2];exact hc) ad ha)⟩
def iq(w w':World)(g:Nat):Prop:=(∀b,b<w.heap.size→UW w g b→UW w' g b)∧ee w w'∧(MJ w g→MJ w' g)
def iq.qG{w w':World}{g:Nat}(h1:w'.cell? ⟨g,1,none⟩=w.cell? ⟨g,1,none⟩)(h2:w'.cell? ⟨g,2,none⟩=w.cell? ⟨g,2,none⟩)(hp:ee w w'):iq w w' g:=⟨fun b _ h A n c hn hc=>h A n c hn (by rw[h1,h2]at hc;exact hc),hp,fun h=>h.qG h1 h2 hp⟩
def iq.trans{w w1 w2:World}{g:Nat}(h:iq w w1 g)(hs:w.heap.size≤w1.heap.size)(k:iq w1 w2 g):iq w w2 g:=⟨fun b hb ha=>k.1 b (eh hb hs) (h.1 b hb ha),h.2.1.trans k.2.1,fun e=>k.2.2 (h.2.2 e)⟩
def iq.below{w w':World}{g:Nat}(hg:g<w)(hb:cI w w'):iq w w' g:=.qG (hb.cell (p:=⟨g,1,none⟩) hg) (hb.cell (p:=⟨g,2,none⟩) hg) (ee.below hb)
def iq.set{w:World}{g:Nat}{j:Nat}(u:Value)(h1:j≠1)(h2:j≠2):iq w (w.setCell ⟨g,j,none⟩ u) g:=.qG (cell_far u (by intro e;injection e with _ e2;exact h1 e2)) (cell_far u (by intro e;injection e with _ e2;exact h2 e2)) (ee.set _ _ _)
def iq.fresh{W w:World}{g:Nat}{cs:cH}(h0:fq w g cs)(hl:cs.length=7){y:La}{A:cG}{c:Nat}{B:cG}{d base:Nat}(f:Dh w base (Qn y.ov A y.adj.length c B y.pre.length d) y)(hs:W≤base)(hp:ee W w) :
  iq W (((w.setCell ⟨g,0,none⟩ (.bool y.ov)).setCell ⟨g,1,none⟩ (.slice A y.adj.length c)).setCell ⟨g,2,none⟩ (.slice B y.pre.length d)) g:=by
 obtain⟨A9,c9,B9,d9,e9,o1,o2,hu⟩:=f;simp only[Qn,eE,eS,dJ,dp,fE,fv]at e9;obtain⟨⟨rfl,rfl⟩,rfl,rfl⟩:=e9;have i:=((h0.set 0 (.bool y.ov) (by omega)).set 1 (.slice A y.adj.length c) (by simp;omega)).set 2 (.slice B y.pre.length d) (by simp;omega);have k1:=i.c 1 (u:=.slice A y.adj.length c) (by simp[I1];omega);have k2:=i.c 2 (u:=.slice B y.pre.length d) (by simp[I1];omega);have h3:ee w (((w.setCell ⟨g,0,none⟩ (.bool y.ov)).setCell ⟨g,1,none⟩ (.slice A y.adj.length c)).setCell ⟨g,2,none⟩ (.slice B y.pre.length d)):=((ee.set _ _ _).trans (ee.set _ _ _)).trans (ee.set _ _ _);have a:∀ {e:TypeId} {sz:Nat} {A:cG} {n c:Nat} {xs:cH},w.ownsRow base e sz (.slice A n c) n xs→0<n→ ∀ad,A=some ad→Ty w ad.block e:=fun {e sz A n c xs} h hn ad ha=>by
  rcases h.2 with ⟨h2,h3⟩|⟨g,cap,cur,h2,j,hh,r⟩
  ·omega
  ·injection h2 with h2 _ _
   rw[ha]at h2;injection h2 with h2
   subst h2;exact⟨_,_,hh⟩
 refine⟨fun b hb _ A' n' c' _ hc ad hA=>?_,hp.trans h3,fun _=>⟨fun A' n' c' hn hc ad hA=>?_,fun A' n' c' hn hc ad hA=>?_⟩⟩
 ·rw[k1,k2]at hc;simp only[dB,dp]at hc;rcases hc with ⟨rfl,_⟩|⟨rfl,_⟩
  ·have:=(kG o1).2.2.2 ad hA;omega
  ·have:=(kG o2).2.2.2 ad hA;omega
 ·rw[k1]at hc;simp only[dB,dp]at hc;obtain⟨rfl,rfl,rfl⟩:=hc;exact h3 _ _ (a o1 hn ad hA)
 ·rw[k2]at hc;simp only[dB,dp]at hc;obtain⟨rfl,rfl,rfl⟩:=hc;exact h3 _ _ (a o2 hn ad hA)
def GQ(w:World)(g:Nat)(x:La)(mk:Bool)(e:Ending)(w':World):Prop:=e= .returned (.tuple #[])∧jg w' g x mk∧w.grownBy w' (some g)
def QH(w:World)(g:Nat)(x:La)(mk:Bool)(e:Ending)(w':World):Prop:=GQ w g x mk e w'∧iq w w' g
def xM(w:World)(g:Nat)(x:La)(mk:Bool)(h:jg w g x mk)(h0:-1≤x.s)(h1:x.s≤1073741824) :
  Calls prog 130 #[.pointer (some ⟨g,0,none⟩)] w (QH w g { x with s:=x.s+1,a:=0 } true):=by
 have e:Hid (GQ w g { x with s:=x.s+1,a:=0 } true (.returned (.tuple #[])) (((w.setCell ⟨g,4,none⟩ (.int .i64 (x.s+1))).setCell ⟨g,5,none⟩ (.bool true)).setCell ⟨g,6,none⟩ (.int .i64 0))∧iq w (((w.setCell ⟨g,4,none⟩ (.int .i64 (x.s+1))).setCell ⟨g,5,none⟩ (.bool true)).setCell ⟨g,6,none⟩ (.int .i64 0)) g) :=
  ⟨⟨rfl,((h.RK (x.s+1)).yP true).RM 0,((dk w g 4 _).trans (dk _ g 5 _)).trans (dk _ g 6 _)⟩,((iq.set _ (by omega) (by omega)).trans (by simp) (iq.set _ (by omega) (by omega))).trans (by simp) (iq.set _ (by omega) (by omega))⟩
 obtain⟨A,c,B,d,b,_⟩:=h;have c4:=b.c 4 rfl;have c5:=b.c 5 rfl;have c6:=b.c 6 rfl;have f4:=b.f 4 rfl;have f5:=b.f 5 rfl;have f6:=b.f 6 rfl;clear b;generalize x.s=s at *;go_in;go_wp2;exact dc (v:=.tuple #[]) (by simp[results,results130,go_sem]) rfl e.out
def xW(x:La)(mk:Bool):La:=if mk=true then x else dT
def zb(w:World)(x:La)(mk:Bool)(e:Ending)(w':World):Prop :=
 ∃v,e= .returned (.tuple #[v,mk])∧fh w' w v (xW x mk)∧cI w w'
def yI(w:World)(g:Nat)(x:La)(mk:Bool)(h:jg w g x mk)(n:x.adj.length≤1000000)(m:x.pre.length≤1000000) :
  Calls prog 131 #[.pointer (some ⟨g,0,none⟩)] w (zb w x mk):=by
 obtain⟨A,c,B,d,b,l⟩:=h.co;have S:=(St.start w).nw #[i0,i0,i0,false,sn,sn] 41 w;have bb:=b.later S.b;have p:=b.lt (by simp);have V:=fun W (hb:cI w W)=>AK W g _ x x.o x.s x.a ((b.later hb).c 3 rfl) (l.below hb) n m
 rw[show num x.o x.s x.a x=x from rfl]at V;replace V:=φ V;have c0:=bb.c 0 rfl;have c1:=bb.c 1 rfl;have c2:=bb.c 2 rfl;have c4:=bb.c 4 rfl;have c5:=bb.c 5 rfl;have c6:=bb.c 6 rfl;clear bb b l h;have r0:=S.c 0 0 rfl rfl;have r1:=S.c 0 1 rfl rfl;have r2:=S.c 0 2 rfl rfl;have r3:=S.c 0 3 rfl rfl;have r4:=S.c 0 4 rfl rfl;have r5:=S.c 0 5 rfl rfl;have f0:=S.f 0 0 rfl rfl;have f1:=S.f 0 1 rfl rfl;have f2:=S.f 0 2 rfl rfl;have f3:=S.f 0 3 rfl rfl;have f4:=S.f 0 4 rfl rfl;have f5:=S.f 0 5 rfl rfl;cases mk with
 |false=>
   have i:Hid (zb w x false (.returned (.tuple #[ig 0 0 0 false none 0 0 none 0 0,false])) (w.alloc (.cells #[i0,i0,i0,false,sn,sn] 41))):=⟨_,rfl,fQ _ _,S.b⟩
   go_in;go_wp2;exact dc (v:=.tuple #[ig 0 0 0 false none 0 0 none 0 0,false]) (by simp[results,results131,go_sem,r0,r1,r2,r3,r4,r5]) rfl i
 |true=>
   go_in;go_wp2_with fail;have T:=S.drew;go_region_with (go_at_call 127;refine (V _ T.b).mono ?_;rintro e w1 ⟨v1,rfl,k,hb⟩;obtain⟨A1,j,B1,d1,rfl,o1,o2,hu⟩:=k;have T1:=T.call hb;have r0:=T1.c 0 0 rfl rfl;have r1:=T1.c 0 1 rfl rfl;have r2:=T1.c 0 2 rfl rfl;have r3:=T1.c 0 3 rfl rfl;have r4:=T1.c 0 4 rfl rfl;have r5:=T1.c 0 5 rfl rfl;have f0:=T1.f 0 0 rfl rfl;have f1:=T1.f 0 1 rfl rfl;have f2:=T1.f 0 2 rfl rfl;have f3:=T1.f 0 3 rfl rfl;have f4:=T1.f 0 4 rfl rfl;have f5:=T1.f 0 5 rfl rfl)
   all_goals
    have S9:=T1.wg x.o x.s x.a x.ov (.slice A1 x.adj.length j) (.slice B1 x.pre.length d1) cj (by simp);have q1:=jW o1 (g:=w.heap.size) (by simp) (.int .i64 x.o) (.int .i64 x.s) (.int .i64 x.a) (.bool x.ov) (.slice A1 x.adj.length j) (.slice B1 x.pre.length d1);have q2:=jW o2 (g:=w.heap.size) (by simp) (.int .i64 x.o) (.int .i64 x.s) (.int .i64 x.a) (.bool x.ov) (.slice A1 x.adj.length j) (.slice B1 x.pre.length d1);have i:zb w x true _ _:=⟨_,rfl,⟨_,_,_,_,rfl,dx q1 (by simp),dx q2 (by simp),hu⟩,S9.b⟩
    go_wp2;exact dc (v:=.tuple #[ig x.o x.s x.a x.ov A1 x.adj.length j B1 x.pre.length d1,true]) (by simp[results,results131,go_sem,r0,r1,r2,r3,r4,r5]) rfl i
structure Yt where
 x:La
 now:Bool
 made:Bool
 err:Int
noncomputable def ke(x:La)(mk:Bool)(y:La):Yt :=
 if vB (num x.o 1 0 y)=true then if mk=true∧pL x y=true then⟨x,mk,false,0⟩else if 1073741824≤x.s then⟨x,mk,false,6⟩else⟨num x.o (x.s+1) 0 y,true,true,0⟩else⟨x,mk,false,1⟩
noncomputable def gI(x:La)(mk:Bool)(a:La):Yt :=
 if vB a=true∧a.o=x.o then if mk=true then if kO a x≤0 then⟨x,mk,false,0⟩else if 1073741824≤a.s then⟨x,mk,false,6⟩else⟨num x.o (a.s+1) 0 x,true,true,0⟩else⟨num x.o (max x.s a.s) x.a x,mk,false,0⟩else⟨x,mk,false,1⟩
def IS(w:World)(g:Nat)(r:Yt)(e:Ending)(w':World):Prop:=e= .returned (.tuple #[r.made,r.err])∧jg w' g r.x r.now∧w.grownBy w' (some g)
def yh(w:World)(g:Nat)(r:Yt)(e:Ending)(w':World):Prop:=IS w g r e w'∧iq w w' g
def yh.same{w w':World}{g:Nat}{x:La}{mk:Bool}(h:jg w g x mk)(hb:cI w w')(err:Int):yh w g ⟨x,mk,false,err⟩ (.returned (.tuple #[false,err])) w':=⟨⟨rfl,h.below hb,kd hb _⟩,.below h.lt hb⟩
def Ll(w:World)(g:Nat)(v:Value)(x y:La)(mk:Bool)(h:jg w g x mk)(hv:yk w v y)(J:y.adj.length≤1000000)(I:y.pre.length≤1000000)(O:0≤x.s)(N:x.s≤1073741824) :
  Calls prog 77 #[.pointer (some ⟨g,0,none⟩),v] w (yh w g (ke x mk y)):=by
 obtain⟨A',c',B',d',bx,H⟩:=h.co;obtain⟨A,c,B,d,rfl⟩:=hv.form;have S:=(St.start w).nw #[.bool y.ov,.slice A y.adj.length c,.slice B y.pre.length d] 164 w;have V:=fun W (hb:cI w W)=>AK W g _ y x.o 1 0 ((bx.later hb).c 3 rfl) (hv.below hb) J I
 have E:=fun W (hb:cI w W)=>Gu W _ _ x y (H.below hb) (hv.below hb)
 have C:=fun W (hb:cI w W)=>yJ W _ y (hv.below hb) J I
 replace bx:Hid (∀W,cI w W→fq W g [.bool x.ov,.slice A' x.adj.length c',.slice B' x.pre.length d',x.o,x.s,mk,x.a]):=fun W hb=>bx.later hb
 have L:=h.lt;replace h:=φ h;clear H hv;have p:=fun W v hv=>me W v (num x.o 1 0 y) hv
 obtain⟨r,hr⟩:∃r,ke x mk y=r:=⟨_,rfl⟩
 rw[hr];unfold ke at hr;generalize vB (num x.o 1 0 y)=vb at *;generalize pL x y=cb at *;replace hr:=φ hr;replace V:=φ V;replace E:=φ E;replace C:=φ C;replace p:=φ p;obtain⟨b0,b1,b2⟩:=(S.box 0 rfl).b3;go_in;go_wp2_with fail;(with_reducible refine(V.out _ S.b).mono ?_);rintro e w1 ⟨v1,rfl,f,hb⟩;clear V;clear b0;replace S:=S.call hb;clear hb;obtain⟨A1,c1,B1,d1,rfl,K⟩:=f.open;have h1:=K.out _ cy;clear K f;go_wp2_with fail;(with_reducible refine(p.out _ _ h1).mono ?_);rintro e w2 ⟨rfl,hb⟩;replace S:=S.call hb;clear hb h1 p;cases vb with
 |false=>
   obtain rfl:⟨x,mk,false,1⟩=r:=by rw[←hr.out,cN (by simp)]
   go_wp2;go_ret2;exact .same h.out S.b 1
 |true=>
 have F:=bx.out _ S.b;obtain⟨o0,o1,o2,-,o4,o5⟩:=F.b6;go_wp2_with fail;replace o0:=cell_regrown o0;replace o1:=cell_regrown o1;replace o2:=cell_regrown o2;replace o4:=cell_regrown o4;replace o5:=cell_regrown o5;have b0:=cell_regrown (S.c 0 0 rfl rfl);have b1:=cell_regrown (S.c 0 1 rfl rfl);have b2:=cell_regrown (S.c 0 2 rfl rfl);cases mk with
 |true=>
   refine wp_region_quiet_below (by kernel_rfl) (by kernel_rfl) ?_
   repeat (go_big_quiet_step ((first|(go_at_call 128;with_reducible exact Calls.regrown_of (E.out _ (S.b.trans ((below_regrown _ _ _).mono S.b.size)))))))
   refine fI ?_;intro _ q;obtain⟨⟨dq,l⟩,m⟩:=q;subst m;replace S:=S.call (below_regrown _ dq l);generalize grow (redrawn _ dq) l=w3 at *;clear o0 o4 o5 E;clear b0;cases cb with
   |true=>
     obtain rfl:⟨x,true,false,0⟩=r:=by rw[←hr.out,cR (by simp),cR (by simp)]
     go_wp2;go_ret2;exact .same h.out S.b 0
   |false=>
     have o4:=(bx.out _ S.b).c 4 rfl
     by_cases hf:1073741824≤x.s
     ·obtain rfl:⟨x,true,false,6⟩=r:=by rw[←hr.out,cR (by simp),cN (by simp),cR hf]
      clear hr;go_wp2;go_ret2;exact .same h.out S.b 6
     ·obtain rfl:⟨num x.o (x.s+1) 0 y,true,true,0⟩=r:=by rw[←hr.out,cR (by simp),cN (by simp),cN hf]
      clear hr;obtain⟨b0,b1,b2⟩:=(S.box 0 rfl).b3;go_wp2_with fail;(with_reducible refine(C.out _ S.b).mono ?_);rintro e w4 ⟨v4,rfl,f,hb⟩;clear b0;clear o4 C;have G:=S.b.size;replace S:=S.call hb;have j:=bx.out _ S.b;obtain⟨o0,o1,o2⟩:=j.b3;obtain⟨f0,f1,f2⟩:=j.f3;obtain⟨A4,c4,B4,d4,t⟩:=f.at.form;subst t;have M:=xM _ g (num x.o x.s x.a y) true ((h.out.below S.b).Xw f (by omega)) (by simp only[num];omega) (by simp only[num];omega);have D:=(((kd S.b (some g)).trans (dk w4 g 0 (.bool y.ov))).trans (dk _ g 1 (.slice A4 y.adj.length c4))).trans (dk _ g 2 (.slice B4 y.pre.length d4));have k:=iq.fresh (W:=w) j rfl f (by omega) (ee.below S.b);have i:w.heap.size≤(((w4.setCell ⟨g,0,none⟩ (.bool y.ov)).setCell ⟨g,1,none⟩ (.slice A4 y.adj.length c4)).setCell ⟨g,2,none⟩ (.slice B4 y.pre.length d4)).heap.size:=by simp only[Ki];exact S.b.size
      replace i:=φ i;replace M:=φ M;replace k:=φ k;clear f j hb F;go_wp2_with fail;(with_reducible refine(M.out).mono ?_);rintro e w6 ⟨⟨rfl,n,z⟩,u⟩;clear M;go_wp2;go_ret2;exact⟨⟨rfl,n,D.trans z⟩,k.out.trans i.out u⟩
 |false=>
   refine wp_region_quiet_below (by kernel_rfl) (by kernel_rfl) ?_
   repeat (go_big_quiet_step ((fail)))
   refine fI ?_;intro _ q;obtain⟨⟨dq,l⟩,m⟩:=q;subst m;replace S:=S.call (below_regrown _ dq l);generalize grow (redrawn _ dq) l=w3 at *;clear o0 o4 o5 E;clear b0;have o4:=(bx.out _ S.b).c 4 rfl
   by_cases hf:1073741824≤x.s
   ·obtain rfl:⟨x,false,false,6⟩=r:=by rw[←hr.out,cR (by simp),cN (by simp),cR hf]
    clear hr;go_wp2;go_ret2;exact .same h.out S.b 6
   ·obtain rfl:⟨num x.o (x.s+1) 0 y,true,true,0⟩=r:=by rw[←hr.out,cR (by simp),cN (by simp),cN hf]
    clear hr;have b0:=(S.box 0 rfl).b3;go_wp2_with fail;(with_reducible refine(C.out _ S.b).mono ?_);rintro e w4 ⟨v4,rfl,f,hb⟩;clear b0;clear o4 C;have G:=S.b.size;replace S:=S.call hb;have j:=bx.out _ S.b;have o0:=j.b3;have f0:=j.f3;obtain⟨A4,c4,B4,d4,t⟩:=f.at.form;subst t;have M:=xM _ g (num x.o x.s x.a y) false ((h.out.below S.b).Xw f (by omega)) (by simp only[num];omega) (by simp only[num];omega);have D:=(((kd S.b (some g)).trans (dk w4 g 0 (.bool y.ov))).trans (dk _ g 1 (.slice A4 y.adj.length c4))).trans (dk _ g 2 (.slice B4 y.pre.length d4));have k:=iq.fresh (W:=w) j rfl f (by omega) (ee.below S.b);have i:w.heap.size≤(((w4.setCell ⟨g,0,none⟩ (.bool y.ov)).setCell ⟨g,1,none⟩ (.slice A4 y.adj.length c4)).setCell ⟨g,2,none⟩ (.slice B4 y.pre.length d4)).heap.size:=by simp only[Ki];exact S.b.size
    replace i:=φ i;replace M:=φ M;replace k:=φ k;clear f j hb F;go_wp2_with fail;(with_reducible refine(M.out).mono ?_);rintro e w6 ⟨⟨rfl,n,z⟩,u⟩;clear M;go_wp2;go_ret2;exact⟨⟨rfl,n,D.trans z⟩,k.out.trans i.out u⟩
def Ib(w:World)(g:Nat)(v:Value)(x a:La)(mk:Bool)(h:jg w g x mk)(hv:eU w v a)(Q:x.adj.length≤1000000)(P:x.pre.length≤1000000)(X:0≤x.s)(U:x.s≤1073741824) :
  Calls prog 119 #[.pointer (some ⟨g,0,none⟩),v] w (yh w g (gI x mk a)):=by
 obtain⟨A',c',B',d',bx,O⟩:=h.co;obtain⟨A,c,B,d,rfl⟩:=hv.form;have S:=(St.start w).nw #[a.o,a.s,a.a,a.ov,.slice A a.adj.length c,.slice B a.pre.length d] 41 w;have V:=fun W (hb:cI w W)=>me W _ a (hv.below hb)
 have C:=fun W (hb:cI w W)=>yI W g x mk (h.below hb) Q P
 have N:=fun W (hb:cI w W) v' (F:eU W v' x)=>rN W _ v' a x (hv.below hb) F
 have n:vB a=true→1≤a.s∧a.s≤1073741824:=fun h=>(gH.1 h).2.1
 replace bx:Hid (∀W,cI w W→fq W g [.bool x.ov,.slice A' x.adj.length c',.slice B' x.pre.length d',x.o,x.s,mk,x.a]):=fun W hb=>bx.later hb
 have q:=h.lt;replace h:=φ h;clear O hv;obtain⟨r,hr⟩:∃r,gI x mk a=r:=⟨_,rfl⟩
 rw[hr];unfold gI at hr;generalize vB a=vb at *;generalize kO a x=z at *;replace hr:=φ hr;replace V:=φ V;replace C:=φ C;replace N:=φ N;replace n:=φ n;have o3:=cell_regrown ((bx.out _ S.b).c 3 rfl);go_in;go_wp2_with fail;have b0:=cell_regrown (S.c 0 0 rfl rfl);have b1:=cell_regrown (S.c 0 1 rfl rfl);have b2:=cell_regrown (S.c 0 2 rfl rfl);have b3:=cell_regrown (S.c 0 3 rfl rfl);have b4:=cell_regrown (S.c 0 4 rfl rfl);have b5:=cell_regrown (S.c 0 5 rfl rfl);cases vb with
 |false=>
   refine wp_region_quiet_below (by kernel_rfl) (by kernel_rfl) ?_
   repeat (go_big_quiet_step ((first|(go_at_call 126;with_reducible exact Calls.regrown_of (V.out _ (S.b.trans ((below_regrown _ _ _).mono S.b.size)))))))
   refine fI ?_;intro _ k;obtain⟨⟨dq,i⟩,j⟩:=k;subst j;replace S:=S.call (below_regrown _ dq i);generalize grow (redrawn _ dq) i=w3 at *;obtain rfl:⟨x,mk,false,1⟩=r:=by rw[←hr.out,cN (by simp)]
   go_wp2;go_ret2;exact .same h.out S.b 1
 |true=>
 by_cases ho:a.o=x.o
 rotate_left
 ·have D:(a.o !=x.o)=true:=by simpa using ho
  obtain rfl:⟨x,mk,false,1⟩=r:=by rw[←hr.out,cN (by simp[ho])]
  clear hr;refine wp_region_quiet_below (by kernel_rfl) (by kernel_rfl) ?_
  repeat (go_big_quiet_step ((first|(go_at_call 126;with_reducible exact Calls.regrown_of (V.out _ (S.b.trans ((below_regrown _ _ _).mono S.b.size)))))))
  refine fI ?_;intro _ k;obtain⟨⟨dq,i⟩,j⟩:=k;subst j;replace S:=S.call (below_regrown _ dq i);generalize grow (redrawn _ dq) i=w3 at *;go_wp2;go_ret2;exact .same h.out S.b 1
 have D:(a.o !=x.o)=false:=by simpa using ho
 have t:=hr.out;rw[cR ⟨by simp,ho⟩]at t;replace hr:=φ t;have R:=n.out (by simp);clear t ho n;refine wp_region_quiet_below (by kernel_rfl) (by kernel_rfl) ?_
 repeat (go_big_quiet_step ((first|(go_at_call 126;with_reducible exact Calls.regrown_of (V.out _ (S.b.trans ((below_regrown _ _ _).mono S.b.size)))))))
 refine fI ?_;intro _ k;obtain⟨⟨dq,i⟩,j⟩:=k;subst j;replace S:=S.call (below_regrown _ dq i);generalize grow (redrawn _ dq) i=w3 at *;clear o3 V D;clear b0;go_wp2_with fail;(with_reducible refine(C.out _ S.b).mono ?_);rintro e w4 ⟨v4,rfl,p,hb⟩;clear C;replace S:=S.call hb;obtain⟨A4,c4,B4,d4,rfl,E⟩:=p.open;have h4:=E.out _ cy;clear E p hb;cases mk with
 |false=>
   rw[show xW x false=dT from rfl]at *;replace S:=S.iE #[dT.o,dT.s,dT.a,dT.ov,.slice A4 dT.adj.length c4,.slice B4 dT.pre.length d4] 41 (w4.heap.size) _ (by first|rfl|simp) rfl;obtain rfl:⟨num x.o (max x.s a.s) x.a x,false,false,0⟩=r:=by rw[←hr.out,cN (by simp)]
   clear hr h4 N;have G:(x.s<a.s∧max x.s a.s=a.s)∨(¬x.s<a.s∧max x.s a.s=x.s):=by omega
   generalize max x.s a.s=m at *;rcases G with ⟨H,rfl⟩|⟨H,rfl⟩
   all_goals
    go_wp2_with fail;generalize w4.alloc _=w5 at *;have o4:=(bx.out _ S.b).c 4 rfl;have f4:=(bx.out _ S.b).f 4 rfl;obtain⟨b0,b1,b2,b3,b4,b5⟩:=(S.box 1 rfl).b6;go_still_tail 10,(by kernel_rfl)
    change wpList _ _ _ _ _ w5.drew;replace S:=S.drew;clear o4 f4;clear b0;have o4:=(bx.out _ S.b).c 4 rfl;have f4:=(bx.out _ S.b).f 4 rfl;have l:Hid (∀m',jg (w5.drew.setCell ⟨g,4,none⟩ (.int .i64 m')) g (num x.o m' x.a x) false∧w.grownBy (w5.drew.setCell ⟨g,4,none⟩ (.int .i64 m')) (some g)∧iq w (w5.drew.setCell ⟨g,4,none⟩ (.int .i64 m')) g):=fun m'=>⟨(h.out.below S.b).RK m',(kd S.b (some g)).trans (dk _ g 4 _),(iq.below q S.b).trans S.b.size (iq.set _ (by omega) (by omega))⟩
    generalize w5.drew=w6 at *;go_wp2;go_ret2;exact⟨⟨rfl,(l.out _).1,(l.out _).2.1⟩,(l.out _).2.2⟩
 |true=>
   rw[show xW x true=x from rfl]at *;replace S:=S.iE #[x.o,x.s,x.a,x.ov,.slice A4 x.adj.length c4,.slice B4 x.pre.length d4] 41 (w4.heap.size) _ (by first|rfl|simp) rfl;replace h4:=h4.below (cQ _ (.cells #[x.o,x.s,x.a,x.ov,.slice A4 x.adj.length c4,.slice B4 x.pre.length d4] 41));have N2:=N.out _ S.b _ h4;replace N2:=φ N2;clear N h4;obtain⟨b0,b1,b2,b3,b4,b5⟩:=(S.box 1 rfl).b6;have q0:=(S.box 0 rfl).b6;go_wp2_with fail;(with_reducible refine(N2.out).mono ?_);rintro e w6 ⟨rfl,hb⟩;clear N2;clear b0;clear q0;replace S:=S.call hb;clear hb
   by_cases hz:z≤0
   ·obtain rfl:⟨x,true,false,0⟩=r:=by rw[←hr.out,cR (by simp),cR hz]
    clear hr;go_wp2;go_ret2;exact .same h.out S.b 0
   have T:¬z≤0:=hz;have b0:=(S.box 1 rfl).b6
   by_cases hs:1073741824≤a.s
   ·obtain rfl:⟨x,true,false,6⟩=r:=by rw[←hr.out,cR (by simp),cN hz,cR hs]
    clear hr;go_wp2;go_ret2;exact .same h.out S.b 6
   obtain rfl:⟨num x.o (a.s+1) 0 x,true,true,0⟩=r:=by rw[←hr.out,cR (by simp),cN hz,cN hs]
   clear hr;have o4:=(bx.out _ S.b).c 4 rfl;have f4:=(bx.out _ S.b).f 4 rfl;have M:=xM _ g { x with s:=a.s } true ((h.out.below S.b).RK a.s) (by simp only;omega) (by simp only;omega);have L:=(kd S.b (some g)).trans (dk w6 g 4 (.int .i64 a.s));have I:Hid (iq w (w6.setCell ⟨g,4,none⟩ (.int .i64 a.s)) g):=(iq.below q S.b).trans S.b.size (iq.set _ (by omega) (by omega));have u:Hid (w.heap.size≤(w6.setCell ⟨g,4,none⟩ (.int .i64 a.s)).heap.size):=by show _≤_;simp only[Ki];exact S.b.size
   replace M:=φ M;go_wp2_with fail;(with_reducible refine(M.out).mono ?_);rintro e w7 ⟨⟨rfl,y,K⟩,J⟩;clear M;go_wp2;go_ret2;exact⟨⟨rfl,y,L.trans K⟩,I.out.trans u.out J⟩
def times(x:La)(n:Int):Int:=if (n - (1800 - x.a)) / 1800+1≤1073741824 - x.s then(n - (1800 - x.a)) / 1800+1 else 1073741824 - x.s
def mO(x:La)(n:Int):Bool:=decide (x.a<1800)&&decide (1800 - x.a≤n)&&decide (x.s<1073741824)
def kr(z:Int):Int:=if z≤3599 then z else 3599
def ix(x:La)(mk:Bool)(n:Int):La :=
 if mk=true∧0<n then if mO x n=true then { x with s:=x.s+times x n,a:=kr (n - (1800 - x.a) - (times x n - 1)*1800) }else { x with a:=kr (x.a+n) }else x
def kZ(x:La)(mk:Bool)(n:Int):Bool:=mk&& (decide (0<n)&&mO x n)
def qV(w:World)(g:Nat)(x:La)(mk b:Bool)(e:Ending)(w':World):Prop:=e= .returned (.bool b)∧jg w' g x mk∧w.grownBy w' (some g)
def GK(w:World)(g:Nat)(x:La)(mk b:Bool)(e:Ending)(w':World):Prop:=qV w g x mk b e w'∧iq w w' g
def HZ(w:World)(g:Nat)(x:La)(mk:Bool)(n:Int)(h:jg w g x mk)(hn:n≤100000)(y:0≤x.s)(v:x.s≤1073741824)(D:0≤x.a)(C:x.a≤3599) :
  Calls prog 94 #[.pointer (some ⟨g,0,none⟩),n] w (GK w g (ix x mk n) mk (kZ x mk n)):=by
 have o:Hid (∀s a,jg (((w.setCell ⟨g,4,none⟩ (.int .i64 s)).setCell ⟨g,6,none⟩ (.int .i64 0)).setCell ⟨g,6,none⟩ (.int .i64 a)) g { x with s:=s,a:=a } mk∧w.grownBy (((w.setCell ⟨g,4,none⟩ (.int .i64 s)).setCell ⟨g,6,none⟩ (.int .i64 0)).setCell ⟨g,6,none⟩ (.int .i64 a)) (some g)∧iq w (((w.setCell ⟨g,4,none⟩ (.int .i64 s)).setCell ⟨g,6,none⟩ (.int .i64 0)).setCell ⟨g,6,none⟩ (.int .i64 a)) g) :=
  fun s a=>⟨((h.RK s).RM 0).RM a,((dk w g 4 _).trans (dk _ g 6 _)).trans (dk _ g 6 _),((iq.set _ (by omega) (by omega)).trans (by simp) (iq.set _ (by omega) (by omega))).trans (by simp) (iq.set _ (by omega) (by omega))⟩
 have l:Hid (∀a,jg (w.setCell ⟨g,6,none⟩ (.int .i64 a)) g { x with a:=a } mk∧w.grownBy (w.setCell ⟨g,6,none⟩ (.int .i64 a)) (some g)∧iq w (w.setCell ⟨g,6,none⟩ (.int .i64 a)) g):=fun a=>⟨h.RM a,dk _ g 6 _,iq.set _ (by omega) (by omega)⟩
 have k:Hid (jg w g x mk∧w.grownBy w (some g)∧iq w w g):=⟨h,kd cy _,.qG rfl rfl (ee.refl _)⟩
 obtain⟨A,c,B,d,b,_⟩:=h;have c4:=b.c 4 rfl;have c5:=b.c 5 rfl;have c6:=b.c 6 rfl;have f4:=b.f 4 rfl;have f6:=b.f 6 rfl;clear b;obtain⟨x',i⟩:∃x',ix x mk n=x':=⟨_,rfl⟩
 obtain⟨b',m⟩:∃b',kZ x mk n=b':=⟨_,rfl⟩
 rw[i,m];unfold ix at i;unfold kZ at m;cases mk with
 |false=>
   obtain rfl:false=b':=by rw[←m];rfl
   obtain rfl:x=x':=by rw[←i,cN (by simp)]
   clear i m;go_in;go_wp2;go_ret;exact⟨⟨rfl,k.out.1,k.out.2.1⟩,k.out.2.2⟩
 |true=>
 by_cases hn0:n≤0
 ·have p:decide (0<n)=false:=by simp;omega
  obtain rfl:false=b':=by rw[←m,p];rfl
  obtain rfl:x=x':=by rw[←i,cN (by simp;omega)]
  clear i m p;go_in;go_wp2;go_ret;exact⟨⟨rfl,k.out.1,k.out.2.1⟩,k.out.2.2⟩
 have p:decide (0<n)=true:=by simp;omega
 rw[cR ⟨rfl,by omega⟩]at i;rw[p]at m;simp only[gi]at m;clear k p;have u:0<n:=by omega
 by_cases hr:mO x n=true
 ·rw[hr]at m;subst m;rw[cR hr]at i;unfold times at i;simp only[mO,dD,ie]at hr;obtain⟨⟨r1,r2⟩,r3⟩:=hr;have q0:0≤(n - (1800 - x.a)) / 1800∧(n - (1800 - x.a)) / 1800≤60∧(n - (1800 - x.a)) / 1800*1800≤n - (1800 - x.a)∧n - (1800 - x.a)< (n - (1800 - x.a)) / 1800*1800+1800:=by omega
  generalize hq:(n - (1800 - x.a)) / 1800=q at *;generalize x.s=s at *;generalize x.a=a at *;clear l;obtain⟨q1,q2,q3,q4⟩:=q0
  by_cases ht:q+1≤1073741824 - s
  ·rw[cR ht]at i;have j:kr (n - (1800 - a) - (q+1 - 1)*1800)=n - (1800 - a+q*1800):=by unfold kr;rw[cR (by omega)];omega
   rw[j]at i;subst i;clear j;have hf:=o.out (s+(q+1)) (n - (1800 - a+q*1800));replace hf:=φ hf;clear o;go_in;go_wp2;go_ret;exact⟨⟨rfl,hf.out.1,hf.out.2.1⟩,hf.out.2.2⟩
  ·rw[cN ht]at i;have z:1≤1073741824 - s:=by omega
   by_cases hk:n - (1800 - a+(1073741824 - s - 1)*1800)≤3599
   ·have j:kr (n - (1800 - a) - (1073741824 - s - 1)*1800)=n - (1800 - a+(1073741824 - s - 1)*1800):=by unfold kr;rw[cR (by omega)];omega
    rw[j]at i;subst i;clear j;have hf:=o.out (s+(1073741824 - s)) (n - (1800 - a+(1073741824 - s - 1)*1800));replace hf:=φ hf;clear o;go_in;go_wp2;go_ret;exact⟨⟨rfl,hf.out.1,hf.out.2.1⟩,hf.out.2.2⟩
   ·have j:kr (n - (1800 - a) - (1073741824 - s - 1)*1800)=3599:=by unfold kr;rw[cN (by omega)]
    rw[j]at i;subst i;clear j;have hf:=o.out (s+(1073741824 - s)) 3599;replace hf:=φ hf;clear o;go_in;go_wp2;go_ret;exact⟨⟨rfl,hf.out.1,hf.out.2.1⟩,hf.out.2.2⟩
 ·rw[cN hr]at i;have t:mO x n=false:=by simpa using hr
  rw[t]at m;subst m;have r:¬(x.a<1800)∨(x.a<1800∧ ¬(1800 - x.a≤n))∨(x.a<1800∧1800 - x.a≤n∧ ¬x.s<1073741824):=by
   simp only[mO,dD,ie]at hr;omega
  clear hr t o;generalize x.s=s at *;generalize x.a=a at *;have j:kr (a+n)=if n≤3599 then(if a+n≤3599 then a+n else 3599)else 3599:=by unfold kr;split<;>(try split)<;>omega
  rw[j]at i;clear j
  by_cases k1:n≤3599
  ·rw[cR k1]at i
   by_cases k2:a+n≤3599
   ·rw[cR k2]at i;subst i;have hf:=φ (l.out (a+n));clear l;rcases r with h1|⟨h1,h2⟩|⟨h1,h2,h3⟩
    all_goals
     first
     |(exfalso;omega)
     |skip
    all_goals
     go_in;go_wp2;go_ret;exact⟨⟨rfl,hf.out.1,hf.out.2.1⟩,hf.out.2.2⟩
   ·rw[cN k2]at i;have k3:3599<a+n:=by omega
    subst i;have hf:=φ (l.out 3599);clear l;rcases r with h1|⟨h1,h2⟩|⟨h1,h2,h3⟩
    all_goals
     first
     |(exfalso;omega)
     |skip
    all_goals
     go_in;go_wp2;go_ret;exact⟨⟨rfl,hf.out.1,hf.out.2.1⟩,hf.out.2.2⟩
  ·rw[cN k1]at i;have k3:3599<n:=by omega
   subst i;have hf:=φ (l.out 3599);clear l;rcases r with h1|⟨h1,h2⟩|⟨h1,h2,h3⟩
   all_goals
    by_cases k2:a+3599≤3599
    all_goals
     first
     |(exfalso;omega)
     |skip
   all_goals
     go_in;go_wp2;go_ret
     first
     |exact⟨⟨rfl,hf.out.1,hf.out.2.1⟩,hf.out.2.2⟩
     | (have e:a + 3599 = 3599:=by omega
        rw[e];exact ⟨⟨rfl,hf.out.1,hf.out.2.1⟩,hf.out.2.2⟩)
end Go.Proofs.YtehimhbgakpenaaGreat
