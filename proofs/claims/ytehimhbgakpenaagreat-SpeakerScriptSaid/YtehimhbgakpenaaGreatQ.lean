/- Lemmas. -/
import Derived.Test.YtehimhbgakpenaaGreatF
import Derived.Test.YtehimhbgakpenaaGreatN
import Derived.Test.YtehimhbgakpenaaGreatO
import Derived.Test.YtehimhbgakpenaaGreatP
set_option linter.all false
set_option maxRecDepth 100000
set_option maxHeartbeats 16000000
namespace Go.Proofs.YtehimhbgakpenaaGreat
open Go.RowKit Go.Maps Go.Sort Go.Proofs.Tryz
abbrev IV:Fd.Fn:=fun _=>none
abbrev ML:Db:=fun _=>none
def iN.JK{w w':World}{g b k:Nat}(h:iN w g b ML)(hg:w.grownBy w' (some k))(h1:g≠k)(h2:b≠k):iN w' g b ML:=by
 obtain⟨⟨M,hm,he⟩,hc⟩:=h;refine⟨⟨M,hm.kept hg (fun e=>by injection e with e;exact h2 e.symm),fun i hi=>?_⟩,?_⟩
 ·have:=he i hi
  match hM:M (i:Int)with
  |none=>trivial
  |some v=>rw[hM]at this;exact this.elim
 ·rw[World.cell?_of_block (a:=⟨g,0,none⟩) (hg.block g (World.block_lt_of_cell? _ _ hc) (fun e=>by injection e with e;exact h1 e))];exact hc
def rT{w w':World}{g b k:Nat}{iv:Int}{f:Nat→Nat}(h:Fd.fR w g b iv IV f)(hg:w.grownBy w' (some k))(h1:g≠k)(h2:b≠k):Fd.fR w' g b iv IV f:=by
 have e:=hg.block g (dm _ _ h.c0) (fun e=>by injection e with e;exact h1 e);exact⟨(cY (a:=⟨g,0,none⟩) e).trans h.c0,(cY (a:=⟨g,1,none⟩) e).trans h.c1,h.nb.kept hg (fun e=>by injection e with e;exact h2 e.symm),fun i _ D hD=>(by cases hD),fun i _ hs=>(by cases hs),fun i j _ _ hs=>(by cases hs)⟩
structure Pt where
 l:Int
 o:Int
 c:Int
def XB(p:Pt):cH:=[p.l,p.o,p.c,.int .i64 0,.int .i64 0,.int .i64 0]
def QS:List Pt→cH
 | []=>[]
 |p :: r=>XB p++QS r
def HR(a b:List Pt):QS (a++b)=QS a++QS b:=by
 induction a with
 |nil=>rfl
 |cons p r ih=>simp only[List.cons_append,QS,ih,dI]
def yF(node:Int)(ov:Bool):La:=⟨node,1,0,ov,[],[]⟩
def xN{node:Int}(h0:0≤node)(h1:node≤63)(ov:Bool):dS (yF node ov) :=
 ⟨⟨h0,h1⟩,⟨by simp[yF],by simp[yF]⟩,⟨by simp[yF],by simp[yF]⟩,by simp[yF],by simp[yF],by simp[yF],fun j y _ hy=>by simp[yF]at hy,fun j y _ hy=>by simp[yF]at hy⟩
def Jm{node:Int}(h0:0≤node)(h1:node≤63)(ov:Bool):ke ⟨node,0,0,false,[],[]⟩ false ⟨0,0,0,ov,[],[]⟩=⟨yF node ov,true,true,0⟩:=by
 unfold ke;rw[cR (nA (xN h0 h1 ov):vB (num node 1 0 ⟨0,0,0,ov,[],[]⟩)=true),cN (by simp),cN (by simp)];rfl
def BP{w w':World}{k B:Nat}(hg:w.grownBy w' (some k))(hk:B≤k)(hB:B≤w):Below B w w' :=
 ⟨hg.os,hg.tape,hg.output,hg.size,fun j hj=>hg.block j (by omega) (fun e=>by injection e;omega)⟩
def St.NH{W w:World}{g:Nat}{bs:List (Nat× cH)}{rs:List (cG× cH)}{a0 a1 a2:Value}(S:St W w ((g,[a0,a1,a2]) :: bs) rs)(v0 v1 v2:Value)(hg:W≤g)(hd:∀x∈bs,x.1≠g) :
  St W (((w.setCell ⟨g,0,none⟩ v0).setCell ⟨g,1,none⟩ v1).setCell ⟨g,2,none⟩ v2) ((g,[v0,v1,v2]) :: bs) rs :=
 ((S.set 0 0 v0 rfl (by simp) hg hd _ rfl).set 0 1 v1 rfl (by simp) hg hd _ rfl).set 0 2 v2 rfl (by simp) hg hd _ rfl
def FH{w:World}{base:Nat}{e:TypeId}{size:Nat}{v:Value}{n:Nat}{xs:cH}(h:w.ownsRow base e size v n xs){g:Nat}(hg:g<base)(u0 u1 u2:Value) :
  (((w.setCell ⟨g,0,none⟩ u0).setCell ⟨g,1,none⟩ u1).setCell ⟨g,2,none⟩ u2).ownsRow base e size v n xs :=
 cV (a:=⟨g,2,none⟩) (cV (a:=⟨g,1,none⟩) (cV (a:=⟨g,0,none⟩) h hg _) hg _) hg _
def DP{w:World}{base:Nat}{e:TypeId}{size:Nat}{A:cG}{n c:Nat}{xs:cH}(h:w.ownsRow base e size (.slice A n c) n xs)(hn:0<n):∃g,A=some ⟨g,0,none⟩∧base≤g∧g<w∧fq w g xs:=by
 have h0:=h;rcases h.2 with ⟨h2,h3⟩|⟨g,cap,cur,h2,a,hh,r⟩
 ·omega
 ·injection h2 with h2 _ h4
  subst h2 h4;refine⟨g,rfl,a,(h0.lt g rfl).2,fun i u hu=>?_⟩
  have hc:=h0.cells (g:=g) rfl i u hu;rw[show(⟨g,0,none⟩:Addr).add i=⟨g,i,none⟩by unfold Addr.add;split<;>simp_all]at hc;exact⟨hc,frozen_of_row w g i cur e hh⟩
def Kb(w:World)(t:Tp)(e:Ending)(w':World):Prop :=
 ∃A c B d,e= .returned (EA t.n A t.ov.length c B t.ln.length d)∧w'.ownsRow w 79 7 (.slice B t.ln.length d) t.ln.length (fw t.ln)∧cI w w'
def qa(w:World)(a b:Obj):((w.alloc a).alloc b).heap.size=w.heap.size+2:=by simp
def GV(w:World)(t:Tp)(e:Ending)(w':World):Prop :=
 ∃A c B d,e= .returned (EA t.n A t.ov.length c B t.ln.length d)∧w'.ownsRow w 4 1 (.slice A t.ov.length c) t.ov.length (iw t.ov)∧w'.ownsRow w 79 7 (.slice B t.ln.length d) t.ln.length (fw t.ln)∧cI w w'
def yG(w:World)(v:Value)(t:Tp)(h:js w v t)(h1:t.ov.length≤1000000)(h2:t.ln.length≤1000000):Calls prog 33 #[v] w (GV w t):=by
 obtain⟨A,c,B,d,rfl,rA,rB,h3,h4⟩:=h;have S:=((((St.start w).read rB).read rA).nw #[t.n,.slice A t.ov.length c,.slice B t.ln.length d] 25 w).nw #[i0,sn,sn] 25 (w.heap.size+1);have C1:=fun W (h:Rd W A (iw t.ov))=>Qq W A _ c t.ov h rfl h1
 have C2:=fun W (h:Rd W B (fw t.ln))=>Qp W B _ d t.ln h rfl h2
 unfold rf at C1 C2;unfold GV;replace C1:=φ C1;replace C2:=φ C2;clear rA rB h1 h2 h3 h4;generalize t.ov.length=k at *;generalize t.ln.length=m at *;generalize t.n=n at *;obtain⟨a0,a1,a2⟩:=(S.box 1 rfl).b3;go_in;go_wp2_with fail;refine (C1 _ (S.r 0 rfl)).mono ?_;rintro e w1 ⟨A1,c1,rfl,o1,hb⟩;clear a0 C1;replace S:=S.call hb;clear hb;obtain⟨a0,a1,a2⟩:=(S.box 1 rfl).b3;obtain⟨f0,f1,f2⟩:=(S.box 1 rfl).f3;have S2:=S.s 1 1 (.slice A1 k c1);have i:=S2.b.size;have j:=(S2.box 0 rfl).lt (by simp);go_wp2_with fail;replace o1:=cV (a:=⟨w,1,none⟩) o1 (by simp only[qa];omega) (.slice A1 k c1);generalize w1.setCell ⟨w,1,none⟩ (.slice A1 k c1)=w2 at *;refine (C2 _ (S2.r 1 rfl)).mono ?_;rintro e w3 ⟨B1,d1,rfl,o2,hb⟩;clear a0 f0 C2 S;replace S2:=S2.call hb;replace o1:=dg o1 hb;clear hb;have a0:=(S2.box 1 rfl).b3;have f0:=(S2.box 1 rfl).f3;have r0:=(S2.box 0 rfl).b3;have q0:=(S2.box 0 rfl).f3;have S9:=(S2.s 1 2 (.slice B1 m d1)).NH (.int .i64 n) (.slice A1 k c1) (.slice B1 m d1) (by omega) (by simp);have o4:=FH (cV (a:=⟨w,2,none⟩) o2 (by simp only;omega) (.slice B1 m d1)) (g:=w.heap.size+1) (by omega) (.int .i64 n) (.slice A1 k c1) (.slice B1 m d1);have o5:=FH (cV (a:=⟨w,2,none⟩) o1 (by simp only[qa];omega) (.slice B1 m d1)) (g:=w.heap.size+1) (by simp only[qa];omega) (.int .i64 n) (.slice A1 k c1) (.slice B1 m d1);have f:=dx o5 (base:=w.heap.size) (by simp only[qa];omega);have hf:=dx o4 (base:=w.heap.size) (by omega);have hb9:=S9.b;go_wp2;exact dc (v:=EA n A1 k c1 B1 m d1) (by simp[results,results33,go_sem,r0]) rfl ⟨_,_,_,_,rfl,f,hf,hb9⟩
def Iq(w:World)(v:Value)(t:Tp)(h:js w v t)(h1:t.ov.length≤1000000)(h2:t.ln.length≤1000000):Calls prog 33 #[v] w (Kb w t):=(yG w v t h h1 h2).mono fun _ _ ⟨A,c,B,d,he,_,o,hb⟩=>⟨A,c,B,d,he,o,hb⟩
def MC(h1 h2 h3:Int):Bool:=jI h1 1 65536&& (jI h2 1 65536&&jI h3 1 65536)
def D6{w w':World}(h:w.grownBy w' none)(k:Nat):w.grownBy w' (some k):=⟨h.os,h.tape,h.output,h.size,fun j hj _=>h.block j hj (by simp)⟩
def xI{w w':World}{go k:Nat}{node:Int}(h:jg w go ⟨node,0,0,false,[],[]⟩ false)(hg:w.grownBy w' (some k))(a:go≠k):jg w' go ⟨node,0,0,false,[],[]⟩ false:=by
 obtain⟨A,c,B,d,h0,h1,h2,h3⟩:=h;exact⟨A,c,B,d,h0.kept hg (by intro e;injection e;contradiction) (by simp),Rd.nil _ _,Rd.nil _ _,h3⟩
structure AX (w wr:World) (g gd bd gf bf go:Nat) (iv:Int) (f:Nat→Nat) (node:Int) (u0 u1 u2 u3 u4 u5 u6 u7 u8:Value) (ov:Bool) (T0 T1 T2:Value) (O:cG) (q d:Nat) (zs:List Int) (ps:List Pt) (P:cG) (c:Nat):Prop where
 S:St w wr [(g,[u0,u1,u2,u3,u4,u5,u6,u7,u8,.slice P ps.length c,ov,.slice none 0 0,.pointer (some ⟨gd,0,none⟩),.pointer (some ⟨gf,0,none⟩),.pointer (some ⟨go,0,none⟩)]),(w,[T0,T1,T2])] []
 own:wr.ownsRow (go+1) 118 6 (.slice P ps.length c) ps.length (QS ps)
 out:wr.ownsRow (go+1) 3 1 (.slice O q d) q (zs.map iV)
 db:iN wr gd bd ML
 fl:Fd.fR wr gf bf iv IV f
 VO:jg wr go ⟨node,0,0,false,[],[]⟩ false
 hgo:go<wr
section
variable {w wr w':World} {g gd bd gf bf go:Nat} {iv:Int} {f:Nat → Nat} {node:Int} {u0 u1 u2 u3 u4 u5 u6 u7 u8:Value} {ov:Bool} {T0 T1 T2:Value} {O:cG} {q d:Nat} {zs:List Int} {ps:List Pt} {P:cG} {c:Nat}
def AX.below(h:AX w wr g gd bd gf bf go iv f node u0 u1 u2 u3 u4 u5 u6 u7 u8 ov T0 T1 T2 O q d zs ps P c)(hb:cI wr w'):AX w w' g gd bd gf bf go iv f node u0 u1 u2 u3 u4 u5 u6 u7 u8 ov T0 T1 T2 O q d zs ps P c :=
 ⟨h.S.call hb,dg h.own hb,dg h.out hb,h.db.below hb,h.fl.below hb,h.VO.below hb,eh h.hgo hb.size⟩
def AX.XO(h:AX w wr g gd bd gf bf go iv f node u0 u1 u2 u3 u4 u5 u6 u7 u8 ov T0 T1 T2 O q d zs ps P c)
  (o1:w<bd) (o2:bd<gd) (o3:gd<g) (o4:g<bf) (o5:bf<gf) (o6:gf<go) (hg:wr.grownBy w' (Value.slice P ps.length c).ownBlock) :
  St w w' [(g,[u0,u1,u2,u3,u4,u5,u6,u7,u8,.slice P ps.length c,ov,.slice none 0 0,.pointer (some ⟨gd,0,none⟩),.pointer (some ⟨gf,0,none⟩),.pointer (some ⟨go,0,none⟩)]),(w,[T0,T1,T2])] []∧ ∃k,go+1≤k∧wr.grownBy w' (some k):=by
 have hk:∃k,go+1≤k∧wr.grownBy w' (some k):=by
  rcases h.own.2 with ⟨e,_⟩|⟨k,cap,cur,e,j,_⟩
  ·rw[e]at hg;exact⟨go+1,cj,D6 hg _⟩
  ·rw[e]at hg;exact⟨k,j,hg⟩
 obtain⟨k,hk,a⟩:=hk;have l:=h.S.b.size;refine⟨⟨h.S.b.trans (BP a (by omega) (by omega)),fun i x hx=>?_,by simp⟩,k,hk,a⟩
 have hb:=h.S.bx i x hx
 match i,hx with
 |0,hx=>simp at hx;subst hx;exact hb.kept a (by simp only[ne_eq,dB];omega) (by simp)
 |1,hx=>simp at hx;subst hx;exact hb.kept a (by simp only[ne_eq,dB];omega) (by simp)
def AX.app(h:AX w wr g gd bd gf bf go iv f node u0 u1 u2 u3 u4 u5 u6 u7 u8 ov T0 T1 T2 O q d zs ps P c){p:Pt}{P':cG}{c':Nat}
  (o1:w<bd) (o2:bd<gd) (o3:gd<g) (o4:g<bf) (o5:bf<gf) (o6:gf<go)
  (ho:w'.ownsRow (go+1) 118 6 (.slice P' (ps.length+1) c') (ps.length+1) (QS ps++XB p)) (hg:wr.grownBy w' (Value.slice P ps.length c).ownBlock) :
  AX w (w'.setCell ⟨g,9,none⟩ (.slice P' (ps.length+1) c')) g gd bd gf bf go iv f node u0 u1 u2 u3 u4 u5 u6 u7 u8 ov T0 T1 T2 O q d zs (ps++ [p]) P' c':=by
 obtain⟨hS,k,hk,e⟩:=h.XO o1 o2 o3 o4 o5 o6 hg;have i:=fV h.out hg (nS h.out h.own (by decide));have n:=h.S.b.size;have m:=h.db.JK e (by omega) (by omega);have l:=rT h.fl e (by omega) (by omega);have j:=xI h.VO e (by omega);have hs:=dk w' g 9 (.slice P' (ps.length+1) c');have el:(ps++ [p]).length=ps.length+1:=by simp
 refine⟨hS.set 0 9 _ rfl (by simp) (by omega) (by simp;omega) _ (by rw[el];rfl),?_,?_,m.JK hs (by omega) (by omega),rT l hs (by omega) (by omega),xI j hs (by omega),?_⟩
 ·rw[el,HR];have:=cV (a:=⟨g,9,none⟩) ho (by simp only;omega) (.slice P' (ps.length+1) c');simpa[QS]using this
 ·exact cV (a:=⟨g,9,none⟩) i (by simp only;omega) _
 ·have:=e.size;have:=h.hgo;have:=hs.size;omega
end
def WV(w:World)(e:Ending)(w':World):Prop :=
 ∃gd bd,e= .returned (.pointer (some ⟨gd,0,none⟩))∧iN w' gd bd ML∧w≤bd∧bd<gd∧cI w w'
def Mh(w:World):Calls prog 35 #[] w (WV w) :=
 (Qd w).mono fun e w' ⟨h1,h2,h3⟩=>⟨_,_,h1,h2,cj,il _,h3⟩
def St.Yk{W w:World}{bs:List (Nat× cH)}{rs:List (cG× cH)}{g:Nat}{cs:cH}(S:St W w bs rs)(h:fq w g cs):St W w ((g,cs) :: bs) rs :=
 ⟨S.b,fun i x hx=>by
  cases i with
  |zero=>simp at hx;subst hx;exact h
  | succ i=>exact S.bx i x (by simpa using hx),S.rd⟩
def OY(t:Tp)(z:Int):(outs t z).length≤2*t.ln.length:=FM _ _ _
def QW(l:List Lk)(i:Nat):Int:=match l[i / 2]? with|some x=>nD x (!decide (i % 2=1))|none=>-1
def QX(l:List Lk)(i:Nat):Int:=match l[i / 2]? with|some x=>uT x (decide (i % 2=1))|none=>-1
def PJ(w:World)(v:Value)(t:Tp)(h:js w v t)(i:Nat)(hi:i<2*t.ln.length)(hm:t.ln.length≤256):Calls prog 39 #[v,i] w fun e w'=>e= .returned (.int .i64 (QW t.ln i))∧cI w w':=by
 have:=PM w v t h (i / 2) (decide (i % 2=1)) (by omega) hm;rw[IL]at this;have e:QW t.ln i=nD t.ln[i / 2] (!decide (i % 2=1)):=by unfold QW;rw[cM (by omega)]
 rw[e];exact this
def Ql(w:World)(v:Value)(t:Tp)(h:js w v t)(i:Nat)(hi:i<2*t.ln.length)(hm:t.ln.length≤256):Calls prog 40 #[v,i] w fun e w'=>e= .returned (.int .i64 (QX t.ln i))∧cI w w':=by
 have:=Qm w v t h (i / 2) (decide (i % 2=1)) (by omega) hm;rw[IL]at this;have e:QX t.ln i=uT t.ln[i / 2] (decide (i % 2=1)):=by unfold QX;rw[cM (by omega)]
 rw[e];exact this
def Xp{a b c:Int}(h:MC a b c=true):1≤c∧c≤65536:=by
 simp only[MC,jI,dD,fa]at h;omega
def OZ(t:Tp)(z:Int)(j:Nat)(hj:j< (outs t z).length):∃i:Nat,(outs t z)[j]?=some (i:Int)∧i<2*t.ln.length:=by
 have hm:=di hj;unfold outs wE at hm;obtain⟨i,hi,e⟩:=dL.1 hm;exact⟨i,by rw[cM hj,e];rfl,by have:=(dW.1 hi).1;simpa using this⟩
def ptT:iF prog 105 118 (.agg #[.int .i64 0,.int .i64 0,.int .i64 0,.int .i64 0,.int .i64 0,.int .i64 0]) 6 48:=⟨underlying105,by kernel_rfl,rfl,by omega⟩
def Sq(p:Pt):∀u∈XB p,u.oneCell'=true:=by
 intro u hu;simp only[XB,dA,eF,ik]at hu;rcases hu with rfl|rfl|rfl|rfl|rfl|rfl<;>rfl
end Go.Proofs.YtehimhbgakpenaaGreat
