/- Lemmas. -/
import Derived.Test.YtehimhbgakpenaaGreatae
set_option linter.all false
set_option maxRecDepth 100000
set_option maxHeartbeats 16000000
namespace Go.Proofs.YtehimhbgakpenaaGreat
open Go.RowKit Go.Maps Go.Sort
def IT(w:World)(node:Int)(e:Ending)(w':World):Prop :=
 e= .returned (.tuple #[.pointer (some ⟨w,0,none⟩),.int .i64 0])∧jg w' w ⟨node,0,0,false,[],[]⟩ false∧Ty w' w 166∧cI w w'
def Lm(w:World)(node:Int)(h0:0≤node)(h1:node<64):Calls Tryz.prog 37 #[node] w (IT w node):=by
 have a:Hid (IT w node (.returned (.tuple #[pt w,i0])) (w.alloc (.cells #[false,sn,sn,node,i0,false,i0] 166))) :=
  ⟨rfl,⟨none,0,none,0,fq.new w #[false,sn,sn,node,i0,false,i0] _,Rd.nil _ _,Rd.nil _ _,by simp,by simp[maxLen],by simp,by simp[maxLen],by simp,by simp,by simp⟩,jk _ _ _,cQ _ _⟩
 go_in;go_wp2;go_ret2;exact a
structure vH (w:World) (g:Nat) (t:Tp) (A B:cG):Prop where
 tg:Ty w g 109
 rO:Rd w A (iw t.ov)∧Fd.rV w A t.ov.length 4
 rL:Rd w B (fw t.ln)∧Fd.rV w B t.ln.length 79
section
variable {w w':World} {g:Nat} {t:Tp} {A B:cG}
def vH.Ww(h:vH w g t A B){E:Nat→Prop}(he:gA E w w'):vH w' g t A B:=⟨he.ty _ _ h.tg,he.tp h.rO.1 h.rO.2 (by rw[fN];exact id) nM,he.tp h.rL.1 h.rL.2 (by rw[fK];omega) nJ⟩
def vH.below(h:vH w g t A B)(hb:cI w w'):vH w' g t A B:=h.Ww (E:=fun _=>False) (gA.below hb)
def vH.set(h:vH w g t A B)(j:Nat)(u:Value):vH (w.setCell ⟨g,j,none⟩ u) g t A B:=h.Ww (E:=fun k=>k=g) (gA.setCell (E:=fun k=>k=g) h.tg (.inl rfl) rfl j u)
def Hi{w w':World}{k base:Nat}{T:TypeId}{v:Value}{n:Nat}{xs:cH}(ht:Ty w k T)(ho:w.ownsRow base 118 6 v n xs)(a:T≠118)(hg:w.grownBy w' v.ownBlock):Ty w' k T:=by
 have e:=kX ht ho a hg;obtain⟨cur,fr,e2⟩:=ht;exact⟨cur,fr,e.trans e2⟩
def Og{w w':World}{A:cG}{base:Nat}{T:TypeId}{v:Value}{n m:Nat}{xs ys:cH}(hr:Rd w A ys)(ht:Fd.rV w A m T)(hm:0<ys.length→0<m)(ho:w.ownsRow base 118 6 v n xs)(a:T≠118)(hg:w.grownBy w' v.ownBlock):Rd w' A ys∧Fd.rV w' A m T:=by
 refine⟨fun hx=>?_,fun hn ad ha=>Hi (ht hn ad ha) ho a hg⟩
 obtain⟨ad,e,hc⟩:=hr hx;refine⟨ad,e,fun j u hu=>?_⟩
 have e2:w'.heap[(ad.add j).block]?=w.heap[(ad.add j).block]?:=by rw[fu];exact kX (ht (hm hx) ad e) ho a hg
 rw[cY e2];exact hc j u hu
def vH.app(h:vH w g t A B){base:Nat}{v:Value}{n:Nat}{xs:cH}(ho:w.ownsRow base 118 6 v n xs)(hg:w.grownBy w' v.ownBlock):vH w' g t A B :=
 ⟨Hi h.tg ho (by decide) hg,Og h.rO.1 h.rO.2 (by rw[fN];exact id) ho (by decide) hg,Og h.rL.1 h.rL.2 (by rw[fK];omega) ho (by decide) hg⟩
end
def ZM(w2:World)(t:Tp)(node h1 h2 h3:Int)(ov:Bool)(v12:Value)(wx:World):Prop :=
 ∃g gd bd A5 c5 B5 d5,v12= .pointer (some ⟨g,0,none⟩)∧cI w2 wx∧fq wx g [t.n,.slice A5 t.ov.length c5,.slice B5 t.ln.length d5,node,.int .i64 1,h1,h2,h3,.int .i64 0,.slice none 0 0,ov,.slice none 0 0,.pointer (some ⟨gd,0,none⟩),.pointer none,.pointer none]∧vH wx g t A5 B5∧iN wx gd bd ML∧w2≤bd∧bd<gd∧gd<g∧g<wx
def VU{w2 wc:World}{gd bd b1:Nat}(a:cI w2 wc)(hD:iN wc gd bd ML)(o1:w2≤bd)(o2:bd<gd)(t:Tp)(A5:cG)(c5:Nat)(B5:cG)(d5:Nat)(oO:wc.ownsRow b1 4 1 (.slice A5 t.ov.length c5) t.ov.length (iw t.ov))(oL:wc.ownsRow b1 79 7 (.slice B5 t.ln.length d5) t.ln.length (fw t.ln))(node h1 h2 h3:Int)(ov:Bool) :
  ZM w2 t node h1 h2 h3 ov (.pointer (some ⟨wc,0,none⟩)) (wc.alloc (.cells #[t.n,.slice A5 t.ov.length c5,.slice B5 t.ln.length d5,node,.int .i64 1,h1,h2,h3,.int .i64 0,.slice none 0 0,ov,.slice none 0 0,.pointer (some ⟨gd,0,none⟩),.pointer none,.pointer none] 109)) :=
 ⟨wc,gd,bd,A5,c5,B5,d5,rfl,a.alloc a.size _,fq.iE wc _ _ _ _ rfl rfl,⟨jk _ _ _,⟨dQ (dg oO (cQ _ _)),Fd.rH (dg oO (cQ _ _))⟩,⟨dQ (dg oL (cQ _ _)),Fd.rH (dg oL (cQ _ _))⟩⟩,hD.below (cQ _ _),o1,o2,hD.lt.1,by simp⟩
def yA(t:Tp)(z:Int):Pt:=⟨z / 2,QW t.ln z.toNat,QX t.ln z.toNat⟩
def G6(p:Pt):Po:=⟨p.l,p.o,p.c,0,0,0⟩
def XE(l:List Pt):Lg (l.map G6)=QS l:=by
 induction l with
 |nil=>rfl
 |cons p r ih=>simp only[gh,Lg,QS,ih];rfl
def gz(t:Tp)(node h1 h2 h3:Int):Sp:=⟨t,node,1,h1,h2,h3,0,((outs t node).map (yA t)).map G6,yR t node.toNat,[],ML,IV,⟨node,0,0,false,[],[]⟩,false⟩
noncomputable def qI(t:Tp)(node h1 h2 h3:Int):Sp:=ft (gz t node h1 h2 h3)
def WT(w:World)(t:Tp)(node h1 h2 h3:Int)(col:Nat→Nat)(c:Nat)(e:Ending)(w':World):Prop :=
 ∃m col',e= .returned (.tuple #[.pointer (some ⟨m.g,0,none⟩),.int .i64 0])∧(∀k,k<w.heap.size→col' k=col k)∧fe w' m (qI t node h1 h2 h3) col' c∧cI w w'∧w.heap.size≤m.gd∧w.heap.size≤m.gf
def gA.toBelow{E:Nat→Prop}{w w':World}{B:Nat}(h:gA E w w')(hE:∀k,k<B→ ¬E k)(hB:B≤w):Below B w w' :=
 ⟨h.os,h.tape,h.output,h.size,fun k hk=>h.off (eh hk hB) (hE k hk)⟩
def Vz{w wr:World}{t:Tp}{node h1 h2 h3:Int}{g gd bd bf go:Nat}{A5:cG}{c5:Nat}{B5:cG}{d5:Nat}{O:cG}{q d:Nat}{zs:List Int}{P:cG}{cc:Nat}{T0 T1 T2:Value}(hT:mE t)
  (N:AX w wr g gd bd (bf+1) bf go h3 (fun _=>0) node (.int .i64 t.n) (.slice A5 t.ov.length c5) (.slice B5 t.ln.length d5) (.int .i64 node) (.int .i64 1) (.int .i64 h1) (.int .i64 h2) (.int .i64 h3) (.int .i64 0) (yR t node.toNat) T0 T1 T2 O q d zs ((outs t node).map (yA t)) P cc) (Y:vH wr g t A5 B5) (j:Ty wr go 166)
  (n1:w.heap.size<bd) (n2:bd<gd) (n3:gd<g) (n4:g<bf) (n6:bf+1<go) (e:Nat→Nat) (c:Nat) (l:c≠0) :
  fe wr ⟨g,P,cc,gd,bd,bf+1,bf,go,fun _=>0,A5,c5,B5,d5,none,0⟩ (gz t node h1 h2 h3) (fun k=>if k<w.heap.size then e k else if k=gd∨k=bf+1 then 0 else c) c:=by
 have hlen:((((outs t node).map (yA t)).map G6).length)=((outs t node).map (yA t)).length:=by simp
 have b:∀k,w.heap.size≤k→k≠gd→k≠bf+1→(fun k=>if k<w.heap.size then e k else if k=gd∨k=bf+1 then 0 else c) k=c:=fun k a b1 b2=>by
  simp only;rw[cN (by omega),cN (by omega)]
 have m:=N.S.box 0 rfl;refine⟨?_,Y.tg,?_,Y.rO,Y.rL,⟨Rd.nil _ _,fun h=>absurd h (by simp[gz])⟩,⟨by simp[gz],by simp[maxLen],by simp[gz]⟩,⟨?_,?_⟩,N.db,N.fl,N.VO,?_,j,?_,?_,?_,?_,?_,?_,?_,?_,l⟩
 ·simp only[Vm,gz,hlen,List.length_nil];exact m
 ·simp only[gz,hlen,XE];exact dx N.own (by omega)
 ·have:=hT.ov;have:=hT.n;simp only[gz,maxLen];omega
 ·have:=hT.ln;simp only[gz,maxLen];omega
 ·obtain⟨A,c1,B,d1,h0,_⟩:=N.VO;refine⟨fun A' n c' hn hc=>?_,fun A' n c' hn hc=>?_⟩
  ·rw[h0.c 1 rfl]at hc;injection hc with hc;injection hc with _ hc _;subst hc;simp at hn
  ·rw[h0.c 2 rfl]at hc;injection hc with hc;injection hc with _ hc _;subst hc;simp at hn
 ·exact b g (by omega) (by omega) (by omega)
 ·intro k hk;have f:(Value.slice P ((outs t node).map (yA t)).length cc).ownBlock=some k:=by simpa[gz]using hk
  have:=(N.own.lt k f).1;exact b k (by omega) (by omega) (by omega)
 ·exact b go (by omega) (by omega) (by omega)
 ·exact b bd (by omega) (by omega) (by omega)
 ·exact b bf (by omega) (by omega) (by omega)
 ·intro i hi hs;cases hs
 ·refine⟨?_,?_⟩
  ·show(if gd<w.heap.size then e gd else if gd=gd∨gd=bf+1 then 0 else c)=0
   rw[cN (by omega),cR (.inl rfl)]
  ·show(if bf+1<w.heap.size then e (bf+1)else if bf+1=gd∨bf+1=bf+1 then 0 else c)=0
   rw[cN (by omega),cR (.inr rfl)]
 ·exact⟨by simp only;omega,fun i hi hs=>by cases hs⟩
def Xi{z:Int}(h0:0≤z)(h1:z≤1000000):IntKind.i64.wrap z=z:=kV z (by omega)
def Cj(w:World)(v:Value)(t:Tp)(node h1 h2 h3:Int)(ht:js w v t)(hT:mE t)(aN:0≤node∧node<t.n)(V:MC h1 h2 h3=true)(K:Nat→Nat)(c9:Nat)(aT:c9≠0)(av:∀k,k<w.heap.size→K k≠c9) :
  Calls Tryz.prog 7 #[v,node,.int .i64 1,.agg #[h1,h2,h3]] w (WT w t node h1 h2 h3 K c9):=by
 have r:=ht;obtain⟨A,c,B,d,rfl,rA,rB,l1,l2⟩:=ht;have S:=((St.start w).nw #[t.n,.slice A t.ov.length c,.slice B t.ln.length d] 25 w.heap.size).nw #[h1,h2,h3] 27 (w.heap.size+1);have TV:=zm _ _ t (r.below S.b);rw[Nj.2 hT]at TV;obtain⟨Q,hQ⟩:=ex (WT w t node h1 h2 h3 K c9)
 have U:jI h1 1 65536=true∧jI h2 1 65536=true∧jI h3 1 65536=true:=by
  unfold MC at V;simpa[dD,and_assoc]using V
 have ay:=Xp V;have ap:Hid (∀wr w' m s,cI w wr→fe wr m (gz t node h1 h2 h3) s c9→(∀k,k<w.heap.size→s k=K k)→(w.heap.size≤m.gd∧w.heap.size≤m.gf)→gX wr m s c9 (qI t node h1 h2 h3) (.tuple #[]) (.returned (.tuple #[])) w'→Q (.returned (.tuple #[pt m.g,i0])) w'):=fun wr w' m s hb hs hc hg hp=>by
  rw[←hQ];exact⟨m,s,rfl,hc,hp.2.1,hb.trans (hp.2.2.toBelow (fun k hk e=>av k hk (by rw[←hc k hk];exact e)) hb.size),hg⟩
 rw[hQ];clear hQ V;have ND:=fun W=>zT t.n node (.slice A t.ov.length c) (.slice B t.ln.length d) rfl rfl W
 have aa:Ls t.n node=true:=by unfold Ls;simp;omega
 simp only[aa]at ND;clear aa;replace TV:=φ TV;replace ND:=φ ND;replace r:=φ r;obtain⟨c0,c1,c2⟩:=(S.box 1 rfl).b3;go_in;go_wp2_with fail;(with_reducible refine TV.out.mono ?_);rintro e w1 ⟨rfl,hb⟩;clear TV c0;replace S:=S.call hb;clear hb;have sw:=fun W=>jJ 1 1 1073741824 W
 rw[show jI 1 1 1073741824=true by decide]at sw;obtain⟨c0,c1,c2⟩:=(S.box 0 rfl).b3;have aG:∀W,(Instr.index 100 (.agg #[h1,h2,h3]) i0).run Tryz.prog W= .ok (.int .i64 h1) W:=fun W=>by kernel_rfl
 have aF:∀W,(Instr.index 100 (.agg #[h1,h2,h3]) (.int .i64 1)).run Tryz.prog W= .ok (.int .i64 h2) W:=fun W=>by kernel_rfl
 have aE:∀W,(Instr.index 100 (.agg #[h1,h2,h3]) (.int .i64 2)).run Tryz.prog W= .ok (.int .i64 h3) W:=fun W=>by kernel_rfl
 have W1:=fun W=>jJ h1 1 65536 W
 have W2:=fun W=>jJ h2 1 65536 W
 have W3:=fun W=>jJ h3 1 65536 W
 rw[U.1]at W1;rw[U.2.1]at W2;rw[U.2.2]at W3;clear U;replace W1:=φ W1;replace W2:=φ W2;replace W3:=φ W3;go_wp2_with fail;(with_reducible refine(sw _).mono ?_);rintro e w2 ⟨rfl,rfl⟩;clear sw;go_wp2_with fail;go_loop [30] (fun v30=>v30= .int .i64 0∨v30= .int .i64 1∨v30= .int .i64 2∨v30= .int .i64 3) (fun v30=>3 - (intOf v30).toNat)
 case atStart=>exact .inl rfl
 case round=>
  rcases hrel with rfl|rfl|rfl|rfl
  ·go_wp2_with fail;(with_reducible refine(W1.out _).mono ?_);rintro e w2 ⟨rfl,rfl⟩;go_wp2;go_round
   case rel=>exact .inr (.inl rfl)
   case measure=>decide
  ·go_wp2_with fail;(with_reducible refine(W2.out _).mono ?_);rintro e w2 ⟨rfl,rfl⟩;go_wp2;go_round
   case rel=>exact .inr (.inr (.inl rfl))
   case measure=>decide
  ·go_wp2_with fail;(with_reducible refine(W3.out _).mono ?_);rintro e w2 ⟨rfl,rfl⟩;go_wp2;go_round
   case rel=>exact .inr (.inr (.inr rfl))
   case measure=>decide
  ·clear W1 W2 W3 aG aF aE c0;obtain⟨c0,c1,c2⟩:=(S.box 1 rfl).b3;go_wp2_with fail;(with_reducible refine(ND.out _).mono ?_);rintro e w2 ⟨rfl,hb⟩;clear c0 ND;replace S:=S.call hb;clear hb;go_upto_region 11 with fail;have am:Hid (t.ov.length=0∨node.toNat<t.ov.length):=show _∨_ by have:=hT.ov;have:=hT.n;omega
   have GC:=fun W (hb:cI w W)=>yG W _ t (r.out.below hb) (by have:=hT.ov;have:=hT.n;omega) (by have:=hT.ln;omega)
   have OV:=fun W (hb:cI w W)=>OX W _ t (r.out.below hb) node.toNat node (by omega) am.out (by have:=hT.ov;have:=hT.n;omega)
   have DN:=fun W=>Mh W
   replace GC:=φ GC;replace OV:=φ OV;replace DN:=φ DN;go_cut [12] (fun aC wx=>ZM w2 t node h1 h2 h3 (yR t node.toNat) aC wx)
   case first=>
    have T:=S.drew;clear S;obtain⟨c0,c1,c2⟩:=(T.box 1 rfl).b3;obtain⟨d0,d1,d2⟩:=(T.box 0 rfl).b3;have D:True:=trivial;have C:True:=trivial;have ai:True:=trivial;have aW:w2.heap.size≤w2.drew.heap.size:=cj;have h:cI w2 w2.drew:=cy.drew;go_region_law
     (first
      |(clear D;rw[cR (by simp[Region.wanted])];go_simp;(with_reducible refine(GC.out _ T.b).mono ?_);rintro e wa ⟨A5,c5,B5,d5,rfl,oO,oL,a⟩;replace oO:=dx oO (jw _);replace oL:=dx oL (jw _);dsimp only;replace T:=T.call a;replace h:=h.trans (a.mono h.size);(try (replace hD:=hD.below a));clear a;obtain⟨c0,c1,c2⟩:=(T.box 1 rfl).b3;obtain⟨d0,d1⟩:=(T.box 0 rfl).b2;have d2:=T.c 0 2 rfl rfl)
      |(clear C;rw[cR (by simp[Region.wanted])];go_simp;(with_reducible refine(OV.out _ T.b).mono ?_);rintro e wb ⟨rfl,y⟩;dsimp only;replace T:=T.call y;replace h:=h.trans (y.mono h.size);(try (replace hD:=hD.below y));(try (replace oO:=dg oO y));(try (replace oL:=dg oL y));clear y;obtain⟨c0,c1,c2⟩:=(T.box 1 rfl).b3;obtain⟨d0,d1⟩:=(T.box 0 rfl).b2;have d2:=T.c 0 2 rfl rfl)
      | (clear ai; rw [cR (by simp [Region.wanted])]; go_simp; (with_reducible refine (DN.out _).mono ?_); rintro e wc ⟨gd,bd,rfl,hD,o1,o2,J⟩; dsimp only; replace T:=T.call J; replace o1:=cZ h.size o1; replace h:=h.trans (J.mono h.size); (try (replace oO:=dg oO J)); (try (replace oL:=dg oL J)); clear J; have c0:=T.c 1 0 rfl rfl; have c1:=T.c 1 1 rfl rfl; have c2:=T.c 1 2 rfl rfl; have d0:=T.c 0 0 rfl rfl; have d1:=T.c 0 1 rfl rfl; have d2:=T.c 0 2 rfl rfl))
    all_goals
     have hN:=VU h hD o1 o2 t A5 c5 B5 d5 oO oL node h1 h2 h3 (yR t node.toNat);replace hN:=φ hN;clear hD o1 o2 h oO oL;go_wp2;go_meet;exact hN.out
   case rest=>
    obtain⟨g,gd,bd,A5,c5,B5,d5,rfl,hB,hG,Y,hD,o1,o2,o3,o4⟩:=hcut;have S3:=((S.call hB).Yk hG).dX [(g,[t.n,.slice A5 t.ov.length c5,.slice B5 t.ln.length d5,node,.int .i64 1,h1,h2,h3,i0,sn,.bool (yR t node.toNat),sn,pt gd,.pointer none,.pointer none]),(w.heap.size,[t.n,.slice A t.ov.length c,.slice B t.ln.length d]),(w.heap.size+1,[h1,h2,h3])] (by simp);have aD:w.heap.size+1<w2.heap.size:=(S.box 0 rfl).lt (by simp);have FN:=fun W=>Fd.PQ W h3 ay.1 ay.2
    have ON:=fun W=>Lm W node aN.1 (by have:=hT.n;omega)
    unfold IT at ON;replace FN:=φ FN;replace ON:=φ ON;clear GC OV DN S hB hG am;obtain⟨c0,c1,c2⟩:=(S3.box 2 rfl).b3;go_wp2_with fail;(with_reducible refine(FN.out _).mono ?_);rintro e w3 ⟨rfl,hF,hb⟩;clear c0 FN;replace S3:=S3.call hb;replace hD:=hD.below hb;replace Y:=Y.below hb;have z3:=hb.size;have aS:=hF.lt;clear hb;generalize ax:wc.heap.size=bf at *;have aI:=S3.c 0 13 rfl rfl;have f13:=S3.f 0 13 rfl rfl;have S4:=S3.set 0 13 (.pointer (some ⟨bf+1,0,none⟩)) rfl (by simp) (by omega) (by simp;omega) _ rfl;have hs:=dk w3 g 13 (.pointer (some ⟨bf+1,0,none⟩));have Z:=hD.JK hs (by omega) (by omega);have X:=rT hF hs (by omega) (by omega);have z4:=hs.size;replace Y:=Y.set 13 (.pointer (some ⟨bf+1,0,none⟩));clear hs hD hF S3;go_wp2_with fail;generalize w3.setCell ⟨g,13,none⟩ (.pointer (some ⟨bf+1,0,none⟩))=w4 at *;clear aI f13;(with_reducible refine(ON.out _).mono ?_);rintro e w5 ⟨rfl,hO,tO,hb⟩;clear ON;replace S4:=S4.call hb;replace Z:=Z.below hb;replace X:=X.below hb;replace Y:=Y.below hb;have z5:=hb.size;have aL:=hO.lt;clear hb;generalize ar:w4.heap.size=go at *;have aH:=S4.c 0 14 rfl rfl;have f14:=S4.f 0 14 rfl rfl;have S5:=S4.set 0 14 (pt go) rfl (by simp) (by omega) (by simp;omega) _ rfl;have hs:=dk w5 g 14 (pt go);have aB:=Z.JK hs (by omega) (by omega);have aA:=rT X hs (by omega) (by omega);have az:=xI hO hs (by omega);have z6:=hs.size;replace tO:=(gA.setCell (E:=fun k=>k=g) Y.tg (.inl rfl) rfl 14 (pt go)).ty _ _ tO;replace Y:=Y.set 14 (pt go);have OU:=φ (SR (w5.setCell ⟨g,14,none⟩ (pt go)) _ t (r.out.below S5.b) node (by have:=hT.ln;omega));obtain⟨c0,c1,c2⟩:=(S4.box 1 rfl).b3;clear hs Z X hO S4;go_wp2_with fail;generalize w5.setCell ⟨g,14,none⟩ (pt go)=w6 at *;clear c0 aH f14;(with_reducible refine OU.out.mono ?_);rintro e w7 ⟨O,q5,rfl,ho,hb⟩;clear OU;replace S5:=S5.call hb;replace Y:=Y.below hb;replace tO:=ee.below hb _ _ tO;have hN:AX w w7 g gd bd (bf+1) bf go h3 (fun _=>0) node (.int .i64 t.n) (.slice A5 t.ov.length c5) (.slice B5 t.ln.length d5) (.int .i64 node) (.int .i64 1) (.int .i64 h1) (.int .i64 h2) (.int .i64 h3) i0 (yR t node.toNat) (.int .i64 t.n) (.slice A t.ov.length c) (.slice B t.ln.length d) O (outs t node).length q5 (outs t node) [] none 0 :=
     ⟨S5.dX _ (by simp),cn,dx ho (by omega),aB.below hb,aA.below hb,az.below hb,by have:=hb.size;omega⟩
    clear ho hb S5 aB aA az;have G:=OZ t node;have ao:=OY t node;have HD:=fun W (hb:cI w W) (i:Nat) (hi:i<2*t.ln.length)=>PJ W _ t (r.out.below hb) i hi (by have:=hT.ln;omega)
    have CO:=fun W (hb:cI w W) (i:Nat) (hi:i<2*t.ln.length)=>Ql W _ t (r.out.below hb) i hi (by have:=hT.ln;omega)
    have aO:=hT.ln;have aU:node≤63:=by have:=hT.n;omega
    replace hT:=φ hT;clear r;change Hid _ at G HD CO;obtain⟨zs,R⟩:=ex (outs t node)
    rw[R]at G ao hN ⊢;change Hid _ at R Y tO;generalize hq:zs.length=q at *;change Hid _ at hq ax ar;go_wp2_with fail;have n1:w.heap.size<bd:=by omega
    have n4:g<bf:=by omega
    have n6:bf+1<go:=by omega
    have n0:go≤w7.heap.size:=iR hN.hgo;have aJ:q≤512:=by omega
    clear z3 z4 z5 z6 aS aL o1 o4 aD;go_loopw [73] (fun ab wr=>∃(j:Nat) (ps:List Pt) (P:cG) (cc:Nat),ab= .int .i64 j∧j≤q∧Hid (ps=(zs.take j).map (yA t))∧Hid (vH wr g t A5 B5)∧Hid (Ty wr go 166)∧ps.length=j∧AX w wr g gd bd (bf+1) bf go h3 (fun _=>0) node (.int .i64 t.n) (.slice A5 t.ov.length c5) (.slice B5 t.ln.length d5) (.int .i64 node) (.int .i64 1) (.int .i64 h1) (.int .i64 h2) (.int .i64 h3) i0 (yR t node.toNat) (.int .i64 t.n) (.slice A t.ov.length c) (.slice B t.ln.length d) O q q5 zs ps P cc) (fun ab _=>q - (intOf ab).toNat)
    case atStart=>exact⟨0,[],none,0,rfl,by omega,φ (by simp),Y,tO,rfl,hN⟩
    case round=>
     clear hN n0 Y tO;obtain⟨j,ps,P,cc,rfl,hj,ag,Y,tO,u,N⟩:=hrel
     by_cases hjn:j<q
     ·obtain⟨b9,o9,e9,aw⟩:=gE (ki N.out).1 (by simp only[dh];rw[hq.out];omega);subst e9;obtain⟨i,ei,hi⟩:=G.out j hjn;obtain⟨z,hz⟩:∃z:Int,(i:Int)=z:=⟨_,rfl⟩
      have k9:=aw j (.int .i64 z) (by rw[eJ,ei,hz];rfl);have L:=fun W (hb:cI w W)=>HD.out W hb i hi
      have M:=fun W (hb:cI w W)=>CO.out W hb i hi
      rw[hz]at L M;obtain⟨l,hl⟩:=ex (z.tdiv 2)
      have aq:0≤l∧l≤256:=by rw[←hl,uH (by omega)];omega
      obtain⟨aq,aX⟩:=aq;have aK:Hid (yA t z=⟨IntKind.i64.wrap l,QW t.ln i,QX t.ln i⟩):=by
       have hw:IntKind.i64.wrap l=z / 2:=by
        rw[Xi (by omega) (by omega),←hl,uH (by omega)]
       unfold yA;rw[hw,←hz,cU];exact φ rfl
      have aM:Hid ((zs.take (j+1)).map (yA t)=(zs.take j).map (yA t)++ [yA t z]):=by
       obtain⟨aR,aQ⟩:=dj.1 ei;rw[cT aR,ez,aQ,hz];exact φ rfl
      generalize QW t.ln i=hd at *;generalize QX t.ln i=co at *;replace L:=φ L;replace M:=φ M;clear aw ei HD CO;change Hid _ at u hz;go_upto_region 17 with fail;replace N:=N.below cy.drew;replace Y:=φ (Y.out.below cy.drew);have aj:Hid (Ty wr.drew go 166):=tO;replace tO:=aj;clear aj;have i9:=N.S.c 0 9 rfl rfl;obtain⟨c0,c1,c2⟩:=(N.S.box 1 rfl).b3;have D:True:=trivial;have C:True:=trivial;go_region_law
       (first
        |(clear D;rw[cR (by simp[Region.wanted])];go_simp;(with_reducible refine(L.out _ N.S.b).mono ?_);rintro e wa ⟨rfl,a⟩;dsimp only;replace N:=N.below a;replace Y:=φ (Y.out.below a);replace tO:=φ (ee.below a _ _ tO.out);clear a;have i9:=N.S.c 0 9 rfl rfl;obtain⟨c0,c1,c2⟩:=(N.S.box 1 rfl).b3;have ae:=Rd.lit wa #[(IntKind.i64.wrap l),hd,co,i0,i0,i0] 118;have N3:=N.below (cQ wa (.cells #[(IntKind.i64.wrap l),hd,co,i0,i0,i0] 118));have Y3:=φ (Y.out.below (cQ wa (.cells #[(IntKind.i64.wrap l),hd,co,i0,i0,i0] 118)));have ad:=φ (ee.below (cQ wa (.cells #[(IntKind.i64.wrap l),hd,co,i0,i0,i0] 118)) _ _ tO.out);have ak:=N3.S.c 0 9 rfl rfl)
        |(clear C;rw[cR (by simp[Region.wanted])];go_simp;(with_reducible refine(M.out _ N.S.b).mono ?_);rintro e wa ⟨rfl,a⟩;dsimp only;replace N:=N.below a;replace Y:=φ (Y.out.below a);replace tO:=φ (ee.below a _ _ tO.out);clear a;have i9:=N.S.c 0 9 rfl rfl;have c0:=(N.S.box 1 rfl).b3;have ae:=Rd.lit wa #[(IntKind.i64.wrap l),hd,co,i0,i0,i0] 118;have N3:=N.below (cQ wa (.cells #[(IntKind.i64.wrap l),hd,co,i0,i0,i0] 118));have Y3:=φ (Y.out.below (cQ wa (.cells #[(IntKind.i64.wrap l),hd,co,i0,i0,i0] 118)));have ad:=φ (ee.below (cQ wa (.cells #[(IntKind.i64.wrap l),hd,co,i0,i0,i0] 118)) _ _ tO.out);have ak:=N3.S.c 0 9 rfl rfl)
        | (refine fJ (o:=⟨some 92,_,_,_,_,_⟩) rfl ptT (.tmp 81) (.tmp 91) (by rfl) (go + 1) (by rfl) N3.own (m:=1) (by rfl) (by rfl) (show Rd _ _ (XB ⟨IntKind.i64.wrap l,hd,co⟩) from ae) (Sq ⟨IntKind.i64.wrap l,hd,co⟩) (by simp only [maxLen]; rw [u.out]; omega) (by rw [u.out]; omega) N3.hgo _ _ rfl rfl ?_; intro v6 w6 o6 ah I _; obtain ⟨P6,c6,rfl,_⟩:=dN o6; obtain ⟨S6,-⟩:=N3.XO n1 o2 o3 n4 (il _) n6 I; have N9:=N3.app (p:=⟨IntKind.i64.wrap l,hd,co⟩) n1 o2 o3 n4 (il _) n6 o6 I; have Y6:=Y3.out.app N3.own I; have ac:=(gA.setCell (E:=fun k=>k = g) Y6.tg (.inl rfl) rfl 9 (.slice P6 (ps.length + 1) c6)).ty _ _ (Hi ad.out N3.own (by decide) I); have Y9:=φ (Y6.set 9 (.slice P6 (ps.length + 1) c6)); have aV:=S6.c 0 9 rfl rfl; have aY:=S6.f 0 9 rfl rfl))
      all_goals
       change Hid _ at N9 ac;have al:Hid (ps++ [⟨IntKind.i64.wrap l,hd,co⟩]=(zs.take (j+1)).map (yA t)):=φ (by rw[aM.out,aK.out,ag.out]);clear Y6 Y3 ad Y tO N3 ae ak o6 S6 ah I L M i9;go_wp2;go_round
       case rel=>exact⟨j+1,ps++ [⟨IntKind.i64.wrap l,hd,co⟩],P6,c6,by go_num,by omega,al,Y9,ac,by simp[u.out],N9.out⟩
       case measure=>simp[intOf];omega
     ·have aP:j=q:=by omega
      subst aP;have F:ps=(outs t node).map (yA t):=by
       rw[ag.out,R.out,dn (by rw[hq.out];exact cj)]
      rw[F]at N;have RA:=Vz hT.out N Y.out tO.out n1 o2 o3 n4 n6 K c9 aT;have H:(gz t node h1 h2 h3).ps.length≤512:=by
       have:(gz t node h1 h2 h3).ps.length=ps.length:=by rw[F];simp[gz]
       omega
      have af:=Jn (gz t node h1 h2 h3).x (gz t node h1 h2 h3).md (jS (gz t node h1 h2 h3)) (n:=1000000) (k:=1000000) (by simp[gz]) (by have:=qU (gz t node h1 h2 h3).ps;simp only[jS];omega) (by simp[gz]) (by simp[jS,gz]);have OR:=j9 wr _ _ _ c9 RA H (by simp[gz]) (by simp[gz]) (by simp[gz]) af.1 af.2;have hf:=fun w' (hp:gX wr _ _ c9 (ft (gz t node h1 h2 h3)) (.tuple #[]) (.returned (.tuple #[])) w')=>ap.out wr w' _ _ N.S.b RA (fun k hk=>cR hk) ⟨by simp only;omega,by simp only;omega⟩ hp
      replace OR:=φ OR;replace hf:=φ hf;clear G HD CO ap N RA af H F ag;replace u:=φ u;go_wp2_with fail;(with_reducible refine OR.out.mono ?_);rintro e w9 P9;obtain⟨rfl,P8⟩:=P9;have au:=hf.out w9 ⟨rfl,P8⟩;clear hf OR P8;go_wp2_with fail
      (first|exact au|(go_ret2;exact au))
end Go.Proofs.YtehimhbgakpenaaGreat
