/- Lemmas. -/
import Derived.Test.YtehimhbgakpenaaGreatZ
import Derived.Test.YtehimhbgakpenaaGreatY
set_option linter.all false
set_option maxRecDepth 100000
set_option maxHeartbeats 16000000
namespace Go.Proofs.YtehimhbgakpenaaGreat
open Go.RowKit Go.Maps Go.Sort Go.Proofs.Tryz
def uk(ps:List Po)(k:Nat)(hk:k<ps.length):gW (ps.take (k+1))=if ps[k].ph=2 then gW (ps.take k)++ [(ps[k].o,ps[k].l,ps[k].c)]else gW (ps.take k):=by
 unfold gW;rw[cT hk,Bk]
 by_cases h:ps[k].ph=2
 ·simp[h]
 ·simp[h]
def qU(ps:List Po):(gW ps).length≤ps.length:=by unfold gW;exact WX _ _
structure sy (w wr:World) (m:Sm) (S:Sp) (k:Nat) (A:cG) (ca:Nat):Prop where
 b:cI w wr
 bx:fq wr w [S.ov,.slice A (gW (S.ps.take k)).length ca,.slice m.B S.pre.length m.cb]
 ow:wr.ownsRow (w.heap.size+1) 169 3 (.slice A (gW (S.ps.take k)).length ca) (gW (S.ps.take k)).length (jN (gW (S.ps.take k)))
section
variable {w wr w':World} {m:Sm} {S:Sp} {k:Nat} {A:cG} {ca:Nat}
def sy.below(h:sy w wr m S k A ca)(hb:cI wr w'):sy w w' m S k A ca:=⟨h.b.trans (hb.mono h.b.size),h.bx.later hb,dg h.ow hb⟩
def sy.hs(h:sy w wr m S k A ca):w.heap.size+1≤wr:=by have:=h.bx.lt (by simp);omega
def sy.skip(h:sy w wr m S k A ca)(hk:k<S.ps.length)(hp:S.ps[k].ph≠2):sy w wr m S (k+1) A ca:=by
 have e:gW (S.ps.take (k+1))=gW (S.ps.take k):=by rw[uk _ _ hk,cN hp]
 exact⟨h.b,by rw[e];exact h.bx,by rw[e];exact h.ow⟩
def sy.uB(h:sy w wr m S k A ca)(hg:wr.grownBy w' (Value.slice A (gW (S.ps.take k)).length ca).ownBlock):fq w' w [S.ov,.slice A (gW (S.ps.take k)).length ca,.slice m.B S.pre.length m.cb] :=
 h.bx.kept hg (fun e=>by have:=(h.ow.lt _ e.symm).1;omega) (by simp)
def sy.put(h:sy w wr m S k A ca)(hk:k<S.ps.length)(hp:S.ps[k].ph=2)(hg:wr.grownBy w' (Value.slice A (gW (S.ps.take k)).length ca).ownBlock){A':cG}{d:Nat}
  (ho:w'.ownsRow (w.heap.size+1) 169 3 (.slice A' ((gW (S.ps.take k)).length+1) d) ((gW (S.ps.take k)).length+1) (jN (gW (S.ps.take k))++ [.int .i64 S.ps[k].o,.int .i64 S.ps[k].l,.int .i64 S.ps[k].c])) :
  sy w (w'.setCell ⟨w,1,none⟩ (.slice A' ((gW (S.ps.take k)).length+1) d)) m S (k+1) A' d:=by
 have e:gW (S.ps.take (k+1))=gW (S.ps.take k)++ [(S.ps[k].o,S.ps[k].l,S.ps[k].c)]:=by rw[uk _ _ hk,cR hp]
 have el:(gW (S.ps.take (k+1))).length=(gW (S.ps.take k)).length+1:=by rw[e];simp
 have hb:=kP h.b h.ow hg (by omega) h.b.size;refine⟨hb.setCell (p:=⟨w,1,none⟩) cj _,?_,?_⟩
 ·rw[el];exact(h.uB hg).set 1 _ (by simp)
 ·rw[el,e,vC];exact cV (a:=⟨w,1,none⟩) ho (by simp only;omega) _
end
def WB{w wr:World}{m:Sm}{S:Sp}{A:cG}{ca:Nat}{a:Nat→Nat}{c:Nat}(h:fe w m S a c)(o:sy w wr m S S.ps.length A ca):yk wr (Qn S.ov A (gW S.ps).length ca m.B S.pre.length m.cb) (jS S):=by
 have ho:=o.ow;rw[dE]at ho;obtain⟨r,l1,l2,_⟩:=kG ho;exact⟨A,ca,m.B,m.cb,rfl,r,h.rB.1.below o.b,l1,l2,h.lB.1,h.lB.2.1,h.lB.2.2⟩
def j9(w:World)(m:Sm)(S:Sp)(a:Nat→Nat)(c:Nat)(h:fe w m S a c)(am:S.ps.length≤512)(ah:S.pre.length≤1000000)(ag:0≤S.x.s)(af:S.x.s≤1073741824)
  (P:(ke S.x S.md (jS S)).x.adj.length≤1000000) (N:(ke S.x S.md (jS S)).x.pre.length≤1000000) :
  Calls prog 41 #[.pointer (some ⟨m.g,0,none⟩)] w (gX w m a c (ft S) (.tuple #[])):=by
 have aq:=qU S.ps;have OS:=fun W A ca (o:sy w W m S S.ps.length A ca)=>Ll W.drew m.go _ S.x (jS S) S.md (((h.below o.b).below bd).og) ((WB h o).below bd) (by simp only[jS];omega) (by simp only[jS];exact ah) ag af
 obtain⟨r,hr⟩:=ex (ke S.x S.md (jS S))
 rw[hr]at OS P N;unfold yh IS at OS;have k:Hid (r.made=true→ ∀w1 w',fe w1 m { S with x:=r.x,md:=r.now } a c→Ev a c w w1→gX w1 m a c (nF { S with x:=r.x,md:=r.now }) (.tuple #[]) (.returned (.tuple #[])) w'→gX w m a c (ft S) (.tuple #[]) (.returned (.tuple #[])) w'):=fun e w1 w' _ h1 h2=>by
  have e2:ft S=nF { S with x:=r.x,md:=r.now }:=by unfold ft;rw[hr,cR e]
  rw[e2];exact⟨rfl,h2.2.1,h1.tr h2.2.2⟩
 have q:Hid (r.made=false→ ∀w1,fe w1 m { S with x:=r.x,md:=r.now } a c→Ev a c w w1→gX w m a c (ft S) (.tuple #[]) (.returned (.tuple #[])) w1):=fun e w1 h0 h1=>by
  have e2:ft S= { S with x:=r.x,md:=r.now }:=by unfold ft;rw[hr,cN (by rw[e];simp)]
  rw[e2];exact⟨rfl,h0,h1⟩
 clear hr;have D:=fun(hn:0<S.ps.length)=>h.gp hn
 have C:=h.cs;have J:=cQ w (.cells #[false,sn,sn] 164);have aa:=cW J C.c10;have Z:=cW J C.c11;have k9:=C.c9;have ac:=C.c10;have ab:=C.c11;change Hid _ at D OS h;clear J C;go_in;go_upto_region 0 with fail;go_cut [2] (fun v2 wx=>v2= pt w∧wx=(w.alloc (.cells #[S.ov,sn,.slice m.B S.pre.length m.cb] 164)).drew)
 case first=>
  go_region_law (fail)
  all_goals
   go_wp2;go_meet;exact⟨rfl,rfl⟩
 case rest=>
  obtain⟨rfl,rfl⟩:=hcut;have O:sy w (w.alloc (.cells #[S.ov,sn,.slice m.B S.pre.length m.cb] 164)).drew m S 0 none 0:=by
   have hb:=cQ w (.cells #[S.ov,sn,.slice m.B S.pre.length m.cb] 164);exact⟨hb.drew,(fq.iE w _ _ _ _ rfl rfl).drew,cn⟩
  generalize (w.alloc _).drew=w2 at *;have i9:=cW O.b k9;clear aa Z k9 ac ab;go_wp2_with fail;clear i9;go_loopw [21] (fun G wr=>∃(i:Nat) (A:cG) (ca:Nat),G= .int .i64 i∧i≤S.ps.length∧Hid (sy w wr m S i A ca)) (fun G _=>S.ps.length - (intOf G).toNat)
  case atStart=>exact⟨0,none,0,rfl,by omega,O⟩
  case round=>
   clear O;obtain⟨i,A,ca,rfl,hi,O⟩:=hrel
   by_cases hin:i<S.ps.length
   ·obtain⟨gp,hP,hc⟩:=D.out (by omega);have hp:=hc i hin;have d:=fun h2=>O.out.skip hin h2
    have n:=fun(h2:S.ps[i].ph=2) W {w':World} {A':cG} {ca':Nat} (o:sy w W m S i A ca) (hg:W.grownBy w' _) ho=>o.put (A':=A') (d:=ca') hin h2 hg ho
    obtain⟨p,H⟩:=ex (S.ps[i])
    rw[H]at hp d;simp only[H]at n;have c0:=cW O.out.b hp.c0;have c1:=cW O.out.b hp.c1;have c2:=cW O.out.b hp.c2;have c3:=cW O.out.b hp.c3;have c4:=cW O.out.b hp.c4;have ak:=cW O.out.b hp.c4';have c5:=cW O.out.b hp.c5;have ao:(gW (S.ps.take i)).length≤512:=by have:=qU (S.ps.take i);rw[eM]at this;omega
    change Hid _ at d n;clear hp hc H;have z:=cQ wr (.cells #[p.l,p.o,p.c,p.ph,p.lf,p.bt] 118);have pb:=fq.iE wr #[p.l,p.o,p.c,p.ph,p.lf,p.bt] 118 wr _ rfl rfl;have O2:=O.out.below z;rw[hP];go_upto_region 4 with fail;clear c0 c1 c2 c3 c4 ak c5;obtain⟨q0,q1,q2,q3⟩:=pb.b4
    by_cases j:p.ph=2
    ·have e1:(p.ph==2)=true:=by simp[j]
     replace j:=φ j;go_upto_region 5 with fail;generalize ad:World.alloc wr _=w3 at *;clear ad e1 q3;have au:=O2.bx.c 1 rfl;have aj:=cQ w3 (.cells #[p.o,p.l,p.c] 169);have O3:=O2.below aj;have X:=Rd.lit w3 #[p.o,p.l,p.c] 169;have ar:=O3.bx.c 1 rfl;have Y:=O3.ow;have ae:=O3.hs;have L:∀u∈ [Value.int .i64 p.o,p.l,p.c],u.oneCell'=true:=by
      intro u hu;simp only[dA,eF,ik]at hu;rcases hu with rfl|rfl|rfl<;>rfl
     have ai:Hid (∀w6,(w3.alloc (.cells #[p.o,p.l,p.c] 169)).grownBy w6 (Value.slice A (gW (S.ps.take i)).length ca).ownBlock→Cv w6 w 1 (.slice A (gW (S.ps.take i)).length ca)∧Fz w6 w 1):=fun w6 t=>⟨(O3.uB t).c 1 rfl,(O3.uB t).f 1 rfl⟩
     have al:=φ O3;clear O O2 O3 z pb;generalize (gW (S.ps.take i)).length=na at *;go_wp2_with (at_builtin;refine dK rfl YJ (.tmp 30) (.tmp 38) rfl (w.heap.size+1) rfl Y (m:=1) rfl rfl X L (by simp only[maxLen];omega) (by omega) ae (na+1) _ rfl rfl ?_;intro v6 w6 o6 ap t _;obtain⟨q0,q1⟩:=ai.out _ t;obtain⟨A6,c6,rfl,-⟩:=dN o6;have O9:=φ (n j _ al t o6));go_round
     case rel=>exact⟨i+1,A6,c6,by go_num,by omega,O9⟩
     case measure=>simp[intOf];omega
    ·have e1:(p.ph==2)=false:=by simp[j]
     have O4:=φ ((d j).below z);clear j O O2 pb;go_wp2;go_round
     case rel=>exact⟨i+1,A,ca,by go_num,by omega,O4⟩
     case measure=>simp[intOf];omega
   ·obtain rfl:S.ps.length=i:=by omega
    have e1:decide ((S.ps.length:Int)< (S.ps.length:Int))=false:=by simp
    have F:=OS.out wr A ca O;have B2:=O.out.b;have H2:=(h.out.below B2)
    have M:=H2.cs.c14;have bb:=O.out.bx;rw[dE]at bb;obtain⟨b0,b1,b2⟩:=bb.b3;have V:=bb.drew;have H3:=H2.below bd;have V3:Ev a c w wr.drew:=gA.below B2.drew;replace F:=φ F;clear O OS bb D H2 B2;have U:=φ V;clear V;go_upto_region 7 with fail;refine gF (S:=fun W=>Cv W m.g 14 (pt m.go)∧Cv W w 0 S.ov∧Cv W w 1 (.slice A (gW S.ps).length ca)∧Cv W w 2 (.slice m.B S.pre.length m.cb)) ⟨M,b0,b1,b2⟩ (fun y=>?_);(iterate 5 refine tA ?_);refine rF 5 (fun K hK=>?_);go_simp;refine F.out.mono ?_;rintro e wa ⟨⟨rfl,T,I⟩,R⟩;dsimp only;obtain⟨H4,V4⟩:=H3.Ic I T R;have E:=U.out.kept I (by intro e;injection e with e;have:=h.out.og.lt;omega) (by simp);refine hK _ _ ⟨H4.cs.c14,E.c 0 rfl,E.c 1 rfl,E.c 2 rfl⟩ (fun y=>?_);clear hK K M b0 b1 b2 F T I R;refine tV 6 42 (.tuple #[r.made,r.err]) ?_
    refine tV 7 49 (.bool r.made) ?_
    refine tV 8 50 (.int .i64 r.err) ?_
    refine tV 9 5 (.bool r.made) ?_
    refine tV 10 6 (.int .i64 r.err) ?_
    refine dF ?_;have V5:=V3.tr V4;clear y E V3 V4 H3 U;rcases hm:r.made with _|_
    ·have hf:=q.out hm wa H4 V5;clear hm k q H4 V5;go_wp2;exact fO (v:=.tuple #[]) (by simp[results,results41,go_sem]) rfl hf
    ·have PB:=sT wa m _ a c H4 P N;have Q:=φ (k hm wa);replace PB:=φ PB;clear hm k q;go_wp2_with fail;refine PB.out.mono ?_;rintro e w9 P9;have hf:=Q.out w9 H4 V5 ⟨rfl,P9.2⟩;obtain⟨rfl,-⟩:=P9;clear PB Q H4 V5;go_wp2;exact fO (v:=.tuple #[]) (by simp[results,results41,go_sem]) rfl hf
def Ma(s:Lx):Fd.Lx:=⟨s.y,s.A,s.c,s.B,s.d⟩
def UJ(l:List Lx):Fd.nr (l.map Ma)=nr l:=by
 induction l with
 |nil=>rfl
 |cons s l ih=>simp only[gh,Fd.nr,nr,ih];rfl
def PY(l:List Lx):Fd.pz (l.map Ma)=pz l:=by
 induction l with
 |nil=>rfl
 |cons s l ih=>simp only[gh,Fd.pz,pz]at ih ⊢;rw[ih];rfl
def kJ(w:World)(m:Sm)(col:Nat→Nat)(c:Nat)(S':Sp)(v:Value)(e:Ending)(w':World):Prop:=e= .returned v∧gT w m col c S' w'
def gT.of{w w':World}{m:Sm}{S':Sp}{col:Nat→Nat}{c:Nat}(h:fe w' m S' col c)(v:Ev col c w w'):gT w m col c S' w':=⟨m,col,⟨rfl,rfl,rfl,rfl,rfl⟩,fun _ _=>rfl,h,v⟩
def Rv(w:World)(m:Sm)(S:Sp)(f:Nat→Nat)(c:Nat)(h:fe w m S f c)(l:lY S.db)(i:Nat)(hi:i<256)(A:cG)(n d:Nat)(ls:List Lx)(hA:Rd w A (nr ls))(hn:ls.length=n)(o:n≤64)(hl:pz ls=ku S.db)(g:∀s∈ls,jD w s)(hv:∀a∈ku S.db,dS a) :
  Calls prog 144 #[.pointer (some ⟨m.gf,0,none⟩),i,.slice A n d] w (kJ w m f c { S with fl:=Fd.eY S.fl i (Fd.pJ (fun _=>none) (ku S.db)) } (.int .i64 0)):=by
 have U:=Fd.TC w m.gf m.bf S.h3 S.fl m.ff h.fl i hi A n d (ls.map Ma) (by rw [UJ]; exact hA) (by rw [dh]; exact hn) (by omega) (fun s hs=>by
  obtain⟨z,hz,rfl⟩:=dL.1 hs;exact ⟨g z hz,hv _ (by rw [← hl]; exact dL.2 ⟨z,hz,rfl⟩)⟩)
 rw[PY,hl]at U;refine U.mono ?_;rintro e w' ⟨rfl,k,hk,hf,hg⟩;obtain ⟨b,h1,h2,h3⟩:=h.UI hg hf (fun j hj hs=>by
  unfold Fd.eY at hs
  by_cases e:j=i
  ·left;simp only[cR e];exact hk
  ·right; rw [cN e] at hs; exact ⟨hs,cN e⟩)
 exact⟨rfl,{ m with ff:=fun j=>if j=i then k else m.ff j },b,⟨rfl,rfl,rfl,rfl,rfl⟩,h1,h2,h3⟩
def KF(w:World)(m:Sm)(S:Sp)(b:Nat→Nat)(c:Nat)(h:fe w m S b c)(i:Nat)(hi:i<256)(hs:(S.fl i).isSome=true) :
  Calls prog 145 #[.pointer (some ⟨m.gf,0,none⟩),i] w (kJ w m b c { S with fl:=Fd.gx S.fl i } (.int .i64 0)):=by
 obtain⟨D,hD⟩:=dC.1 hs;refine(Fd.Mb w m.gf m.bf S.h3 S.fl m.ff h.fl i hi D hD).mono ?_;rintro e w' ⟨rfl,hf,hg⟩;obtain ⟨a,h1,h2,h3⟩:=h.UI hg hf (fun j hj hs=>by
  unfold Fd.gx at hs
  by_cases e:j=i
  ·simp[e]at hs
  ·right; rw [cN e] at hs; exact ⟨hs,rfl⟩)
 exact⟨rfl,m,a,⟨rfl,rfl,rfl,rfl,rfl⟩,h1,h2,h3⟩
section
variable {w w':World} {m:Sm} {S:Sp} {col:Nat → Nat} {c:Nat}
def fe.state(h:fe w m S col c){gp:Nat}(hP:m.P=some ⟨gp,0,none⟩){i:Nat}(hi:i<S.ps.length)(ph lf:Int) :
  fe ((w.setCell ⟨gp,i*6+3,none⟩ (.int .i64 ph)).setCell ⟨gp,i*6+3+1,none⟩ (.int .i64 lf)) m { S with ps:=S.ps.set i ⟨S.ps[i].l,S.ps[i].o,S.ps[i].c,ph,lf,S.ps[i].bt⟩ } col c∧Ev col c w ((w.setCell ⟨gp,i*6+3,none⟩ (.int .i64 ph)).setCell ⟨gp,i*6+3+1,none⟩ (.int .i64 lf)):=by
 obtain⟨h1,v1⟩:=h.port hP hi 3 (by omega) (.int .i64 ph) ⟨S.ps[i].l,S.ps[i].o,S.ps[i].c,ph,S.ps[i].lf,S.ps[i].bt⟩ rfl;obtain⟨h2,v2⟩:=h1.port hP (i:=i) (by simp only[dw];exact hi) 4 (by omega) (.int .i64 lf) ⟨S.ps[i].l,S.ps[i].o,S.ps[i].c,ph,lf,S.ps[i].bt⟩ (by simp only[fG];rfl);simp only[lu]at h2;exact⟨h2,v1.tr v2⟩
end
def uc{S:Sp}{i:Nat}{ph lf:Int}(hi:i<S.ps.length):jB S i ph lf= { S with ps:=S.ps.set i (jq S.ps[i] ph lf),fl:=if He.oz S.ps[i].ph ph=1 then Fd.eY S.fl S.ps[i].l.toNat (Fd.pJ (fun _=>none) (ku S.db))else if He.oz S.ps[i].ph ph=2 then Fd.gx S.fl S.ps[i].l.toNat else S.fl }:=by
 unfold jB;rw[cM hi]
def CR(a b:Int):He.oz a b=0∨(He.oz a b=1∧b=2)∨(He.oz a b=2∧a=2):=by
 unfold He.oz;split
 ·split
  ·exact .inl rfl
  ·exact .inr (.inr ⟨rfl,by assumption⟩)
 ·split
  ·exact .inr (.inl ⟨rfl,by assumption⟩)
  ·exact .inl rfl
def Yw(f:Nat)(cv av:Array Value)(a:Value):Prop:=(f=64∧cv= #[]∧av= #[a])∨(f=89∧cv= #[]∧av= #[a])∨ ∃mb sb:Nat,f=117∧cv= #[.pointer (some ⟨mb,0,none⟩),.pointer (some ⟨sb,0,none⟩)]∧av= #[a,.pointer (some ⟨mb,0,none⟩),.pointer (some ⟨sb,0,none⟩)]
def Al(w:World)(m:Sm)(S:Sp)(b:Nat→Nat)(c:Nat)(h:fe w m S b c)(Z:lY S.db)(hv:∀a∈ku S.db,dS a)(gp:Nat)(hP:m.P=some ⟨gp,0,none⟩)(i:Nat)(hi:i<S.ps.length)(p:Po)(hp:S.ps[i]=p)(hl:0≤p.l∧p.l<256)(J:p.ph=2→(S.fl p.l.toNat).isSome=true)
  (ph lf:Int) (f:Nat) (cv av:Array Value) (D:Yw f cv av (.agg #[p.ph,p.lf]))
  (FC:∀W,cI w W→Calls prog f av W fun e w'=>e= .returned (.tuple #[.agg #[ph,lf],(He.oz p.ph ph),.int .i64 0])∧cI W w') :
  Calls prog 88 #[.pointer (some ⟨m.g,0,none⟩),.pointer (some ⟨gp,i*6,none⟩),.func (.func f) #[] cv] w (kJ w m b c (jB S i ph lf) (.int .i64 (He.oz p.ph ph))):=by
 obtain⟨T,R,u⟩:=h.gp (by omega);obtain rfl:T=gp:=by rw[hP]at R;injection R with e;injection e with e;exact e.symm
 have u:=u i hi;rw[hp]at u;have p3:=u.c3;have p4:=u.c4';have V:=u.c4;have n:=uc (ph:=ph) (lf:=lf) hi;rw[hp]at n;replace n:=φ n;replace FC:=φ (FC w cy);change Hid _ at h J;clear u R;obtain⟨ev,M⟩:=ex (He.oz p.ph ph)
 have B:=CR p.ph ph;rw[M]at FC n B ⊢;change Hid _ at M B;go_in;go_upto_region 1 with fail;replace D:=φ D;go_cut [7,8,9] (fun v7 v8 v9 wx=>v8= .int .i64 ev∧v9= .int .i64 0∧ ∃w1,Hid (cI w w1)∧v7= pt w1∧wx=w1.alloc (.cells #[ph,lf] 116))
 case first=>
  rcases D.out with ⟨rfl,rfl,rfl⟩|⟨rfl,rfl,rfl⟩|⟨mb,sb,rfl,rfl,rfl⟩
  all_goals
   go_wp2_with fail;refine FC.out.mono ?_;rintro e w1 ⟨rfl,hb⟩;clear FC p3 p4 V;go_wp2;go_meet;exact⟨rfl,rfl,w1,hb,rfl,rfl⟩
 obtain⟨rfl,rfl,w1,hb,rfl,rfl⟩:=hcut;replace hb:=hb.out;clear FC p3 p4 V D;have Q:=cQ w1 (.cells #[ph,lf] 116);have kb:=fq.iE w1 #[ph,lf] 116 w1 _ rfl rfl;have H1:=h.out.below hb;have H2:=H1.below Q;have V2:Ev b c w (w1.alloc (.cells #[ph,lf] 116)):=(gA.below hb).tr (gA.below Q);have ah:T<w1:=by
  have:=hb.size;obtain⟨g2,e2,v⟩:=h.out.gp (by omega);rw[hP]at e2;injection e2 with e2
  injection e2 with e2
  subst e2;have:=dm _ _ (v i hi).c0;simp only at this;omega
 clear hb Q H1;go_upto_region 4 with fail;generalize ae:World.alloc w1 _=w2 at *;clear ae;generalize w1.heap.size=kx at *;obtain⟨H3,V3⟩:=H2.state hP hi ph lf;rw[hp]at H3;have U:=φ (V2.tr V3);obtain⟨g2,e2,v⟩:=H2.gp (by omega);obtain rfl:g2=T:=by rw[hP]at e2;injection e2 with e;injection e with e;exact e.symm
 have v:=v i hi;have p3:=v.c3;have p4:=v.c4';rw[hp]at p3 p4;have f3:=H2.free hP (i*6+3);have f4:=H2.free hP (i*6+3+1);have k0:=kb.b2;have X:=(kb.iX (p:=⟨g2,i*6+3,none⟩) ph (by simp only;omega)).iX (p:=⟨g2,i*6+3+1,none⟩) lf (by simp only;omega);have H:=X.c 0 rfl;replace H3:=φ H3;obtain⟨ln,x⟩:=de hl.1;have G:ln<256:=by omega
 replace x:=φ x;clear v e2 V2 V3 X hl H2;go_upto_region 5 with fail;clear p3 p4 f3 f4 k0 kb;replace H:=H;generalize ad:World.setCell (World.setCell _ _ _) _ _=w4 at *;clear ad;go_upto_if 28 with fail;clear H;go_cut [] (fun wx=>fe wx m { S with ps:=S.ps.set i (jq p ph lf) } b c∧Ev b c w wx)
 case first=>
  by_cases h0:ph=0
  ·have e0:(ph==0)=true:=by simp[h0]
   obtain⟨H4,V4⟩:=H3.out.port hP (i:=i) (by simp only[dw];exact hi) 5 (by omega) i0 (jq p ph lf) (by simp only[fG];unfold jq;rw[cR h0];rfl);simp only[lu]at H4;obtain⟨g3,e3,r⟩:=H3.out.gp (by simp only[dw];omega);obtain rfl:g3=g2:=by rw[hP]at e3;injection e3 with e;injection e with e;exact e.symm
   have c5:=(r i (by simp only[dw];exact hi)).c5;simp only[fG]at c5;have f5:=H3.out.free hP (i*6+5);have V5:=U.out.tr V4;replace h0:=φ h0;clear r e3;go_wp2;go_meet;exact⟨H4,V5⟩
  ·have e0:(ph==0)=false:=by simp[h0]
   have H4:=H3.out;have e1:jq p ph lf=⟨p.l,p.o,p.c,ph,lf,p.bt⟩:=by unfold jq;rw[cN h0]
   rw[←e1]at H4;go_wp2;go_meet;exact⟨H4,U⟩
 case rest=>
  obtain⟨H4,V4⟩:=hcut;clear H3 U h;change Hid _ at H4 V4;have ab:ev=0∨(ev=1∧Hid (ph=2))∨(ev=2∧Hid (p.ph=2)):=B.out;clear B;rcases ab with rfl|⟨rfl,hq⟩|⟨rfl,hq⟩
  ·have hf:kJ w m b c (jB S i ph lf) i0 (.returned i0) wc:=by
    rw[n.out];exact⟨rfl,gT.of H4 V4⟩
   clear H4 V4 n;go_wp2;go_ret;exact hf
  ·have H5:=H4.out.below bd;have V5:=V4.out.tr (gA.below (E:=fun k=>b k=c) bd);have DA:=φ (Gr wc.drew m.gd m.bd S.db H5.db Z);have af:=lg S.db;obtain⟨g3,e3,r⟩:=H5.gp (by simp only[dw];omega);obtain rfl:g3=g2:=by rw[hP]at e3;injection e3 with e;injection e with e;exact e.symm
   have c0:=(r i (by simp only[dw];exact hi)).c0;simp only[fG,jq]at c0;rw[x.out]at c0 n;have y:=H5.cs.c13;have Y:=H5.cs.c12;have q:Hid (∀W,gT wc.drew m b c { S with ps:=S.ps.set i (jq p ph lf),fl:=Fd.eY S.fl ln (Fd.pJ (fun _=>none) (ku S.db)) } W→kJ w m b c (jB S i ph lf) (.int .i64 1) (.returned (.int .i64 1)) W):=fun W h1=>by
    rw[n.out];exact⟨rfl,gT.from V5 h1⟩
   clear r e3 V4 V5 H4;go_upto_region 9 with fail;refine gF (S:=fun W=>Cv W m.g 13 (pt m.gf)∧Cv W m.g 12 (pt m.gd)∧Cv W g3 (i*6) ln) ⟨y,Y,c0⟩ (fun j=>?_);(iterate 12 refine tA ?_);refine rF 12 (fun K hK=>?_);go_simp;refine DA.out.mono ?_;rintro e wa ⟨A,d,ls,rfl,own,L,aa,hb⟩;dsimp only;have H6:=H5.below hb;refine hK _ _ ⟨H6.cs.c13,H6.cs.c12,cW hb c0⟩ (fun j=>?_);clear hK K;have ag:ls.length=(eR S.db).length:=by
    have:=dU List.length L;simpa[pz,ku]using this
   have UP:=φ (Rv wa m _ b c H6 Z ln G A (eR S.db).length d ls (dQ own) ag af L (fun s hs=>(aa s hs).ok) hv);refine rF 13 (fun K hK=>?_);go_simp;refine UP.out.mono ?_;rintro e wb ⟨rfl,h7⟩;dsimp only;have hf:=q.out wb (gT.from (gA.below hb) h7);obtain⟨m',ac,eq,N,H7,V7⟩:=h7;have C:Cv wb g3 (i*6) ln:=by
    obtain⟨g4,e4,O⟩:=H7.gp (by simp only[dw];omega);rw[eq.2.1,hP]at e4;injection e4 with e4
    injection e4 with e4
    subst e4;have:=(O i (by simp only[dw];exact hi)).c0;simp only[fG,jq]at this;rw[x.out]at this;exact this
   have t:=H7.cs.c13;have I:=H7.cs.c12;rw[eq.1,eq.2.2.2.1]at t;rw[eq.1,eq.2.2.1]at I;refine hK _ _ ⟨t,I,C⟩ (fun j=>?_);clear hK K t I C H7 V7 N eq H6 H5 UP DA own L aa j c0 Y y q;refine dF ?_;go_wp2;go_ret;exact hf
  ·have H5:=H4.out.below bd;have V5:=V4.out.tr (gA.below (E:=fun k=>b k=c) bd);have z:=J.out hq;obtain⟨g3,e3,r⟩:=H5.gp (by simp only[dw];omega);obtain rfl:g3=g2:=by rw[hP]at e3;injection e3 with e;injection e with e;exact e.symm
   have c0:=(r i (by simp only[dw];exact hi)).c0;simp only[fG,jq]at c0;rw[x.out]at c0 n z;have F:(S.fl ln).isSome=true:=z;have y:=H5.cs.c13;have q:Hid (∀W,gT wc.drew m b c { S with ps:=S.ps.set i (jq p ph lf),fl:=Fd.gx S.fl ln } W→kJ w m b c (jB S i ph lf) (.int .i64 2) (.returned (.int .i64 2)) W):=fun W h1=>by
    rw[n.out];exact⟨rfl,gT.from V5 h1⟩
   have DN:=φ (KF wc.drew m _ b c H5 ln G F);clear r e3 V5 H4;go_upto_region 11 with fail;refine gF (S:=fun W=>Cv W m.g 13 (pt m.gf)∧Cv W g3 (i*6) ln) ⟨y,c0⟩ (fun j=>?_);(iterate 8 refine tA ?_);refine rF 8 (fun K hK=>?_);go_simp;refine DN.out.mono ?_;rintro e wb ⟨rfl,h7⟩;dsimp only;have hf:=q.out wb h7;obtain⟨m',ac,eq,N,H7,V7⟩:=h7;have C:Cv wb g3 (i*6) ln:=by
    obtain⟨g4,e4,O⟩:=H7.gp (by simp only[dw];omega);rw[eq.2.1,hP]at e4;injection e4 with e4
    injection e4 with e4
    subst e4;have:=(O i (by simp only[dw];exact hi)).c0;simp only[fG,jq]at this;rw[x.out]at this;exact this
   have t:=H7.cs.c13;rw[eq.1,eq.2.2.2.1]at t;refine hK _ _ ⟨t,C⟩ (fun j=>?_);clear hK K t C H7 V7 N eq H5 DN j c0 y q z F;refine dF ?_;go_wp2;go_ret;exact hf
def Nh(p l:Int)(w:World)(h:He.vQ p l=true) :
  Calls prog 89 #[.agg #[p,l]] w fun e w'=>e= .returned (.tuple #[.agg #[(He.vc p l 1),(He.Bp p l 1)],.int .i64 (He.oz p (He.vc p l 1)),.int .i64 0])∧cI w w':=by
 have T:=fun W=>He.Ds p l 1 W h (by omega)
 replace T:=φ T;clear h;go_in;go_wp2_with fail;refine (T _).mono ?_;rintro e w1 ⟨rfl,hb⟩;have c1:=cW hb (a:=⟨w.heap.size+1,0,none⟩) (v:=.int .i64 0) (by simp);have c2:=cW hb (a:=⟨w.heap.size+1,1,none⟩) (v:=.int .i64 0) (by simp);have f1:=fL hb (a:=⟨w.heap.size+1,0,none⟩) (v:=.int .i64 0) (by simp) (by simp);have f2:=fL hb (a:=⟨w.heap.size+1,1,none⟩) (v:=.int .i64 0) (by simp) (by simp);have b:=((kQ w _).alloc (by simp) _).trans (hb.mono (by simp;omega));clear T hb;go_wp2;exact dc (v:=.tuple #[.agg #[(He.vc p l 1),(He.Bp p l 1)],.int .i64 (He.oz p (He.vc p l 1)),i0]) (by simp[results,results89,go_sem,c1,c2]) rfl ⟨rfl,(b.setCell (p:=⟨w.heap.size+1,0,none⟩) cC _).setCell (p:=⟨w.heap.size+1,1,none⟩) cC _⟩
def Oj(w:World)(m:Sm)(S:Sp)(o:Nat→Nat)(c:Nat)(h:fe w m S o c)(p l:Int)(hv:He.vQ p l=true)(h2:1≤S.h2∧S.h2≤65536)(mb sb:Nat)(hh:Int)(hm:w.cell? ⟨mb,3,none⟩=some (.int .i64 hh))(hs:w.cell? ⟨sb,0,none⟩=some (.pointer (some ⟨m.g,0,none⟩))) :
  Calls prog 117 #[.agg #[.int .i64 p,l],.pointer (some ⟨mb,0,none⟩),.pointer (some ⟨sb,0,none⟩)] w fun e w'=>e= .returned (.tuple #[.agg #[.int .i64 (if hh==S.bo then 2 else 1),S.h2],.int .i64 (He.oz p (if hh==S.bo then 2 else 1)),.int .i64 0])∧cI w w':=by
 have T:=fun W=>He.HH p l S.h2 (hh==S.bo) W hv h2.1 h2.2
 obtain⟨q,hq⟩:∃q:Int,(if hh==S.bo then 2 else 1)=q:=⟨_,rfl⟩
 rw[hq]at T ⊢;clear hq;have b:=(cQ w (.cells #[.int .i64 p,l] 116)).trans ((cQ (w.alloc (.cells #[.int .i64 p,l] 116)) (.cells #[.int .i64 0,.int .i64 0] 116)).mono (by simp));have k4:=cW b h.cs.c4;have k6:=cW b h.cs.c6;have km:=cW b hm;have ks:=cW b hs;have b0:((w.alloc (.cells #[.int .i64 p,l] 116)).alloc (.cells #[.int .i64 0,.int .i64 0] 116)).cell? ⟨w,0,none⟩=some (.int .i64 p):=by simp
 have b1:((w.alloc (.cells #[.int .i64 p,l] 116)).alloc (.cells #[.int .i64 0,.int .i64 0] 116)).cell? ⟨w,1,none⟩=some (.int .i64 l):=by simp
 have c1:((w.alloc (.cells #[.int .i64 p,l] 116)).alloc (.cells #[.int .i64 0,.int .i64 0] 116)).cell? ⟨w.heap.size+1,0,none⟩=some (.int .i64 0):=by simp
 have c2:((w.alloc (.cells #[.int .i64 p,l] 116)).alloc (.cells #[.int .i64 0,.int .i64 0] 116)).cell? ⟨w.heap.size+1,1,none⟩=some (.int .i64 0):=by simp
 have f1:((w.alloc (.cells #[.int .i64 p,l] 116)).alloc (.cells #[.int .i64 0,.int .i64 0] 116)).frozen? ⟨w.heap.size+1,0,none⟩=false:=by simp
 have f2:((w.alloc (.cells #[.int .i64 p,l] 116)).alloc (.cells #[.int .i64 0,.int .i64 0] 116)).frozen? ⟨w.heap.size+1,1,none⟩=false:=by simp
 replace T:=φ T;have j:m.g<w:=jo h.tg;have i:=dm _ _ hm;have f:=dm _ _ hs;simp only at i f;clear h hv h2 hm hs;go_in;go_upto_region 1 with fail;generalize (w.alloc (.cells #[.int .i64 p,l] 116)).alloc (.cells #[.int .i64 0,.int .i64 0] 116)=w2 at *;have n1:¬m.g=w.heap.size+1:=by omega
 have n2:¬mb=w.heap.size+1:=by omega
 have n3:¬sb=w.heap.size+1:=by omega
 have n4:¬w.heap.size=w.heap.size+1:=by omega
 have u:¬w.heap.size+1=m.g:=by omega
 have t:¬w.heap.size+1=mb:=by omega
 have s:¬w.heap.size+1=sb:=by omega
 have r:¬w.heap.size+1=w.heap.size:=by omega
 have x:w.heap.size+1<w2:=dm _ _ c1;generalize hk:w.heap.size+1=k at *;have d:=φ b;clear b j i f;go_region_held3 (fun W=>W.cell? ⟨w,0,none⟩=some (.int .i64 p)∧W.cell? ⟨w,1,none⟩=some (.int .i64 l)∧W.cell? ⟨mb,3,none⟩=some (.int .i64 hh)∧W.cell? ⟨sb,0,none⟩=some (.pointer (some ⟨m.g,0,none⟩))∧W.cell? ⟨m.g,4,none⟩=some (.int .i64 S.bo)∧W.cell? ⟨m.g,6,none⟩=some (.int .i64 S.h2)) (first|assumption|go_keep)
  (first|(go_at_call 118;(with_reducible refine(T.out _).mono ?_);rintro e w3 ⟨rfl,a⟩;have q0:=cW a b0;have q1:=cW a b1;have q2:=cW a km;have q3:=cW a ks;have q4:=cW a k4;have q5:=cW a k6;have g1:=fL a c1 f1;have g2:=fL a c2 f2;have d1:=cW a c1;have d2:=cW a c2))
 have n:cI w w3:=d.out.drew.trans (a.mono (by have:=d.out.drew.size;exact this));clear a q0 q1 q2 q3 q4 q5 T k4 k6 km ks b0 b1 c1 c2 f1 f2;go_wp2;exact dc (v:=.tuple #[.agg #[.int .i64 q,S.h2],.int .i64 (He.oz p q),.int .i64 0]) (by simp[results,results117,go_sem,d1,d2]) rfl ⟨rfl,(n.setCell (p:=⟨k,0,none⟩) (by simp only;omega) _).setCell (p:=⟨k,1,none⟩) (by simp only;omega) _⟩
def Ye{S:Sp}{i:Nat}{p:Po}(hi:i<S.ps.length)(hp:S.ps[i]=p){ph lf:Int}(h:He.oz p.ph ph=0):jl S i ph lf=jB S i ph lf:=by
 unfold jl QV;rw[cM hi,hp];simp only[h,gy]
def Yd{S:Sp}{i:Nat}{p:Po}(hi:i<S.ps.length)(hp:S.ps[i]=p){ph lf:Int}(h:He.oz p.ph ph≠0):jl S i ph lf=ft (jB S i ph lf):=by
 unfold jl QV;rw[cM hi,hp];simp only[cN h]
structure GO (S:Sp):Prop where
 pl:S.ps.length≤512
 pr:S.pre.length≤1000000
 s0:0≤S.x.s
 s1:S.x.s≤1073741824
 x1:(ke S.x S.md (jS S)).x.adj.length≤1000000
 x2:(ke S.x S.md (jS S)).x.pre.length≤1000000
def vz(w:World)(m:Sm)(S:Sp)(d:Nat→Nat)(c:Nat)(h:fe w m S d c)(r:lY S.db)(hv:∀a∈ku S.db,dS a)(gp:Nat)(hP:m.P=some ⟨gp,0,none⟩)(i:Nat)(hi:i<S.ps.length)(p:Po)(hp:S.ps[i]=p)(hl:0≤p.l∧p.l<256)(o:p.ph=2→(S.fl p.l.toNat).isSome=true)
  (ph lf:Int) (f:Nat) (cv av:Array Value) (q:Yw f cv av (.agg #[p.ph,p.lf])) (ho:GO (jB S i ph lf))
  (FC:∀W,cI w W→Calls prog f av W fun e w'=>e= .returned (.tuple #[.agg #[ph,lf],(He.oz p.ph ph),.int .i64 0])∧cI W w') :
  Calls prog 63 #[.pointer (some ⟨m.g,0,none⟩),.pointer (some ⟨gp,i*6,none⟩),.func (.func f) #[] cv] w (kJ w m d c (jl S i ph lf) (.tuple #[])):=by
 have FO:=φ (Al w m S d c h r hv gp hP i hi p hp hl o ph lf f cv av q FC);have h0:Hid (He.oz p.ph ph=0→jl S i ph lf=jB S i ph lf):=Ye hi hp;have h1:Hid (He.oz p.ph ph≠0→jl S i ph lf=ft (jB S i ph lf)):=Yd hi hp;generalize jB S i ph lf=S2 at *;generalize jl S i ph lf=S3 at *;generalize He.oz p.ph ph=ev at *;replace ho:=φ ho;clear FC h hv hP hp hl o q;go_in;go_wp2_with fail;refine FO.out.mono ?_;rintro e w1 ⟨rfl,k⟩;clear FO
 by_cases he:ev=0
 ·have e1:(ev !=0)=false:=by simp[he]
  have hf:kJ w m d c S3 (.tuple #[]) (.returned (.tuple #[])) w1:=by
   rw[h0.out he];exact⟨rfl,k⟩
  replace he:=φ he;clear k h0 h1;go_wp2;exact fO (v:=.tuple #[]) (by simp[results,results63,go_sem]) rfl hf
 ·have e1:(ev !=0)=true:=by simp[he]
  have e2:=h1.out he;obtain⟨m',b,eq,n,H,V⟩:=k;have OG:=j9 w1 m' S2 b c H ho.out.pl ho.out.pr ho.out.s0 ho.out.s1 ho.out.x1 ho.out.x2;rw[eq.1]at OG;have j:Hid (∀W,gX w1 m' b c (ft S2) (.tuple #[]) (.returned (.tuple #[])) W→kJ w m d c S3 (.tuple #[]) (.returned (.tuple #[])) W):=fun W h2=>by
   rw[e2];exact⟨rfl,m',b,eq,n,h2.2.1,kI V h2.2.2 n⟩
  replace OG:=φ OG;replace he:=φ he;clear e2 h0 h1 H V eq n;go_wp2_with fail;refine OG.out.mono ?_;rintro e w2 P2;obtain⟨rfl,P3⟩:=P2;have hf:=j.out w2 ⟨rfl,P3⟩;clear OG P3 j;go_wp2;exact fO (v:=.tuple #[]) (by simp[results,results63,go_sem]) rfl hf
end Go.Proofs.YtehimhbgakpenaaGreat
