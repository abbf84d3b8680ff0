/- Lemmas. -/
import Derived.Test.YtehimhbgakpenaaGreatab
set_option linter.all false
set_option maxRecDepth 100000
set_option maxHeartbeats 16000000
namespace Go.Proofs.YtehimhbgakpenaaGreat
open Go.RowKit Go.Maps Go.Sort
section
variable {w w':World} {m:Sm} {S:Sp} {col:Nat → Nat} {c:Nat}
def fe.UH(h:fe w m S col c){l:Nat}(hl:l<256){D D':Fd.Db}(hD:S.fl l=some D)(hg:w.grownBy w' (some (m.ff l)))(hf:Fd.fR w' m.gf m.bf S.h3 (Fd.eY S.fl l D') m.ff):fe w' m { S with fl:=Fd.eY S.fl l D' } col c∧Ev col c w w' :=
 h.D9 ((Fd.Kf.refl _ w).row hg (.inl ⟨l,hl,by rw [hD]; rfl,rfl⟩)) hf (fun j=>by
  unfold Fd.eY
  by_cases e:j=l
  ·rw[cR e,e,hD];rfl
  ·rw [cN e])
end
def Fe(w:World)(m:Sm)(S:Sp)(d:Nat→Nat)(c:Nat)(h:fe w m S d c)(l:Nat)(hl:l<256)(v:Value)(a:La)(hv:eU w v a)(f:(Lit.int .i64 a.o).wf=true) :
  Calls Tryz.prog 69 #[.pointer (some ⟨m.gf,0,none⟩),l,v] w fun e w'=>(∃b r,e= .returned (.tuple #[b,r]))∧fe w' m { S with fl:=pM S.fl l a } d c∧Ev d c w w':=by
 rcases hD:S.fl l with _|D
 ·have e1:pM S.fl l a=S.fl:=by unfold pM;rw[hD]
  rw[e1];refine(Fd.TH w m.gf m.bf S.h3 S.fl m.ff h.fl l (lW (by omega) (by omega)) (by rw[Fd.JJ hl];exact hD) v a hv).mono ?_;rintro e w' ⟨rfl,hb⟩;exact⟨⟨_,_,rfl⟩,h.below hb,gA.below hb⟩
 ·have e1:pM S.fl l a=Fd.eY S.fl l (Fd.pN D a):=by unfold pM;rw[hD]
  rw[e1];refine(Fd.PZ w m.gf m.bf S.h3 S.fl m.ff h.fl l hl D hD v a hv f).mono ?_;rintro e w' ⟨rfl,hf,hg⟩;exact⟨⟨_,_,rfl⟩,h.UH hl hD hg hf⟩
def Fb(w:World)(m:Sm)(S:Sp)(b:Nat→Nat)(c:Nat)(h:fe w m S b c)(l:Nat)(hl:l<256)(v:Value)(a:La)(hv:eU w v a) :
  Calls Tryz.prog 121 #[.pointer (some ⟨m.gf,0,none⟩),l,v] w fun e w'=>(∃r,e= .returned (.int .i64 r))∧fe w' m { S with fl:=rJ S.fl l a } b c∧Ev b c w w':=by
 rcases hD:S.fl l with _|D
 ·have e1:rJ S.fl l a=S.fl:=by unfold rJ;rw[hD]
  rw[e1];refine(Fd.LW w m.gf m.bf S.h3 S.fl m.ff h.fl l (lW (by omega) (by omega)) (by rw[Fd.JJ hl];exact hD) v a hv).mono ?_;rintro e w' ⟨rfl,hb⟩;exact⟨⟨_,rfl⟩,h.below hb,gA.below hb⟩
 ·by_cases hva:dS a
  ·have e1:rJ S.fl l a=Fd.eY S.fl l (Fd.mu D a):=by unfold rJ;rw[hD];simp only[nA hva,gy]
   rw[e1];refine(Fd.Iw w m.gf m.bf S.h3 S.fl m.ff h.fl l hl D hD v a hv hva).mono ?_;rintro e w' ⟨rfl,hf,hg⟩;exact⟨⟨_,rfl⟩,h.UH hl hD hg hf⟩
  ·have e1:rJ S.fl l a=S.fl:=by unfold rJ;rw[hD];simp only[uZ hva,GZ,Un]
   rw[e1];refine(Fd.Ix w m.gf m.bf S.h3 S.fl m.ff h.fl l hl D hD v a hv hva).mono ?_;rintro e w' ⟨rfl,hb⟩;exact⟨⟨_,rfl⟩,h.below hb,gA.below hb⟩
def AY.mk'{w:World}{m:Ms}{A:cG}{c:Nat}{B:cG}{d:Nat}(h:eU w (yE m.y A c B d) m.y):AY w (Ih m A c B d) m:=⟨A,c,B,d,rfl,h⟩
def um(w:World)(l:Int)(mm:Ms)(e:Ending)(w':World):Prop :=
 ∃A c,e= .returned (.agg #[l,.slice A (iy mm).length c])∧w'.ownsRow w 5 1 (.slice A (iy mm).length c) (iy mm).length ((iy mm).map iZ)∧cI w w'
def zL(w:World)(m:Sm)(S:Sp)(z:Nat→Nat)(c:Nat)(h:fe w m S z c)(l:Int)(v:Value)(mm:Ms)(hv:AY w v mm) :
  Calls Tryz.prog 68 #[.pointer (some ⟨m.g,0,none⟩),l,v] w (um w l { mm with b:=S.bo }):=by
 obtain⟨A,ca,B,d,rfl,r⟩:=hv;have S0:=((St.start w).nw #[mm.k,mm.n,mm.b,mm.h,mm.y.o,mm.y.s,mm.y.a,mm.y.ov,.slice A mm.y.adj.length ca,.slice B mm.y.pre.length d] 142 w).nw #[i0,sn] 148 (w.heap.size+1);have S1:=((St.start w).nw #[mm.k,mm.n,S.bo,mm.h,mm.y.o,mm.y.s,mm.y.a,mm.y.ov,.slice A mm.y.adj.length ca,.slice B mm.y.pre.length d] 142 w).nw #[i0,sn] 148 (w.heap.size+1);have k4:=cW S0.b h.cs.c4;have f2:=S0.f 1 2 rfl rfl;have C:m.g<w:=jo h.tg;have PK:=Ci _ (Ih { mm with b:=S.bo } A ca B d) { mm with b:=S.bo } (AY.mk' (r.below S1.b));unfold pH at PK;replace PK:=φ PK;clear h r;go_in;go_upto_region 1 with fail;have c0:=S0.c 1 0 rfl rfl;have c1:=S0.c 1 1 rfl rfl;have c2:=S0.c 1 2 rfl rfl;have c3:=S0.c 1 3 rfl rfl;have c4:=S0.c 1 4 rfl rfl;have c5:=S0.c 1 5 rfl rfl;have c6:=S0.c 1 6 rfl rfl;have c7:=S0.c 1 7 rfl rfl;have c8:=S0.c 1 8 rfl rfl;have c9:=S0.c 1 9 rfl rfl;go_upto_region 2 with fail;clear c0 c1 c2 c3 c4 c5 c6 c7 c8 c9 k4 f2 S0;generalize t:World.alloc (World.alloc _ _) _=w2 at *;clear t;have c0:=S1.c 1 0 rfl rfl;have c1:=S1.c 1 1 rfl rfl;have c2:=S1.c 1 2 rfl rfl;have c3:=S1.c 1 3 rfl rfl;have c4:=S1.c 1 4 rfl rfl;have c5:=S1.c 1 5 rfl rfl;have c6:=S1.c 1 6 rfl rfl;have c7:=S1.c 1 7 rfl rfl;have c8:=S1.c 1 8 rfl rfl;have c9:=S1.c 1 9 rfl rfl;go_wp2_with fail;refine PK.out.mono ?_;rintro e w3 ⟨A2,i,rfl,ho,hb⟩;have S3:=S1.call hb;have u:w.heap.size+1<w2:=(S1.box 0 rfl).lt (by simp);have p:=S1.b.size;generalize j:iy _=bs at *;replace j:=φ j;generalize FB _=pe at *;have q:((w3.setCell ⟨w.heap.size+1,0,none⟩ l).setCell ⟨w.heap.size+1,1,none⟩ (.slice A2 bs.length i)).ownsRow w 5 1 (.slice A2 bs.length i) bs.length (bs.map iZ):=dx (cV (a:=⟨w.heap.size+1,1,none⟩) (cV (a:=⟨w.heap.size+1,0,none⟩) ho (by simp only;omega) _) (by simp only;omega) _) p;clear PK ho S1 hb c0 c1 c2 c3 c4 c5 c6 c7 c8 c9 u p;have S4:=S3.YX 0 (.int .i64 l) (.slice A2 bs.length i) rfl (by simp) (by intro x hx;simp at hx;rcases hx with rfl;simp) _ rfl;have b4:=S4.b;have hf:um w l { mm with b:=S.bo } (.returned (.agg #[l,.slice A2 bs.length i])) ((w3.setCell ⟨w.heap.size+1,0,none⟩ l).setCell ⟨w.heap.size+1,1,none⟩ (.slice A2 bs.length i)):=by
  unfold um;rw[j.out];exact⟨A2,i,rfl,q,b4⟩
 have d0:=S3.c 0 0 rfl rfl;have d1:=S3.c 0 1 rfl rfl;have f0:=S3.f 0 0 rfl rfl;have f1:=S3.f 0 1 rfl rfl;have e0:=S4.c 0 0 rfl rfl;have e1:=S4.c 0 1 rfl rfl;clear q b4 S3 S4 j;go_wp2;exact dc (v:=.agg #[l,.slice A2 bs.length i]) (by simp[results,Tryz.results68,go_sem,e0,e1]) rfl hf
def gA.yS{E:Nat→Prop}{w w':World}{g:Nat}{cs:cH}{T:TypeId}(h:gA E w w')(hb:fq w g cs)(ht:Ty w g T)(hT:¬iU T):fq w' g cs:=fun i u hu=>by
 obtain⟨h1,h2⟩:=hb i u hu;have e:=h.typed ht hT;exact⟨(cY (a:=⟨g,i,none⟩) e).trans h1,(eC (a:=⟨g,i,none⟩) e).trans h2⟩
def jk(w:World)(cs:Array Value)(T:TypeId):Ty (w.alloc (.cells cs T)) w T:=⟨cs,_,Array.getElem?_push_size⟩
def yW:¬iU 41:=by unfold iU;decide
def yU:¬iU 142:=by unfold iU;decide
noncomputable def iT(S:Sp)(a:La):Sp:=if a.o=S.nd then { S with x:=(gI S.x S.md a).x,md:=(gI S.x S.md a).now }else S
def Io(x:La)(mk:Bool)(a:La):(gI x mk a).x.adj=x.adj∧(gI x mk a).x.pre=x.pre:=by
 unfold gI;split
 ·split
  ·split
   ·exact⟨rfl,rfl⟩
   ·split<;>exact⟨rfl,rfl⟩
  ·exact⟨rfl,rfl⟩
 ·exact⟨rfl,rfl⟩
def Jb(S:Sp)(l:Int)(a:La)(h:a.o=S.nd→(gI S.x S.md a).made=false∧(gI S.x S.md a).err=0):jz S l a=rR (iT S a) l a:=by
 unfold jz iT
 by_cases e:a.o=S.nd
 ·obtain⟨h1,h2⟩:=h e;rw[cR e,cR e,h1,h2];simp
 ·rw[cN e,cN e]
def zU(S:Sp)(l:Int)(a:La)(h:a.o=S.nd)(hm:(gI S.x S.md a).made=true):jz S l a=(nF (iT S a),false):=by
 unfold jz iT;rw[cR h,cR h,cR hm]
def CS(S:Sp)(l:Int)(a:La)(h:a.o=S.nd)(hm:(gI S.x S.md a).made=false)(he:(gI S.x S.md a).err≠0):jz S l a=(iT S a,false):=by
 unfold jz iT;rw[cR h,cR h,cN (by rw[hm];simp),cR he]
def qR{N:Db}(h:lY N){a:La}(ha:vB a=true→dS a):lY (instN N a):=fun i x e=>by
 unfold instN at e;split at e
 ·rename_i hc
  have hv:=ha hc.1;simp only at e;split at e
  ·rename_i hi
   injection e with e;subst e
   have:=hv.1;exact⟨hv,by simp only;omega,by simp,by simp⟩
  ·exact h i x e
 ·exact h i x e
def Jd{w:World}{k:Nat}{T:TypeId}(h:Ty w k T)(g:Nat)(u0 u1 u2 u3 u4 u5:Value):Ty ((((((w.setCell ⟨g,0,none⟩ u0).setCell ⟨g,1,none⟩ u1).setCell ⟨g,2,none⟩ u2).setCell ⟨g,3,none⟩ u3).setCell ⟨g,4,none⟩ u4).setCell ⟨g,5,none⟩ u5) k T :=
 (ee.set _ _ _) _ _ ((ee.set _ _ _) _ _ ((ee.set _ _ _) _ _ ((ee.set _ _ _) _ _ ((ee.set _ _ _) _ _ ((ee.set _ _ _) _ _ h)))))
def Tn{w:World}{base:Nat}{v:Value}{x:La}(h:fh w base v x){g:Nat}(hg:g<base)(u0 u1 u2 u3 u4 u5:Value):fh ((((((w.setCell ⟨g,0,none⟩ u0).setCell ⟨g,1,none⟩ u1).setCell ⟨g,2,none⟩ u2).setCell ⟨g,3,none⟩ u3).setCell ⟨g,4,none⟩ u4).setCell ⟨g,5,none⟩ u5) base v x:=by
 obtain⟨A,c,B,d,rfl,o1,o2,hu⟩:=h;exact⟨A,c,B,d,rfl,jW o1 hg u0 u1 u2 u3 u4 u5,jW o2 hg u0 u1 u2 u3 u4 u5,hu⟩
structure AN (w wx:World) (m:Sm) (S:Sp) (col:Nat→Nat) (c kb:Nat) (a:La) (A:cG) (ca:Nat) (B:cG) (d:Nat):Prop where
 sp:fe wx m S col c
 ev:Ev col c w wx
 la:Fd.sD wx a A ca B d
 bx:fq wx kb [a.o,a.s,a.a,a.ov,.slice A a.adj.length ca,.slice B a.pre.length d]
 ty:Ty wx kb 41
def AN.next{w wx w':World}{m:Sm}{S S':Sp}{b:Nat→Nat}{c kb:Nat}{a:La}{A:cG}{ca:Nat}{B:cG}{d:Nat}(u:AN w wx m S b c kb a A ca B d)(h:fe w' m S' b c)(v:Ev b c wx w'):AN w w' m S' b c kb a A ca B d :=
 ⟨h,u.ev.tr v,v.la u.la,v.yS u.bx u.ty yW,v.ty _ _ u.ty⟩
def AN.below{w wx w':World}{m:Sm}{S:Sp}{b:Nat→Nat}{c kb:Nat}{a:La}{A:cG}{ca:Nat}{B:cG}{d:Nat}(u:AN w wx m S b c kb a A ca B d)(hb:cI wx w'):AN w w' m S b c kb a A ca B d:=u.next (u.sp.below hb) (gA.below hb)
def AN.ub{w W:World}{m:Sm}{S:Sp}{b:Nat→Nat}{c kb:Nat}{a:La}{A:cG}{ca:Nat}{B:cG}{d:Nat}(u:AN w W m S b c kb a A ca B d) :
 W.cell? ⟨kb,0,none⟩=some (.int .i64 a.o)∧W.cell? ⟨kb,1,none⟩=some (.int .i64 a.s)∧W.cell? ⟨kb,2,none⟩=some (.int .i64 a.a)∧W.cell? ⟨kb,3,none⟩=some (.bool a.ov)∧W.cell? ⟨kb,4,none⟩=some (.slice A a.adj.length ca)∧W.cell? ⟨kb,5,none⟩=some (.slice B a.pre.length d)
 :=⟨u.bx.c 0 rfl,u.bx.c 1 rfl,u.bx.c 2 rfl,u.bx.c 3 rfl,u.bx.c 4 rfl,u.bx.c 5 rfl⟩
def fe.Aa{w:World}{m:Sm}{S:Sp}{b:Nat→Nat}{c gp:Nat}(h:fe w m S b c)(hP:m.P=some ⟨gp,0,none⟩){i:Nat}(hi:i<S.ps.length):w.cell? ⟨gp,i*6,none⟩=some (.int .i64 S.ps[i].l):=by
 obtain⟨g3,e3,a⟩:=h.gp (by omega);obtain rfl:g3=gp:=by rw[hP]at e3;injection e3 with e;injection e with e;exact e.symm
 exact(a i hi).c0
def Tx(S:Sp)(a:La):(iT S a).ps=S.ps:=by unfold iT;split<;>rfl
def Tz(S:Sp)(a:La):(iT S a).db=S.db:=by unfold iT;split<;>rfl
def HI(w:World)(m:Sm)(S:Sp)(j:Nat→Nat)(c:Nat)(h:fe w m S j c)(ah:lY S.db)(gp:Nat)(hP:m.P=some ⟨gp,0,none⟩)(i:Nat)(hi:i<S.ps.length)(p:Po)(hp:S.ps[i]=p)(hl:0≤p.l∧p.l<256)
  (a:La) (A:cG) (ca:Nat) (B:cG) (d:Nat) (hv:Fd.sD w a A ca B d) (D:dS a) (af:S.x.adj.length≤1000000) (ae:S.x.pre.length≤1000000) (av:0≤S.x.s) (au:S.x.s≤1073741824) :
  Calls Tryz.prog 67 #[pt m.g,.pointer (some ⟨gp,i*6,none⟩),yE a A ca B d] w (gX w m j c (jz S p.l a).1 (.bool (jz S p.l a).2)):=by
 obtain⟨ln,M⟩:=de hl.1;have L:ln<256:=by omega
 rw[M];replace M:Hid (S.ps[i].l=(ln:Int)):=by rw[hp];exact M
 replace hp:=φ hp;have S0:=(St.start w).nw #[a.o,a.s,a.a,a.ov,.slice A a.adj.length ca,.slice B a.pre.length d] 41 w;have h0:=h.below S0.b;have v0:Ev j c w _:=gA.below S0.b;have l0:=v0.la hv;have b0:=S0.box 0 rfl;have t0:=jk w #[a.o,a.s,a.a,a.ov,.slice A a.adj.length ca,.slice B a.pre.length d] 41;have k3:=cell_regrown h0.cs.c3;have c0:=cell_regrown (S0.c 0 0 rfl rfl);have c1:=cell_regrown (S0.c 0 1 rfl rfl);have c2:=cell_regrown (S0.c 0 2 rfl rfl);have c3:=cell_regrown (S0.c 0 3 rfl rfl);have c4:=cell_regrown (S0.c 0 4 rfl rfl);have c5:=cell_regrown (S0.c 0 5 rfl rfl);replace hv:=φ hv;clear S0 h;go_in;go_upto_region 1 with fail;generalize aq:World.alloc w _=w1 at *;clear aq;generalize ay:w.heap.size=kb at *;refine wp_region_quiet_below (by kernel_rfl) (by kernel_rfl) ?_
 repeat (go_big_quiet_step (fail))
 refine fI ?_;intro _ ar;obtain⟨⟨dq,X⟩,ag⟩:=ar;subst ag;have U2:AN w (Sort.grow (redrawn w1 dq) X) m S j c kb a A ca B d:=AN.below ⟨h0,v0,l0,b0,t0⟩ (below_regrown _ dq X);clear h0 v0 l0 b0 t0 k3 hv c0 c1 c2 c3 c4 c5;dsimp only;generalize Sort.grow (redrawn w1 dq) X=w2 at *;replace U2:=φ U2;go_upto_if 19 with fail;go_cut [] (fun wx=>AN w wx m (iT S a) j c kb a A ca B d∧Hid (a.o=S.nd→(gI S.x S.md a).made=false∧(gI S.x S.md a).err=0))
 case first=>
  by_cases ho:a.o=S.nd
  ·have e1:(a.o==S.nd)=true:=by simp[ho]
   have OH:=Ib w2.drew m.go _ S.x a S.md ((U2.out.below bd).sp.og) (U2.out.below bd).la.1 af ae av au;have U3:=U2.out.below bd;obtain⟨z1,z2⟩:=Io S.x S.md a;have ax:Hid ((gI S.x S.md a).made=true→jz S (ln:Int) a=(nF (iT S a),false)):=fun hm=>zU S ln a ho hm
   have aw:Hid ((gI S.x S.md a).made=false→(gI S.x S.md a).err≠0→jz S (ln:Int) a=(iT S a,false)):=fun hm he=>CS S ln a ho hm he
   have ab:Hid (iT S a= { S with x:=(gI S.x S.md a).x,md:=(gI S.x S.md a).now }):=cR ho;unfold yh IS at OH;generalize hr:gI S.x S.md a=r at *;replace hr:=φ hr;have ac:=U2.out.sp.cs.c14;have u0:=U2.out.ub;change Hid _ at ho z1 z2;replace OH:=φ OH;clear U2;go_upto_region 2 with fail;refine gF (S:=fun W=>Cv W m.g 14 (pt m.go) ∧
    Cv W kb 0 a.o∧Cv W kb 1 a.s∧Cv W kb 2 a.a∧Cv W kb 3 a.ov∧Cv W kb 4 (.slice A a.adj.length ca)∧Cv W kb 5 (.slice B a.pre.length d)
    ) ⟨ac,u0⟩ (fun f=>?_)
   (iterate 5 refine tA ?_);refine rF 5 (fun K hK=>?_);go_simp;refine OH.out.mono ?_;rintro e wa ⟨⟨rfl,al,O⟩,ak⟩;dsimp only;obtain⟨H4,V4⟩:=U3.sp.Ic O al ak;have U4:=U3.next H4 V4
   refine hK _ _ ⟨U4.sp.cs.c14,U4.ub⟩ (fun f=>?_);clear hK K ac u0 OH al O ak H4 V4 U3;rw[←ab.out]at U4;refine tV 6 20 (.tuple #[r.made,r.err]) ?_
   refine tV 7 27 (.bool r.made) ?_
   refine tV 8 28 (.int .i64 r.err) ?_
   refine tV 9 7 (.bool r.made) ?_
   refine tV 10 8 (.int .i64 r.err) ?_
   refine dF ?_;clear f;replace U4:=φ U4;rcases hm:r.made with _|_
   ·by_cases he:r.err=0
    ·have e2:(r.err !=0)=false:=by simp[he]
     have hq:Hid (a.o=S.nd→r.made=false∧r.err=0):=fun _=>⟨hm,he⟩
     change Hid _ at hm he;go_wp2;go_meet;exact⟨U4,hq⟩
    ·have e2:(r.err !=0)=true:=by simp[he]
     have hf:gX w m j c (jz S (ln:Int) a).1 (.bool (jz S (ln:Int) a).2) (.returned (.bool false)) wa:=by
      rw[aw.out hm he];exact⟨rfl,U4.out.sp,U4.out.ev⟩
     change Hid _ at hm he;go_wp2;go_ret;exact hf
   ·have PB:=sT wa m (iT S a) j c U4.out.sp (by rw[ab.out];simp only[z1.out];exact af) (by rw[ab.out];simp only[z2.out];exact ae);have U:Hid (∀W,gX wa m j c (nF (iT S a)) (.tuple #[]) (.returned (.tuple #[])) W→gX w m j c (jz S (ln:Int) a).1 (.bool (jz S (ln:Int) a).2) (.returned (.bool false)) W):=fun W h2=>by
     rw[ax.out hm];exact⟨rfl,h2.2.1,U4.out.ev.tr h2.2.2⟩
    replace PB:=φ PB;replace hm:=φ hm;go_wp2_with fail;refine PB.out.mono ?_;rintro e w9 P9;have hf:=U.out w9 ⟨by obtain⟨e,_⟩:=P9;rfl,P9.2⟩;obtain⟨rfl,-⟩:=P9;clear PB U;go_wp2;go_ret;exact hf
  ·have e1:(a.o==S.nd)=false:=by simp[ho]
   have e2:iT S a=S:=cN ho;have hq:Hid (a.o=S.nd→(gI S.x S.md a).made=false∧(gI S.x S.md a).err=0):=fun e=>absurd e ho
   change Hid _ at e2 ho;go_wp2;go_meet;rw[e2.out];exact⟨U2,hq⟩
 case rest=>
  clear U2;obtain⟨U2,ai⟩:=hcut;have y:=Jb S ln a ai;have Z:=Tx S a;have F:i< (iT S a).ps.length:=by rw[Z];exact hi
  have E:Hid ((iT S a).ps[i].l=(ln:Int)):=by simp only[Z];exact M
  have T:lY (iT S a).db:=by rw[Tz];exact ah
  clear ai hi M hp Z ah hl;generalize iT S a=S1 at *;have R:lY (instN S1.db a):=qR T fun _=>D
  have U3:=U2.below bd;have IN:=φ (wV wc.drew m.gd m.bd S1.db _ a U3.sp.db U3.la.1);have ad:=U2.sp.cs.c12;have u0:=U2.ub;replace y:=φ y;clear U2 T;go_upto_region 7 with fail;refine gF (S:=fun W=>Cv W m.g 12 (pt m.gd) ∧
   Cv W kb 0 a.o∧Cv W kb 1 a.s∧Cv W kb 2 a.a∧Cv W kb 3 a.ov∧Cv W kb 4 (.slice A a.adj.length ca)∧Cv W kb 5 (.slice B a.pre.length d)
   ) ⟨ad,u0⟩ (fun f=>?_)
  (iterate 5 refine tA ?_);refine rF 5 (fun K hK=>?_);go_simp;refine IN.out.mono ?_;rintro e wa ⟨rfl,am,O⟩;dsimp only;obtain⟨H4,V4⟩:=U3.sp.IF O am;have U4:=U3.next H4 V4
  refine hK _ _ ⟨U4.sp.cs.c12,U4.ub⟩ (fun f=>?_);clear hK K ad u0 IN am O H4 V4 U3;have J:Hid (instR S1.db a=1→rR S1 (ln:Int) a=({ S1 with db:=instN S1.db a,fl:=lX S1.fl a ln },true)):=fun e=>by unfold rR;rw[cR e]
  have I:Hid (instR S1.db a=2→rR S1 (ln:Int) a=({ S1 with db:=instN S1.db a,fl:=pM S1.fl ln a },true)):=fun e=>by unfold rR;rw[cN (by rw[e];decide),cR e];rfl
  have H:Hid (instR S1.db a≠1→instR S1.db a≠2→rR S1 (ln:Int) a=({ S1 with db:=instN S1.db a,fl:=rJ S1.fl ln (eX (jR (instN S1.db a) a.o)) },false)):=fun e e'=>by unfold rR;rw[cN e,cN e'];rfl
  generalize instR S1.db a=q at *;generalize instE a=er at *;refine tV 6 37 (.tuple #[q,er]) ?_
  refine tV 7 44 (.int .i64 q) ?_
  refine tV 8 45 (.int .i64 er) ?_
  refine tV 9 9 (.int .i64 q) ?_
  refine tV 10 10 (.int .i64 er) ?_
  refine dF ?_;clear f;have U5:=U4.below bd;have u:=U4.sp.cs.c13;have ap:=U4.sp.cs.c12;have u0:=U4.ub;have lc:=U4.sp.Aa hP F;rw[show({ S1 with db:=instN S1.db a }:Sp).ps[i].l=(ln:Int)from E.out]at lc;replace U4:=φ U4
  by_cases q1:q=1
  ·have e1:(q==1)=true:=by simp[q1]
   have SP:=φ (Dv wa.drew m _ j c U5.sp _ a U5.la.1 (ln:Int));have e2:=J.out q1;rw[e2]at y;change Hid _ at q1 e2;go_upto_region 13 with fail;refine gF (S:=fun W=>Cv W m.g 13 (pt m.gf) ∧ Cv W gp (i * 6) ln ∧
    Cv W kb 0 a.o∧Cv W kb 1 a.s∧Cv W kb 2 a.a∧Cv W kb 3 a.ov∧Cv W kb 4 (.slice A a.adj.length ca)∧Cv W kb 5 (.slice B a.pre.length d)
    ) ⟨u,lc,u0⟩ (fun f=>?_)
   (iterate 9 refine tA ?_);refine rF 9 (fun K hK=>?_);go_simp;refine SP.out.mono ?_;rintro e wb ⟨⟨rr,rfl⟩,H6,V6⟩;dsimp only;have U6:=U5.next H6 V6
   have C:=U6.sp.Aa hP F;rw[show({ S1 with db:=instN S1.db a,fl:=lX S1.fl a ln }:Sp).ps[i].l=(ln:Int)from E.out]at C;have hf:gX w m j c (jz S (ln:Int) a).1 (.bool (jz S (ln:Int) a).2) (.returned (.bool true)) wb:=by
    rw[y.out];exact⟨rfl,U6.sp,U6.ev⟩
   refine hK _ _ ⟨U6.sp.cs.c13,C,U6.ub⟩ (fun f=>?_);clear hK K f U6 H6 V6 C SP u lc u0 U5 J I H;refine dF ?_;go_wp2;go_ret;exact hf
  ·have e1:(q==1)=false:=by simp[q1]
   by_cases q2:q=2
   ·have e2:(q==2)=true:=by simp[q2]
    have SP:=φ (Fe wa.drew m _ j c U5.sp ln L _ a U5.la.1 (lW (by have:=D.1;omega) (by have:=D.1;omega)));have e3:=I.out q2;rw[e3]at y;change Hid _ at q1 q2 e3;go_upto_region 15 with fail;refine gF (S:=fun W=>Cv W m.g 13 (pt m.gf) ∧ Cv W gp (i * 6) ln ∧
     Cv W kb 0 a.o∧Cv W kb 1 a.s∧Cv W kb 2 a.a∧Cv W kb 3 a.ov∧Cv W kb 4 (.slice A a.adj.length ca)∧Cv W kb 5 (.slice B a.pre.length d)
     ) ⟨u,lc,u0⟩ (fun f=>?_)
    (iterate 9 refine tA ?_);refine rF 9 (fun K hK=>?_);go_simp;refine SP.out.mono ?_;rintro e wb ⟨⟨bb,rr,rfl⟩,H6,V6⟩;dsimp only;have U6:=U5.next H6 V6
    have C:=U6.sp.Aa hP F;rw[show({ S1 with db:=instN S1.db a,fl:=pM S1.fl ln a }:Sp).ps[i].l=(ln:Int)from E.out]at C;have hf:gX w m j c (jz S (ln:Int) a).1 (.bool (jz S (ln:Int) a).2) (.returned (.bool true)) wb:=by
     rw[y.out];exact⟨rfl,U6.sp,U6.ev⟩
    refine hK _ _ ⟨U6.sp.cs.c13,C,U6.ub⟩ (fun f=>?_);clear hK K f U6 H6 V6 C SP u lc u0 U5 J I H;refine dF ?_;go_wp2;go_ret;exact hf
   ·have e2:(q==2)=false:=by simp[q2]
    have e3:=H.out q1 q2;rw[e3]at y;have GT:=φ (Ay wa.drew m.gd m.bd _ a.o (lW (by have:=D.1;omega) (by have:=D.1;omega)) U5.sp.db R.X5);unfold xr at GT;obtain⟨hd,N⟩:=ex (jR (instN S1.db a) a.o)
    rw[N]at GT;rw[N]at y;change Hid _ at q1 q2 N;clear J I H;replace e3:=φ e3;go_upto_region 9 with fail;refine gF (S:=fun W=>Cv W m.g 12 (pt m.gd)∧Cv W kb 0 a.o) ⟨ap,u0.1⟩ (fun f=>?_);(iterate 6 refine tA ?_);refine wpAnyH_ready (rs:=[6,10]) (by kernel_rfl) (by simp) ?_;refine AllReadyH.cons rfl (fun K hK=>?_) (AllReadyH.cons rfl (fun K hK=>?_) AllReadyH.nil)
    ·go_simp;refine GT.out.mono ?_;rintro e wb ⟨v,rfl,z,hb⟩;dsimp only;obtain⟨A2,c2,B2,d2,Y⟩:=z.at.form;subst Y;have U6:=U5.below hb;refine hK _ _ ⟨U6.sp.cs.c12,U6.ub.1⟩ (fun f=>?_);clear hK K;refine tV 7 47 (.tuple #[yE (eX hd) A2 c2 B2 d2,hd.isSome]) ?_
     refine tV 8 55 (yE (eX hd) A2 c2 B2 d2) ?_
     refine tV 9 56 (.bool hd.isSome) ?_
     refine rF 10 (fun K hK=>?_);have b7:=cQ wb (.cells #[i0,i0,i0,false,sn,sn] 41);have S7:=((St.start wb).nw #[i0,i0,i0,false,sn,sn] 41 wb)
     have U7:=U6.below b7;have aa:wb.heap.size≤wb.heap.size:=cj;go_simp;refine hK _ _ ⟨U7.sp.cs.c12,U7.ub.1⟩ (fun f=>?_);clear hK K;have S8:=S7.wg (eX hd).o (eX hd).s (eX hd).a (eX hd).ov (.slice A2 (eX hd).adj.length c2) (.slice B2 (eX hd).pre.length d2) aa (by simp);have L8:=(z.below S8.b).at;have U8:=U6.below S8.b;have T8:Hid (Ty _ wb 41):=Jd (jk wb #[i0,i0,i0,false,sn,sn] 41) wb (.int .i64 (eX hd).o) (.int .i64 (eX hd).s) (.int .i64 (eX hd).a) (.bool (eX hd).ov) (.slice A2 (eX hd).adj.length c2) (.slice B2 (eX hd).pre.length d2);generalize World.alloc wb _=w7 at *;generalize wb.heap.size=k at *;obtain⟨e0,e1,e2,e3,e4,e5⟩:=(S7.box 0 rfl).b6;obtain⟨f0,f1,f2,f3,f4,f5⟩:=(S7.box 0 rfl).f6;refine rF 11 (fun K hK=>?_);go_simp;refine hK _ _ ⟨U8.sp.cs.c12,U8.ub.1⟩ (fun f=>?_);clear hK K e0 f0;refine tV 12 12 (.bool hd.isSome) ?_
     refine dF ?_;clear f S7 U7;generalize World.setCell _ _ _=w8 at *;have U9:=U8.below bd;have L9:=L8.below bd;have u:=U8.sp.cs.c13;have lc:=U8.sp.Aa hP F;rw[show({ S1 with db:=instN S1.db a }:Sp).ps[i].l=(ln:Int)from E.out]at lc;have SO:=φ (Fb w8.drew m _ j c U9.sp ln L _ _ L9);have e9:=S8.box 0 rfl;have f9:(∀W,fq W k [.int .i64 (eX hd).o,.int .i64 (eX hd).s,.int .i64 (eX hd).a,.bool (eX hd).ov,.slice A2 (eX hd).adj.length c2,.slice B2 (eX hd).pre.length d2]→Cv W k 0 (.int .i64 (eX hd).o)∧Cv W k 1 (.int .i64 (eX hd).s)∧Cv W k 2 (.int .i64 (eX hd).a)∧Cv W k 3 (.bool (eX hd).ov)∧Cv W k 4 (.slice A2 (eX hd).adj.length c2)∧Cv W k 5 (.slice B2 (eX hd).pre.length d2)):=fun W h=>⟨h.c 0 rfl,h.c 1 rfl,h.c 2 rfl,h.c 3 rfl,h.c 4 rfl,h.c 5 rfl⟩
     have g9:=f9 _ e9;clear S8 U8 L8 L9;go_upto_region 10 with fail;refine gF (S:=fun W=>Cv W m.g 13 (pt m.gf)∧Cv W gp (i*6) ln∧Cv W k 0 (.int .i64 (eX hd).o)∧Cv W k 1 (.int .i64 (eX hd).s)∧Cv W k 2 (.int .i64 (eX hd).a)∧Cv W k 3 (.bool (eX hd).ov)∧Cv W k 4 (.slice A2 (eX hd).adj.length c2)∧Cv W k 5 (.slice B2 (eX hd).pre.length d2)) ⟨u,lc,g9⟩ (fun f=>?_);(iterate 9 refine tA ?_);refine rF 9 (fun K hK=>?_);go_simp;refine SO.out.mono ?_;rintro e V ⟨⟨rr,rfl⟩,Q,G⟩;dsimp only;have t:=U9.next Q G
     have n:=t.sp.Aa hP F;rw[show({ S1 with db:=instN S1.db a,fl:=rJ S1.fl ln (eX hd) }:Sp).ps[i].l=(ln:Int)from E.out]at n;have hf:gX w m j c (jz S (ln:Int) a).1 (.bool (jz S (ln:Int) a).2) (.returned (.bool false)) V:=by
      rw[y.out];exact⟨rfl,t.sp,t.ev⟩
     refine hK _ _ ⟨t.sp.cs.c13,n,f9 _ (G.yS (e9.drew) T8 yW)⟩ (fun f=>?_);clear hK K f t Q G n SO u lc e9 f9 g9 T8;refine dF ?_;go_wp2;go_ret;exact hf
    ·have b7:=cQ wa.drew (.cells #[i0,i0,i0,false,sn,sn] 41);have S6:=((St.start wa.drew).nw #[i0,i0,i0,false,sn,sn] 41 wa)
     have U6:=U5.below b7;have T6:=jk wa.drew #[i0,i0,i0,false,sn,sn] 41;have e6:World.alloc wa.drew (.cells #[i0,i0,i0,false,sn,sn] 41)=(World.alloc wa (.cells #[i0,i0,i0,false,sn,sn] 41)).drew:=rfl;rw[e6]at b7 S6 U6 T6;clear GT e6;have GT:=φ (Ay _ m.gd m.bd _ a.o (lW (by have:=D.1;omega) (by have:=D.1;omega)) U6.sp.db R.X5);unfold xr at GT;rw[N.out]at GT;go_simp;refine hK _ _ ⟨U6.sp.cs.c12,U6.ub.1⟩ (fun f=>?_);clear hK K;have aj:wa< (World.alloc wa (.cells #[i0,i0,i0,false,sn,sn] 41)).drew.heap.size:=(S6.box 0 rfl).lt (by simp);have ao:Ty _ wa 41:=T6;clear T6;generalize World.drew (World.alloc wa _)=w6 at *;refine rF 6 (fun K hK=>?_);go_simp;refine GT.out.mono ?_;rintro e w7 ⟨v,rfl,z,hb⟩;dsimp only;obtain⟨A2,c2,B2,d2,Y⟩:=z.at.form;subst Y;have U7:=U6.below hb;have S7:=S6.call hb;have T7:=ee.below hb _ _ ao;refine hK _ _ ⟨U7.sp.cs.c12,U7.ub.1⟩ (fun f=>?_);clear hK K;refine tV 7 47 (.tuple #[yE (eX hd) A2 c2 B2 d2,hd.isSome]) ?_
     refine tV 8 55 (yE (eX hd) A2 c2 B2 d2) ?_
     refine tV 9 56 (.bool hd.isSome) ?_
     have aa:wa.drew.heap.size≤wa.heap.size:=cj;have S8:=S7.wg (eX hd).o (eX hd).s (eX hd).a (eX hd).ov (.slice A2 (eX hd).adj.length c2) (.slice B2 (eX hd).pre.length d2) aa (by simp);have L8:=(Tn z aj (.int .i64 (eX hd).o) (.int .i64 (eX hd).s) (.int .i64 (eX hd).a) (.bool (eX hd).ov) (.slice A2 (eX hd).adj.length c2) (.slice B2 (eX hd).pre.length d2)).at;have U8:=U5.below S8.b;have T8:Hid (Ty _ wa 41):=Jd T7 wa (.int .i64 (eX hd).o) (.int .i64 (eX hd).s) (.int .i64 (eX hd).a) (.bool (eX hd).ov) (.slice A2 (eX hd).adj.length c2) (.slice B2 (eX hd).pre.length d2);clear aj ao S6 U6 T7 z hb b7 GT;generalize hk:wa.heap.size=k at *;have e0:=(S7.box 0 rfl).b6;have f0:=(S7.box 0 rfl).f6;refine rF 11 (fun K hK=>?_);go_simp;refine hK _ _ ⟨U8.sp.cs.c12,U8.ub.1⟩ (fun f=>?_);clear hK K e0 f0;refine tV 12 12 (.bool hd.isSome) ?_
     refine dF ?_;clear f S7 U7;generalize World.setCell _ _ _=w8 at *;have U9:=U8.below bd;have L9:=L8.below bd;have u:=U8.sp.cs.c13;have lc:=U8.sp.Aa hP F;rw[show({ S1 with db:=instN S1.db a }:Sp).ps[i].l=(ln:Int)from E.out]at lc;have SO:=φ (Fb w8.drew m _ j c U9.sp ln L _ _ L9);have e9:=S8.box 0 rfl;have f9:(∀W,fq W k [.int .i64 (eX hd).o,.int .i64 (eX hd).s,.int .i64 (eX hd).a,.bool (eX hd).ov,.slice A2 (eX hd).adj.length c2,.slice B2 (eX hd).pre.length d2]→Cv W k 0 (.int .i64 (eX hd).o)∧Cv W k 1 (.int .i64 (eX hd).s)∧Cv W k 2 (.int .i64 (eX hd).a)∧Cv W k 3 (.bool (eX hd).ov)∧Cv W k 4 (.slice A2 (eX hd).adj.length c2)∧Cv W k 5 (.slice B2 (eX hd).pre.length d2)):=fun W h=>⟨h.c 0 rfl,h.c 1 rfl,h.c 2 rfl,h.c 3 rfl,h.c 4 rfl,h.c 5 rfl⟩
     have g9:=f9 _ e9;clear S8 U8 L8 L9;go_upto_region 10 with fail;refine gF (S:=fun W=>Cv W m.g 13 (pt m.gf)∧Cv W gp (i*6) ln∧Cv W k 0 (.int .i64 (eX hd).o)∧Cv W k 1 (.int .i64 (eX hd).s)∧Cv W k 2 (.int .i64 (eX hd).a)∧Cv W k 3 (.bool (eX hd).ov)∧Cv W k 4 (.slice A2 (eX hd).adj.length c2)∧Cv W k 5 (.slice B2 (eX hd).pre.length d2)) ⟨u,lc,g9⟩ (fun f=>?_);(iterate 9 refine tA ?_);refine rF 9 (fun K hK=>?_);go_simp;refine SO.out.mono ?_;rintro e V ⟨⟨rr,rfl⟩,Q,G⟩;dsimp only;have t:=U9.next Q G
     have n:=t.sp.Aa hP F;rw[show({ S1 with db:=instN S1.db a,fl:=rJ S1.fl ln (eX hd) }:Sp).ps[i].l=(ln:Int)from E.out]at n;have hf:gX w m j c (jz S (ln:Int) a).1 (.bool (jz S (ln:Int) a).2) (.returned (.bool false)) V:=by
      rw[y.out];exact⟨rfl,t.sp,t.ev⟩
     refine hK _ _ ⟨t.sp.cs.c13,n,f9 _ (G.yS (e9.drew) T8 yW)⟩ (fun f=>?_);clear hK K f t Q G n SO u lc e9 f9 g9 T8;refine dF ?_;go_wp2;go_ret;exact hf
end Go.Proofs.YtehimhbgakpenaaGreat
