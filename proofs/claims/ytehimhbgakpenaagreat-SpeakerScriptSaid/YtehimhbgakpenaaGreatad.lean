/- Lemmas. -/
import Derived.Test.YtehimhbgakpenaaGreatac
import Derived.Test.YtehimhbgakpenaaGreatR
set_option linter.all false
set_option maxRecDepth 100000
set_option maxHeartbeats 16000000
namespace Go.Proofs.YtehimhbgakpenaaGreat
open Go.RowKit Go.Maps Go.Sort Go.Proofs.Tryz
structure Um (S:Sp) (i:Nat) (ph lf:Int):Prop where
 db:lY S.db
 va:∀a∈ku S.db,dS a
 hi:i<S.ps.length
 l:0≤S.ps[i].l∧S.ps[i].l<256
 up:S.ps[i].ph=2→(S.fl S.ps[i].l.toNat).isSome=true
 st:He.vQ S.ps[i].ph S.ps[i].lf=true
 og:GO (jB S i ph lf)
noncomputable def qM(S:Sp)(i:Nat)(p:Po)(b:Int):Sp:=if p.ph≠0∧p.bt≠b then jl S i 0 0 else S
def D3{S:Sp}{i:Nat}{p:Po}(hi:i<S.ps.length)(hp:S.ps[i]=p)(b h:Int):Ai S i b h=jl (qj (qM S i p b) i b) i (if h=S.bo then 2 else 1) S.h2:=by
 unfold Ai qM;rw[cM hi,hp]
def pZ{S:Sp}{i:Nat}(hi:i<S.ps.length)(b:Int):qj S i b= { S with ps:=S.ps.set i ⟨S.ps[i].l,S.ps[i].o,S.ps[i].c,S.ps[i].ph,S.ps[i].lf,b⟩ }:=by
 unfold qj;rw[cM hi]
def wZ(S:Sp)(i:Nat)(b:Int):(qj S i b).ps.length=S.ps.length:=by
 unfold qj;split
 ·rfl
 ·simp
def wQ(S:Sp)(i:Nat)(ph lf:Int):(jB S i ph lf).bo=S.bo∧(jB S i ph lf).h2=S.h2:=by
 unfold jB;split<;>exact⟨rfl,rfl⟩
def xH(S:Sp):(ft S).bo=S.bo∧(ft S).h2=S.h2:=by
 unfold ft nF;split<;>exact⟨rfl,rfl⟩
def PI(S:Sp)(i:Nat)(p:Po)(b:Int):(qM S i p b).bo=S.bo∧(qM S i p b).h2=S.h2:=by
 unfold qM jl;split
 ·split
  ·exact wQ _ _ _ _
  ·exact⟨(xH _).1.trans (wQ _ _ _ _).1,(xH _).2.trans (wQ _ _ _ _).2⟩
 ·exact⟨rfl,rfl⟩
def Ji:¬iU 31:=by unfold iU;decide
structure IU (w wx:World) (m:Sm) (S:Sp) (col:Nat→Nat) (c:Nat) (kp kb:Nat) (bs:cH):Prop where
 sp:gT w m col c S wx
 b1:fq wx kp [.pointer (some ⟨m.g,0,none⟩)]
 t1:Ty wx kp 31
 b2:fq wx kb bs
 t2:Ty wx kb 142
def IU.next{w wx w':World}{m m1:Sm}{S S':Sp}{a b:Nat→Nat}{c kp kb:Nat}{bs:cH}(u:IU w wx m S a c kp kb bs)(v1:Ev a c w wx)(e1:WO m m1)(d:∀k,k<w.heap.size→b k=a k)(h:gT wx m1 b c S' w'):IU w w' m S' a c kp kb bs:=by
 have hs:=gT.next v1 e1 d h
 obtain⟨m',f,e,hc,h1,h2⟩:=h;exact⟨hs,h2.yS u.b1 u.t1 Ji,h2.ty _ _ u.t1,h2.yS u.b2 u.t2 yU,h2.ty _ _ u.t2⟩
def fe.XJ{w:World}{m:Sm}{S:Sp}{b:Nat→Nat}{c gp:Nat}(h:fe w m S b c)(hP:m.P=some ⟨gp,0,none⟩){i:Nat}(hi:i<S.ps.length):ZJ w gp (i*6) S.ps[i]:=by
 obtain⟨g3,e3,a⟩:=h.gp (by omega);obtain rfl:g3=gp:=by rw[hP]at e3;injection e3 with e;injection e with e;exact e.symm
 exact a i hi
def HJ(w:World)(m:Sm)(S:Sp)(f:Nat→Nat)(c:Nat)(h:fe w m S f c)(gp:Nat)(hP:m.P=some ⟨gp,0,none⟩)(i:Nat)(mm:Ms)(A:cG)(ca:Nat)(B:cG)(d:Nat)
  (h2:1≤S.h2∧S.h2≤65536) (G0:Um S i 0 0) (p:Po) (hp:S.ps[i]'G0.hi=p) (G1:Um (qj (qM S i p mm.b) i mm.b) i (if mm.h=S.bo then 2 else 1) S.h2) :
  Calls prog 66 #[.pointer (some ⟨m.g,0,none⟩),.pointer (some ⟨gp,i*6,none⟩),Ih mm A ca B d] w (kJ w m f c (Ai S i mm.b mm.h) (.tuple #[])):=by
 have hi:=G0.hi;rw[D3 hi hp];generalize I:jl (qj (qM S i p mm.b) i mm.b) i (if mm.h=S.bo then 2 else 1) S.h2=S9;replace I:=φ I;have S0:=((St.start w).nw #[pt m.g] 31 w).nw #[mm.k,mm.n,mm.b,mm.h,mm.y.o,mm.y.s,mm.y.a,mm.y.ov,.slice A mm.y.adj.length ca,.slice B mm.y.pre.length d] 142 (w.heap.size+1);have h0:=h.below S0.b;have v0:Ev f c w _:=gA.below S0.b;have z:=h0.XJ hP hi;rw[hp]at z;have p3:=cell_regrown z.c3;have p5:=cell_regrown z.c5;have q2:=cell_regrown (S0.c 0 2 rfl rfl);have tk:=jk w #[pt m.g] 31;have tb:=jk (w.alloc (.cells #[pt m.g] 31)) #[mm.k,mm.n,mm.b,mm.h,mm.y.o,mm.y.s,mm.y.a,mm.y.ov,.slice A mm.y.adj.length ca,.slice B mm.y.pre.length d] 142;have J:=ee.below (cQ (w.alloc (.cells #[pt m.g] 31)) (.cells #[mm.k,mm.n,mm.b,mm.h,mm.y.o,mm.y.s,mm.y.a,mm.y.ov,.slice A mm.y.adj.length ca,.slice B mm.y.pre.length d] 142)) _ _ tk;have u0:IU w _ m S f c w (w.heap.size+1) _:=⟨gT.of h0 v0,S0.box 1 rfl,J,S0.box 0 rfl,by simpa using tb⟩
 change Hid _ at h0 v0 u0;clear h z tk tb J S0;change Hid _ at G0 G1;have X:=φ hp;clear hp;go_in;go_upto_region 1 with fail;generalize World.alloc (World.alloc w _) _=w1 at *;go_cut [20] (fun v20 wx=>v20= .bool (p.ph !=0&&p.bt !=mm.b)∧cI w1 wx)
 case first=>
  rcases dH (p.ph !=0)with e1|e1
  all_goals
   refine wp_region_quiet_below (by kernel_rfl) (by kernel_rfl) ?_
   repeat (go_big_quiet_step (fail))
   refine fI ?_;intro _ T;obtain⟨⟨dq,K⟩,L⟩:=T;subst L;have j:=below_regrown w1 dq K;dsimp only;generalize Sort.grow (redrawn w1 dq) K=wq at j ⊢;go_wp2;go_meet;exact⟨by simp[e1],j⟩
 case rest=>
  obtain⟨rfl,hb⟩:=hcut;have u:=h0.out.below hb;have v2:=v0.out.tr (gA.below (E:=fun k=>f k=c) hb);have u2:IU w wc m S f c w (w.heap.size+1) _:=⟨gT.of u v2,u0.out.b1.later hb,ee.below hb _ _ u0.out.t1,u0.out.b2.later hb,ee.below hb _ _ u0.out.t2⟩
  change Hid _ at u v2;have kk:=u2.b1.c 0 rfl;replace u2:=φ u2;clear p3 p5 q2 h0 v0 u0 hb;generalize j:(p.ph !=0&&p.bt !=mm.b)=bq;replace j:=φ j;go_upto_if 20 with fail;go_cut [] (fun wx=>IU w wx m (qM S i p mm.b) f c w (w.heap.size+1) [mm.k,mm.n,mm.b,mm.h,mm.y.o,mm.y.s,mm.y.a,mm.y.ov,.slice A mm.y.adj.length ca,.slice B mm.y.pre.length d])
  case first=>
   rcases dH bq with rfl|rfl
   ·have e2:qM S i p mm.b=jl S i 0 0:=by unfold qM;rw[cR (by simpa using j.out)]
    have g0:=G0.out;have r:=X.out;have CH:=φ (vz wc m S f c u g0.db g0.va gp hP i hi p r (by rw[←r];exact g0.l) (by rw[←r];exact g0.up) 0 0 _ _ _ (.inl ⟨rfl,rfl,rfl⟩) g0.og (fun W _=>He.Ea p.ph p.lf W (by rw[←r];exact g0.st)));replace e2:=φ e2;clear g0 r;go_wp2_with fail;refine CH.out.mono ?_;rintro e wd ⟨rfl,q⟩;have hf:IU w wd m (qM S i p mm.b) f c w (w.heap.size+1) [mm.k,mm.n,mm.b,mm.h,mm.y.o,mm.y.s,mm.y.a,mm.y.ov,.slice A mm.y.adj.length ca,.slice B mm.y.pre.length d]:=by
     rw[e2.out];exact u2.out.next v2 ⟨rfl,rfl,rfl,rfl,rfl⟩ (fun _ _=>rfl) q
    clear CH q;go_wp2;go_meet;exact hf
   ·have e2:Hid (qM S i p mm.b=S):=by unfold qM;exact cN (by simpa using j.out)
    go_wp2;go_meet;rw[e2.out];exact u2
  case rest=>
   clear u2 u v2 kk j;obtain⟨q,b1,t1,b2,t2⟩:=hcut;have G:=PI S i p mm.b;generalize qM S i p mm.b=S1 at *;obtain⟨m1,x,eq,N,H,V⟩:=q;have g1:=G1.out;have t:i<S1.ps.length:=by have:=g1.hi;rw[wZ]at this;exact this
   have C:m1.P=some ⟨gp,0,none⟩:=eq.2.1.trans hP;obtain⟨H5,V5⟩:=H.port C t 5 (by omega) (.int .i64 mm.b) ⟨S1.ps[i].l,S1.ps[i].o,S1.ps[i].c,S1.ps[i].ph,S1.ps[i].lf,mm.b⟩ rfl;rw[←pZ t]at H5;have f5:=H.free C (i*6+5);have c5:=(H.XJ C t).c5;have q2:=b2.c 2 rfl;have R:=V5.yS b1 t1 Ji;have Q:=V5.yS b2 t2 yU;have kk:=R.c 0 rfl;have km:=Q.c 3 rfl;have O:(qj S1 i mm.b).bo=S.bo:=by rw[pZ t];exact G.1
   have F:(qj S1 i mm.b).h2=S.h2:=by rw[pZ t];exact G.2
   generalize qj S1 i mm.b=S5 at *;have RC:=fun W (hb:Below (wc.setCell ⟨gp,i*6+5,none⟩ mm.b).heap.size (wc.setCell ⟨gp,i*6+5,none⟩ mm.b) W)=>Oj W m1 S5 x c (H5.below hb) (S5.ps[i]'g1.hi).ph (S5.ps[i]'g1.hi).lf g1.st (by rw[F];exact h2) (w.heap.size+1) w mm.h (cW hb km) (by rw[eq.1];exact cW hb kk)
   have M:(if (mm.h==S.bo)=true then(2:Int)else 1)=if mm.h=S.bo then 2 else 1:=by simp only[ji]
   rw[O,F,M]at RC;have CH:=vz _ m1 S5 x c H5 g1.db g1.va gp C i g1.hi _ rfl g1.l g1.up _ _ _ _ _ (.inr (.inr ⟨w.heap.size+1,w.heap.size,rfl,rfl,rfl⟩)) g1.og RC;rw[I.out,eq.1]at CH;have V6:=kI V V5 N;have U:=V.size;replace CH:=φ CH;have D:Hid (∀W,gT (wc.setCell ⟨gp,i*6+5,none⟩ mm.b) m1 x c S9 W→kJ w m f c S9 (.tuple #[]) (.returned (.tuple #[])) W):=fun W h=>⟨rfl,gT.next V6 eq N h⟩
   clear RC M O F g1 H5 V5 R Q km V6 U H V t1 t2 b1 b2 G;go_wp2_with fail;refine CH.out.mono ?_;rintro e w9 ⟨rfl,q⟩;have hf:=D.out w9 q;clear CH q D;go_wp2;exact fO (v:=.tuple #[]) (by simp[results,results66,go_sem]) rfl hf
def Kn(S:Sp)(l:Int):Bool:=match jZ S.ps l with|none=>false|some i=>QV S i==2
noncomputable def BR(S:Sp)(l:Int):Sp× Int:=match jZ S.ps l with|none=>(S,2)|some i=>(jl S i 0 0,0)
def Ap{ps:List Po}{l:Int}{i:Nat}(h:jZ ps l=some i):i<ps.length:=by
 unfold jZ at h;rw[jV]at h;exact h.1
def qw(w:World)(m:Sm)(S:Sp)(d:Nat→Nat)(c:Nat)(h:fe w m S d c)(hl:S.ps.length≤100000)(l:Int) :
  Calls prog 17 #[.pointer (some ⟨m.g,0,none⟩),l] w fun e w'=>e= .returned (.bool (Kn S l))∧w=w':=by
 have P:=wA w m S d c h hl l;unfold pG at P;rcases hf:jZ S.ps l with _|i
 ·rw[hf]at P;have hu:Hid (Kn S l=false):=by unfold Kn;rw[hf];rfl
  replace P:=φ P;clear h hf;go_in;go_wp2_with fail;refine P.out.mono ?_;rintro e w1 ⟨rfl,rfl⟩;clear P;go_wp2;go_ret;rw[hu.out];exact⟨rfl,rfl⟩
 ·rw[hf]at P;have hi:=Ap hf;have b:Kn S l=(S.ps[i].ph==2):=by unfold Kn QV;rw[hf];simp only[cM hi]
  have hu:=φ b;clear b;obtain⟨p,hp⟩:=ex (S.ps[i])
  have a:=fun gp (e:m.P=some ⟨gp,0,none⟩)=>(h.XJ e hi).c3
  rw[hp]at hu;simp only[hp]at a;replace a:=φ a;replace P:=φ P;clear h hf hp;go_in;go_wp2_with fail;refine P.out.mono ?_;rintro e w1 ⟨rfl,gp,hP,rfl⟩;have c3:=a.out gp hP;clear P a;go_wp2;go_ret;rw[hu.out];exact⟨rfl,rfl⟩
def Hs(w:World)(m:Sm)(S:Sp)(b:Nat→Nat)(c:Nat)(h:fe w m S b c)(hl:S.ps.length≤100000)(l:Int)(G:∀i,jZ S.ps l=some i→Um S i 0 0) :
  Calls prog 22 #[.pointer (some ⟨m.g,0,none⟩),l] w (kJ w m b c (BR S l).1 (.int .i64 (BR S l).2)):=by
 have P:=wA w m S b c h hl l;unfold pG at P;rcases hf:jZ S.ps l with _|i
 ·rw[hf]at P;have hu:BR S l=(S,2):=by unfold BR;rw[hf]
  rw[hu];have a:kJ w m b c S (.int .i64 2) (.returned (.int .i64 2)) w:=⟨rfl,gT.of h (gA.refl _ _)⟩
  replace P:=φ P;replace a:=φ a;clear h hf hu G;go_in;go_wp2_with fail;refine P.out.mono ?_;rintro e w1 ⟨rfl,rfl⟩;clear P;go_wp2;go_ret;exact a
 ·rw[hf]at P;have hu:BR S l=(jl S i 0 0,0):=by unfold BR;rw[hf]
  rw[hu];have g0:=G i hf;have CH:=φ (fun gp (e:m.P=some ⟨gp,0,none⟩)=>vz w m S b c h g0.db g0.va gp e i g0.hi _ rfl g0.l g0.up 0 0 _ _ _ (.inl ⟨rfl,rfl,rfl⟩) g0.og (fun W _=>He.Ea _ _ W g0.st));replace P:=φ P;clear h hf hu G g0;go_in;go_wp2_with fail;refine P.out.mono ?_;rintro e w1 ⟨rfl,gp,hP,rfl⟩;have f:=φ (CH gp hP);clear P CH;go_wp2_with fail;refine f.out.mono ?_;rintro e w2 ⟨rfl,d⟩;have a:kJ w m b c (jl S i 0 0) i0 (.returned i0) w2:=⟨rfl,d⟩
  clear f d;go_wp2;go_ret;exact a
def Hr(w:World)(m:Sm)(S:Sp)(a:Nat→Nat)(c:Nat)(h:fe w m S a c)(b:Bool)(G:GO { S with ov:=b }) :
  Calls prog 47 #[.pointer (some ⟨m.g,0,none⟩),b] w (gX w m a c (ft { S with ov:=b }) (.int .i64 0)):=by
 obtain⟨H1,V1⟩:=h.cell 10 (by omega) (.bool b) (m':=m) (S':={ S with ov:=b }) rfl rfl ⟨rfl,rfl,rfl,rfl,rfl,rfl⟩ ⟨rfl,rfl,rfl,rfl⟩ ⟨rfl,rfl,rfl,rfl,rfl,rfl,rfl⟩ h.rB h.lB;have OG:=φ (j9 _ m _ a c H1 G.pl G.pr G.s0 G.s1 G.x1 G.x2);have i:=h.cs.c10;have f10:=h.bx.f 10 rfl;have d:Hid (∀W,gX (w.setCell ⟨m.g,10,none⟩ (.bool b)) m a c (ft { S with ov:=b }) (.tuple #[]) (.returned (.tuple #[])) W→gX w m a c (ft { S with ov:=b }) i0 (.returned i0) W):=fun W h2=>⟨rfl,h2.2.1,V1.tr h2.2.2⟩
 clear h G H1 V1;go_in;go_wp2_with fail;refine OG.out.mono ?_;rintro e w2 P2;obtain⟨rfl,P3⟩:=P2;have hf:=d.out w2 ⟨rfl,P3⟩;clear OG P3 d;go_wp2;go_ret;exact hf
noncomputable def oV(S:Sp)(l k:Int):Sp× Int:=match jZ S.ps l with|none=>(S,2)|some i=>if jI k 1 65535=true then(ft (qS S i k),0)else(S,1)
def JX{S:Sp}{i:Nat}(hi:i<S.ps.length)(k:Int):qS S i k= { S with ps:=S.ps.set i ⟨S.ps[i].l,S.ps[i].o,k,S.ps[i].ph,S.ps[i].lf,S.ps[i].bt⟩ }:=by
 unfold qS;rw[cM hi]
def Ht(w:World)(m:Sm)(S:Sp)(b:Nat→Nat)(c:Nat)(h:fe w m S b c)(hl:S.ps.length≤100000)(l k:Int)(G:∀i,jZ S.ps l=some i→GO (qS S i k)) :
  Calls prog 48 #[.pointer (some ⟨m.g,0,none⟩),l,k] w (gX w m b c (oV S l k).1 (.int .i64 (oV S l k).2)):=by
 have P:=wA w m S b c h hl l;unfold pG at P;rcases hf:jZ S.ps l with _|i
 ·rw[hf]at P;have hu:oV S l k=(S,2):=by unfold oV;rw[hf]
  rw[hu];have a:gX w m b c S (.int .i64 2) (.returned (.int .i64 2)) w:=⟨rfl,h,gA.refl _ _⟩
  replace P:=φ P;replace a:=φ a;clear h hf hu G;go_in;go_wp2_with fail;refine P.out.mono ?_;rintro e w1 ⟨rfl,rfl⟩;clear P;go_wp2;go_ret;exact a
 ·rw[hf]at P;have hi:=Ap hf;have WI:=φ (jJ k 1 65535 w);have f:Hid (jI k 1 65535=true→oV S l k=(ft (qS S i k),0)):=fun e=>by unfold oV;rw[hf];simp only[e,gy]
  have d:Hid (jI k 1 65535=false→oV S l k=(S,1)):=fun e=>by unfold oV;rw[hf];simp only[e,GZ,Un]
  have g0:=φ (G i hf);generalize oV S l k=R at *;generalize jI k 1 65535=q at *;replace P:=φ P;replace h:=φ h;clear hf G;go_in;go_wp2_with fail;refine P.out.mono ?_;rintro e w1 ⟨rfl,gp,hP,rfl⟩;clear P;go_wp2_with fail;refine WI.out.mono ?_;rintro e w2 ⟨rfl,rfl⟩;clear WI;rcases dH q with rfl|rfl
  ·have hR:=f.out rfl;obtain⟨H1,V1⟩:=h.out.port hP hi 2 (by omega) (.int .i64 k) ⟨S.ps[i].l,S.ps[i].o,k,S.ps[i].ph,S.ps[i].lf,S.ps[i].bt⟩ rfl;rw[←JX hi]at H1;have OG:=φ (j9 _ m _ b c H1 g0.out.pl g0.out.pr g0.out.s0 g0.out.s1 g0.out.x1 g0.out.x2);have c2:=(h.out.XJ hP hi).c2;have f2:=h.out.free hP (i*6+2);have a:Hid (∀W,gX (w.setCell ⟨gp,i*6+2,none⟩ k) m b c (ft (qS S i k)) (.tuple #[]) (.returned (.tuple #[])) W→gX w m b c R.1 (.int .i64 R.2) (.returned i0) W):=fun W h2=>by
    rw[hR];exact⟨rfl,h2.2.1,V1.tr h2.2.2⟩
   clear hR f d H1 V1 h g0;go_wp2_with fail;refine OG.out.mono ?_;rintro e w2 P2;obtain⟨rfl,P3⟩:=P2;have hf:=a.out w2 ⟨rfl,P3⟩;clear OG P3 a;go_wp2;go_ret;exact hf
  ·have hf:gX w m b c R.1 (.int .i64 R.2) (.returned (.int .i64 1)) w:=by
    rw[d.out rfl];exact⟨rfl,h,gA.refl _ _⟩
   clear f d h g0;go_wp2;go_ret;exact hf
def vh(w:World)(m:Sm)(S:Sp)(b:Nat→Nat)(c:Nat)(h:fe w m S b c)(a:lY S.db) :
  Calls prog 12 #[.pointer (some ⟨m.g,0,none⟩)] w (re w S.db):=by
 have D:=φ (Gr w m.gd m.bd S.db h.db a);have f:=h.cs.c12;clear h;go_in;go_wp2_with fail;refine D.out.mono ?_;rintro e w1 P;obtain⟨A,d,ls,rfl,P2⟩:=P;have hf:re w S.db (.returned (.slice A (eR S.db).length d)) w1:=⟨A,d,ls,rfl,P2⟩
 clear D P2;go_wp2;go_ret;exact hf
structure Sx where
 l:Int
 A:cG
 bs:List UInt8
 c:Nat
def BI:List Sx→cH
 | []=>[]
 |s :: r=>.int .i64 s.l :: .slice s.A s.bs.length s.c :: BI r
def Rt(l:List Sx):(BI l).length=l.length*2:=by
 induction l with
 |nil=>rfl
 |cons s r ih=>simp only[BI,List.length_cons,ih];omega
def Hm(a b:List Sx):BI (a++b)=BI a++BI b:=by
 induction a with
 |nil=>rfl
 |cons s r ih=>simp only[List.cons_append,BI,ih]
def GL(w:World)(base:Nat)(s:Sx):Prop:=w.ownsRow base 5 1 (.slice s.A s.bs.length s.c) s.bs.length (s.bs.map iZ)
noncomputable def oX(l:List (Int× Ms)):List (Int× List UInt8):=l.map fun x=>(x.1,iy x.2)
def pF(w:World)(base:Nat)(v:Value)(l:List (Int× Ms)):Prop :=
 ∃A c ls,v= .slice A ls.length c∧w.ownsRow base 148 2 (.slice A ls.length c) ls.length (BI ls)∧(∀s∈ls,GL w base s)∧ls.map (fun s=>(s.l,s.bs))=oX l
def oT(w:World)(base:Nat):pF w base (.slice none 0 0) []:=⟨none,0,[],rfl,cn,fun s hs=>absurd hs (by simp),rfl⟩
def QK(D:Fd.Db):Prop:=∀o hd,D o=some hd→dS hd.x∧hd.x.o=(o:Int)∧0≤hd.l∧hd.l≤65536
def Xc{N:Fd.Fn}(h:Fd.pI N){q:Nat}{D:Fd.Db}(hD:N q=some D):QK D:=fun o hd h1=>h q D o hd hD h1
def PT{N:Fd.Fn}(h:Fd.pI N){q:Nat}{D:Fd.Db}(hD:QK D):Fd.pI (Fd.eY N q D):=fun i E o hd h1 h2=>by
 unfold Fd.eY at h1;split at h1
 ·injection h1 with h1;subst h1;exact hD o hd h2
 ·exact h i E o hd h1 h2
def Wp{N:Fd.Fn}(h:Fd.pI N)(q:Nat):Fd.pI (Fd.gx N q):=fun i E o hd h1 h2=>by
 unfold Fd.gx at h1;split at h1
 ·cases h1
 ·exact h i E o hd h1 h2
def Qg{D:Fd.Db}(h:QK D){a:La}(ha:dS a):QK (Fd.mu D a):=fun o hd h1=>by
 unfold Fd.mu at h1;split at h1
 ·dsimp only at h1;split at h1
  ·next e=>
   injection h1 with h1;subst h1
   have:=ha.1;exact⟨ha,by simp only;omega,by simp,by simp⟩
  ·exact h o hd h1
 ·exact h o hd h1
def Wy{D:Fd.Db}(h:QK D):∀ {l:List La},(∀a∈l,dS a)→QK (Fd.pJ D l):=fun {l}=>by
 induction l generalizing D with
 |nil=>intro _;exact h
 |cons a l ih=>intro hv;exact ih (Qg h (hv a (by simp))) fun b hb=>hv b (fy _ hb)
def Ze{D:Fd.Db}(h:QK D)(a:La):QK (Fd.QQ D a):=fun o hd h1=>by
 unfold Fd.QQ at h1;split at h1
 ·dsimp only at h1;split at h1
  ·cases h1
  ·exact h o hd h1
 ·exact h o hd h1
def Yc{D:Fd.Db}(h:QK D)(a:La):QK (Fd.pN D a):=fun o hd h1=>by
 unfold Fd.pN at h1;split at h1
 ·dsimp only at h1;split at h1
  ·cases h1
  ·exact h o hd h1
 ·exact h o hd h1
def PU{N:Fd.Fn}(F:Nat→Fd.Db→Fd.Db)(h:∀q D,N q=some D→QK (F q D)):Fd.pI (fun i=>(N i).map (F i)):=fun i E o hd h1 h2=>by
 cases hN:N i with
 |none=>simp only[hN]at h1;cases h1
 |some D=>
   simp only[hN,Option.map_some,dB]at h1;subst h1;exact h i D hN o hd h2
def PS{N:Fd.Fn}(h:Fd.pI N)(a:La)(ex:Int):Fd.pI (lX N a ex):=by
 unfold lX;split
 ·next hv=>
  exact PU _ fun q D hD=>by
   unfold Fd.mj;split
   ·exact Qg (Xc h hD) (gH.1 hv)
   ·exact Ze (Xc h hD) a
 ·exact h
def XZ{N:Fd.Fn}(h:Fd.pI N){n:Int}(hn:0<n):Fd.pI (Fd.ve n N):=PU _ fun q D hD o hd h1=>by
 simp only[Fd.Kt,fW]at h1;obtain⟨h0,h1,rfl⟩:=h1;obtain⟨a1,a2,a3,a4⟩:=Xc h hD o h0 h1;unfold Fd.Rp;exact⟨a1,a2,by simp only;omega,by simp only;omega⟩
def X0{N:Fd.Fn}(h:Fd.pI N){iv:Int}(h0:0≤iv)(h1:iv≤65536):Fd.pI (Fd.wB iv N):=PU _ fun q D hD o hd h1=>by
 simp only[Fd.Lf,fW]at h1;obtain⟨h9,h1,rfl⟩:=h1;obtain⟨a1,a2,a3,a4⟩:=Xc h hD o h9 h1;unfold Fd.DJ;split
 ·exact⟨a1,a2,a3,a4⟩
 ·exact⟨a1,a2,by simp only;omega,by simp only;omega⟩
def UG{N:Fd.Fn}(h:Fd.pI N)(l:Nat)(a:La):Fd.pI (pM N l a):=by
 unfold pM;split
 ·next D hD=>exact PT h (Yc (Xc h hD) a)
 ·exact h
def X1{N:Fd.Fn}(h:Fd.pI N)(l:Nat)(a:La):Fd.pI (rJ N l a):=by
 unfold rJ;split
 ·next D hD=>
  split
  ·next hv=>exact PT h (Qg (Xc h hD) (gH.1 hv))
  ·exact h
 ·exact h
def xB(N:Fd.Fn)(a:La)(ex:Int)(i:Nat):(lX N a ex i).isSome=(N i).isSome:=by
 unfold lX Fd.zv;split
 ·simp
 ·rfl
def Ck{N:Fd.Fn}{l:Nat}{D D':Fd.Db}(hD:N l=some D)(i:Nat):(Fd.eY N l D' i).isSome=(N i).isSome:=by
 unfold Fd.eY;split
 ·next e=>subst e;rw[hD];rfl
 ·rfl
def De(N:Fd.Fn)(l:Nat)(a:La)(i:Nat):(pM N l a i).isSome=(N i).isSome:=by
 unfold pM;cases hD:N l with
 |none=>rfl
 |some D=>exact Ck hD i
def Lo(N:Fd.Fn)(l:Nat)(a:La)(i:Nat):(rJ N l a i).isSome=(N i).isSome:=by
 unfold rJ;cases hD:N l with
 |none=>rfl
 |some D=>
   simp only;split
   ·exact Ck hD i
   ·rfl
def Km{p l:Int}(h:He.vQ p l=true):(p=0∧l=0)∨((p=1∨p=2)∧1≤l∧l≤65536):=by
 unfold He.vQ at h;simp only[sE,dD,ji,fa]at h;omega
def MU{p l:Int}(h:(p=0∧l=0)∨((p=1∨p=2)∧1≤l∧l≤65536)):He.vQ p l=true:=by
 unfold He.vQ;simp only[sE,dD,ji,fa];omega
def MT{p l:Int}(h:He.vQ p l=true):He.vQ (He.vc p l 1) (He.Bp p l 1)=true:=by
 have:=Km h;apply MU;unfold He.vc He.Bp;split<;>rename_i h1
 ·exact this
 ·split<;>rename_i h2
  ·exact .inl ⟨rfl,rfl⟩
  ·right;omega
def Dp{ps:List Po}(h:(ps.map (·.l)).Nodup){i j:Nat}(hi:i<ps.length)(hj:j<ps.length)(e:ps[i].l=ps[j].l):i=j:=by
 unfold List.Nodup at h;rw[ny]at h;rcases Nat.lt_trichotomy i j with h1|h1|h1
 ·exact absurd (by rw[ng,ng];exact e) (h i j (by simpa using hi) (by simpa using hj) h1)
 ·exact h1
 ·exact absurd (by rw[ng,ng];exact e.symm) (h j i (by simpa using hj) (by simpa using hi) h1)
def UQ(ps:List Po)(l:Int):Prop:=∃p∈ps,p.l=l∧p.ph=2
def Jc{ps:List Po}(h:(ps.map (·.l)).Nodup){i:Nat}(hi:i<ps.length){q:Po}(hq:q.l=ps[i].l)(l:Int):UQ (ps.set i q) l↔if l=ps[i].l then q.ph=2 else UQ ps l:=by
 constructor
 ·rintro⟨p,hp,h1,h2⟩;obtain⟨j,hj,rfl⟩:=eG hp;rw[dw]at hj;rw[yq]at h1 h2;split at h1
  ·next e=>
   subst e;simp only[gy]at h2;rw[cR (by rw[←h1,hq])];exact h2
  ·next e=>
   rw[cN e]at h2;rw[cN (fun e2=>e (Dp h hi hj (by rw[←e2,h1])))];exact⟨_,di hj,h1,h2⟩
 ·intro hx;split at hx
  ·next e=>exact⟨q,List.mem_set hi q,by rw[hq,e],hx⟩
  ·next e=>
   obtain⟨p,hp,h1,h2⟩:=hx;obtain⟨j,hj,rfl⟩:=eG hp;have a:i≠j:=fun e2=>e (by subst e2;exact h1.symm)
   refine⟨(ps.set i q)[j]'(by rw[dw];exact hj),di _,?_,?_⟩
   ·rw[yq,cN a];exact h1
   ·rw[yq,cN a];exact h2
def xL{ps:List Po}{i:Nat}(hi:i<ps.length){q:Po}(hq:q.l=ps[i].l):(ps.set i q).map (·.l)=ps.map (·.l):=by
 rw[pQ];apply List.ext_getElem
 ·simp
 ·intro j h1 h2;rw[yq];split
  ·next e=>subst e;simp[hq]
  ·rfl
def Lp{x y:La}{s a:Int}(h:dS (num x.o 1 0 y))(hs:1≤s∧s≤1073741824):dS (num x.o s 0 y):=by
 obtain⟨h1,h2,h3,h4,h5,h6,h7,h8⟩:=h;exact⟨h1,hs,⟨by simp[num],by simp[num]⟩,h4,h5,fun e=>by simp[num]at e,h7,h8⟩
def zD{x:La}{s a:Int}(h:dS x)(hs:1≤s∧s≤1073741824)(ha:0≤a∧a≤3599):dS { x with s:=s,a:=a }:=by
 obtain⟨h1,h2,h3,h4,h5,h6,h7,h8⟩:=h;exact⟨h1,hs,⟨ha.1,by simp only;omega⟩,h4,h5,fun e=>by simp only at e;omega,h7,h8⟩
structure QC (nd:Int) (x:La):Prop where
 o:x.o=nd
 s:0≤x.s∧x.s≤1073741824
 a:0≤x.a∧x.a≤3599
 v:dS x
 l:x.adj.length≤256∧x.pre.length≤64
def QC.set{nd:Int}{x:La}(h:QC nd x)(y:La):QC nd (ke x true y).x∧(ke x true y).now=true:=by
 unfold ke;split
 ·next hv=>
  split
  ·exact⟨h,rfl⟩
  ·split
   ·exact⟨h,rfl⟩
   ·next hs=>
    have hv:=Lp (a:=0) (s:=x.s+1) (gH.1 hv) (by have:=h.s;omega);exact⟨⟨h.o,⟨by have:=h.s;simp only[num];omega,by have:=h.s;simp only[num];omega⟩,by simp[num],hv,hv.2.2.2.1,hv.2.2.2.2.1⟩,rfl⟩
 ·exact⟨h,rfl⟩
def QC.XX{nd:Int}{x:La}(h:QC nd x)(a:La):QC nd (gI x true a).x∧(gI x true a).now=true:=by
 unfold gI;split
 ·next hv=>
  simp only[gy];split
  ·exact⟨h,rfl⟩
  ·split
   ·exact⟨h,rfl⟩
   ·have b:=(gH.1 hv.1).2.1;have hv:=zD (s:=a.s+1) (a:=0) h.v (by omega) (by omega);exact⟨⟨h.o,⟨by simp only[num];omega,by simp only[num];omega⟩,by simp[num],hv,h.l⟩,rfl⟩
 ·exact⟨h,rfl⟩
def QC.tick{nd:Int}{x:La}(h:QC nd x):QC nd (ix x true 1):=by
 have hs:=h.s;have ha:=h.a;have hv:=h.v.2.1;unfold ix;simp only[Int.zero_lt_one,and_self,gy];split
 ·next hr=>
  simp only[mO,dD,fa]at hr;have ht:times x 1=1:=by unfold times;split<;>omega
  rw[ht];have hc:kr (1 - (1800 - x.a) - (1 - 1)*1800)=0:=by unfold kr;split<;>omega
  rw[hc];exact⟨h.o,⟨by simp only;omega,by simp only;omega⟩,⟨by simp,by simp⟩,zD h.v (by omega) (by omega),h.l⟩
 ·have hc:0≤kr (x.a+1)∧kr (x.a+1)≤3599:=by unfold kr;split<;>omega
  have:=zD (s:=x.s) h.v (by omega) hc;exact⟨h.o,hs,hc,this,h.l⟩
section
variable {S:Sp}
def eO.xk(h:eO S):QC S.nd S.x:=⟨h.xo,h.xs,h.xa,h.xv,h.xl⟩
def eO.Hu(h:eO S){x:La}{md:Bool}(hx:QC S.nd x)(hm:md=true):eO { S with x:=x,md:=md } :=
 ⟨h.tp,h.nd,h.bo,h.h1,h.h2,h.h3,h.tm,h.ps,h.uq,h.pl,h.pre,h.db,h.dz,h.fl,h.up,hx.o,hx.s,hx.a,hm,hx.v,hx.l⟩
def Jn(x:La)(mk:Bool)(y:La){n k:Nat}(h1:x.adj.length≤n)(h2:y.adj.length≤n)(h3:x.pre.length≤k)(h4:y.pre.length≤k):(ke x mk y).x.adj.length≤n∧(ke x mk y).x.pre.length≤k:=by
 unfold ke;split
 ·split
  ·exact⟨h1,h3⟩
  ·split
   ·exact⟨h1,h3⟩
   ·exact⟨h2,h4⟩
 ·exact⟨h1,h3⟩
def Pa(h1:S.ps.length≤512)(h2:S.pre.length≤64)(h3:0≤S.x.s∧S.x.s≤1073741824)(h4:S.x.adj.length≤256∧S.x.pre.length≤64):GO S:=by
 have hl:=qU S.ps;obtain⟨a,b⟩:=Jn S.x S.md (jS S) (n:=1000000) (k:=1000000) (by omega) (by simp only[jS];omega) (by omega) (by simp only[jS];omega);exact⟨h1,by omega,h3.1,h3.2,a,b⟩
def eO.og(h:eO S):GO S:=Pa h.pl h.pre h.xs h.xl
def eO.va(h:eO S):∀a∈ku S.db,dS a:=fun a ha=>by
 unfold ku at ha;obtain⟨i,hi,rfl⟩:=dL.1 ha;obtain⟨h1,h2⟩:=jf i|>.1 hi;obtain⟨x,hx⟩:=dC.1 h2;rw[hx];exact(h.db _ _ hx).1
def eO.Y2(h:eO S):eO (nF S):=by
 have hc:xW S.x S.md=S.x:=by unfold xW;rw[h.xm];rfl
 unfold nF;rw[hc];refine⟨h.tp,h.nd,h.bo,h.h1,h.h2,h.h3,h.tm,h.ps,h.uq,h.pl,h.pre,qR h.db (fun _=>h.xv),fun i hi=>?_,PS h.fl _ _,fun l=>?_,h.xo,h.xs,h.xa,h.xm,h.xv,h.xl⟩
 ·show instN S.db S.x i=none
  unfold instN;split
  ·dsimp only;rw[cN (by have:=h.xv.1;omega)];exact h.dz i hi
  ·exact h.dz i hi
 ·show(lX S.fl S.x (-1) l).isSome=true↔_
  rw[xB];exact h.up l
def eO.zO(h:eO S):eO (ft S):=by
 have hx:=h.xk.set (jS S);have hm:=h.xm;unfold ft;rw[←hm]at hx;split
 ·exact(h.Hu hx.1 (hx.2.trans hm)).Y2
 ·exact h.Hu hx.1 (hx.2.trans hm)
def eO.UF(h:eO S){i:Nat}(hi:i<S.ps.length){ph lf:Int}(hv:He.vQ ph lf=true):eO (jB S i ph lf):=by
 rw[uc hi];have hp:=h.ps _ (di hi);obtain⟨ln,b⟩:=de hp.l.1;have d:=fun l=>Jc h.uq hi (q:=jq S.ps[i] ph lf) rfl l
 have a:∀l:Nat,(S.fl l).isSome=true↔UQ S.ps (l:Int):=h.up;refine⟨h.tp,h.nd,h.bo,h.h1,h.h2,h.h3,h.tm,fun p f=>?_,by have:=xL hi (q:=jq S.ps[i] ph lf) rfl;simp only;rw[this];exact h.uq,by simp only[dw];exact h.pl,h.pre,h.db,h.dz,?_,fun l=>?_,h.xo,h.xs,h.xa,h.xm,h.xv,h.xl⟩
 ·rcases vJ f with h1|rfl
  ·exact h.ps p h1
  ·refine⟨hp.l,hp.o,hp.c,hv,?_⟩
   simp only[jq];split
   ·omega
   ·exact hp.bt
 ·dsimp only;split
  ·exact PT h.fl (Wy (fun o hd e=>by cases e) h.va)
  ·split
   ·exact Wp h.fl _
   ·exact h.fl
 ·show _↔UQ (S.ps.set i (jq S.ps[i] ph lf)) (l:Int)
  rw[d,show S.ps[i].l.toNat=ln by omega];have hq:(jq S.ps[i] ph lf).ph=ph:=rfl;rw[hq];dsimp only
  by_cases e:l=ln
  ·subst e;rw[cR b.symm];have k:=a l;have g:UQ S.ps (l:Int) ↔ S.ps[i].ph = 2:=⟨fun ⟨p,h1,h2,h3⟩=>by
    obtain⟨j,hj,rfl⟩:=eG h1;obtain rfl:=Dp h.uq hi hj (by rw[h2,b]);exact h3,fun e=>⟨_,di hi,b,e⟩⟩
   rw[g]at k;unfold He.oz;split<;>split<;>rename_i h1 h2<;>simp_all[Fd.eY,Fd.gx]
  ·have hR:(if (l:Int)=S.ps[i].l then ph=2 else UQ S.ps (l:Int))=UQ S.ps (l:Int):=cN (by omega);rw[hR];have:∀F:Fd.Fn,F=(if He.oz S.ps[i].ph ph=1 then Fd.eY S.fl ln (Fd.pJ (fun _=>none) (ku S.db))else if He.oz S.ps[i].ph ph=2 then Fd.gx S.fl ln else S.fl)→F l=S.fl l:=fun F e1=>by
    subst e1;split
    ·simp[Fd.eY,e]
    ·split
     ·simp[Fd.gx,e]
     ·rfl
   rw[this _ rfl];exact a l
def eO.fo(h:eO S){i:Nat}(hi:i<S.ps.length)(ph lf:Int):Um S i ph lf:=by
 have hp:=h.ps _ (di hi);obtain⟨ln,a⟩:=de hp.l.1;refine⟨h.db,h.va,hi,hp.l,fun e=>?_,hp.st,?_⟩
 ·rw[show S.ps[i].l.toNat=ln by omega];exact(h.up ln).2 ⟨_,di hi,a,e⟩
 ·rw[uc hi];exact Pa (by simp only[dw];exact h.pl) h.pre h.xs h.xl
def eO.UL(h:eO S){i:Nat}(hi:i<S.ps.length){ph lf:Int}(hv:He.vQ ph lf=true):eO (jl S i ph lf):=by
 unfold jl;split
 ·exact h.UF hi hv
 ·exact(h.UF hi hv).zO
def eO.XC(h:eO S){i:Nat}(hi:i<S.ps.length){c b:Int}(hc:1≤c∧c≤65535)(hb:0≤b∧b≤1073741824):eO { S with ps:=S.ps.set i ⟨S.ps[i].l,S.ps[i].o,c,S.ps[i].ph,S.ps[i].lf,b⟩ }:=by
 have hp:=h.ps _ (di hi);refine⟨h.tp,h.nd,h.bo,h.h1,h.h2,h.h3,h.tm,fun p a=>?_,by have:=xL hi (q:=⟨S.ps[i].l,S.ps[i].o,c,S.ps[i].ph,S.ps[i].lf,b⟩) rfl;simp only;rw[this];exact h.uq,by simp only[dw];exact h.pl,h.pre,h.db,h.dz,h.fl,fun l=>?_,h.xo,h.xs,h.xa,h.xm,h.xv,h.xl⟩
 ·rcases vJ a with h1|rfl
  ·exact h.ps p h1
  ·exact⟨hp.l,hp.o,hc,hp.st,hb⟩
 ·have:=Jc h.uq hi (q:=⟨S.ps[i].l,S.ps[i].o,c,S.ps[i].ph,S.ps[i].lf,b⟩) rfl (l:Int);unfold UQ at this;rw[this,h.up l];split
  ·next e=>
   exact ⟨fun ⟨p,h1,h2,h3⟩=>by
    obtain⟨j,hj,rfl⟩:=eG h1;obtain rfl:=Dp h.uq hi hj (by rw[h2,e]);exact h3,fun e2=>⟨_,di hi,e.symm,e2⟩⟩
  ·exact Iff.rfl
def eO.bot(h:eO S){i:Nat}(hi:i<S.ps.length){b:Int}(hb:0≤b∧b≤1073741824):eO (qj S i b):=by
 rw[pZ hi];exact h.XC hi (h.ps _ (di hi)).c hb
def eO.cos(h:eO S){i:Nat}(hi:i<S.ps.length){c:Int}(hc:1≤c∧c≤65535):eO (qS S i c):=by
 rw[JX hi];exact h.XC hi hc (h.ps _ (di hi)).bt
def qF(S:Sp):(ft S).ps=S.ps∧(ft S).nd=S.nd∧(ft S).h1=S.h1∧(ft S).h3=S.h3∧(ft S).tm=S.tm∧(ft S).tp=S.tp:=by
 unfold ft nF;split<;>exact⟨rfl,rfl,rfl,rfl,rfl,rfl⟩
def D7(S:Sp)(i:Nat)(ph lf:Int):(jB S i ph lf).ps.length=S.ps.length∧(jB S i ph lf).nd=S.nd∧(jB S i ph lf).h1=S.h1∧(jB S i ph lf).h3=S.h3∧(jB S i ph lf).tm=S.tm∧(jB S i ph lf).tp=S.tp:=by
 unfold jB;split
 ·exact⟨rfl,rfl,rfl,rfl,rfl,rfl⟩
 ·exact⟨by simp,rfl,rfl,rfl,rfl,rfl⟩
def Gx(S:Sp)(i:Nat)(ph lf:Int):(jl S i ph lf).ps.length=S.ps.length:=by
 unfold jl;split
 ·exact(D7 S i ph lf).1
 ·rw[(qF _).1];exact(D7 S i ph lf).1
def Aj(S:Sp)(i:Nat)(p:Po)(b:Int):(qM S i p b).ps.length=S.ps.length:=by
 unfold qM;split
 ·exact Gx _ _ _ _
 ·rfl
def eO.YI(h:eO S){i:Nat}(hi:i<S.ps.length)(p:Po)(b:Int):eO (qM S i p b):=by
 unfold qM;split
 ·exact h.UL hi rfl
 ·exact h
def eO.UE(h:eO S){i:Nat}(hi:i<S.ps.length)(p:Po){b:Int}(hb:0≤b∧b≤1073741824):eO (qj (qM S i p b) i b):=(h.YI hi p b).bot (by rw[Aj];exact hi) hb
def eO.vL(h:eO S){i:Nat}(hi:i<S.ps.length){b:Int}(hb:0≤b∧b≤1073741824)(hh:Int):eO (Ai S i b hh):=by
 rw[D3 hi rfl];have h2:=h.UE hi S.ps[i] hb;refine h2.UL (by rw[wZ,Aj];exact hi) (MU (.inr ⟨?_,h.h2⟩));split
 ·exact .inr rfl
 ·exact .inl rfl
def eO.TQ(h:eO S){N:Db}{F:Fd.Fn}(h1:lY N)(h2:∀i,64≤i→N i=none)(h3:Fd.pI F)(h4:∀l,(F l).isSome=(S.fl l).isSome):eO { S with db:=N,fl:=F } :=
 ⟨h.tp,h.nd,h.bo,h.h1,h.h2,h.h3,h.tm,h.ps,h.uq,h.pl,h.pre,h1,h2,h3,fun l=>by rw[h4];exact h.up l,h.xo,h.xs,h.xa,h.xm,h.xv,h.xl⟩
def instN_dz{N:Db}(h:∀i,64≤i→N i=none)(a:La):∀i,64≤i→instN N a i=none:=fun i hi=>by
 unfold instN;split
 ·next hv=>
  dsimp only;rw[cN (by have:=(gH.1 hv.1).1;omega)];exact h i hi
 ·exact h i hi
def eO.ins(h:eO S)(l:Int)(a:La):eO (rR S l a).1:=by
 have h1:=qR h.db (a:=a) gH.1;have h2:=instN_dz h.dz a;unfold rR;split
 ·exact h.TQ h1 h2 (PS h.fl _ _) (xB _ _ _)
 ·split
  ·exact h.TQ h1 h2 (UG h.fl _ _) (De _ _ _)
  ·exact h.TQ h1 h2 (X1 h.fl _ _) (Lo _ _ _)
def eO.YS(h:eO S)(l:Int)(a:La):eO (jz S l a).1:=by
 have hx:=h.xk.XX a;have hm:=h.xm;rw[←hm]at hx;have h2:=h.Hu hx.1 (hx.2.trans hm);unfold jz;split
 ·split
  ·exact h2.Y2
  ·split
   ·exact h2
   ·exact h2.ins l a
 ·exact h.ins l a
def eO.recv(h:eO S)(i:Nat){m:Ms}(hb:0≤m.b∧m.b≤1073741824):eO (gV S i m).1:=by
 unfold gV;split
 ·exact h
 ·next p hp=>
  have hi:i<S.ps.length:=(dj.1 hp).1;split
  ·exact h.vL hi hb m.h
  ·split
   ·exact h
   ·split
    ·exact h.YS p.l m.y
    ·exact h.TQ h.db h.dz (UG h.fl _ _) (De _ _ _)
def kD(S:Sp)(k:Nat):(pR S k).ps.length=S.ps.length∧(pR S k).nd=S.nd∧(pR S k).h1=S.h1∧(pR S k).h3=S.h3∧(pR S k).tm=S.tm∧(pR S k).tp=S.tp:=by
 induction k with
 |zero=>exact⟨rfl,rfl,rfl,rfl,rfl,rfl⟩
 |succ k ih=>
   unfold pR;split
   ·exact ih
   ·obtain⟨a1,a2,a3,a4,a5,a6⟩:=D7 (pR S k) k (He.vc _ _ 1) (He.Bp _ _ 1);exact⟨a1.trans ih.1,a2.trans ih.2.1,a3.trans ih.2.2.1,a4.trans ih.2.2.2.1,a5.trans ih.2.2.2.2.1,a6.trans ih.2.2.2.2.2⟩
def EJ{S:Sp}{k:Nat}(hk:k<S.ps.length):pR S (k+1)=jB (pR S k) k (He.vc ((pR S k).ps[k]'(by rw[(kD S k).1];exact hk)).ph ((pR S k).ps[k]'(by rw[(kD S k).1];exact hk)).lf 1) (He.Bp ((pR S k).ps[k]'(by rw[(kD S k).1];exact hk)).ph ((pR S k).ps[k]'(by rw[(kD S k).1];exact hk)).lf 1):=by
 rw[pR,cM (by rw[(kD S k).1];exact hk)]
def Iv(S:Sp)(i:Nat)(ph lf:Int){j:Nat}(hj:j≠i):(jB S i ph lf).ps[j]?=S.ps[j]?:=by
 unfold jB;split
 ·rfl
 ·simp only[I1,cN (Ne.symm hj)]
def Nb(S:Sp)(k j:Nat)(hj:k≤j):(pR S k).ps[j]?=S.ps[j]?:=by
 induction k with
 |zero=>rfl
 |succ k ih=>
   unfold pR;split
   ·exact ih (by omega)
   ·rw[Iv _ _ _ _ (by omega)];exact ih (by omega)
def Nc{S:Sp}{k:Nat}(hk:k<S.ps.length):(pR S k).ps[k]'(by rw[(kD S k).1];exact hk)=S.ps[k]:=by
 have:=Nb S k k cj;rw[cM hk,cM (by rw[(kD S k).1];exact hk)]at this;injection this
def eO.tk(h:eO S)(k:Nat):eO (pR S k):=by
 induction k with
 |zero=>exact h
 |succ k ih=>
   unfold pR;split
   ·exact ih
   ·next p hp=>
    have hk:k< (pR S k).ps.length:=(dj.1 hp).1;have a:=ih.ps p (eu hp);exact ih.UF hk (MT a.st)
def eO.time(h:eO S):eO { S with tm:=S.tm+1 } :=
 ⟨h.tp,h.nd,h.bo,h.h1,h.h2,h.h3,by have:=h.tm;simp only;omega,h.ps,h.uq,h.pl,h.pre,h.db,h.dz,h.fl,h.up,h.xo,h.xs,h.xa,h.xm,h.xv,h.xl⟩
def Jv(nd:Int)(N:Db)(l:List Int):∀F:Fd.Fn,Fd.pI F→Fd.pI (wu nd N F l)∧ ∀i,(wu nd N F l i).isSome=(F i).isSome:=by
 unfold wu
 induction l with
 |nil=>exact fun F h=>⟨h,fun _=>rfl⟩
 |cons n l ih=>
   intro F h;rw[lL];have key:∀G:Fd.Fn,G=(match jR N n with|some h=>if n≠nd then lX F h.x (-1)else F|none=>F)→Fd.pI G∧ ∀i,(G i).isSome=(F i).isSome:=fun G hG=>by
    cases hN:jR N n with
    |none=>rw[hN]at hG;simp only at hG;subst hG;exact⟨h,fun _=>rfl⟩
    |some x=>
      rw[hN]at hG;simp only at hG;split at hG
      ·subst hG;exact⟨PS h _ _,xB _ _ _⟩
      ·subst hG;exact⟨h,fun _=>rfl⟩
   have key:=key _ rfl;obtain⟨a,b⟩:=ih _ key.1;exact⟨a,fun i=>(b i).trans (key.2 i)⟩
def EM{N:Db}(h:∀i,64≤i→N i=none)(n:Int):∀i,64≤i→ic n N i=none:=fun i hi=>by unfold ic;rw[h i hi]
def zq{N:Db}(h:lY N){n:Int}(hn:0≤n):lY (ic n N):=fun i x e=>by
 unfold ic at e;cases hx:N i with
 |none=>rw[hx]at e;cases e
 |some y=>
   rw[hx]at e;obtain⟨hv,ho,h1,h2⟩:=h i y hx;dsimp only at e;unfold kY at e;obtain⟨v1,v2,v3,v4,v5,v6,v7,v8⟩:=hv;split at e
   ·split at e
    ·injection e with e;subst e
     exact⟨⟨v1,v2,by simp only;omega,v4,v5,fun e=>by simp only at e;omega,v7,v8⟩,ho,h1,h2⟩
    ·split at e
     ·cases e
     ·injection e with e;subst e
      refine⟨⟨v1,v2,by simp[iH],by simp[iH],by simp[iH],fun _=>⟨rfl,rfl,rfl⟩,?_,?_⟩,ho,by simp only;omega,by simp only;omega⟩
      ·intro j y hj hy;simp[iH]at hy
      ·intro j y hj hy;simp[iH]at hy
   ·split at e
    ·cases e
    ·injection e with e;subst e
     exact⟨⟨v1,v2,v3,v4,v5,v6,v7,v8⟩,ho,by simp only;omega,by simp only;omega⟩
def eO.tA(h:eO S):eO (Bq S):=h.time.tk _
def eO.tB(h:eO S):eO (lD S):=by
 unfold lD;split
 ·exact h.tA.zO
 ·exact h.tA
def eO.tC(h:eO S):eO (nC S):=by
 have hb:=h.tB;obtain⟨a,b⟩:=Jv S.nd (ic 1 (lD S).db) (kh 1 (lD S).db) _ hb.fl;exact hb.TQ (zq hb.db (by omega)) (EM hb.dz 1) a b
def eO.tD(h:eO S):eO (vd S):=by
 have hc:=h.tC;have hx:=hc.xk.tick;have hm:=hc.xm;rw[←hm]at hx;unfold vd;have h2:=hc.Hu hx hm;split
 ·exact h2.Y2
 ·exact h2
def eO.tE(h:eO S):eO (G4 S):=by
 have hd:=h.tD;exact hd.TQ hd.db hd.dz (XZ hd.fl (by omega)) (fun l=>by unfold Fd.ve;simp)
def eO.snd(h:eO S):eO (vY S):=h.TQ h.db h.dz (X0 h.fl (by have:=h.h3;omega) h.h3.2) (fun l=>by unfold Fd.wB;simp)
def eO.Xq(h:eO S):eO (oR S).1:=h.tE.snd
end
end Go.Proofs.YtehimhbgakpenaaGreat
