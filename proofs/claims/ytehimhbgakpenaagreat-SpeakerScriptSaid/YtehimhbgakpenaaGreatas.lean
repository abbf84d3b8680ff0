/- Lemmas. -/
import Derived.Test.YtehimhbgakpenaaGreatar
import Derived.Test.YtehimhbgakpenaaGreataj
set_option linter.all false
set_option maxRecDepth 100000
set_option maxHeartbeats 16000000
namespace Go.Proofs.YtehimhbgakpenaaGreat
open Go.RowKit Go.Maps Go.Sort Go.Proofs.Tryz
def Tj(t:Tp)(i:Nat)(l:Int):Bool:=decide (0≤l)&&match t.ln[l.toNat]? with|some x=>x.a==(i:Int)||x.b==(i:Int)|none=>false
def Pp{t:Tp}(hT:mE t){i:Nat}{l:Int}(h:Tj t i l=true):∃k j:Nat,l=(k:Int)∧Uj t i k j:=by
 unfold Tj at h;rw[dD]at h;obtain⟨h1,h2⟩:=h;have h0:=fS h1;cases hx:t.ln[l.toNat]? with
 |none=>rw[hx]at h2;cases h2
 |some x=>
   rw[hx]at h2;have ha:=(F3 hT hx).a;have hb:=(F3 hT hx).b;simp only[sE,ji]at h2;rcases h2 with h2|h2
   ·exact⟨l.toNat,x.b.toNat,by omega,x,hx,.inl ⟨h2,by omega⟩⟩
   ·exact⟨l.toNat,x.a.toNat,by omega,x,hx,.inr ⟨by omega,h2⟩⟩
def prt(S:sv)(e:Env):Nat:=(jZ (S e.t).ps e.l).getD 0
noncomputable def VV(t:Tp)(n:Nat)(S:sv)(e:Env):Bool:=decide (e.t<n∧qg e.m=true∧e.m.y.pre.length=0∧0≤e.m.b∧e.m.b≤1073741824∧jZ (S e.t).ps e.l=some (prt S e)∧(e.m.k=1→((S e.t).ps[prt S e]?).map (·.o)=some e.m.n))&& (gV (S e.t) (prt S e) e.m).2.all fun y=>Tj t e.t y.1
noncomputable def Vk(t:Tp)(n:Nat)(S:sv):Bool:=decide ((nW t.ln n S).length≤4000)&& (List.range n).all fun i=>decide ((S i).tm≤999999999)&& (oR (S i)).2.all fun x=>Tj t i x.1
noncomputable def sj(t:Tp)(n:Nat)(fin:sv→Bool):Nat→Nat→sv→List Env→Bool
 |0,_,_,_=>false
 |f+1,k,S,e :: es=>VV t n S e&&decide ((es++kT t.ln e.t (gV (S e.t) (prt S e) e.m).2).length≤4000)&&sj t n fin f k (BH S e.t (gV (S e.t) (prt S e) e.m).1) (es++kT t.ln e.t (gV (S e.t) (prt S e) e.m).2)
 |_+1,0,S,[]=>fin S
 |f+1,k+1,S,[]=>Vk t n S&&sj t n fin f k (zo S) (nW t.ln n S)
section
variable {t:Tp} {n f k:Nat} {fin:sv → Bool} {S:sv} {e:Env} {es:List Env}
def TT(h:sj t n fin f k S (e :: es)=true):∃f',f=f'+1∧VV t n S e=true∧(es++kT t.ln e.t (gV (S e.t) (prt S e) e.m).2).length≤4000∧sj t n fin f' k (BH S e.t (gV (S e.t) (prt S e) e.m).1) (es++kT t.ln e.t (gV (S e.t) (prt S e) e.m).2)=true:=by
 cases f with
 |zero=>simp[sj]at h
 |succ f=>
   simp only[sj,dD,fa]at h;exact⟨f,rfl,h.1.1,h.1.2,h.2⟩
def TS(h:sj t n fin f (k+1) S []=true):∃f',f=f'+1∧Vk t n S=true∧sj t n fin f' k (zo S) (nW t.ln n S)=true:=by
 cases f with
 |zero=>simp[sj]at h
 |succ f=>
   simp only[sj,dD]at h;exact⟨f,rfl,h.1,h.2⟩
def TX(h:sj t n fin f 0 S []=true):fin S=true:=by
 cases f with
 |zero=>simp[sj]at h
 |succ f=>simpa[sj]using h
end
def Yo(B0 Bn:Nat)(w0:World)(N:Nm)(t:Tp)(n:Nat)(fin:sv→Bool)(e:Ending)(w':World):Prop :=
 ∃N' S',e= .returned (.bool true)∧sg N N'∧jh B0 Bn w0 w' N' n t S'∧(∀i,i<n→eO (S' i)∧(S' i).tp=t)∧fin S'=true
def Cx{B0 Bn:Nat}{w0 w:World}{N:Nm}{t:Tp}{n:Nat}{S:sv}{fin:sv→Bool}(hT:mE t)(bd:n≤64)(h:jh B0 Bn w0 w N n t S)(ok:∀i,i<n→eO (S i)∧(S i).tp=t)(zn:Nat)(z:Int)(hz:z=zn)(bf:zn≤1000)(f:Nat)(hf:f≤4000)(hc:sj t n fin f zn S []=true) :
  Calls prog 20 #[pt N.g,z] w (Yo B0 Bn w0 N t n fin):=by
 have ag:sg N N:=rfl;subst hz;replace h:=gk h;replace ag:=gk ag;replace hT:=gk hT;replace hc:=gk hc;replace ok:=gk ok;go_enter func20,ntmps20;go_wp2_with fail;go_loopw [5] (fun v5 wr=>∃(k:Nat) (N1:Nm) (S1:sv),v5= .int .i64 k∧k≤zn∧Hid (sg N N1)∧Hid (jh B0 Bn w0 wr N1 n t S1)∧Hid (∀i,i<n→eO (S1 i)∧(S1 i).tp=t)∧ ∃f1,f1≤4000∧Hid (sj t n fin f1 (zn - k) S1 []=true)) (fun v5 _=>zn - (intOf v5).toNat)
 case atStart=>exact⟨0,N,S,rfl,by omega,ag,h,ok,f,hf,hc⟩
 case round=>
  clear h ok hc ag hf;obtain⟨k,N1,S1,rfl,hk,T,h1,J,f1,a3,ah⟩:=hrel
  by_cases hkz:k<zn
  ·have aB:=ah.out;rw[show zn - k=(zn - (k+1))+1 by omega]at aB;obtain⟨f2,rfl,hb,C⟩:=TS aB;unfold Vk at hb;rw[dD,rj]at hb;have am:=fS hb.1;have V:=fun i (hi:i<n)=>by simpa only[dD,rj,fa]using hb.2 i (ec.2 hi)
   have tk:Yn t n S1:=⟨hT,bd,fun i hi=>(J i hi).1,fun i hi=>(V i hi).1,fun i hi x hx=>Pp hT ((V i hi).2 x hx),by omega⟩
   have aQ:Hid (∀i,i<n→eO (zo S1 i)∧(zo S1 i).tp=t):=fun i hi=>⟨(J i hi).1.Xq,(lU.Xq _).tp.trans (J i hi).2⟩
   have TK:=Lr h1 tk;rw[T.out]at TK;unfold QF at TK;replace TK:=gk TK;replace am:=gk am;replace C:=gk C;clear tk hb V aB ah J h1;go_wp2_with fail;(with_reducible refine TK.out.mono ?_);rintro e w3 ⟨N3,A,c,ws,p,rfl,h3,d⟩;clear TK;have aq:Hid (sg N N3):=p.trans T;have d:=gk d.wv;replace h3:=gk h3;clear p T;go_wp2_with fail;go_loopw [6,7] (fun v6 v7 wr=>∃(P:Nat) (N3:Nm) (S3:sv) (ac:List Env) (A:cG) (c:Nat) (ws:List Wz),v6= .slice A ws.length c∧v7= .int .i64 P∧Hid (sg N N3)∧Hid (jh B0 Bn w0 wr N3 n t S3)∧Hid (uC wr Bn A c ws ac)∧Hid (∀i,i<n→eO (S3 i)∧(S3 i).tp=t)∧Hid (ac.length≤4000)∧ ∃f3,Hid (P+f3≤4000)∧Hid (sj t n fin f3 (zn - (k+1)) S3 ac=true)) (fun _ v7 _=>4001 - (intOf v7).toNat)
   case atStart=>exact⟨0,N3,_,_,A,c,ws,rfl,rfl,aq,h3,d,aQ,am,f2,gk (by omega),C⟩
   case round=>
    clear h3 d aQ am C aq a3;obtain⟨P,N3,S3,ac,A,c,ws,rfl,rfl,p,h3,d,I,Q,f3,ai,aA⟩:=hrel;rcases ws with _|⟨x,r⟩
    ·have a7:=d.out.nil;subst a7;have bb:f3≤4000:=by have:=ai.out;omega
     clear d ai Q;go_wp2_with fail;go_round
     case rel=>exact⟨k+1,N3,S3,by go_num,by omega,p,h3,I,f3,bb,aA⟩
     case measure=>simp[intOf];omega
    ·obtain⟨e,es,rfl,e1,e2,e3,R,b,off,rfl,y0,y1,y2⟩:=d.out.cons;obtain⟨f4,rfl,aG,u,O⟩:=TT aA;unfold VV at aG;rw[dD,rj]at aG;obtain⟨a1,aH⟩:=aG;obtain⟨B,a0,aW,aw,av,F,aD⟩:=fS a1;obtain⟨px,au⟩:=ex (prt S3 e)
     rw[au]at u O aH F aD;obtain⟨aC,-⟩:=TE F;have ar:=Sf a0 (dy aW) F aC (fun hk=>by
      have:=aD hk;rw[cM aC]at this;injection this with this
      exact this.symm)
     have aj:∀y∈(gV (S3 e.t) px e.m).2,∃q j:Nat,y.1=(q:Int)∧Uj t e.t q j:=fun y hy=>Pp hT (aH y hy)
     have G:P+1+f4≤4000:=by have:=ai.out;omega
     have ad:∀i,i<n→eO (BH S3 e.t (gV (S3 e.t) px e.m).1 i)∧(BH S3 e.t (gV (S3 e.t) px e.m).1 i).tp=t:=fun i hi=>by
      unfold BH;split
      ·exact⟨(I e.t B).1.recv px ⟨aw,av⟩,(lU.recv _ _ _).tp.trans (I e.t B).2⟩
      ·exact I i hi
     have aY:(gV (S3 e.t) px e.m).2.length≤100000:=by
      have h1:(kT t.ln e.t (gV (S3 e.t) px e.m).2).length=(gV (S3 e.t) px e.m).2.length:=by unfold kT;rw[dh]
      rw[cX]at u;omega
     have aT:=d.out.so x (by simp);rw[e3]at y2;obtain⟨aJ,aI,C,_⟩:=kG aT;rw[e3]at aJ aI;have RC:=fun W (hb:cI wr W)=>vg W (N3.M e.t) (S3 e.t) N3.col (e.t+1) ((h3.out.sp e.t B).below hb) (I e.t B).1 (e.l:Int) x.A _ x.c (iy e.m) (aJ.below hb) rfl aI C OC
     simp only[ar]at RC;have x3:=h3.out.bx.c 3 rfl;rw[p.out]at x3;obtain⟨b1,D,Y,z1⟩:=gE (dQ h3.out.rp) (by rw[qE];omega);have zp:=z1 e.t _ (pj B);rw[Y]at x3;replace Y:=gk Y;have aU:∀W,(Instr.slice 87 (.slice (some ⟨b,off,none⟩) (r.length+1) c) (some (.int .i64 1)) none none).run prog W= .ok (.slice (Hn 3 (some ⟨b,off,none⟩) 1 c) r.length (c - 1)) W:=fun W=>KK YB (some ⟨b,off,none⟩) (r.length+1) c 1 (by omega) W
     obtain⟨A',a4⟩:=ex (Hn 3 (some ⟨b,off,none⟩) 1 c)
     rw[a4]at aU R;obtain⟨out,U⟩:=ex ((gV (S3 e.t) px e.m).2)
     obtain⟨s',az⟩:=ex ((gV (S3 e.t) px e.m).1)
     simp only[show gV (S3 e.t) px e.m=(s',out)by rw[←U,←az]]at RC;rw[U]at u aj aY O;rw[az]at O ad;have be:=d.out.len;have bg:(r.length+1)≤4000:=by
      have:=Q.out;simp only[List.length_cons]at *;omega
     obtain⟨nb,aF⟩:=ex ((iy e.m).length)
     simp only[aF]at RC;rw[aF]at y2;replace RC:=gk RC;replace O:=gk O;replace aj:=gk aj;replace G:=gk G;replace R:=gk R;replace u:=gk u;replace ad:=gk ad;clear d aA ai aT aJ aI C ar F a0 z1 aF U az be e3 e1 e2 a4 Q I a1 aH aW aw av aD aC au;simp only[List.length_cons];have S6:=((St.start wr).nw #[(e.t:Int),(e.l:Int),.slice x.A nb x.c] 91 wr)
     have h6:=h3.out.below S6.b;have L:=R.out.below S6.b;have aO:=cW S6.b x3;have aL:=cW S6.b zp;have q0:=S6.c 0 0 rfl rfl;have q1:=S6.c 0 1 rfl rfl;have q2:=S6.c 0 2 rfl rfl;have ab:=RC.out _ (S6.b.trans cy.drew);have T6:=jk wr #[(e.t:Int),(e.l:Int),.slice x.A nb x.c] 91;have a5:=S6.box 0 rfl;unfold lh at ab;replace ab:=gk ab;replace h6:=gk h6;replace L:=gk L;go_upto_region 10 with fail;clear x3 zp y0 y1 y2 aU RC h3 R S6;generalize World.alloc wr _=w6 at *;generalize wr.heap.size=kb at *;have h7:=gk (h6.out.below (sa w6 w6).drew);have aR:=gk (L.out.below (sa w6 w6).drew);have aa:=a5.later (sa w6 w6).drew;have T7:Ty w6.drew kb 91:=T6;have aN:Cv w6.drew N.g 3 (.slice (some ⟨b1,D,none⟩) n N3.c1):=aO;have aK:Cv w6.drew b1 (D+e.t) (.pointer (some ⟨(N3.M e.t).g,0,none⟩)):=aL;clear h6 L a5 T6 aO aL q0 q1 q2;refine wp_region_noPanic ?_;refine wp_region_held_drew (S:=fun W=>Cv W N.g 3 (.slice (some ⟨b1,D,none⟩) n N3.c1)∧Cv W b1 (D+e.t) (.pointer (some ⟨(N3.M e.t).g,0,none⟩))∧Cv W kb 0 (e.t:Int)∧Cv W kb 1 (e.l:Int)∧Cv W kb 2 (.slice x.A nb x.c)) (by kernel_rfl) ⟨aN,aK,aa.c 0 rfl,aa.c 1 rfl,aa.c 2 rfl⟩ (fun X=>?_);generalize w6.drew=w7 at *;refine tF 0 29 ?_;refine tF 1 30 ?_;refine tF 2 31 ?_;refine tF 3 32 ?_;refine tF 4 33 ?_;refine tF 5 34 ?_;refine tF 6 35 ?_;refine tF 7 36 ?_;refine tF 8 37 ?_;refine tF 9 38 ?_;refine tF 10 39 ?_;refine tF 11 40 ?_;refine rF 12 (fun K hK=>?_);go_simp;(with_reducible refine ab.out.mono ?_);rintro e9 w8 ⟨v8,rfl,aV,aS⟩;dsimp only;clear ab;obtain⟨N8,n1,n2,n3,-,-,n6,h8,V8⟩:=h7.out.uy B aS;have ay:=h8.bx.c 3 rfl;rw[n1,n2,n3,p.out,Y.out]at ay;obtain⟨bi,a6,H,aM⟩:=gE (dQ h8.rp) (by rw[qE];omega);have ax:=aM e.t _ (pj B);rw[n2,Y.out]at H;injection H with H
     injection H with hb1 V
     subst hb1 V;rw[n6]at ax;have Z:=V8.yS aa T7 Eb;refine hK _ _ ⟨ay,ax,Z.c 0 rfl,Z.c 1 rfl,Z.c 2 rfl⟩ (fun X=>?_);clear hK K;refine mL (i:=13) (v:=.tuple #[v8,i0]) (some 28) rfl rfl (by kernel_rfl) (by kernel_rfl) (by kernel_rfl) (fun _ _ _ h=>h) (Or.inl ⟨by rfl,fun _ _=>rfl⟩) (by assumption) ?_
     try simp only[Act.put,eH,List.set_cons_succ,List.set_cons_zero]
     refine mL (i:=14) (v:=v8) (some 42) rfl rfl (by kernel_rfl) (by kernel_rfl) (by kernel_rfl) (fun _ _ _ h=>h) (Or.inl ⟨by rfl,fun _ _=>rfl⟩) (by assumption) ?_
     try simp only[Act.put,eH,List.set_cons_succ,List.set_cons_zero]
     refine mL (i:=15) (v:=.int .i64 0) (some 43) rfl rfl (by kernel_rfl) (by kernel_rfl) (by kernel_rfl) (fun _ _ _ h=>h) (Or.inl ⟨by rfl,fun _ _=>rfl⟩) (by assumption) ?_
     try simp only[Act.put,eH,List.set_cons_succ,List.set_cons_zero]
     refine mL (i:=16) (v:=v8) (some 9) rfl rfl (by kernel_rfl) (by kernel_rfl) (by kernel_rfl) (fun _ _ _ h=>h) (Or.inl ⟨by rfl,fun _ _=>rfl⟩) (by assumption) ?_
     try simp only[Act.put,eH,List.set_cons_succ,List.set_cons_zero]
     refine mL (i:=17) (v:=.int .i64 0) (some 10) rfl rfl (by kernel_rfl) (by kernel_rfl) (by kernel_rfl) (fun _ _ _ h=>h) (Or.inl ⟨by rfl,fun _ _=>rfl⟩) (by assumption) ?_
     try simp only[Act.put,eH,List.set_cons_succ,List.set_cons_zero]
     refine wpAnyH_done (by kernel_rfl) ?_ _;refine NoPanic.normal ?_;clear X ay ax aN aK aM n2 n3 n6;have af:=aR.out.ev V8;have E:sg N N8:=n1.trans p;have PO:=Fu h8 hT e.t v8 w7 out aV aj aY;rw[E]at PO;unfold xp at PO;have q0:=Z.c 0 rfl;have bh:P≤3999:=by have:=G.out;omega
     have aX:(kT t.ln e.t out).length≤4000:=by
      have h6:=u.out;rw[cX]at h6;omega
     replace PO:=gk PO;replace E:=gk E;replace h8:=gk h8;replace af:=gk af;clear h7 aR aa T7 aS V8 n1 Z aV p;go_wp2_with fail;(with_reducible refine PO.out.mono ?_);rintro e w9 ⟨A9,c9,s,rfl,aZ,ap,al,hb9⟩;clear PO q0;have h9:=h8.out.below hb9;have ae:=af.out.below hb9;have a8:s.length=(kT t.ln e.t out).length:=by
      have:=dU List.length al;simpa[G3,sl]using this
     have a2:s.length≤4000:=by omega
     have ao:=gk h9.b0.2;have o:=ae.ow;have aP:=dQ aZ;clear a8 aX h8 af;go_wp2_with (at_builtin;refine Dl rfl YB (.tmp 50) (.tmp 55) rfl Bn rfl o (m:=s.length) rfl (Dj s) aP (I5 s) (by simp only[maxLen];omega) (by omega) ao ?_;intro v6 w6 aE bc ak;obtain⟨A6,c6,rfl,-⟩:=aE.form);have h6:=gk (h9.Yi o ak);have L:Hid (uC w6 Bn A6 c6 (r++s) (es++kT t.ln e.t out)):=by
      refine⟨by rw[cX,uX];exact aE,fun x hx=>?_,?_⟩
      ·rcases eZ.1 hx with h7|h7
       ·exact vP o ak (ae.so x h7)
       ·exact vP o ak (ap x h7)
      ·have a:=ae.eq;unfold G3 sl at a al ⊢;rw[ez,ez,a,al]
     clear aE bc ak aP o ao a2 h9 ae hb9 al ap aZ;go_round
     case rel=>exact⟨P+1,N8,_,_,A6,c6,r++s,by rw[cX],by go_num,E,h6,L,ad,u,f4,G,O⟩
     case measure=>simp[intOf];omega
  ·have a9:k=zn:=by omega
   have ba:Yo B0 Bn w0 N t n fin (.returned (.bool true)) wr:=⟨N1,S1,rfl,T,h1,J,TX (by have:=ah.out;rwa[show zn - k=0 by omega]at this)⟩
   have e1:decide ((k:Int)< (zn:Int))=false:=by simp;omega
   clear h1 ah T a9 J a3;go_wp2_with fail;go_ret;exact ba
def jh.Xy{B0 Bn:Nat}{w0 w:World}{N:Nm}{n:Nat}{t:Tp}{S:sv}(h:jh B0 Bn w0 w N n t S)(hn:0<n):∃b off,w.cell? ⟨N.g,3,none⟩=some (.slice (some ⟨b,off,none⟩) n N.c1)∧ ∀i,i<n→w.cell? ⟨b,off+i,none⟩=some (.pointer (some ⟨(N.M i).g,0,none⟩)):=by
 obtain⟨b,off,e,hc⟩:=gE (dQ h.rp) (by rw[qE];exact hn);have x3:=h.bx.c 3 rfl;rw[e]at x3;exact⟨b,off,x3,fun i hi=>hc i _ (pj hi)⟩
def XS:Lk:=⟨0,1,3,4,1,1,0⟩
noncomputable def TF(S:sv):Bool:=Kn (S 0) 0&& (Kn (S 1) 0&& (List.range 2).all fun i=>decide (uw (S i).db 2= [false,false]∧cA (S i).db 0 XS=some 3∧cB (S i).db 0 XS=some 4∧eR (S i).db= [0,1])&& (List.zipWith kS (ku (S 0).db) (ku (S i).db)).all id)
def Zg{S:sv}(h:TF S=true)(ok:∀i,i<2→eO (S i)∧(S i).tp=pT):UX 2 pT S:=by
 simp only[TF,dD,rj,ec,fa]at h;obtain⟨_,_,h⟩:=h;refine⟨FE,rfl,by omega,fun i hi=>(ok i hi).1,fun i hi=>(ok i hi).2,fun i hi=>?_,fun i hi=>?_,fun i hi=>?_,fun i hi k x y hx hy=>?_⟩
 ·obtain⟨⟨h1,h2,h3,_⟩,_⟩:=h i hi;show(⟨2,uw (S i).db 2,[Re (S i).db 0 XS]⟩:Tp)=_
  rw[h1];unfold Re;rw[h2,h3];rfl
 ·obtain⟨⟨_,h2,h3,_⟩,_⟩:=h i hi;show [ID (S i).db 0 XS,ID (S i).db 0 XS]=_
  unfold ID;rw[h2,h3];rfl
 ·rw[(h i hi).1.2.2.2,(h 0 (by omega)).1.2.2.2]
 ·have h1:=(h i hi).2;exact h1 (kS x y) (eu (i:=k) (by rw[List.getElem?_zipWith,hx,hy]))
noncomputable def X3(S:sv):Bool:=!(Kn (S 0) 0)&&sj pT 2 TF 100 9 S []
def Oz:sj pT 2 X3 100 1 (fun i=>qI pT i 2 5 2) []=true:=by decide+kernel
def IK(w:World):Calls prog 5 #[] w fun e w'=>e= .returned (.bool true)∧cI w w':=by
 go_enter func5,ntmps5;go_wp2_with fail;refine (HV _).mono ?_;rintro e w1 ⟨rfl,m⟩;go_wp2_with fail;refine (OB _).mono ?_;rintro e w2 ⟨v,rfl,r,p⟩;have hb:=m.trans (p.mono m.size);have NB:=Ie w2 v pT 2 r FE rfl (by omega) 2 5 2 rfl;clear m p;go_wp2_with fail;refine NB.mono ?_;rintro e w3 ⟨N,wb,rfl,hN,o⟩;have n:=hb.trans (o.mono hb.size);clear NB r hb o;have R1:=gk (Cx FE (by omega) hN (fun i hi=>⟨DR FE (by show(i:Int)<2;omega) rfl,(qF _).2.2.2.2.2⟩) 1 1 rfl (by omega) 100 (by omega) Oz);clear hN;go_wp2_with fail;refine R1.out.mono ?_;rintro e w4 ⟨N4,S4,rfl,d,h,j,f⟩;clear R1;unfold X3 at f;rw[dD]at f;have u4:Kn (S4 0) 0=false:=by simpa using f.1
 obtain⟨b,off,x3,xi⟩:=h.Xy (by omega);have z0:=xi 0 (by omega);rw[fM]at z0;have U4:=qw w4 (N4.M 0) (S4 0) N4.col (0+1) (h.sp 0 (by omega)) (by have:=(j 0 (by omega)).1.pl;omega) 0;rw[u4]at U4;unfold sg at d;rw[d]at x3;have R2:=Cx FE (by omega) h j 9 9 rfl (by omega) 100 (by omega) f.2;rw[d]at R2;replace R2:=gk R2;replace U4:=gk U4;clear xi h f u4 j;go_wp2_with fail;refine U4.out.mono ?_;rintro e w5 ⟨rfl,rfl⟩;clear U4 x3 z0;go_wp2_with fail;refine R2.out.mono ?_;rintro e w6 ⟨N6,S6,rfl,k,c,g,a⟩;clear R2;obtain⟨b6,s,x3,xi⟩:=c.Xy (by omega);have z0:=xi 0 (by omega);have z1:=xi 1 (by omega);rw[fM]at z0;have l:cI w w6:=n.trans (c.bel.mono n.size);have AG:=If c (Zg a g);unfold TF at a;rw[dD,dD]at a;have U0:=qw w6 (N6.M 0) (S6 0) N6.col (0+1) (c.sp 0 (by omega)) (by have:=(g 0 (by omega)).1.pl;omega) 0;rw[a.1]at U0;have U1:=qw w6 (N6.M 1) (S6 1) N6.col (1+1) (c.sp 1 (by omega)) (by have:=(g 1 (by omega)).1.pl;omega) 0;rw[a.2.1]at U1;unfold sg at k;rw[k,d]at x3 AG;replace U0:=gk U0;replace U1:=gk U1;replace AG:=gk AG;clear xi c g a n k d;go_wp2_with fail;refine U0.out.mono ?_;rintro e w7 ⟨rfl,rfl⟩;clear U0;go_wp2_with fail;refine U1.out.mono ?_;rintro e w8 ⟨rfl,rfl⟩;clear U1;go_wp2_with fail;refine AG.out.mono ?_;rintro e w9 ⟨rfl,hb9⟩;clear AG;have q:=l.trans (hb9.mono l.size);clear x3 z0 z1 l hb9;go_wp2_with fail;go_ret;exact⟨rfl,q⟩
end Go.Proofs.YtehimhbgakpenaaGreat
