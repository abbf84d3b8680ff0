/-
  The statement SpeakerScript: for every input that can be read, the law returns true and leaves its arguments as they were. No condition.
-/
import Derived.Test.YtehimhbgakpenaaGreatat
import Derived.Test.YtehimhbgakpenaaGreatau
import Derived.Test.YtehimhbgakpenaaGreatas
set_option linter.all false
set_option maxRecDepth 100000
set_option maxHeartbeats 16000000
namespace Go.Proofs.YtehimhbgakpenaaGreat
open Go.RowKit Go.Maps Go.Sort Go.Proofs.Tryz
def Vy{t:Tp}(hT:mE t){h1 h2 h3:Int}(b:MC h1 h2 h3=true):eO { gz t 0 h1 h2 h3 with x:=(ke (gz t 0 h1 h2 h3).x (gz t 0 h1 h2 h3).md (jS (gz t 0 h1 h2 h3))).x,md:=(ke (gz t 0 h1 h2 h3).x (gz t 0 h1 h2 h3).md (jS (gz t 0 h1 h2 h3))).now }:=by
 have hn:=hT.n;have h0:=DR (i:=0) hT (by simpa using(show(0:Int)<t.n by omega)) b;have e:ke (gz t 0 h1 h2 h3).x (gz t 0 h1 h2 h3).md (jS (gz t 0 h1 h2 h3))=⟨yF 0 (yR t (0:Int).toNat),true,true,0⟩:=by
  have h2:gW (gz t 0 h1 h2 h3).ps= []:=GH fun p hp=>rG hp
  unfold jS;rw[h2];exact Jm (by omega) (by omega) _
 rw[e];have h9:=DS (t:=t) (z:=0) (by omega) (by omega) h1 h2 h3;have a:eO (qI t 0 h1 h2 h3):=h0;rw[h9]at a;exact a.TQ (N:=ML) (F:=IV) (fun o h e=>by simp[ML]at e) (fun i _=>rfl) (fun l D o h e=>by simp[IV]at e) (fun l=>rfl)
def VR{t:Tp}(hT:mE t){h1 h2 h3:Int}:(qI t 0 h1 h2 h3).tp=t∧(qI t 0 h1 h2 h3).tm=0∧ ∀l:Int,l∈(qI t 0 h1 h2 h3).ps.map (·.l)→0≤l∧l< (t.ln.length:Int):=by
 have hn:=hT.n;rw[DS (by omega) (by omega)];refine⟨rfl,rfl,fun l hl=>?_⟩
 have a:l∈(((outs t 0).map (yA t)).map G6).map (·.l):=hl;obtain⟨p,hp,rfl⟩:=dL.1 a;have h:=Fv hT 0;obtain⟨a1,x,a2,_⟩:=h.mem p (by simpa using hp);have:=(dj.1 a2).1;omega
def MV{S:Sp}{l:Int}(h:∀z:Int,z∈S.ps.map (·.l)→z≠l):Kn S l=false:=by
 unfold Kn;rw[Ao (fun i hi=>h _ (dL.2 ⟨_,di hi,rfl⟩))]
def Xn{S:Sp}(ok:eO S){k:Nat}(hk:k<S.ps.length):Kn S S.ps[k].l=(S.ps[k].ph==2):=by
 have h:jZ S.ps S.ps[k].l = some k:=An hk rfl (fun j hj e=>by
  have:=Dp ok.uq (i:=j) (j:=k) (by omega) hk e;omega)
 unfold Kn QV;rw[h];simp only[cM hk]
section
variable [Inhabited BY]
structure BW (w4 wr:World) (pg g:Nat) (m:Sm) (mr:Rm) (S S0:Sp) (col:Nat→Nat) (i:Nat):Prop where
 e:m.g=pg
 j:Bj wr g m mr S S col
 ok:eO S
 tp:S.tp=S0.tp
 ls:S.ps.map (·.l)=S0.ps.map (·.l)
 tm:S.tm≤i
 b:Below lF w4 wr
def BW.below{w4 wr w':World}{pg g:Nat}{m:Sm}{mr:Rm}{S S0:Sp}{a:Nat→Nat}{i:Nat}(h:BW w4 wr pg g m mr S S0 a i)(hb:cI wr w'):BW w4 w' pg g m mr S S0 a i:=⟨h.e,h.j.below hb,h.ok,h.tp,h.ls,h.tm,h.b.trans (hb.mono h.j.base)⟩
def DD{w W:World}{A:cG}{n:Nat}{T:TypeId}{xs:cH}(hr:Rd w A xs)(hx:0<n→0<xs.length)(hB:w≤lF):Row W A n T:=fun hn ad ha=>by
 obtain⟨a,e,hb⟩:=hr.block (hx hn);rw[ha]at e;injection e with e
 subst e;exact .inr (by omega)
def VB{w W:World}{s:Qx}(h:QG w s)(hb:cI w W)(hB:w≤lF):WS W s:=by
 have hl:=h.la;obtain⟨A9,c9,B9,d9,e9,r1,r2,r3⟩:=hl;simp only[yE,ig,eE,eS,dJ,dp,fE,fv]at e9;obtain⟨⟨rfl,rfl⟩,rfl,rfl⟩:=e9;exact⟨⟨h.la.below hb,DD r1 (by rw[lC];omega) hB,DD r2 (by rw[gn];omega) hB⟩,⟨h.rp.below hb,DD h.rp (by rw[gn];omega) hB⟩,h.lp,h.vp⟩
end
def Hz(w:World)(v:Value)(t:Tp)(ht:js w v t)(H D R:Int)(A:cG)(n c:Nat)(qs:List Qx)(hA:Rd w A (Ol qs))(hn:qs.length=n)(bj:n≤maxLen)(aJ:∀s∈qs,QG w s) :
  Calls prog 3 #[v,.agg #[H,D,R],.slice A n c] w fun e w'=>e= .returned (.bool true)∧cI w w':=by
 have aV:=ht;obtain⟨At,ct,Bt,dt,rfl,rA,rB,l1,l2⟩:=ht;have S:=((St.start w).nw #[t.n,.slice At t.ov.length ct,.slice Bt t.ln.length dt] 25 w.heap.size).nw #[H,D,R] 27 (w.heap.size+1);have TW:Hid (∀W,cI w W→js W (.agg #[t.n,.slice At t.ov.length ct,.slice Bt t.ln.length dt]) t):=fun W hb=>aV.below hb
 clear rA rB l1 l2 aV;obtain⟨ml,hm⟩:=ex t.ln.length
 obtain⟨ko,aL⟩:=ex t.ov.length
 rw[hm,aL]at S TW ⊢;change Hid _ at hm aL hn aJ;replace hA:=φ hA;go_in;go_upto_region 1 with fail;generalize World.alloc (World.alloc w _) _=w1 at *;go_wp2_with fail;(with_reducible refine(IK _).mono ?_);rintro e w2 ⟨rfl,hb⟩;replace S:=S.call hb;clear hb;obtain⟨a0,a1,a2⟩:=(S.box 1 rfl).b3;obtain⟨b0,b1,b2⟩:=(S.box 0 rfl).b3;have SM:=φ (KA w2 _ t (TW.out _ S.b) H D R);go_wp2_with fail;(with_reducible refine SM.out.mono ?_);rintro e w3 ⟨r1,rfl,aW,hb⟩;replace S:=S.call hb;clear hb SM a0 a1 a2 b0;obtain⟨a0,a1,a2⟩:=(S.box 1 rfl).b3;obtain⟨b0,b1,b2⟩:=(S.box 0 rfl).b3;rcases r1 with _|_
 ·have hb9:=S.b;clear S;go_wp2;go_ret;exact⟨rfl,hb9⟩
 obtain⟨hT,ao,ae⟩:=aW rfl;change Hid _ at ao ae;replace hT:=φ hT;clear aW;have e1:(t.n==0)=false:=by have:=hT.out.n;simp;omega
 rcases e2:decide ((30:Int)< (n:Int))with _|_
 rotate_left
 ·have hb9:=S.b;clear S;go_wp2;go_ret;exact⟨rfl,hb9⟩
 have bh:n≤30:=by have:=lr e2;omega
 have NW:=φ (Cj w3 _ t 0 H D R (TW.out _ S.b) hT.out (by have:=hT.out.n;omega) ao.out (fun _=>0) 1 (by decide) (fun _ _=>by decide));unfold WT at NW;go_wp2_with fail;(with_reducible refine NW.out.mono ?_);rintro e w4 P4;clear NW a0 a1 a2 b0;obtain⟨m,M,rfl,ay,aj,ar,-,-⟩:=P4;have SW:=φ (fun W (hb:cI w3 W)=>S.call hb);have bb:=S.b.size;replace S:=S.call ar;have b0:=(S.box 0 rfl).b3;obtain⟨a0,a1,a2⟩:=(S.box 1 rfl).b3;obtain⟨inst,U⟩:∃i:Inhabited BY,i=⟨⟨w3.heap.size,w4.heap.size⟩⟩:=⟨_,rfl⟩
 have hO:Hid (lF=w3.heap.size):=φ (by unfold lF;rw[U];rfl);have hN:Hid (gL=w4.heap.size):=φ (by unfold gL;rw[U];rfl);have bg:lF≤gL:=by rw[hO.out,hN.out];exact ar.size
 replace U:=φ U;have RN:=φ (NZ w4 _ t 0 H D R (TW.out _ S.b) hT.out (by have:=hT.out.n;omega) ae.out hN.out bg (Vy hT.out ao.out));have ag:=VR hT.out (h1:=H) (h2:=D) (h3:=R);have aF:=DR (i:=0) hT.out (by have:=hT.out.n;omega) ao.out;obtain⟨S0,aP⟩:=ex (qI t 0 H D R)
 have az:qI t ((0:Nat):Int) H D R=S0:=aP;rw[aP]at RN aj ag;rw[az]at aF;clear aP az;obtain⟨pg,ap⟩:=ex m.g
 rw[ap];replace ap:=φ ap;go_wp2_with fail;(with_reducible refine RN.out.mono ?_);rintro e w5 P5;obtain⟨g,mr,rfl,M5,aN⟩:=P5;have L0:Hid (BW w3 w5 pg g m mr S0 S0 M 0):=⟨ap.out,⟨aj.below aN,M5,⟨by rw[hN.out];exact aj.db.lt.1,by rw[hN.out];exact aj.fl.lt.1⟩,fun k hk=>by rw[ay k (by rw[←hO.out];exact hk)];decide⟩,aF,rfl,rfl,by rw[ag.2.1];simp,by rw[hO.out];exact ar.trans (aN.mono ar.size)⟩
 replace ag:=φ ag;clear RN aj M5 aN ar b0 a0 a1 a2 ay S aF;go_wp2_with fail;go_loopw [10] (fun v10 wr=>∃(i:Nat) (m:Sm) (mr:Rm) (S':Sp) (M:Nat→Nat),v10= .int .i64 i∧i≤n∧Hid (BW w3 wr pg g m mr S' S0 M i)) (fun v10 _=>n - (intOf v10).toNat)
 case atStart=>exact⟨0,m,mr,S0,M,rfl,by omega,L0⟩
 case round=>
  clear L0 ap;obtain⟨i,m,mr,Sc,M,rfl,hi,L⟩:=hrel;have hb:=L.out.b;rw[hO.out]at hb;have S:=SW.out _ hb;clear hb
  by_cases hin:i<n
  ·have aX:i<qs.length:=by rw[hn.out];exact hin
   obtain⟨s,hs⟩:=ex (qs[i])
   have qk:=aJ.out _ (di aX);rw[hs]at qk;replace hs:=φ hs;obtain⟨b,off,rfl⟩:=Si hA.out (by omega);have r:Hid (∀W,cI w W→ ∀j u,j<15→(Uv s)[j]?=some u→W.cell? ⟨b,off+i*15+j,none⟩=some u):=fun W hb j u hj hu=>Sj (hA.out.below hb) i aX s hs.out j hj hu
   have z8:Cv wr b (off+i*15+4+4) s.m.y.o:=r.out _ S.b 8 _ (by omega) rfl;have z9:Cv wr b (off+i*15+4+4+1) s.m.y.s:=r.out _ S.b 9 _ (by omega) rfl;have Kj:Cv wr b (off+i*15+4+4+2) s.m.y.a:=r.out _ S.b 10 _ (by omega) rfl;have aC:Cv wr b (off+i*15+4+4+3) (.bool s.m.y.ov):=r.out _ S.b 11 _ (by omega) rfl;have aB:Cv wr b (off+i*15+4+4+4) (.slice s.A s.m.y.adj.length s.c):=r.out _ S.b 12 _ (by omega) rfl;have aA:Cv wr b (off+i*15+4+4+5) (.slice s.B s.m.y.pre.length s.d):=r.out _ S.b 13 _ (by omega) rfl;have FW:=φ (TG wr (yE s.m.y s.A s.c s.B s.d) s.m.y (qk.la.below S.b));replace qk:=φ qk;go_wp2_with fail;(with_reducible refine FW.out.mono ?_);rintro e w6 ⟨rfl,aM⟩;clear FW z8 z9 Kj aC aB aA;replace L:=φ (L.out.below aM);replace S:=S.call aM;clear aM;have av:Cv w6 b (off+i*15+14) (.slice s.C s.pre.length s.e):=r.out _ S.b 14 _ (by omega) rfl;obtain⟨fb,aY⟩:=ex (Wq s.m.y)
   rw[aY];clear aY;rcases fb with _|_
   ·have hb9:=S.b;clear S av;go_wp2;go_ret;exact⟨rfl,hb9⟩
   rcases hq:decide ((100:Int)< (s.pre.length:Int))with _|_
   rotate_left
   ·have hb9:=S.b;clear S;go_wp2;go_ret;exact⟨rfl,hb9⟩
   have bc:s.pre.length≤100:=by have:=lr hq;omega
   go_upto_region 14 with fail;clear av hq;go_cut [89] (fun a7 wx=>a7= .bool false∧ ∃(m:Sm) (mr:Rm) (S':Sp) (M:Nat→Nat),Hid (BW w3 wx pg g m mr S' S0 M (i+1)))
   case first=>
    refine gF (S:=fun _=>True) trivial (fun f=>?_);replace L:=φ (L.out.below bd);replace S:=S.drew;generalize w6.drew=w7 at *;have q7:=VB (W:=w7) qk.out S.b (by rw[hO.out];exact bb);have ST:=Hp w7 g m mr Sc M L.out.j L.out.ok s q7 (by omega) (by have:=L.out.tm;omega);rw[L.out.e]at ST;unfold W9 at ST;replace ST:=φ ST;have z0:Cv w7 b (off+i*15) s.k:=r.out _ S.b 0 _ (by omega) rfl;have z1:Cv w7 b (off+i*15+1) s.l:=r.out _ S.b 1 _ (by omega) rfl;have z2:Cv w7 b (off+i*15+2) s.n:=r.out _ S.b 2 _ (by omega) rfl;have z3:Cv w7 b (off+i*15+3) (.bool s.on):=r.out _ S.b 3 _ (by omega) rfl;have z4:Cv w7 b (off+i*15+4) s.m.k:=r.out _ S.b 4 _ (by omega) rfl;have z5:Cv w7 b (off+i*15+5) s.m.n:=r.out _ S.b 5 _ (by omega) rfl;have z6:Cv w7 b (off+i*15+6) s.m.b:=r.out _ S.b 6 _ (by omega) rfl;have z7:Cv w7 b (off+i*15+7) s.m.h:=r.out _ S.b 7 _ (by omega) rfl;have z8:Cv w7 b (off+i*15+8) s.m.y.o:=r.out _ S.b 8 _ (by omega) rfl;have z9:Cv w7 b (off+i*15+9) s.m.y.s:=r.out _ S.b 9 _ (by omega) rfl;have Kj:Cv w7 b (off+i*15+10) s.m.y.a:=r.out _ S.b 10 _ (by omega) rfl;have aC:Cv w7 b (off+i*15+11) (.bool s.m.y.ov):=r.out _ S.b 11 _ (by omega) rfl;have aB:Cv w7 b (off+i*15+12) (.slice s.A s.m.y.adj.length s.c):=r.out _ S.b 12 _ (by omega) rfl;have aA:Cv w7 b (off+i*15+13) (.slice s.B s.m.y.pre.length s.d):=r.out _ S.b 13 _ (by omega) rfl;have av:Cv w7 b (off+i*15+14) (.slice s.C s.pre.length s.e):=r.out _ S.b 14 _ (by omega) rfl;refine tF 0 71 ?_;refine tF 1 72 ?_;refine tF 2 73 ?_;refine tF 3 74 ?_;refine tF 4 75 ?_;refine rF 5 (fun K hK=>?_);go_simp;refine hK.out _ _ trivial (fun f=>?_);clear hK K z0 z1 z2 z3 z4 z5 z6 z7 z8 z9 Kj aC aB aA av;refine rF 6 (fun K hK=>?_);go_simp;(with_reducible refine ST.out.mono ?_);rintro e w8 P8;obtain⟨rfl,m8,q,S8,I,e8,j8,aE,aT,aU,ba,b8⟩:=P8;have L8:Hid (BW w3 w8 pg g m8 q S8 S0 I (i+1)):=⟨e8.trans L.out.e,j8,aE,aT.trans L.out.tp,aU.trans L.out.ls,by have:=L.out.tm;omega,L.out.b.trans b8⟩
    have DA:=fun W (hb:cI w8 W)=>vh W m8 S8 I 1 (j8.sp.below hb) aE.db
    rw[L8.out.e]at DA;unfold re at DA;have ac:=J5 q.R;have Y:=Qz q.R;have ah:=j8.rs.KW;have ai:=j8.rs.c.pd;rw[j8.rs.p.db]at ac Y;have bk:=lg S8.db;have RA:Hid (∀W,Calls prog 13 #[.agg (fP q.R).toArray] W fun e w'=>∃A c,e= .returned (.slice A (eR S8.db).length c)∧w'.ownsRow W.heap.size 41 6 (.slice A (eR S8.db).length c) (eR S8.db).length (nr (nN q.R))∧cI W w'):=fun W=>by
     have:=Fp W q.R;rw[Y]at this;exact this
    change Hid _ at ac Y;replace DA:=φ DA;replace ah:=φ ah;replace ai:=φ ai;dsimp only;refine hK.out _ _ trivial (fun f=>?_);clear hK K ST L q7 e8 j8 aE aT aU ba b8 S;refine tF 7 78 ?_;refine tF 8 79 ?_;refine tF 9 80 ?_;refine tF 11 82 ?_;refine tF 12 83 ?_;refine tF 13 84 ?_;refine wpAnyH_ready (rs:=[10,14]) (by kernel_rfl) (by simp) ?_;refine AllReadyH.cons rfl (fun K hK=>?_) (AllReadyH.cons rfl (fun K hK=>?_) AllReadyH.nil)
    ·go_simp;(with_reducible refine(DA.out w8 cy).mono ?_);rintro e w9 ⟨A9,c9,al,rfl,o9,ab,am,b9⟩;dsimp only;have X:=ai.out.below b9;refine hK.out _ _ trivial (fun f=>?_);clear hK K;refine rF 14 (fun K hK=>?_);rw[cR (by simp[Region.wanted,yielded])];refine wp_load_mid _ (.tmp 84) rfl g 10 rfl (fP q.R) _ X.range underlying57 rfl (s9 q.R) ?_;refine hK.out _ _ trivial (fun f=>?_);clear hK K
     try simp only[Act.put,eH,List.set_cons_succ,List.set_cons_zero]
     refine rF 15 (fun K hK=>?_);go_simp;(with_reducible refine(RA.out w9).mono ?_);rintro e x ⟨aS,aR,rfl,ak,G⟩;dsimp only;refine hK.out _ _ trivial (fun f=>?_);clear hK K;have aq:al.length=(eR S8.db).length:=by
      have:=dU List.length ab;simpa[pz,ku]using this
     have SL:=φ (uO x A9 aS (eR S8.db).length c9 aR al (nN q.R) (dQ (dg o9 G)) (dQ ak) aq Y.out (by omega) (fun s hs=>(fh.below (am s hs) G).at) (J4 ((ah.out.below b9).below G)) (by rw[ab,ac.out]));refine rF 16 (fun K hK=>?_);go_simp;(with_reducible refine SL.out.mono ?_);rintro e F ⟨rfl,au⟩;dsimp only;refine hK.out _ _ trivial (fun f=>?_);clear hK K SL;have hf:Hid (BW w3 F pg g m8 q S8 S0 I (i+1)):=φ (((L8.out.below b9).below G).below au);refine tF 17 88 ?_;refine tF 18 89 ?_;refine dF ?_;clear o9 ab am b9 ak G aq au DA RA ac Y ah ai X L8;go_wp2;go_meet;exact⟨rfl,_,_,_,_,hf⟩
    ·have X:=ai.out;rw[cR (by simp[Region.wanted,yielded])];refine wp_load_mid _ (.tmp 84) rfl g 10 rfl (fP q.R) _ X.range underlying57 rfl (s9 q.R) ?_;refine hK.out _ _ trivial (fun f=>?_);clear hK K
     try simp only[Act.put,eH,List.set_cons_succ,List.set_cons_zero]
     refine rF 10 (fun K hK=>?_);go_simp;(with_reducible refine(DA.out w8 cy).mono ?_);rintro e w9 ⟨A9,c9,al,rfl,o9,ab,am,b9⟩;dsimp only;refine hK.out _ _ trivial (fun f=>?_);clear hK K;refine rF 15 (fun K hK=>?_);go_simp;(with_reducible refine(RA.out w9).mono ?_);rintro e x ⟨aS,aR,rfl,ak,G⟩;dsimp only;refine hK.out _ _ trivial (fun f=>?_);clear hK K;have aq:al.length=(eR S8.db).length:=by
      have:=dU List.length ab;simpa[pz,ku]using this
     have SL:=φ (uO x A9 aS (eR S8.db).length c9 aR al (nN q.R) (dQ (dg o9 G)) (dQ ak) aq Y.out (by omega) (fun s hs=>(fh.below (am s hs) G).at) (J4 ((ah.out.below b9).below G)) (by rw[ab,ac.out]));refine rF 16 (fun K hK=>?_);go_simp;(with_reducible refine SL.out.mono ?_);rintro e F ⟨rfl,au⟩;dsimp only;refine hK.out _ _ trivial (fun f=>?_);clear hK K SL;have hf:Hid (BW w3 F pg g m8 q S8 S0 I (i+1)):=φ (((L8.out.below b9).below G).below au);refine tF 17 88 ?_;refine tF 18 89 ?_;refine dF ?_;clear o9 ab am b9 ak G aq au DA RA ac Y ah ai X L8;go_wp2;go_meet;exact⟨rfl,_,_,_,_,hf⟩
   case rest=>
    clear L S qk r bc;obtain⟨rfl,m8,q,S8,I,L8⟩:=hcut;have aH:S8.tp=t:=L8.out.tp.trans ag.out.1;have SV:=zw wc m8 S8 I 1 L8.out.j.sp L8.out.ok;rw[L8.out.e]at SV;unfold xZ at SV;simp only[aH,hm.out]at SV;replace aH:=φ aH;replace SV:=φ SV;obtain⟨N,aw⟩:=ex S8.db
    rw[aw]at SV;replace aw:=φ aw;go_wp2_with fail;(with_reducible refine SV.out.mono ?_);rintro e w9 ⟨vu,Du,cu,rfl,tu,rD,b9⟩;clear SV;obtain⟨Au,aQ,Bu,du,rfl,aI⟩:=id tu;clear aI;have bn:=cQ w9 (.cells #[.int .i64 (jx N t).n,.slice Au (jx N t).ov.length aQ,.slice Bu (jx N t).ln.length du] 25);have bu:fq (w9.alloc (.cells #[.int .i64 (jx N t).n,.slice Au (jx N t).ov.length aQ,.slice Bu (jx N t).ln.length du] 25)) w9.heap.size [.int .i64 (jx N t).n,.slice Au (jx N t).ov.length aQ,.slice Bu (jx N t).ln.length du]:=fq.iE w9 _ _ _ _ rfl rfl;have L9:=φ ((L8.out.below b9).below bn);replace tu:=φ (tu.below bn);replace rD:=φ (rD.below bn);clear b9 bn L8;go_upto_region 17 with fail;generalize World.alloc w9 _=x at *;generalize w9.heap.size=gu at *;replace bu:=φ bu;go_cut [13,14] (fun a9 a8 wx=>∃(kb:Nat) (Ar:cG) (cr:Nat) (Br:cG) (dr:Nat) (E:cG) (cE:Nat),a9= pt kb∧a8= .slice E (2*ml) cE∧Hid (fq wx kb [.int .i64 (jx N t).n,.slice Ar (jx N t).ov.length cr,.slice Br (jx N t).ln.length dr])∧Hid (js wx (EA (jx N t).n Ar (jx N t).ov.length cr Br (jx N t).ln.length dr) (jx N t))∧Hid (Rd wx E (iw (qb N 0 t.ln)))∧Hid (cI x wx))
    case first=>
     refine wp_region_noPanic ?_;have G:cI x x.drew:=bd;have Z:=L9.out.below G;have aO:=Z.b;rw[hO.out]at aO;have SS:=SW.out _ aO;refine wp_region_held_drew (S:=fun W=>W.rangeAt g 10 (fP q.R)∧Cv W w.heap.size 0 t.n∧Cv W w.heap.size 1 (.slice At ko ct)∧Cv W w.heap.size 2 (.slice Bt ml dt)) (by kernel_rfl) ⟨Z.j.rs.c.pd.range,SS.c 1 0 rfl rfl,SS.c 1 1 rfl rfl,SS.c 1 2 rfl rfl⟩ (fun f=>?_);have hS:Hid (∀W,Below x.drew.heap.size x.drew W→(W.rangeAt g 10 (fP q.R)∧Cv W w.heap.size 0 t.n∧Cv W w.heap.size 1 (.slice At ko ct)∧Cv W w.heap.size 2 (.slice Bt ml dt))):=fun W hb=>by
      have S9:=SS.call hb;exact⟨(Z.j.rs.c.pd.below hb).range,S9.c 1 0 rfl rfl,S9.c 1 1 rfl rfl,S9.c 1 2 rfl rfl⟩
     have RV:=fun W (hb:Below x.drew.heap.size x.drew W)=>KI W q.R (Z.j.rs.below hb).KW (by rw[Z.j.rs.p.db];exact Z.ok.db) _ t (TW.out W (SS.b.trans (hb.mono SS.b.size))) hT.out
     unfold ur at RV;have aZ:fx q.R=N:=by rw[Z.j.rs.p.db];exact aw.out
     simp only[aZ,hm.out]at RV;replace RV:=φ RV;clear aZ aO;replace SS:=φ SS;have J:Hid (∀W,Below x.drew.heap.size x.drew W→cI x W):=fun W hb=>G.trans hb
     clear G Z;generalize x.drew=F at *;refine tF 0 96 ?_;refine tF 1 97 ?_;refine tF 2 98 ?_;refine tF 3 99 ?_ (hy:=yieldsIf_load_mid (by simp[Region.wanted]) _ (.tmp 98) rfl g 10 rfl (fP q.R) _ (fun w hw=>hw.1) underlying57 rfl (s9 q.R));refine tF 4 100 ?_;refine wpAnyH_ready (rs:=[5,9]) (by kernel_rfl) (by simp) ?_;refine AllReadyH.cons rfl (fun K hK=>?_) (AllReadyH.cons rfl (fun K hK=>?_) AllReadyH.nil)
     ·go_simp;(with_reducible refine(RV.out F cy).mono ?_);rintro e Q ⟨vr,E,cE,rfl,tr,rE,O⟩;dsimp only;obtain⟨Ar,cr,Br,dr,rfl,q1,q2,q3⟩:=tr;refine hK.out _ _ (hS.out _ O) (fun f=>?_);clear hK K;have bz:=cQ Q (.cells #[i0,sn,sn] 25);have kz:fq (Q.alloc (.cells #[i0,sn,sn] 25)) Q.heap.size [i0,sn,sn]:=fq.iE Q _ _ _ _ rfl rfl;have hh:=ib Q (.cells #[i0,sn,sn] 25);have hB:=O.trans (bz.mono O.size);have T:=O.size;replace q1:=q1.below bz;replace q2:=q2.below bz;replace rE:=rE.below bz;refine tF 6 95 ?_;refine tF 7 102 ?_;refine tF 8 103 ?_;refine rF 9 (fun K hK=>?_);go_simp;refine hK.out _ _ (hS.out _ hB) (fun f=>?_);clear hK K bz O;generalize World.alloc Q _=aa at *;generalize Q.heap.size=kb at *;obtain⟨x0,x1,x2⟩:=kz.b3;obtain⟨y0,y1,y2⟩:=kz.f3;have ad:=((hB.setCell (p:=⟨kb,0,none⟩) T (.int .i64 (jx N t).n)).setCell (p:=⟨kb,1,none⟩) T (.slice Ar (jx N t).ov.length cr)).setCell (p:=⟨kb,2,none⟩) T (.slice Br (jx N t).ln.length dr);have kf:Hid (fq (((aa.setCell ⟨kb,0,none⟩ (.int .i64 (jx N t).n)).setCell ⟨kb,1,none⟩ (.slice Ar (jx N t).ov.length cr)).setCell ⟨kb,2,none⟩ (.slice Br (jx N t).ln.length dr)) kb [.int .i64 (jx N t).n,.slice Ar (jx N t).ov.length cr,.slice Br (jx N t).ln.length dr]):=φ (((kz.set 0 (.int .i64 (jx N t).n) (by simp)).set 1 (.slice Ar (jx N t).ov.length cr) (by simp)).set 2 (.slice Br (jx N t).ln.length dr) (by simp));have tf:Hid (js (((aa.setCell ⟨kb,0,none⟩ (.int .i64 (jx N t).n)).setCell ⟨kb,1,none⟩ (.slice Ar (jx N t).ov.length cr)).setCell ⟨kb,2,none⟩ (.slice Br (jx N t).ln.length dr)) (EA (jx N t).n Ar (jx N t).ov.length cr Br (jx N t).ln.length dr) (jx N t)):=⟨Ar,cr,Br,dr,rfl,lA q1 (pC q1 hh) _ _ _,lA q2 (wL q2 hh) _ _ _,q3⟩
      have ef:Hid (Rd (((aa.setCell ⟨kb,0,none⟩ (.int .i64 (jx N t).n)).setCell ⟨kb,1,none⟩ (.slice Ar (jx N t).ov.length cr)).setCell ⟨kb,2,none⟩ (.slice Br (jx N t).ln.length dr)) E (iw (qb N 0 t.ln))):=lA rE (pC rE hh) _ _ _;have V:=φ (J.out _ ad);clear q1 q2 q3 rE hh;refine rF 10 (fun K hK=>?_);go_simp;refine hK.out _ _ (hS.out _ ad) (fun f=>?_);clear hK K x0 y0 kz hB ad;refine tF 11 14 ?_;refine dF ?_;clear RV hS SS J T;go_wp2;go_meet;exact⟨kb,Ar,cr,Br,dr,E,cE,rfl,rfl,kf,tf,ef,V⟩
     ·go_simp;have bz:=cQ F (.cells #[i0,sn,sn] 25);have kz:fq (F.alloc (.cells #[i0,sn,sn] 25)) F.heap.size [i0,sn,sn]:=fq.iE F _ _ _ _ rfl rfl;have hh:=ib F (.cells #[i0,sn,sn] 25);have aK:F.heap.size< (F.alloc (.cells #[i0,sn,sn] 25)).heap.size:=by simp
      refine hK.out _ _ (hS.out _ bz) (fun f=>?_);clear hK K;obtain⟨kb,af⟩:=ex F.heap.size
      have T:F.heap.size≤kb:=Nat.le_of_eq af;rw[af]at kz hh aK;rw[af];clear af;generalize World.alloc F _=Q at *;refine rF 5 (fun K hK=>?_);go_simp;(with_reducible refine(RV.out Q bz).mono ?_);rintro e aa ⟨vr,E,cE,rfl,tr,rE,O⟩;dsimp only;obtain⟨Ar,cr,Br,dr,rfl,q1,q2,q3⟩:=tr;have hB:=bz.trans (O.mono bz.size);refine hK.out _ _ (hS.out _ hB) (fun f=>?_);clear hK K;replace kz:=kz.later O;replace hh:=(O.block kb aK).trans hh;clear bz O aK;refine tF 6 95 ?_;refine tF 7 102 ?_;refine tF 8 103 ?_;have x0:=kz.b3;have y0:=kz.f3;have ad:=((hB.setCell (p:=⟨kb,0,none⟩) T (.int .i64 (jx N t).n)).setCell (p:=⟨kb,1,none⟩) T (.slice Ar (jx N t).ov.length cr)).setCell (p:=⟨kb,2,none⟩) T (.slice Br (jx N t).ln.length dr);have kf:Hid (fq (((aa.setCell ⟨kb,0,none⟩ (.int .i64 (jx N t).n)).setCell ⟨kb,1,none⟩ (.slice Ar (jx N t).ov.length cr)).setCell ⟨kb,2,none⟩ (.slice Br (jx N t).ln.length dr)) kb [.int .i64 (jx N t).n,.slice Ar (jx N t).ov.length cr,.slice Br (jx N t).ln.length dr]):=φ (((kz.set 0 (.int .i64 (jx N t).n) (by simp)).set 1 (.slice Ar (jx N t).ov.length cr) (by simp)).set 2 (.slice Br (jx N t).ln.length dr) (by simp));have tf:Hid (js (((aa.setCell ⟨kb,0,none⟩ (.int .i64 (jx N t).n)).setCell ⟨kb,1,none⟩ (.slice Ar (jx N t).ov.length cr)).setCell ⟨kb,2,none⟩ (.slice Br (jx N t).ln.length dr)) (EA (jx N t).n Ar (jx N t).ov.length cr Br (jx N t).ln.length dr) (jx N t)):=⟨Ar,cr,Br,dr,rfl,lA q1 (pC q1 hh) _ _ _,lA q2 (wL q2 hh) _ _ _,q3⟩
      have ef:Hid (Rd (((aa.setCell ⟨kb,0,none⟩ (.int .i64 (jx N t).n)).setCell ⟨kb,1,none⟩ (.slice Ar (jx N t).ov.length cr)).setCell ⟨kb,2,none⟩ (.slice Br (jx N t).ln.length dr)) E (iw (qb N 0 t.ln))):=lA rE (pC rE hh) _ _ _;have V:=φ (J.out _ ad);clear q1 q2 q3 rE hh;refine rF 10 (fun K hK=>?_);go_simp;refine hK.out _ _ (hS.out _ ad) (fun f=>?_);clear hK K x0 y0 kz hB ad;refine tF 11 14 ?_;refine dF ?_;clear RV hS SS J T;go_wp2;go_meet;exact⟨kb,Ar,cr,Br,dr,E,cE,rfl,rfl,kf,tf,ef,V⟩
    case rest=>
     obtain⟨kb,Ar,cr,Br,dr,E,cE,rfl,rfl,kf,tf,ef,V⟩:=hcut;have a6:=φ (L9.out.below V.out);have a3:=bu.out.later V.out;have ax:2*ml≤1000000:=by have:=ae.out;rw[hm.out]at this;omega
     have SV:=φ (uN wc _ _ (jx N t) Du E (2*ml) cu cE (qb N 0 t.ln) (tu.out.below V.out) tf.out (rD.out.below V.out) ef.out (by rw[Dn,hm.out]) ax);have u0:=a3.b3;have k0:=kf.out.b3;clear L9 a3 bu tu rD kf tf ef V ax;go_wp2_with fail;(with_reducible refine SV.out.mono ?_);rintro e bi ⟨rfl,a4⟩;have a5:=φ (a6.out.below a4);clear SV a4 a6 u0 k0;go_wp2_with fail;go_loopw [15] (fun aD wr=>∃k:Nat,aD= .int .i64 k∧k≤S8.ps.length∧Hid (BW w3 wr pg g m8 q S8 S0 I (i+1))) (fun aD _=>S8.ps.length - (intOf aD).toNat)
     case atStart=>exact⟨0,rfl,by omega,a5⟩
     case round=>
      clear a5;obtain⟨k,rfl,hk,L⟩:=hrel;have c9:Cv wr g 9 (.slice q.P S8.ps.length q.cp):=L.out.j.rs.c0 9 rfl;have be:=L.out.j.rs.p.pl
      by_cases hkn:k<S8.ps.length
      ·obtain⟨gp,hP⟩:=L.out.j.rs.gp (by omega);have C:=L.out.j.rs.VK hP hkn;have aG:=Xn L.out.ok hkn;obtain⟨p,hp⟩:=ex (S8.ps[k])
       rw[hp]at C aG;have c0:=C.c0;have c4:=C.c4;rw[hP]at c9;have UP:Hid (∀n,Calls prog 17 #[pt pg,p.l] (wr.drewN n) fun e w'=>e= .returned (.bool (p.ph==2))∧wr.drewN n=w'):=fun n=>by
        have:=qw (wr.drewN n) m8 S8 I 1 (L.out.j.sp.below (JZ n)) (by have:=L.out.ok.pl;omega) p.l;rw[L.out.e,aG]at this;exact this
       clear C hP hp aG;obtain⟨pb,bf⟩:=ex (p.ph==2)
       rw[bf]at UP;have e1:(pb !=pb)=false:=by simp
       go_upto_region 23 with fail;go_quiet ((go_at_call 17;exact vm (UP.out _)));have hL:=φ (L.out.below (JZ nq));clear L c9 c0 c4 UP;go_wp2;go_round
       case rel=>exact⟨k+1,by go_num,by omega,hL⟩
       case measure=>simp[intOf];omega
      ·have e1:decide ((k:Int)< (S8.ps.length:Int))=false:=by simp;omega
       go_wp2;go_round
       case rel=>exact⟨i+1,m8,q,S8,I,by go_num,by omega,L⟩
       case measure=>simp[intOf];omega
  ·have e1:decide ((i:Int)< (n:Int))=false:=by simp;omega
   have hl:∀z:Int,z∈Sc.ps.map (·.l)→0≤z∧z< (t.ln.length:Int):=fun z hz=>ag.out.2.2 z (by rw[←L.out.ls];exact hz)
   have U1:=qw wr m Sc M 1 L.out.j.sp (by have:=L.out.ok.pl;omega) (-1);have U2:=qw wr m Sc M 1 L.out.j.sp (by have:=L.out.ok.pl;omega) (ml:Int);rw[L.out.e,MV (fun z hz=>by have:=hl z hz;omega)]at U1;rw[L.out.e,MV (fun z hz=>by have:=hl z hz;rw[hm.out]at this;omega)]at U2;replace U1:=φ U1;replace U2:=φ U2;have a2:=S.c 1 2 rfl rfl;have hb9:=S.b;clear S hl L;go_wp2_with fail;(with_reducible refine U1.out.mono ?_);rintro e w6 ⟨rfl,rfl⟩;go_wp2_with fail;(with_reducible refine U2.out.mono ?_);rintro e w6 ⟨rfl,rfl⟩;clear U1 U2 a2;go_wp2;go_ret;exact⟨rfl,hb9⟩
end Go.Proofs.YtehimhbgakpenaaGreat
namespace Go.Proofs.YtehimhbgakpenaaGreat.speakerScript
open Go.ChangeShapes Go.WideShapes Go.ChangeAt Go.RowKit Go.Proofs.Tryz
theorem lifted(os:Os)(started:os.Started)(H:Type)(enc:TypeId× Value→H) :
  ReturnsInHanded {} checked os 3 .any (Rows.speakerScriptSpec.pre6 enc prog Tryz.f3 Rows.speakerScriptRow.domain false) (Rows.speakerScriptSpec.post enc prog Tryz.f3 false true false false):=by
 refine returnsInHanded_of_change (C:=checked) LQ started (by kernel_rfl) func3
  (ChangeSpec.witness6 (enc:=enc) (C:=checked) false ⟨#[],#[.agg #[.int .i64 0,.slice none 0 0,.slice none 0 0],.agg #[.int .i64 0,.int .i64 0,.int .i64 0],.slice none 0 0],[]⟩ 8 (by kernel_rfl) (by kernel_rfl) (by kernel_rfl) (by kernel_rfl)) ?_
 intro W base args ds gs before hval0 hW hcnd _;have hval:∀(j:Nat) t v,Tryz.f3.params[j]?=some t→args[j]?=some v→Value.okWide prog W .any base t v:=hval0;have hW':=hW;obtain⟨p,q,hA0,hV,rfl,hfz,hnd⟩:=hW;have hA:DataW.TrodAll enc prog W 0 (fun _=>true) true Tryz.f3.params.toList args.toList ds p:=hA0;rw[Tryz.params3]at hA hval;obtain⟨v0,vs0,d0,ds0,p0',q0',hargs,rfl,rfl,h0,r0⟩:=trodAll_cons hA;obtain⟨v1,vs1,d1,ds1,p1',q1',rfl,rfl,rfl,h1,r1⟩:=trodAll_cons r0;obtain⟨v2,vs2,d2,ds2,p2',q2',rfl,rfl,rfl,h2,r2⟩:=trodAll_cons r1;obtain⟨rfl,rfl,rfl⟩:=trodAll_nil r2;obtain rfl:args= #[v0,v1,v2]:=by cases args;simp_all
 obtain⟨rfl,rfl⟩:=trodVars_none hV;have k0:=h0;have lt0:∀x∈p0',x.block<W.heap.size:=by obtain⟨m,hm⟩:=k0;exact DataW.trod_lt m _ _ _ hm
 have k1:=h1;have lt1:∀x∈p1',x.block<W.heap.size:=by obtain⟨m,hm⟩:=k1;exact DataW.trod_lt m _ _ _ hm
 have k2:=h2;have lt2:∀x∈p2',x.block<W.heap.size:=by obtain⟨m,hm⟩:=k2;exact DataW.trod_lt m _ _ _ hm
 obtain⟨x0,hx0⟩:=WG (hval 0 25 v0 rfl rfl) h0;obtain⟨x1,y1,u1,rfl⟩:=WH (hval 1 27 v1 rfl rfl) h1;obtain⟨A2,n2,c2,l2,rfl,ha2,hn2,hm2,hk2⟩:=WJ (hval 2 28 v2 rfl rfl) h2;clear hA0 hval0;refine(Hz W v0 x0 hx0 x1 y1 u1 A2 n2 c2 l2 ha2 hn2 hm2 hk2).mono fun e W' ⟨he,bel⟩=>?_
 subst he;exact⟨_,rfl,_,_,_,[],_,[],hW',trodAll_mk1 (shut_bool underlying4 _),(trodAll_cons_mk (Below.trod qh (by kernel_rfl) (of_decide_eq_true (by kernel_rfl)) k0 bel lt0) (trodAll_cons_mk (Below.trod qh (by kernel_rfl) (of_decide_eq_true (by kernel_rfl)) k1 bel lt1) (trodAll_cons_mk (Below.trod qh (by kernel_rfl) (of_decide_eq_true (by kernel_rfl)) k2 bel lt2) trodAll_mk0))),rfl,bel.frame _,fun h=>by cases h⟩
theorem over:Rows.speakerScriptRow.holds Tryz.pinned (OpenSpec.ofChange Rows.speakerScriptSpec) :=
 OpenClaim.holds_of_wide 3 Tryz.f3 rfl rfl rfl rfl rfl rfl rfl ⟨rfl,rfl,rfl,rfl,rfl⟩ rfl rfl rfl rfl rfl (by kernel_rfl) func3 (by kernel_rfl)
  (of_decide_eq_true (by kernel_rfl)) (by unfold Func.isWrapper;first|(rw[if_pos (by decide+kernel)];kernel_rfl)|(rw[if_neg (by decide+kernel)];exact⟨rfl,rfl⟩))
  (fun os started H enc _=>lifted os started H enc)
theorem proved:Rows.SpeakerScriptSaid:=over
#print axioms proved
end Go.Proofs.YtehimhbgakpenaaGreat.speakerScript
