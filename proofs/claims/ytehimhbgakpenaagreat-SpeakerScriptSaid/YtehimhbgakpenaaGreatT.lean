/- Lemmas. -/
import Derived.Test.YtehimhbgakpenaaGreatL
set_option linter.all false
set_option maxRecDepth 100000
set_option maxHeartbeats 16000000
namespace Go.Proofs.YtehimhbgakpenaaGreat.Fd
open Go.RowKit Go.Maps Go.Sort
def Be{w:World}{base:Nat}{v:Value}{x:La}(h:fh w base v x):∃A c B d,v=ig x.o x.s x.a x.ov A x.adj.length c B x.pre.length d∧Hid (∀W',cI w W'→sD W' x A c B d):=by
 have ha:=h.at;obtain⟨A,c,B,d,rfl,o1,o2,_⟩:=h;exact⟨A,c,B,d,rfl,fun W' hb=>⟨ha.below hb,(rH o1).below hb,(rH o2).below hb⟩⟩
noncomputable def zQ(D:Db)(a:La):Bool:=match D a.o.toNat with|some h=>decide (0<kO a h.x)|none=>true
noncomputable def mu(D:Db)(a:La):Db:=if zQ D a=true then fun i=>if i=a.o.toNat then some ⟨a,0⟩else D i else D
def xq.put{w w1 w':World}{k:Nat}{D:Db}{M:Int→Option Value}(hm:dV 64 w k M)(he:∀o:Nat,o<64→iu w1 (M (o:Int)) (D o))(hq:Kq w1 w')(q:Nat)(b:q<64)(v:Option Value)(h:Option Hd)(hv:iu w' v h)
  (a:dV 64 w' k (fun j=>if j=(q:Int)then v else M j)):xq w' k (fun i=>if i=q then h else D i):=by
 refine⟨_,a,fun i hi=>?_⟩
 by_cases e:i=q
 ·subst e;simp only[gy];exact hv
 ·have e':¬(i:Int)=(q:Int):=by omega
  simp only[cN e,cN e'];exact hq.el (he i hi)
def uu(w:World)(g b:Nat)(iv:Int)(N':Fn)(f:Nat→Nat)(k:Nat)(e:Ending)(w':World):Prop:=e= .returned (.tuple #[])∧fR w' g b iv N' f∧w.grownBy w' (some k)
noncomputable def eY(N:Fn)(i:Nat)(D:Db):Fn:=fun j=>if j=i then some D else N j
def te(w:World)(g b:Nat)(iv:Int)(N:Fn)(f:Nat→Nat)(h:fR w g b iv N f)(lk:Nat)(hl:lk<256)(D:Db)(hD:N lk=some D)(v:Value)(a:La)(hv:eU w v a)(X:dS a) :
  Calls Tryz.prog 148 #[.pointer (some ⟨g,0,none⟩),.int .i64 (lk:Int),v] w (uu w g b iv (eY N lk (mu D a)) f (f lk)):=by
 obtain⟨A,c,B,d,rfl,R⟩:=hv.opened;clear hv;have S:=(St.start w).nw #[.int .i64 a.o,.int .i64 a.s,.int .i64 a.a,.bool a.ov,.slice A a.adj.length c,.slice B a.pre.length d] 41 w.heap.size;have hs:(N lk).isSome=true:=by rw[hD];rfl
 have ho:=X.1;have am:=X.2.2.2.1;have al:=X.2.2.2.2.1;obtain⟨k,hk⟩:=de ho.1;obtain⟨M,hm,he⟩:=h.el lk hl D hD;have m:=he k (by omega);have C:=fun W hb=>py 178 (.inr rfl) W _ a (R.below hb) (by omega) (by omega)
 replace C:=φ C;replace hk:Hid (a.o=(k:Int)):=hk;have ac:(Lit.int .i64 a.o).wf=true:=lW ho.1 (by omega);have V:(Lit.int .i64 (lk:Int)).wf=true:=lW (by omega) (by omega);have ae:(sF N f (lk:Int)).getD (.map none)= .map (some (f lk)):=by rw[rK hl,hD];rfl
 have F:Hid (∀w',cI w w'→zQ D a=false→uu w g b iv (eY N lk (mu D a)) f (f lk) (.returned (.tuple #[])) w'):=fun w' hb ho=>by
  have e:eY N lk (mu D a)=N:=by
   unfold eY mu;rw[ho,cN (by simp)]
   funext j
   by_cases e:j=lk
   ·subst e;rw[cR rfl,hD]
   ·rw[cN e]
  rw[e];exact⟨rfl,h.below hb,ij hb _⟩
 have H:Hid (∀wa w',cI w wa→zQ D a=true→ ∀v,iu w' (some v) (some ⟨a,0⟩)→dV 64 w' (f lk) (fun j=>if j=a.o then some v else M j)→wa.grownBy w' (some (f lk))→uu w g b iv (eY N lk (mu D a)) f (f lk) (.returned (.tuple #[])) w'):=fun wa w' hb ho v hv af hg=>by
  have ag:=(ij hb (some (f lk))).trans hg;refine⟨rfl,?_,ag⟩
  have hq:=(Kq.qH hb).trans (Kq.of_map (hm.below hb) hg);rw[hk.out]at af;have aj:=xq.put hm he hq k (by have:=hk.out;omega) (some v) (some ⟨a,0⟩) hv af;have e:eY N lk (mu D a)=fun j=>if j=lk then some (fun i=>if i=k then some ⟨a,0⟩else D i)else N j:=by
   unfold eY mu;rw[ho,cR rfl,hk.out,cU]
  rw[e];exact h.uy hl hs aj ag
 have n:=h.nb;have O:=h.c1;have U:=h.ne lk hl hs;have hS:Hid (∀W,fq W w.heap.size [.int .i64 a.o,.int .i64 a.s,.int .i64 a.a,.bool a.ov,.slice A a.adj.length c,.slice B a.pre.length d]→W.cell? ⟨g,1,none⟩=some (.map (some b))→dV 256 W b (sF N f)→W.cell? ⟨w.heap.size,0,none⟩=some (.int .i64 a.o)∧W.cell? ⟨w.heap.size,1,none⟩=some (.int .i64 a.s)∧W.cell? ⟨w.heap.size,2,none⟩=some (.int .i64 a.a)∧W.cell? ⟨w.heap.size,3,none⟩=some (.bool a.ov)∧W.cell? ⟨w.heap.size,4,none⟩=some (.slice A a.adj.length c)∧W.cell? ⟨w.heap.size,5,none⟩=some (.slice B a.pre.length d)∧W.cell? ⟨g,1,none⟩=some (.map (some b))∧(Instr.lookup 160 (.map (some b)) (.int .i64 (lk:Int)) false).run Tryz.prog W= .ok (.map (some (f lk))) W):=fun W hb hc hn=>⟨hb.c 0 rfl,hb.c 1 rfl,hb.c 2 rfl,hb.c 3 rfl,hb.c 4 rfl,hb.c 5 rfl,hc,by have:=hn.mM G7 V;rwa[ae]at this⟩
 generalize r:(M a.o).getD JP=u at *;generalize t:(M a.o).isSome=ok at *;go_in;go_upto_region 1 with fail;generalize World.alloc w _=w1 at *;have Y:=hm.below S.b;have K:=n.below S.b;have O:=cW S.b O;have b2:=cQ w1 (.cells #[.int .i64 0,.int .i64 0,.int .i64 0,.bool false,.slice none 0 0,.slice none 0 0,.int .i64 0] 231);have L1:=(Y.drew).lE Oy ac;have L2:=(Y.below b2).drew.lE Oy ac;have K1:=(K.drew).mM G7 V;have K2:=(K.below b2).drew.mM G7 V;rw[ae]at K1 K2;have T:=S.drew;have T2:=(S.alloc (.cells #[.int .i64 0,.int .i64 0,.int .i64 0,.bool false,.slice none 0 0,.slice none 0 0,.int .i64 0] 231)).drew;have c1:w1.drew.cell? ⟨g,1,none⟩=some (.map (some b)):=O;have c2:(w1.alloc (.cells #[.int .i64 0,.int .i64 0,.int .i64 0,.bool false,.slice none 0 0,.slice none 0 0,.int .i64 0] 231)).drew.cell? ⟨g,1,none⟩=some (.map (some b)):=(by have:=cW b2 O;exact this)
 rw[r,t]at L1 L2;have hu:∃u0 u1 u2 u3 A9 n9 c9 B9 m9 d9 u6,u= .agg #[.int .i64 u0,.int .i64 u1,.int .i64 u2,.bool u3,.slice A9 n9 c9,.slice B9 m9 d9,.int .i64 u6]:=by
  rw[←r];cases hM:M a.o with
  |none=>exact⟨_,_,_,_,_,_,_,_,_,_,_,rfl⟩
  |some vv=>
    rw[←hk.out,hM]at m;cases hN:D k with
    |none=>rw[hN]at m;exact m.elim
    |some hh=>
      rw[hN]at m;obtain⟨A9,c9,B9,d9,rfl,_⟩:=m;exact⟨_,_,_,_,_,_,_,_,_,_,_,rfl⟩
 obtain⟨u0,u1,u2,u3,A9,n9,c9,B9,m9,d9,u6,rfl⟩:=hu;replace r:=φ r;replace t:=φ t;replace K:=φ K;obtain⟨a0,a1,a2,a3,a4,a5⟩:=(T.box 0 rfl).b6;obtain⟨r0,r1,r2,r3,r4,r5⟩:=(T2.box 0 rfl).b6;go_cut [6,7] (fun v6 v7 wx=>v6= .pointer (some ⟨w1.heap.size,0,none⟩)∧v7= .bool ok∧wx=(w1.alloc (.cells #[.int .i64 u0,.int .i64 u1,.int .i64 u2,.bool u3,.slice A9 n9 c9,.slice B9 m9 d9,.int .i64 u6] 231)).drew)
 case first=>
  go_region_law (fail)
  all_goals
   go_wp2;go_meet;exact⟨rfl,rfl,rfl⟩
 case rest=>
  obtain⟨rfl,rfl,rfl⟩:=hcut;clear a0 a1 a2 a3 a4 a5;clear r0 r1 r2 r3 r4 r5;clear T T2 L1 L2 K1 K2 c1 c2 b2;have b3:=cQ w1 (.cells #[.int .i64 u0,.int .i64 u1,.int .i64 u2,.bool u3,.slice A9 n9 c9,.slice B9 m9 d9,.int .i64 u6] 231);have S2:=(S.nw #[.int .i64 u0,.int .i64 u1,.int .i64 u2,.bool u3,.slice A9 n9 c9,.slice B9 m9 d9,.int .i64 u6] 231 w1.heap.size).drew;have ao:=(Y.below b3).drew;have c2:(w1.alloc (.cells #[.int .i64 u0,.int .i64 u1,.int .i64 u2,.bool u3,.slice A9 n9 c9,.slice B9 m9 d9,.int .i64 u6] 231)).drew.cell? ⟨g,1,none⟩=some (.map (some b)):=(by have:=cW b3 O;exact this)
  clear S b3 K;generalize (w1.alloc _).drew=w2 at *;generalize w1.heap.size=g2 at *;cases ok with
  |false=>
    have ah:D k=none:=by
     have ak:M a.o=none:=by have:=t.out;simpa using this
     rw[←hk.out,ak]at m;cases hN:D k with
     |none=>rfl
     |some hh=>rw[hN]at m;exact m.elim
    have J:Hid (zQ D a=true):=by show _=_;unfold zQ;rw[hk.out,cU,ah]
    obtain⟨w3,ad⟩:∃z,w2=z:=⟨_,rfl⟩
    rw[ad]at S2 c2 ⊢;clear ad;have S3:=S2;have c0:=c2;clear r t m ah F;have k0:=hS.out w3.drew (S3.drew.box 1 rfl) (show w3.drew.cell? ⟨g,1,none⟩=some (.map (some b))from c0) (n.below S3.b).drew;go_upto_region 3 with fail;go_region_held3 (fun W=>W.cell? ⟨w.heap.size,0,none⟩=some (.int .i64 a.o)∧W.cell? ⟨w.heap.size,1,none⟩=some (.int .i64 a.s)∧W.cell? ⟨w.heap.size,2,none⟩=some (.int .i64 a.a)∧W.cell? ⟨w.heap.size,3,none⟩=some (.bool a.ov)∧W.cell? ⟨w.heap.size,4,none⟩=some (.slice A a.adj.length c)∧W.cell? ⟨w.heap.size,5,none⟩=some (.slice B a.pre.length d)∧W.cell? ⟨g,1,none⟩=some (.map (some b))∧(Instr.lookup 160 (.map (some b)) (.int .i64 (lk:Int)) false).run Tryz.prog W= .ok (.map (some (f lk))) W) (first|assumption|go_keep)
     (first
      | (go_at_call 178; (with_reducible refine (C.out _ S3.drew.b).mono ?_); rintro e wa ⟨va,rfl,I,P⟩; obtain ⟨A5,c5,B5,d5,rfl,ab⟩:=Be I; have T:=S3.drew.call P; have E:=cW P (show w3.drew.cell? ⟨g,1,none⟩ = some (.map (some b)) from c0); have ka:=hS.out wa (T.box 1 rfl) E (n.below T.b); obtain ⟨w9,G,L,q⟩:=(hm.below T.b).nj Oy (by omega) ho.1 (by have:=ho.2; omega) (vM a A5 c5 B5 d5 0); have p:=Kq.of_map (hm.below T.b) q; have kz:=hS.out w9 (p.box (T.box 1 rfl)) (p.cell E) ((n.below T.b).kept q (fun e=>U (by injection e)))))
    all_goals
     have y:=H.out _ _ T.b J.out (vM a A5 c5 B5 d5 0) ⟨A5,c5,B5,d5,rfl,p.Zb (ab.out _ cy)⟩ L q;replace y:=φ y;clear L q T E G ka kz k0 p;go_wp2;exact fO (v:=.tuple #[]) (by simp[results,Tryz.results148,go_sem]) rfl y.out
  |true=>
    obtain⟨hh,aa,hu,ai⟩:∃hh,D k=some hh∧(.agg #[.int .i64 u0,.int .i64 u1,.int .i64 u2,.bool u3,.slice A9 n9 c9,.slice B9 m9 d9,.int .i64 u6]:Value)=vM hh.x A9 c9 B9 d9 hh.l∧eU w (ig hh.x.o hh.x.s hh.x.a hh.x.ov A9 hh.x.adj.length c9 B9 hh.x.pre.length d9) hh.x:=by
     rw[hk.out]at t r;cases hM:M (k:Int)with
     |none=>have:=t.out;rw[hM]at this;cases this
     |some vv=>
       rw[hM]at m;cases hN:D k with
       |none=>rw[hN]at m;exact m.elim
       |some hh=>
         rw[hN]at m;obtain⟨A8,c8,B8,d8,rfl,R⟩:=m;have hv:=r.out;rw[hM]at hv;simp only[Option.getD_some,eE,eS,dJ,dp,jr,jO,fE,fv]at hv;obtain⟨rfl,rfl,rfl,rfl,⟨rfl,rfl,rfl⟩,⟨rfl,rfl,rfl⟩,rfl⟩:=hv;exact⟨hh,rfl,rfl,R.1⟩
    simp only[eE,eS,dJ,dp,jr,jO,fE,fv]at hu;obtain⟨rfl,rfl,rfl,rfl,rfl,rfl,rfl⟩:=hu;have NW:=rN w2 _ _ a hh.x (R.below S2.b) (ai.below S2.b);have Q:Hid (zQ D a=decide (0<kO a hh.x)):=by show _=_;unfold zQ;rw[hk.out,cU,aa]
    generalize kO a hh.x=z at *;replace NW:=φ NW;obtain⟨a0,a1,a2,a3,a4,a5⟩:=(S2.box 1 rfl).b6;obtain⟨r0,r1,r2,r3,r4,r5⟩:=(S2.box 0 rfl).b6;go_wp2_with fail;(with_reducible refine(NW.out).mono ?_);rintro e w3 ⟨rfl,hb⟩;clear a0 a1 a2 a3 a4 a5;clear r0 r1 r2 r3 r4 r5;have S3:=S2.call hb;have c0:=cW hb c2;clear NW hb S2
    by_cases hz0:0<z
    ·have Z:decide (0<z)=true:=by simpa using hz0
     have J:Hid (zQ D a=true):=by show _=_;rw[Q.out,Z]
     clear r t m aa F Q hz0;have k0:=hS.out w3.drew (S3.drew.box 1 rfl) (show w3.drew.cell? ⟨g,1,none⟩=some (.map (some b))from c0) (n.below S3.b).drew;go_upto_region 3 with fail;go_region_held3 (fun W=>W.cell? ⟨w.heap.size,0,none⟩=some (.int .i64 a.o)∧W.cell? ⟨w.heap.size,1,none⟩=some (.int .i64 a.s)∧W.cell? ⟨w.heap.size,2,none⟩=some (.int .i64 a.a)∧W.cell? ⟨w.heap.size,3,none⟩=some (.bool a.ov)∧W.cell? ⟨w.heap.size,4,none⟩=some (.slice A a.adj.length c)∧W.cell? ⟨w.heap.size,5,none⟩=some (.slice B a.pre.length d)∧W.cell? ⟨g,1,none⟩=some (.map (some b))∧(Instr.lookup 160 (.map (some b)) (.int .i64 (lk:Int)) false).run Tryz.prog W= .ok (.map (some (f lk))) W) (first|assumption|go_keep)
      (first
       | (go_at_call 178; (with_reducible refine (C.out _ S3.drew.b).mono ?_); rintro e wa ⟨va,rfl,I,P⟩; obtain ⟨A5,c5,B5,d5,rfl,ab⟩:=Be I; have T:=S3.drew.call P; have E:=cW P (show w3.drew.cell? ⟨g,1,none⟩ = some (.map (some b)) from c0); have ka:=hS.out wa (T.box 1 rfl) E (n.below T.b); obtain ⟨w9,G,L,q⟩:=(hm.below T.b).nj Oy (by omega) ho.1 (by have:=ho.2; omega) (vM a A5 c5 B5 d5 0); have p:=Kq.of_map (hm.below T.b) q; have kz:=hS.out w9 (p.box (T.box 1 rfl)) (p.cell E) ((n.below T.b).kept q (fun e=>U (by injection e)))))
     all_goals
      have y:=H.out _ _ T.b J.out (vM a A5 c5 B5 d5 0) ⟨A5,c5,B5,d5,rfl,p.Zb (ab.out _ cy)⟩ L q;replace y:=φ y;clear L q T E G ka kz k0 p;go_wp2;exact fO (v:=.tuple #[]) (by simp[results,Tryz.results148,go_sem]) rfl y.out
    ·have Z:decide (0<z)=false:=by simpa using hz0
     have hf:=F.out _ S3.b (by rw[Q.out,Z]);replace hf:=φ hf;clear r t m aa F Q H hz0;go_wp2;exact fO (v:=.tuple #[]) (by simp[results,Tryz.results148,go_sem]) rfl hf.out
structure Kf (S:Nat→Prop) (w w':World):Prop where
 os:w'.os=w.os
 tape:w'.tape=w.tape
 output:w'.output=w.output
 size:w.heap.size≤w'.heap.size
 block:∀k,k<w.heap.size→ ¬S k→w'.heap[k]?=w.heap[k]?
section
variable {S:Nat → Prop} {w wr w':World}
def Kf.refl(S:Nat→Prop)(w:World):Kf S w w:=⟨rfl,rfl,rfl,Nat.le_refl _,fun _ _ _=>rfl⟩
def Kf.row(h:Kf S w wr){k:Nat}(hg:wr.grownBy w' (some k))(hk:S k∨w.heap.size≤k):Kf S w w' :=
 ⟨hg.os.trans h.os,hg.tape.trans h.tape,hg.output.trans h.output,cZ h.size hg.size,fun j hj hS=>by
  rw [hg.block j (eh hj h.size) (fun e=>by
   injection e with e
   subst e;rcases hk with hk|hk
   ·exact hS hk
   ·omega)]
  exact h.block j hj hS⟩
def Kf.below(h:Kf S w wr)(hb:Below wr.heap.size wr w'):Kf S w w' :=
 ⟨hb.os.trans h.os,hb.tape.trans h.tape,hb.output.trans h.output,Nat.le_trans h.size hb.size,fun j hj hS=>(hb.block j (Nat.lt_of_lt_of_le hj h.size)).trans (h.block j hj hS)⟩
def Kf.my(h:Kf S w wr){B:Nat}(hb:Below B wr w')(hB:w.heap.size≤B):Kf S w w' :=
 ⟨hb.os.trans h.os,hb.tape.trans h.tape,hb.output.trans h.output,cZ h.size hb.size,fun j hj hS=>(hb.block j (eh hj hB)).trans (h.block j hj hS)⟩
def Kf.trans(h:Kf S w wr)(h2:Kf S wr w'):Kf S w w' :=
 ⟨h2.os.trans h.os,h2.tape.trans h.tape,h2.output.trans h.output,Nat.le_trans h.size h2.size,fun j hj hS=>(h2.block j (Nat.lt_of_lt_of_le hj h.size) hS).trans (h.block j hj hS)⟩
def Kf.kq(h:Kf S w w')(hS:∀k,S k→ ∃es c,w.heap[k]?=some (.map es c)):Kq w w' :=
 ⟨h.os,h.tape,h.output,h.size,fun k hk hne=>h.block k hk (fun hs=>by
  obtain⟨es,c,e⟩:=hS k hs;exact hne es c e)⟩
end
def FS(N:Fn)(f:Nat→Nat)(k:Nat):Prop:=∃i,i<256∧(N i).isSome=true∧k=f i
def fR.maps{w:World}{g b:Nat}{iv:Int}{N:Fn}{f:Nat→Nat}(h:fR w g b iv N f):∀k,FS N f k→ ∃es c,w.heap[k]?=some (.map es c):=by
 rintro k ⟨i,hi,hs,rfl⟩;obtain⟨D,hD⟩:=dC.1 hs;obtain⟨M,hm,_⟩:=h.el i hi D hD;exact hm.isMap
def pI(N:Fn):Prop:=∀(i:Nat) (D:Db) (o:Nat) (h:Hd),N i=some D→D o=some h→dS h.x∧h.x.o=(o:Int)∧0≤h.l∧h.l≤65536
structure gS (w wr:World) (g b:Nat) (N:Fn) (f:Nat→Nat) (N':Fn):Prop where
 c0:∃iv:Int,wr.cell? ⟨g,0,none⟩=some (.int .i64 iv)∧w.cell? ⟨g,0,none⟩=some (.int .i64 iv)
 c1:wr.cell? ⟨g,1,none⟩=some (.map (some b))
 nb:dV 256 wr b (sF N f)
 el:∀i,i<256→ ∀D,N' i=some D→ ∃M,dV 64 wr (f i) M∧ ∀o:Nat,o<64→iu w (M (o:Int)) (D o)
 kf:Kf (FS N f) w wr
def fR.XO{w:World}{g b:Nat}{iv:Int}{N:Fn}{f:Nat→Nat}(h:fR w g b iv N f):gS w w g b N f N:=⟨⟨iv,h.c0,h.c0⟩,h.c1,h.nb,h.el,Kf.refl _ _⟩
section
variable {w wr w':World} {g b:Nat} {N N':Fn} {f:Nat → Nat}
def gS.below(h:gS w wr g b N f N')(hb:Below wr.heap.size wr w'):gS w w' g b N f N':=by
 obtain⟨iv,a,a'⟩:=h.c0;exact ⟨⟨iv,cell_later hb a,a'⟩,cell_later hb h.c1,h.nb.below hb,fun i hi D hD=>by
  obtain⟨M,hm,he⟩:=h.el i hi D hD;exact ⟨M,hm.below hb,he⟩,h.kf.below hb⟩
def gS.new{iv:Int}(h:gS w wr g b N f N'){k:Nat}(hg:wr.grownBy w' (some k))(hk:w.heap.size≤k)(hF:fR w g b iv N f)(hs:∀i,i<256→(N' i).isSome=true→(N i).isSome=true):gS w w' g b N f N':=by
 obtain⟨iv,a,a'⟩:=h.c0;have c:=hF.lt;have hc:∀j,w'.cell? ⟨g,j,none⟩=wr.cell? ⟨g,j,none⟩:=fun j=>cY (a:=⟨g,j,none⟩) (hg.block g (dm _ _ a) (fun e=>by injection e;omega))
 exact ⟨⟨iv,(hc 0).trans a,a'⟩,(hc 1).trans h.c1,h.nb.kept hg (fun e=>by injection e; omega),fun i hi D hD=>by
  obtain⟨M,hm,he⟩:=h.el i hi D hD;exact ⟨M,hm.kept hg (fun e=>by
   injection e with e
   have:=hF.Xd hi (hs i hi (by rw[hD];rfl));omega),he⟩,h.kf.row hg (.inr hk)⟩
def gS.uy(h:gS w wr g b N f N'){iv:Int}(hF:fR w g b iv N f){i:Nat}(hi:i<256)(hs:(N i).isSome=true)(d:∀i,i<256→(N' i).isSome=true→(N i).isSome=true){M':Int→Option Value}{D':Db}(hm:dV 64 w' (f i) M')(he:∀o:Nat,o<64→iu w (M' (o:Int)) (D' o))(hg:wr.grownBy w' (some (f i))):gS w w' g b N f (eY N' i D'):=by
 obtain⟨iv,a,a'⟩:=h.c0;have k:g≠f i:=fun e=>by
  obtain⟨D,hD⟩:=dC.1 hs;obtain⟨M,c,_⟩:=hF.el i hi D hD;have:=hF.c0;rw[e,c.tT]at this;cases this
 have hc:∀j,w'.cell? ⟨g,j,none⟩=wr.cell? ⟨g,j,none⟩:=fun j=>cY (a:=⟨g,j,none⟩) (hg.block g (dm _ _ a) (fun e=>by injection e with e;exact k e))
 refine⟨⟨iv,(hc 0).trans a,a'⟩,(hc 1).trans h.c1,h.nb.kept hg (fun e=>by injection e with e;exact hF.ne i hi hs e),fun j hj D hD=>?_,h.kf.row hg (.inl ⟨i,hi,hs,rfl⟩)⟩
 unfold eY at hD
 by_cases e:j=i
 ·subst e;simp only[gy,dB]at hD;subst hD;exact⟨M',hm,he⟩
 ·simp only[cN e]at hD;obtain⟨M,c,l⟩:=h.el j hj D hD;exact⟨M,c.kept hg (fun e2=>by injection e2 with e2;exact e (hF.inj j i hj hi (d j hj (by rw[hD];rfl)) hs e2.symm)),l⟩
def gS.fin{iv:Int}(h:gS w wr g b N f N')(hF:fR w g b iv N f)(c:∀i,i<256→(N' i).isSome=(N i).isSome):fR wr g b iv N' f:=by
 obtain⟨l,a,a'⟩:=h.c0;rw[hF.c0]at a';simp only[Option.some.injEq,Value.int.injEq,true_and]at a';subst a';have hq:=h.kf.kq hF.maps;have e:sF N' f=sF N f:=by
  funext z
  unfold sF
  by_cases hz:0≤z∧z<256
  ·rw[if_pos hz,if_pos hz];have:=c z.toNat (by omega);cases h1:N' z.toNat<;>cases h2:N z.toNat<;>simp_all
  ·rw[if_neg hz,if_neg hz]
 exact ⟨a,h.c1,by rw [e]; exact h.nb,fun i hi D hD=>by
  obtain⟨M,hm,he⟩:=h.el i hi D hD;exact ⟨M,hm,fun o ho=>hq.el (he o ho)⟩,fun i hi hs=>hF.ne i hi (by rw [← c i hi]; exact hs),fun i j hi hj k d=>hF.inj i j hi hj (by rw [← c i hi]; exact k) (by rw [← c j hj]; exact d)⟩
end
def Rp(n:Int)(h:Hd):Hd:=⟨h.x,h.l - min n h.l⟩
def Kt(n:Int)(D:Db):Db:=fun o=>(D o).map (Rp n)
def ve(n:Int)(N:Fn):Fn:=fun i=>(N i).map (Kt n)
def qu(n:Int)(N:Fn)(k:Nat):Fn:=fun i=>if (i:Int)∈(iA N).take k then(N i).map (Kt n)else N i
def Kr(n:Int)(N:Fn):qu n N 0=N:=by funext i;simp[qu]
def rP(N:Fn):(iA N).Pairwise (· < ·):=by
 unfold iA;refine mG _ ?_;rw[gM];exact ju.imp fun h=>by omega
def EK(n:Int)(N:Fn)(i:Nat)(hi:i<256):qu n N (iA N).length i=ve n N i:=by
 unfold qu ve;rw[dE]
 by_cases h:(i:Int)∈iA N
 ·rw[cR h]
 ·rw[cN h];cases hN:N i with
  |none=>rfl
  |some D=>exact absurd ((jQ (i:Int)).2 ⟨⟨by omega,by omega⟩,by rw[cU,hN];rfl⟩) h
def DX{N:Fn}{k:Nat}(hk:k< (iA N).length):(iA N)[k]∉(iA N).take k:=fun hm=>by
 obtain⟨j,hj,e⟩:=eG hm;have a:j<k:=by simp at hj;omega
 rw[I0]at e;have:=(ny.1 (rP N)) j k (by omega) hk a;omega
def Rn(n:Int)(N:Fn)(k:Nat)(hk:k< (iA N).length)(q:Nat)(hq:(iA N)[k]=(q:Int)):qu n N k q=N q:=by
 unfold qu;rw[cN (by rw[←hq];exact DX hk)]
def Ks(n:Int)(N:Fn)(k:Nat)(hk:k< (iA N).length)(q:Nat)(hq:(iA N)[k]=(q:Int)){D:Db}(hD:N q=some D):qu n N (k+1)=eY (qu n N k) q (Kt n D):=by
 funext i
 unfold qu eY;rw[List.take_succ_eq_append_getElem hk,hq]
 by_cases e:i=q
 ·subst e;simp[hD]
 ·have e2:(i:Int)≠(q:Int):=by omega
  simp[e,e2]
def tJ(n:Int)(N:Fn)(k i:Nat):(qu n N k i).isSome=(N i).isSome:=by
 unfold qu;split<;>simp
def Qh(n:Int):Value→Value
 | .agg cs=>.agg (cs.setIfInBounds 6 (match cs.getD 6 undef with|Value.int k l=>Value.int k (l - min n l)|v=>v))
 |v=>v
def TP(n:Int)(x:La)(A:cG)(c:Nat)(B:cG)(d:Nat)(l:Int):Qh n (vM x A c B d l)=vM x A c B d (l - min n l):=rfl
def wI(n:Int)(M:Int→Option Value)(left:Lit→Bool):Int→Option Value:=fun o=>if left (.int .i64 o)=true then M o else(M o).map (Qh n)
def Pj{n:Int}{M:Int→Option Value}{left:Lit→Bool}{o:Int}{v:Value}(hv:M o=some v):wI n M (fun z=>left z&&!z.sameKey (.int .i64 o))=fun j=>if j=o then some (Qh n v)else wI n M left j:=by
 funext j
 by_cases e:j=o
 ·subst e;show(if (left (.int .i64 j)&&!(Lit.int .i64 j).sameKey (.int .i64 j))=true then M j else(M j).map (Qh n))=_
  rw[if_neg (by rw[WideAt.sameKey_self (xR _)];simp),if_pos rfl,hv];rfl
 ·have h2:(Lit.int .i64 j).sameKey (.int .i64 o)=false:=by
   cases h:(Lit.int .i64 j).sameKey (.int .i64 o)with
   |false=>rfl
   |true=>exact absurd (WideAt.sameKey_eq h) (np e)
  show(if (left (.int .i64 j)&&!(Lit.int .i64 j).sameKey (.int .i64 o))=true then M j else(M j).map (Qh n))=_
  rw[if_neg e];unfold wI;have h3:(left (.int .i64 j)&&!(Lit.int .i64 j).sameKey (.int .i64 o))=left (.int .i64 j):=by rw[h2];simp
  simp only[h3]
def Tg{w:World}{n:Int}{M:Int→Option Value}{left:Lit→Bool}{D:Db}(hl:∀kl,left kl=false)(he:∀o:Nat,o<64→iu w (M (o:Int)) (D o)):∀o:Nat,o<64→iu w (wI n M left (o:Int)) (Kt n D o):=fun o ho=>by
 have h:=he o ho;unfold wI Kt;rw[hl,if_neg (by simp)];cases hM:M (o:Int)with
 |none=>
   rw[hM]at h;cases hD:D o with
   |none=>trivial
   |some x=>rw[hD]at h;exact h.elim
 |some v=>
   rw[hM]at h;cases hD:D o with
   |none=>rw[hD]at h;exact h.elim
   |some x=>
     rw[hD]at h;obtain⟨A,c,B,d,rfl,a⟩:=h;exact⟨A,c,B,d,by rw[TP];rfl,a⟩
def gx(N:Fn)(i:Nat):Fn:=fun j=>if j=i then none else N j
section
variable {w wr w':World} {g b i:Nat} {N N':Fn} {f:Nat → Nat}
def gS.drop (h:gS w wr g b N f N') (i:Nat):gS w wr g b N f (gx N' i):=⟨h.c0,h.c1,h.nb,fun j hj D hD=>by
 unfold gx at hD;split at hD
 ·cases hD
 ·exact h.el j hj D hD,h.kf⟩
def gS.add (h:gS w wr g b N f (gx N' i)) {M':Int → Option Value} {D':Db} (hm:dV 64 wr (f i) M') (he:∀ o:Nat,o < 64 → iu w (M' (o:Int)) (D' o)):gS w wr g b N f (eY N' i D'):=⟨h.c0,h.c1,h.nb,fun j hj D hD=>by
 unfold eY at hD
 by_cases e:j=i
 ·subst e;simp only[if_true,Option.some.injEq]at hD;subst hD;exact⟨M',hm,he⟩
 ·simp only[if_neg e]at hD;exact h.el j hj D (by unfold gx; rw [if_neg e]; exact hD),h.kf⟩
def gS.row{iv:Int}(h:gS w wr g b N f (gx N' i))(hF:fR w g b iv N f)(hi:i<256)(hs:(N i).isSome=true)(d:∀i,i<256→(N' i).isSome=true→(N i).isSome=true)(hg:wr.grownBy w' (some (f i))):gS w w' g b N f (gx N' i):=by
 obtain⟨iv,a,a'⟩:=h.c0;have k:g≠f i:=fun e=>by
  obtain⟨D,hD⟩:=dC.1 hs;obtain⟨M,c,_⟩:=hF.el i hi D hD;have:=hF.c0;rw[e,c.tT]at this;cases this
 have hc:∀j,w'.cell? ⟨g,j,none⟩=wr.cell? ⟨g,j,none⟩:=fun j=>cY (a:=⟨g,j,none⟩) (hg.block g (dm _ _ a) (fun e=>by injection e with e;exact k e))
 refine⟨⟨iv,(hc 0).trans a,a'⟩,(hc 1).trans h.c1,h.nb.kept hg (fun e=>by injection e with e;exact hF.ne i hi hs e),fun j hj D hD=>?_,h.kf.row hg (.inl ⟨i,hi,hs,rfl⟩)⟩
 have m:=hD
 by_cases e:j=i
 ·unfold gx at hD;rw[cR e]at hD;cases hD
 ·unfold gx at hD;rw[cN e]at hD;obtain⟨M,c,l⟩:=h.el j hj D m;exact⟨M,c.kept hg (fun e2=>by injection e2 with e2;exact e (hF.inj j i hj hi (d j hj (by rw[hD];rfl)) hs e2.symm)),l⟩
end
def CZ{N N':Fn}{i:Nat}(h:∀i,i<256→(N' i).isSome=true→(N i).isSome=true):∀j,j<256→(gx N' i j).isSome=true→(N j).isSome=true:=fun j hj hs=>by
 unfold gx at hs;split at hs
 ·cases hs
 ·exact h j hj hs
def qV(w:World)(g b:Nat)(iv:Int)(N:Fn)(f:Nat→Nat)(n:Int)(e:Ending)(w':World):Prop:=e= .returned (.tuple #[])∧fR w' g b iv (ve n N) f∧Kf (FS N f) w w'
def LP(w:World)(g b:Nat)(iv:Int)(N:Fn)(f:Nat→Nat)(h:fR w g b iv N f)(aj:pI N)(n:Int)(a8:0<n) :
  Calls Tryz.prog 95 #[.pointer (some ⟨g,0,none⟩),n] w (qV w g b iv N f n):=by
 have O:=vx w g b iv N f h;unfold nQ at O;have aV:Hid (∀i,256≤i→N i=ve n N i∨True):=fun _ _=>.inr trivial
 obtain⟨len,hlen⟩:∃z,(iA N).length=z:=⟨_,rfl⟩
 have aR:len≤256:=by rw[←hlen];exact wK N
 rw[hlen]at O;replace O:=φ O;go_in;go_wp2_with fail;(with_reducible refine(O.out).mono ?_);rintro e w1 ⟨A,c,rfl,og,hb⟩;clear O;have hF:=h.below hb;have aN:Hid (Rd w1 A ((iA N).map encZ)):=dQ og;have az:Hid (∀wr,gS w1 wr g b N f (qu n N len)→qV w g b iv N f n (.returned (.tuple #[])) wr):=fun wr hm=>by
  have h1:=hm.fin hF (fun i _=>tJ n N len i);refine⟨rfl,?_,((Kf.refl _ w).below hb).trans hm.kf⟩
  refine⟨h1.c0,h1.c1,?_,fun i hi D hD=>h1.el i hi D (by rw[←hlen,EK n N i hi];exact hD),fun i hi hs=>hF.ne i hi (by simpa[ve]using hs),fun i j hi hj hs aM=>hF.inj i j hi hj (by simpa[ve]using hs) (by simpa[ve]using aM)⟩
  have e:sF (ve n N) f=sF (qu n N len) f:=by
   funext z
   unfold sF
   by_cases hz:0≤z∧z<256
   ·rw[cR hz,cR hz,←hlen,EK n N z.toNat (by omega)]
   ·rw[cN hz,cN hz]
  rw[e];exact h1.nb
 have a:Hid (gS w1 w1 g b N f (qu n N 0)):=by rw[Kr];exact hF.XO
 replace hF:=φ hF;replace aj:=φ aj;replace hlen:=φ hlen;clear h og hb;go_wp2_with fail;go_loopw [14] (fun ag wr=>∃(k:Nat),ag= .int .i64 k∧k≤len∧Hid (gS w1 wr g b N f (qu n N k))) (fun ag _=>len - (intOf ag).toNat)
 case atStart=>exact⟨0,rfl,by omega,a⟩
 case round=>
  clear a;obtain⟨k,rfl,hk,a⟩:=hrel
  by_cases hkn:k<len
  ·have Y:k< (iA N).length:=by rw[hlen.out];exact hkn
   have L:=(jQ (N:=N) (iA N)[k]).1 (di Y);obtain⟨q,hq⟩:=de L.1.1;have H:q<256:=by have:=L.1.2;omega
   have aq:(N q).isSome=true:=by have:=L.2;rwa[hq,cU]at this
   obtain⟨D,hD⟩:=dC.1 aq;have aD:=Rn n N k Y q hq;have G:=Ks n N k Y q hq hD;obtain⟨M,hm,he⟩:=a.out.el q H D (by rw[aD,hD]);have aF:=a.out.kf.kq hF.out.maps;have F:=aF.rd aN.out;obtain⟨bz,aY,rfl,hz⟩:=gE F (by simp only[dh];omega);have z0:=hz k _ (by rw[eJ,cM Y];rfl);rw[hq]at z0;have x1:=a.out.c1;have aI:(Lit.int .i64 (q:Int)).wf=true:=lW (by omega) (by omega);have K1:=a.out.nb.mM G7 aI;rw[rK H,hD]at K1;simp only[Option.map_some,Option.getD_some]at K1;obtain⟨D0,U,hd⟩:=hm;clear hz F aF L aD;replace G:=φ G;replace hd:=φ hd;replace he:=φ he;replace hq:=φ hq;have aO:q<256:=H;unfold encZ at z0;go_wp2_with (first|(at_range;refine wpList_range_own _ rfl _ 228 rfl 3 231 wO Tryz.underlying228 BO (f q) 64 D0 rfl U ?_;intro w2 C R aL));go_frame;obtain⟨r,hr⟩:∃z,wr.heap.size=z:=⟨_,rfl⟩
   have ac:w1.heap.size≤wr.heap.size:=a.out.kf.size;have W:Hid (gS w1 w2 g b N f (gx (qu n N k) q)):=(a.out.drop q).below ⟨R.os,R.tape,R.output,R.size,fun j hj=>R.block j hj (by simp)⟩;have aT:f q<wr:=U.lt;have F:Hid (iO 64 D0 (wI n M (has D0))):=by
    have e:wI n M (has D0)=M:=by
     funext o
     unfold wI;rw[hd.out.has_];cases hM:M o with
     |none=>simp
     |some v=>simp
    rw[e];exact hd.out
   have J:Hid (∀o,has D0 (.int .i64 o)=true→(M o).isSome=true):=fun o ho=>by rwa[hd.out.has_]at ho
   replace C:=φ C;rw[hr]at C ac aT ⊢;replace hr:=φ hr;have ah:=hd.out.small;replace ah:=φ ah;clear K1 x1 z0 R aL hd a U;go_loopw [26] (fun _ wx=>∃(left:Lit→Bool) (ab:Nat) (D':DataW Value),Hid (wx.ranges Tryz.prog 3 BO (f q) r 64 D' left ab)∧Hid (iO 64 D' (wI n M left))∧Hid (∀o,left (.int .i64 o)=true→(M o).isSome=true)∧Hid (gS w1 wx g b N f (gx (qu n N k) q)))
    (fun _ wx=>wx.rangeLeft (f q) r)
   case atStart=>exact⟨_,_,_,C,F,J,W⟩
   case round=>
    clear C F J W;obtain⟨left,ab,D',ai,s,J,a⟩:=hrel;have E:=ai.out;go_wp2_with (first
     | (at_next; refine wpList_next_ranges _ rfl (.tmp 25) rfl 3 wO BO (Value.int .i64) (fun v=>v) (fun key kl hk=>by obtain ⟨x,e,_⟩:=Maps.keyOf_int_inv Tryz.underlying3 hk; exact ⟨x,e⟩) (fun v y _=>⟨v,rfl⟩) (f q) r 64 D' left ab rfl E ?_ ?_))
    ·intro _ aS;have au:=dV.of (E.owns) s.out;have aG:Hid (gS w1 wr g b N f (qu n N (k+1))):=by
      rw[G.out];exact a.out.add au (Tg aS he.out)
     clear ai E s J a au;go_wp2;go_round
     case rel=>exact⟨k+1,by go_num,by omega,aG⟩
     case measure=>simp[intOf];omega
    ·intro x cv kl y ps w3 aH ae Q aE af T av ay aK am;obtain⟨x',ex,rfl,aZ⟩:=Maps.keyOf_int_inv Tryz.underlying3 ae;injection ex with _ ex
     subst ex;simp only[BO,dB,iP]at aE;obtain⟨rfl,rfl⟩:=aE;have aa:=J.out x Q;obtain⟨v,hv⟩:=dC.1 aa;have aU:cv=v:=by
      have h1:=s.out.at_ x (.int .i64 0);rw[af]at h1;unfold wI at h1;rw[cR Q,hv]at h1;simpa using h1
     subst aU;have S:=ah.out x aa;obtain⟨o,rfl⟩:=de S.1;have ar:o<64:=by omega
     have vL:=he.out o ar;rw[hv]at vL;obtain⟨hh,X⟩:∃hh,D o=some hh:=by
      cases X:D o with
      |none=>rw[X]at vL;exact vL.elim
      |some hh=>exact⟨hh,rfl⟩
     rw[X]at vL;obtain⟨A5,c5,B5,d5,rfl,aP⟩:=vL;have aC:=aj.out q D o hh hD X;have aQ:=aC.2.2;clear aC aP;have I:Hid (gS w1 w3 g b N f (gx (qu n N k) q)):=a.out.new ay ac hF.out (CZ (fun j hj hs=>by rwa[tJ]at hs));unfold vM at am hv;obtain⟨⟨xo,xs,xa,u,p,m⟩,ll⟩:=hh;simp only at am hv aQ;clear aK;go_upto_region 8 with fail;have aB:=cQ w3 (.cells #[.int .i64 xo,xs,xa,u,.slice A5 p.length c5,.slice B5 m.length d5,ll] 231);have Z:=fq.iE w3 #[.int .i64 xo,xs,xa,u,.slice A5 p.length c5,.slice B5 m.length d5,ll] 231 w3 _ rfl rfl;have ad:=T.alloc (.cells #[.int .i64 xo,xs,xa,u,.slice A5 p.length c5,.slice B5 m.length d5,ll] 231);have V:=I.out.below aB;have a7:=T.lt;have aW:=I.out.kf.size;clear am T I aB ay a;generalize World.alloc w3 _=w4 at *;generalize w3.heap.size=g8 at *;have aJ:IntKind.i64.wrap (ll - min n ll)=ll - min n ll:=kV _ (by omega);have a0:=Z.c 6 rfl;have f0:=Z.f 6 rfl;have l:=Z.set 6 (.int .i64 (ll - min n ll)) (by simp);have al:=dk w4 g8 6 (.int .i64 (ll - min n ll));have B:=ad.kept al (by simp;omega) (by simp;omega);have t:=V.new al aW hF.out (CZ (fun j hj hs=>by rwa[tJ]at hs));have P:Maps.has D' (.int .i64 (o:Int))=true:=by rw[s.out.has_];unfold wI;rw[cR Q];exact aa
     replace P:=φ P;replace hv:=φ hv;replace B:=φ B;replace t:=φ t;replace l:=φ l;replace Q:=φ Q;clear ad V al af aa X;go_upto_region 9 with fail;clear a0 f0 Z;generalize World.setCell w4 _ _=w5 at *;obtain⟨w6,aX,K,ax⟩:=HM B.out wO Tryz.underlying228 (by unfold maxLen;omega) ae P.out (val:=.agg #[.int .i64 xo,xs,xa,u,.slice A5 p.length c5,.slice B5 m.length d5,.int .i64 (ll - min n ll)]) (d:=.held (.agg #[.int .i64 xo,xs,xa,u,.slice A5 p.length c5,.slice B5 m.length d5,.int .i64 (ll - min n ll)])) (ps:=[]) rfl;have ak:Hid (gS w1 w6 g b N f (gx (qu n N k) q)):=t.out.row hF.out aO aq (fun j hj hs=>by rwa[tJ]at hs) ax;have ao:Hid (iO 64 (D'.put (.int .i64 (o:Int)) (.held (.agg #[.int .i64 xo,xs,xa,u,.slice A5 p.length c5,.slice B5 m.length d5,.int .i64 (ll - min n ll)]))) (wI n M (fun z=>left z&&!z.sameKey (.int .i64 (o:Int))))):=by
      have h9:=s.out.put B.out.owns.isMap S.1 S.2 (.agg #[.int .i64 xo,xs,xa,u,.slice A5 p.length c5,.slice B5 m.length d5,.int .i64 (ll - min n ll)]);have e:wI n M (fun z=>left z&&!z.sameKey (.int .i64 (o:Int)))=fun j=>if j=(o:Int)then some (.agg #[.int .i64 xo,xs,xa,u,.slice A5 p.length c5,.slice B5 m.length d5,.int .i64 (ll - min n ll)])else wI n M left j:=by
       exact Pj hv.out
      rw[e];exact h9
     have aw:Hid (∀z,(left (.int .i64 z)&&!(Lit.int .i64 z).sameKey (.int .i64 (o:Int)))=true→(M z).isSome=true):=fun z hz=>J.out z (by simp at hz;exact hz.1)
     have a0:=l.out.c 0 rfl;have a1:=l.out.c 1 rfl;have a2:=l.out.c 2 rfl;have a3:=l.out.c 3 rfl;have a4:=l.out.c 4 rfl;have a5:=l.out.c 5 rfl;have a6:=l.out.c 6 rfl;have aA:wr.rangeLeft (f q) r=ab:=E.left_eq;have ap:=K.left_eq;replace K:=φ K;clear ai E s J t B ax l P hv Q aJ;go_wp2;go_roundw
     case rel=>exact⟨_,aH,_,K,ao,aw,ak⟩
     case measure=>rw[aA,ap];exact av
  ·obtain rfl:k=len:=by omega
   have hf:=az.out _ a.out;replace hf:=φ hf;clear a;go_wp2;exact fO (v:=.tuple #[]) (by simp[results,Tryz.results95,go_sem]) rfl hf.out
end Go.Proofs.YtehimhbgakpenaaGreat.Fd
namespace Go.Proofs.YtehimhbgakpenaaGreat.Fd
open Go.RowKit Go.Sort Go.ChangeShapes Go.WideShapes Go.ChangeAt
structure Lx where
 y:La
 A:cG
 c:Nat
 B:cG
 d:Nat
def Bv(s:Lx):cH:=[s.y.o,s.y.s,s.y.a,s.y.ov,.slice s.A s.y.adj.length s.c,.slice s.B s.y.pre.length s.d]
def nr:List Lx→cH
 | []=>[]
 |s :: l=>Bv s++nr l
def jD(w:World)(s:Lx):Prop:=eU w (ig s.y.o s.y.s s.y.a s.y.ov s.A s.y.adj.length s.c s.B s.y.pre.length s.d) s.y
def yV(l:List Lx):(nr l).length=l.length*6:=by
 induction l with
 |nil=>rfl
 |cons r l ih=>simp only[nr,Bv,cX,List.length_cons,List.length_nil,ih];omega
def DV(l:List Lx):∀(k:Nat) (hk:k<l.length) (j:Nat) (hj:j<6),(nr l)[6*k+j]?=(Bv l[k])[j]?:=by
 induction l with
 |nil=>intro k hk;simp at hk
 |cons r l ih=>
   intro k hk j hj;have h8:(Bv r).length=6:=rfl;cases k with
   |zero=>simp only[nr,List.getElem_cons_zero];rw[eP (by omega)];simp
   |succ k=>
     simp only[nr,List.getElem_cons_succ];rw[dY (by omega),h8,show 6*(k+1)+j - 6=6*k+j by omega];exact ih k (by simpa using hk) j hj
def Fm{w:World}{A:cG}{l:List Lx}(h:Rd w A (nr l))(hn:0<l.length) :
  ∃b off,A=some ⟨b,off,none⟩∧ ∀k (hk:k<l.length) j (u:Value),j<6→(Bv l[k])[j]?=some u→w.cell? ⟨b,off+k*6+j,none⟩=some u:=by
 obtain⟨b,off,e,hc⟩:=gE h (by rw[yV];omega);refine⟨b,off,e,fun k hk j u hj hu=>?_⟩
 rw[iS];exact hc _ _ (by rw[gl k 6,DV l k hk j hj];exact hu)
def nH{w:World}{b off:Nat}{l:List Lx}(h:Rd w (some ⟨b,off,none⟩) (nr l))(k:Nat)(hk:k<l.length)(s:Lx)(hs:l[k]=s) :
  w.cell? ⟨b,off+k*6,none⟩=some (.int .i64 s.y.o)∧w.cell? ⟨b,off+k*6+1,none⟩=some (.int .i64 s.y.s)∧w.cell? ⟨b,off+k*6+2,none⟩=some (.int .i64 s.y.a) ∧
  w.cell? ⟨b,off+k*6+3,none⟩=some (.bool s.y.ov)∧w.cell? ⟨b,off+k*6+4,none⟩=some (.slice s.A s.y.adj.length s.c)∧w.cell? ⟨b,off+k*6+5,none⟩=some (.slice s.B s.y.pre.length s.d):=by
 subst hs;obtain⟨b',f,e,hc⟩:=Fm h (by omega);injection e with e
 injection e with e1 e2 e3
 subst e1 e2;have x0:=hc k hk 0 _ (by omega) rfl;have x1:=hc k hk 1 _ (by omega) rfl;have x2:=hc k hk 2 _ (by omega) rfl;have x3:=hc k hk 3 _ (by omega) rfl;have x4:=hc k hk 4 _ (by omega) rfl;have x5:=hc k hk 5 _ (by omega) rfl;simp only[Nat.add_zero]at x0;exact⟨x0,x1,x2,x3,x4,x5⟩
def tX{w:World}{A:cG}{l:List Lx}(h:Rd w A (nr l))(hn:0<l.length):∃b off,A=some ⟨b,off,none⟩:=by
 obtain⟨b,off,e,_⟩:=Fm h hn;exact⟨b,off,e⟩
abbrev pz(l:List Lx):List La:=l.map (·.y)
def yX(l:List Lx)(k:Nat)(hk:k<l.length):(pz l)[k]'(by simpa[pz]using hk)=l[k].y:=by simp[pz]
end Go.Proofs.YtehimhbgakpenaaGreat.Fd
namespace Go.Proofs.YtehimhbgakpenaaGreat.Fd
open Go.RowKit Go.Maps Go.Sort
def eR(D:Db):List Int:=((List.range 64).map fun(i:Nat)=>(i:Int)).filter fun i=>(D i.toNat).isSome
def jf{D:Db}(i:Int):i∈eR D↔(0≤i∧i<64)∧(D i.toNat).isSome=true:=by
 unfold eR;rw[dW,dL];constructor
 ·rintro⟨⟨k,hk,rfl⟩,h⟩;exact⟨⟨by omega,by have:=ec.1 hk;omega⟩,h⟩
 ·rintro⟨⟨h0,h1⟩,h⟩;exact⟨⟨i.toNat,ec.2 (by omega),dR h0⟩,h⟩
def lg(D:Db):(eR D).length≤64:=by
 unfold eR;refine cZ cz ?_;simp
def pW(D:Db):(eR D).Pairwise (· < ·):=by
 unfold eR;refine mG _ ?_;rw[gM];exact ju.imp fun h=>by omega
def O1{D:Db}{k:Nat}(hk:k< (eR D).length):(eR D)[k]∉(eR D).take k:=fun hm=>by
 obtain⟨j,hj,e⟩:=eG hm;have a:j<k:=by simp at hj;omega
 rw[I0]at e;have:=(ny.1 (pW D)) j k (by omega) hk a;omega
def vq{w:World}{M:Int→Option Value}{D:Db}(he:∀o:Nat,o<64→iu w (M (o:Int)) (D o)):iz 64 M=eR D:=by
 unfold iz eR;refine gN fun i hi=>?_
 obtain⟨k,hk,rfl⟩:=dL.1 hi;rw[(he k (ec.1 hk)).isS,cU]
def DJ(iv:Int)(h:Hd):Hd:=if 0<h.l then h else⟨h.x,iv⟩
def Lf(iv:Int)(D:Db):Db:=fun o=>(D o).map (DJ iv)
def wB(iv:Int)(N:Fn):Fn:=fun i=>(N i).map (Lf iv)
def nR(iv:Int)(D:Db)(j:Nat):Db:=fun o=>if (o:Int)∈(eR D).take j then(D o).map (DJ iv)else D o
def nG(iv:Int)(N:Fn)(k:Nat):Fn:=fun i=>if (i:Int)∈(iA N).take k then(N i).map (Lf iv)else N i
def due(D:Db)(o:Int):Option La:=match D o.toNat with|some h=>if 0<h.l then none else some h.x|none=>none
def si(q:Int)(D:Db)(os:List Int):List (Int× La):=os.filterMap fun o=>(due D o).map fun x=>(q,x)
def oU(N:Fn)(ls:List Int):List (Int× La):=ls.flatMap fun q=>match N q.toNat with|some D=>si q D (eR D)|none=>[]
def K9(iv:Int)(N:Fn):nG iv N 0=N:=by funext i;simp[nG]
def Fw(iv:Int)(N:Fn)(i:Nat)(hi:i<256):nG iv N (iA N).length i=wB iv N i:=by
 unfold nG wB;rw[dE]
 by_cases h:(i:Int)∈iA N
 ·rw[cR h]
 ·rw[cN h];cases hN:N i with
  |none=>rfl
  |some D=>exact absurd ((jQ (i:Int)).2 ⟨⟨by omega,by omega⟩,by rw[cU,hN];rfl⟩) h
def Ct(iv:Int)(N:Fn)(k i:Nat):(nG iv N k i).isSome=(N i).isSome:=by
 unfold nG;split<;>simp
def Jy(iv:Int)(N:Fn)(k:Nat)(hk:k< (iA N).length)(q:Nat)(hq:(iA N)[k]=(q:Int)):nG iv N k q=N q:=by
 unfold nG;rw[cN (by rw[←hq];exact DX hk)]
def Lc(iv:Int)(N:Fn)(k:Nat)(hk:k< (iA N).length)(q:Nat)(hq:(iA N)[k]=(q:Int)){D:Db}(hD:N q=some D):nG iv N (k+1)=eY (nG iv N k) q (Lf iv D):=by
 funext i
 unfold nG eY;rw[List.take_succ_eq_append_getElem hk,hq]
 by_cases e:i=q
 ·subst e;simp[hD]
 ·have e2:(i:Int)≠(q:Int):=by omega
  simp[e,e2]
def Kz(N:Fn)(k:Nat)(hk:k< (iA N).length)(q:Nat)(hq:(iA N)[k]=(q:Int)){D:Db}(hD:N q=some D):oU N ((iA N).take (k+1))=oU N ((iA N).take k)++si (q:Int) D (eR D):=by
 unfold oU;rw[cT hk,Ey,hq];simp[hD]
def Ld(iv:Int)(D:Db):nR iv D 0=D:=by funext i;simp[nR]
def HT(iv:Int)(D:Db)(o:Nat)(ho:o<64):nR iv D (eR D).length o=Lf iv D o:=by
 unfold nR Lf;rw[dE]
 by_cases h:(o:Int)∈eR D
 ·rw[cR h]
 ·rw[cN h];cases hN:D o with
  |none=>rfl
  |some x=>exact absurd ((jf (o:Int)).2 ⟨⟨by omega,by omega⟩,by rw[cU,hN];rfl⟩) h
def Jz(iv:Int)(D:Db)(j:Nat)(hj:j< (eR D).length)(o:Nat)(ho:(eR D)[j]=(o:Int)):nR iv D j o=D o:=by
 unfold nR;rw[cN (by rw[←ho];exact O1 hj)]
def Cu(iv:Int)(D:Db)(j:Nat)(hj:j< (eR D).length)(o:Nat)(ho:(eR D)[j]=(o:Int)){h:Hd}(hD:D o=some h):nR iv D (j+1)=fun i=>if i=o then some (DJ iv h)else nR iv D j i:=by
 funext i
 unfold nR;rw[List.take_succ_eq_append_getElem hj,ho]
 by_cases e:i=o
 ·subst e;simp[hD]
 ·have e2:(i:Int)≠(o:Int):=by omega
  simp[e,e2]
def Le(iv:Int)(D:Db)(j:Nat)(hj:j< (eR D).length)(o:Nat)(ho:(eR D)[j]=(o:Int)){h:Hd}(hD:D o=some h)(hl:0<h.l):nR iv D (j+1)=nR iv D j:=by
 rw[Cu iv D j hj o ho hD]
 funext i
 by_cases e:i=o
 ·subst e;rw[if_pos rfl,Jz iv D j hj i ho,hD];unfold DJ;rw[if_pos hl]
 ·rw[if_neg e]
def RI(q:Int)(D:Db)(j:Nat)(hj:j< (eR D).length)(o:Nat)(ho:(eR D)[j]=(o:Int)){h:Hd}(hD:D o=some h)(hl:0<h.l):si q D ((eR D).take (j+1))=si q D ((eR D).take j):=by
 unfold si;rw[cT hj,Bk,ho];have:due D (o:Int)=none:=by unfold due;rw[cU,hD];simp[hl]
 simp[this]
def Nw(q:Int)(D:Db)(j:Nat)(hj:j< (eR D).length)(o:Nat)(ho:(eR D)[j]=(o:Int)){h:Hd}(hD:D o=some h)(hl:¬0<h.l):si q D ((eR D).take (j+1))=si q D ((eR D).take j)++ [(q,h.x)]:=by
 unfold si;rw[cT hj,Bk,ho];have:due D (o:Int)=some h.x:=by unfold due;rw[cU,hD];simp[hl]
 simp[this]
structure Sd where
 q:Int
 x:Lx
def Ut(s:Sd):cH:=.int .i64 s.q :: Bv s.x
def Fc:List Sd→cH
 | []=>[]
 |s :: l=>Ut s++Fc l
def RS(l:List Sd):(Fc l).length=l.length*7:=by
 induction l with
 |nil=>rfl
 |cons r l ih=>simp only[Fc,Ut,Bv,cX,List.length_cons,List.length_nil,ih];omega
def Hx(a b:List Sd):Fc (a++b)=Fc a++Fc b:=by
 induction a with
 |nil=>rfl
 |cons r l ih=>simp only[List.cons_append,Fc,ih,dI]
def RW(s:Sd):∀u∈Ut s,u.oneCell'=true:=by
 intro u hu;simp only[Ut,Bv,dA,eF,ik]at hu;rcases hu with rfl|rfl|rfl|rfl|rfl|rfl|rfl<;>rfl
def Hy(l:List Sd):List (Int× La):=l.map fun s=>(s.q,s.x.y)
def sdT:iF Tryz.prog 260 263 (.agg #[.int .i64 0,.int .i64 0,.int .i64 0,.int .i64 0,false,.slice none 0 0,.slice none 0 0]) 7 88:=⟨Tryz.underlying260,by kernel_rfl,rfl,by omega⟩
def fV{w w':World}{base:Nat}{e:TypeId}{size:Nat}{v:Value}{n:Nat}{xs:cH}{row:Option Nat}(h:w.ownsRow base e size v n xs)(hg:w.grownBy w' row)(a:v.ownBlock=none∨v.ownBlock≠row):w'.ownsRow base e size v n xs:=by
 refine⟨h.1,?_⟩
 rcases h.2 with h2|⟨g,cap,cur,rfl,b,hh,r⟩
 ·exact .inl h2
 ·exact .inr ⟨g,cap,cur,rfl,b,(hg.block g (h.lt g rfl).2 (fun e=>by
   rcases a with h3|h3
   ·cases h3
   ·exact h3 e)).trans hh,r⟩
def oN{w:World}{base:Nat}{e t:TypeId}{size:Nat}{v:Value}{n:Nat}{xs:cH}{k:Nat}(h:w.ownsRow base e size v n xs)(hk:∃cs fr,w.heap[k]?=some (.cells cs t fr))(a:t≠e):v.ownBlock=none∨v.ownBlock≠some k:=by
 rcases h.2 with ⟨rfl,_⟩|⟨g,cap,cur,rfl,_,hh,_⟩
 ·exact .inl rfl
 ·right;intro e2;simp only[Value.ownBlock,dB]at e2;subst e2;obtain⟨cs,fr,hk⟩:=hk;rw[hh]at hk;injection hk with hk
  injection hk with _ h3
  exact a h3.symm
def qY(w:World)(base:Nat)(s:Lx):Prop:=fh w base (ig s.y.o s.y.s s.y.a s.y.ov s.A s.y.adj.length s.c s.B s.y.pre.length s.d) s.y
def _root_.Go.Proofs.YtehimhbgakpenaaGreat.fh.row{w w':World}{base:Nat}{u:Value}{x:La}{k:Nat}{t:TypeId}(h:fh w base u x)(hg:w.grownBy w' (some k))(hk:∃cs fr,w.heap[k]?=some (.cells cs t fr))(h1:t≠169)(h2:t≠181):fh w' base u x:=by
 obtain⟨A,c,B,d,rfl,o1,o2,hu⟩:=h;exact⟨A,c,B,d,rfl,fV o1 hg (oN o1 hk h1),fV o2 hg (oN o2 hk h2),hu⟩
def _root_.Go.Proofs.YtehimhbgakpenaaGreat.fh.UA{w:World}{base a:Nat}{u:Value}{x:La}(h:fh w base u x)(hb:a≤base):fh w a u x:=by
 obtain⟨A,c,B,d,rfl,o1,o2,hu⟩:=h;exact⟨A,c,B,d,rfl,dx o1 hb,dx o2 hb,hu⟩
def _root_.Go.Proofs.YtehimhbgakpenaaGreat.fh.Yh{w w':World}{base a:Nat}{u:Value}{x:La}{v2:Value}{n:Nat}{xs:cH}(h:fh w base u x)(hl:w.ownsRow a 263 7 v2 n xs)(hg:w.grownBy w' v2.ownBlock):fh w' base u x:=by
 obtain⟨A,c,B,d,rfl,o1,o2,hu⟩:=h;exact⟨A,c,B,d,rfl,fV o1 hg (nS o1 hl (by decide)),fV o2 hg (nS o2 hl (by decide)),hu⟩
structure Es (B0 B:Nat) (wr:World) (A1:cG) (n1 c1:Nat) (zs1:List Int) (A2:cG) (n2 c2:Nat) (zs2:List Int) (v:Value) (ls:List Sd):Prop where
 o1:wr.ownsRow B0 3 1 (.slice A1 n1 c1) n1 (zs1.map encZ)
 o2:wr.ownsRow B 3 1 (.slice A2 n2 c2) n2 (zs2.map encZ)
 os:wr.ownsRow B 263 7 v ls.length (Fc ls)
 ok:∀s∈ls,qY wr B s.x
section
variable {B0 B:Nat} {wr w':World} {A1:cG} {n1 c1:Nat} {zs1:List Int} {A2:cG} {n2 c2:Nat} {zs2:List Int} {v v':Value} {ls:List Sd}
def Es.below(h:Es B0 B wr A1 n1 c1 zs1 A2 n2 c2 zs2 v ls)(hb:cI wr w'):Es B0 B w' A1 n1 c1 zs1 A2 n2 c2 zs2 v ls :=
 ⟨dg h.o1 hb,dg h.o2 hb,dg h.os hb,fun s hs=>fh.below (h.ok s hs) hb⟩
def Es.kq(h:Es B0 B wr A1 n1 c1 zs1 A2 n2 c2 zs2 v ls)(hq:Kq wr w'):Es B0 B w' A1 n1 c1 zs1 A2 n2 c2 zs2 v ls :=
 ⟨hq.own h.o1,hq.own h.o2,hq.own h.os,fun s hs=>hq.XT (h.ok s hs)⟩
def Es.row(h:Es B0 B wr A1 n1 c1 zs1 A2 n2 c2 zs2 v ls){k:Nat}(hg:wr.grownBy w' (some k))(hk:∃cs fr,wr.heap[k]?=some (.cells cs 231 fr)):Es B0 B w' A1 n1 c1 zs1 A2 n2 c2 zs2 v ls :=
 ⟨fV h.o1 hg (oN h.o1 hk (by decide)),fV h.o2 hg (oN h.o2 hk (by decide)),fV h.os hg (oN h.os hk (by decide)),fun s hs=>fh.row (h.ok s hs) hg hk (by decide) (by decide)⟩
def Es.app(h:Es B0 B wr A1 n1 c1 zs1 A2 n2 c2 zs2 v ls){s:Sd}(hs:qY wr B s.x)(ho:w'.ownsRow B 263 7 v' (ls.length+1) (Fc ls++Ut s))(hg:wr.grownBy w' v.ownBlock):Es B0 B w' A1 n1 c1 zs1 A2 n2 c2 zs2 v' (ls++ [s]) :=
 ⟨fV h.o1 hg (nS h.o1 h.os (by decide)),fV h.o2 hg (nS h.o2 h.os (by decide)),by rw [Hx]; simpa [Fc] using ho,fun z hz=>by
  rcases eZ.1 hz with hz|hz
  ·exact fh.Yh (h.ok z hz) h.os hg
  ·rw [ew.1 hz]; exact fh.Yh hs h.os hg⟩
end
def EI{wr w':World}{k:Nat}{t:TypeId}(h:∃cs fr,wr.heap[k]?=some (.cells cs t fr))(hb:cI wr w'):∃cs fr,w'.heap[k]?=some (.cells cs t fr):=by
 obtain⟨cs,fr,e⟩:=h;exact⟨cs,fr,(hb.block _ (df.1 e).1).trans e⟩
def Vh{wr w':World}{k:Nat}{t:TypeId}{row:Option Nat}(h:∃cs fr,wr.heap[k]?=some (.cells cs t fr))(hg:wr.grownBy w' row)(a:row≠some k):∃cs fr,w'.heap[k]?=some (.cells cs t fr):=by
 obtain⟨cs,fr,e⟩:=h;exact⟨cs,fr,(hg.block _ (df.1 e).1 (fun e2=>a e2.symm)).trans e⟩
def gS.app{w wr w':World}{g b:Nat}{N N':Fn}{f:Nat→Nat}{iv:Int}{B:Nat}(h:gS w wr g b N f N')(hb:Below B wr w')(hB:w.heap.size≤B)(hF:fR w g b iv N f)(hs:∀i,i<256→(N' i).isSome=true→(N i).isSome=true):gS w w' g b N f N':=by
 obtain⟨iv,a,a'⟩:=h.c0;have d:=hF.lt;have hc:∀j,w'.cell? ⟨g,j,none⟩=wr.cell? ⟨g,j,none⟩:=fun j=>cY (a:=⟨g,j,none⟩) (hb.block g (by omega))
 have hm:∀ {Bb k:Nat} {M:Int→Option Value},dV Bb wr k M→k<w.heap.size→dV Bb w' k M:=fun {Bb k M} hm hk=>by
  obtain⟨D,⟨es,clock,e,r⟩,hd⟩:=hm;exact⟨D,⟨es,clock,(hb.block k (by omega)).trans e,r⟩,hd⟩
 exact ⟨⟨iv,(hc 0).trans a,a'⟩,(hc 1).trans h.c1,hm h.nb d.2,fun i hi D hD=>by
  obtain⟨M,c,he⟩:=h.el i hi D hD;exact ⟨M,hm c (hF.Xd hi (hs i hi (by rw [hD]; rfl))),he⟩,h.kf.my hb hB⟩
def eX(o:Option Hd):La:=match o with|some h=>h.x|none=>dT
def Ox(D:Db):List La:=(eR D).map fun i=>eX (D i.toNat)
end Go.Proofs.YtehimhbgakpenaaGreat.Fd
