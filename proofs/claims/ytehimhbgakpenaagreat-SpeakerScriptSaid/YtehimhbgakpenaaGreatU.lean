/- Lemmas. -/
import Derived.Test.YtehimhbgakpenaaGreatT
set_option linter.all false
set_option maxRecDepth 100000
set_option maxHeartbeats 16000000
namespace Go.Proofs.YtehimhbgakpenaaGreat.Fd
open Go.RowKit Go.Maps Go.Sort
def dO(D:Db)(o:Int):Option Hd:=if 0≤o∧o<64 then D o.toNat else none
def vE(D:Db)(a:La):Bool:=match dO D a.o with|some h=>kS h.x a|none=>false
def pN(D:Db)(a:La):Db:=if vE D a=true then fun i=>if i=a.o.toNat then none else D i else D
def Ew(w:World)(g b:Nat)(iv:Int)(N:Fn)(f:Nat→Nat)(lk:Nat)(D:Db)(a:La)(e:Ending)(w':World):Prop :=
 e= .returned (.tuple #[(vE D a),.int .i64 0])∧fR w' g b iv (eY N lk (pN D a)) f∧w.grownBy w' (some (f lk))
def PZ(w:World)(g b:Nat)(iv:Int)(N:Fn)(f:Nat→Nat)(h:fR w g b iv N f)(lk:Nat)(hl:lk<256)(D:Db)(hD:N lk=some D)(v:Value)(a:La)(hv:eU w v a)(u:(Lit.int .i64 a.o).wf=true) :
  Calls Tryz.prog 69 #[.pointer (some ⟨g,0,none⟩),.int .i64 (lk:Int),v] w (Ew w g b iv N f lk D a):=by
 obtain⟨A,c,B,d,rfl,t⟩:=hv.opened;clear hv;have S:=(St.start w).nw #[a.o,a.s,a.a,.bool a.ov,.slice A a.adj.length c,.slice B a.pre.length d] 41 w.heap.size;have hs:(N lk).isSome=true:=by rw[hD];rfl
 obtain⟨M,hm,he⟩:=h.el lk hl D hD;have m:iu w (M a.o) (dO D a.o):=by
  unfold dO
  by_cases ho:0≤a.o∧a.o<64
  ·rw[cR ho];have:=he a.o.toNat (by omega)
   rwa[dR ho.1]at this
  ·rw[cN ho];cases hM:M a.o with
   |none=>trivial
   |some z=>exact absurd (hm.small (i:=a.o) (by rw[hM];rfl)) (by omega)
 have L:(Lit.int .i64 (lk:Int)).wf=true:=lW (by omega) (by omega);have n:Hid (∀w',cI w w'→vE D a=false→Ew w g b iv N f lk D a (.returned (.tuple #[.bool false,.int .i64 0])) w'):=fun w' hb ho=>by
  have e:eY N lk (pN D a)=N:=by
   unfold eY pN;rw[ho,cN (by simp)]
   funext j
   by_cases e:j=lk
   ·subst e;rw[cR rfl,hD]
   ·rw[cN e]
  refine⟨by rw[ho],?_,ij hb _⟩
  rw[e];exact h.below hb
 have p:Hid (∀wa w',cI w wa→vE D a=true→dV 64 w' (f lk) (fun j=>if j=a.o then none else M j)→wa.grownBy w' (some (f lk))→Ew w g b iv N f lk D a (.returned (.tuple #[.bool true,.int .i64 0])) w'):=fun wa w' hb ho G hg=>by
  have I:=(ij hb (some (f lk))).trans hg;have hq:=(Kq.qH hb).trans (Kq.of_map (hm.below hb) hg);have C:0≤a.o∧a.o<64:=by
   by_cases h9:0≤a.o∧a.o<64
   ·exact h9
   ·unfold vE dO at ho;rw[cN h9]at ho;cases ho
  obtain⟨k,hk⟩:=de C.1;rw[hk]at G;have O:=xq.put hm he hq k (by omega) none none trivial G;have e:eY N lk (pN D a)=fun j=>if j=lk then some (fun i=>if i=k then none else D i)else N j:=by
   unfold eY pN;rw[ho,cR rfl,hk,cU]
  refine⟨by rw[ho],?_,I⟩
  rw[e];exact h.uy hl hs O I
 have P:=cW S.b h.c1;have K1:=(h.nb.below S.b).lE G7 L;rw[rK hl,hD]at K1;simp only[Option.map_some,Option.getD_some,Option.isSome_some]at K1;have K2:=(hm.below S.b).lE Oy u;have hu:∃u0 u1 u2 u3 A9 n9 c9 B9 m9 d9 u6,(M a.o).getD JP= .agg #[.int .i64 u0,.int .i64 u1,.int .i64 u2,.bool u3,.slice A9 n9 c9,.slice B9 m9 d9,.int .i64 u6]:=by
  cases hM:M a.o with
  |none=>exact⟨_,_,_,_,_,_,_,_,_,_,_,rfl⟩
  |some vv=>
    rw[hM]at m;cases hN:dO D a.o with
    |none=>rw[hN]at m;exact m.elim
    |some hh=>
      rw[hN]at m;obtain⟨A9,c9,B9,d9,rfl,_⟩:=m;exact⟨_,_,_,_,_,_,_,_,_,_,_,rfl⟩
 obtain⟨u0,u1,u2,u3,A9,n9,c9,B9,m9,d9,u6,hu⟩:=hu;rw[hu]at K2;obtain⟨ok,q⟩:∃z,(M a.o).isSome=z:=⟨_,rfl⟩
 rw[q]at K2;replace hu:=φ hu;replace q:=φ q;replace hm:=φ hm;obtain⟨a0,a1,a2,a3,a4,a5⟩:=(S.box 0 rfl).b6;clear h he;go_in;go_upto_region 7 with fail;clear a0;clear P K1 K2;have S2:=S.nw #[.int .i64 u0,.int .i64 u1,.int .i64 u2,.bool u3,.slice A9 n9 c9,.slice B9 m9 d9,.int .i64 u6] 231 (w.heap.size+1);clear S;generalize World.alloc (World.alloc w _) _=w2 at *;cases ok with
 |false=>
   have E:vE D a=false:=by
    unfold vE;cases hN:dO D a.o with
    |none=>rfl
    |some hh=>
      rw[hN]at m;cases hM:M a.o with
      |none=>rw[hM]at m;exact m.elim
      |some z=>have:=q.out;rw[hM]at this;cases this
   have hf:=n.out _ S2.b E;replace hf:=φ hf;clear n p E m;go_wp2;go_ret2;exact hf.out
 |true=>
   obtain⟨hh,K,y,H⟩:∃hh,dO D a.o=some hh∧(.agg #[.int .i64 u0,.int .i64 u1,.int .i64 u2,.bool u3,.slice A9 n9 c9,.slice B9 m9 d9,.int .i64 u6]:Value)=vM hh.x A9 c9 B9 d9 hh.l∧eU w (ig hh.x.o hh.x.s hh.x.a hh.x.ov A9 hh.x.adj.length c9 B9 hh.x.pre.length d9) hh.x:=by
    cases hM:M a.o with
    |none=>have:=q.out;rw[hM]at this;cases this
    |some vv=>
      rw[hM]at m;cases hN:dO D a.o with
      |none=>rw[hN]at m;exact m.elim
      |some hh=>
        rw[hN]at m;obtain⟨A8,c8,B8,d8,rfl,t⟩:=m;have hv:=hu.out;rw[hM]at hv;simp only[Option.getD_some,eE,eS,dJ,dp,jr,jO,fE,fv]at hv;obtain⟨rfl,rfl,rfl,rfl,⟨rfl,rfl,rfl⟩,⟨rfl,rfl,rfl⟩,rfl⟩:=hv;exact⟨hh,rfl,rfl,t.1⟩
   simp only[eE,eS,dJ,dp,jr,jO,fE,fv]at y;obtain⟨rfl,rfl,rfl,rfl,rfl,rfl,rfl⟩:=y;have SM:=Lz w2 _ _ hh.x a (H.below S2.b) (t.below S2.b);have r:Hid (vE D a=kS hh.x a):=by show _=_;unfold vE;rw[K]
   generalize kS hh.x a=z at *;replace SM:=φ SM;clear m K t H;obtain⟨a0,a1,a2,a3,a4,a5⟩:=(S2.box 1 rfl).b6;have r0:=(S2.box 0 rfl).b6;go_wp2_with fail;(with_reducible refine(SM.out).mono ?_);rintro e w3 ⟨rfl,hb⟩;clear a0;clear r0;replace S2:=S2.call hb;clear SM hb;cases z with
   |false=>
     have hf:=n.out _ S2.b r.out;replace hf:=φ hf;clear n p r;go_wp2;go_ret2;exact hf.out
   |true=>
     obtain⟨w9,Q,F,J⟩:=(hm.out.below S2.b).tP Oy 0 (i:=a.o) u;have hf:=p.out _ _ S2.b r.out F J;replace hf:=φ hf;clear n p r F J;have a0:=(S2.box 1 rfl).b6;go_wp2;go_ret2;exact hf.out
end Go.Proofs.YtehimhbgakpenaaGreat.Fd
namespace Go.Proofs.YtehimhbgakpenaaGreat.Fd
open Go.RowKit Go.Maps Go.Sort Go.Shelf
def Xb(N:Fn)(z:Int):Option Db:=if 0≤z∧z<256 then N z.toNat else none
def JJ{N:Fn}{i:Nat}(hi:i<256):Xb N (i:Int)=N i:=by
 unfold Xb;rw[cR ⟨by omega,by omega⟩,cU]
def Cy{N:Fn}{f:Nat→Nat}{z:Int}(h:Xb N z=none):sF N f z=none:=by
 unfold sF;unfold Xb at h;split
 ·next h2=>rw[cR h2]at h;rw[h];rfl
 ·rfl
section
variable {w w':World} {g b:Nat} {iv:Int} {N:Fn} {f:Nat → Nat}
def fR.down(h:fR w g b iv N f){i:Nat}(hi:i<256)(hm:dV 256 w' b (fun j=>if j=(i:Int)then none else sF N f j))(hg:w.grownBy w' (some b)):fR w' g b iv (gx N i) f:=by
 have hq:=Kq.of_map h.nb hg;refine⟨hq.cell h.c0,hq.cell h.c1,?_,fun j hj D hD=>?_,fun j hj hs=>?_,fun j k hj hk c a e=>?_⟩
 ·have e:sF (gx N i) f=fun j=>if j=(i:Int)then none else sF N f j:=by
   funext z
   unfold sF gx
   by_cases e:z=(i:Int)
   ·subst e;simp
   ·rw[if_neg e];split
    ·next h2=>rw[if_neg (by omega)]
    ·rfl
  rw[e];exact hm
 ·unfold gx at hD;split at hD
  ·cases hD
  ·exact(h.el j hj D hD).kept hq hg (h.ne j hj (by rw[hD];rfl))
 ·unfold gx at hs;split at hs
  ·cases hs
  ·exact h.ne j hj hs
 ·unfold gx at c a;split at c
  ·cases c
  ·split at a
   ·cases a
   ·exact h.inj j k hj hk c a e
end
def QI(w:World)(g b:Nat)(iv:Int)(N':Fn)(f:Nat→Nat)(e:Ending)(w':World):Prop:=e= .returned (.int .i64 0)∧fR w' g b iv N' f∧w.grownBy w' (some b)
def Mb(w:World)(g b:Nat)(iv:Int)(N:Fn)(f:Nat→Nat)(h:fR w g b iv N f)(i:Nat)(hi:i<256)(D:Db)(hD:N i=some D) :
  Calls Tryz.prog 145 #[.pointer (some ⟨g,0,none⟩),i] w (QI w g b iv (gx N i) f):=by
 have c1:=h.c1;have c:(Lit.int .i64 (i:Int)).wf=true:=lW (by omega) (by omega);have K1:=h.nb.lE G7 c;rw[rK hi,hD]at K1;simp only[Option.map_some,Option.getD_some,Option.isSome_some]at K1;obtain⟨w9,e,d,a⟩:=h.nb.tP G7 0 c;have hf:=φ (h.down hi d a);clear h d;replace a:=φ a;go_in;go_wp2;go_ret;exact⟨rfl,hf,a⟩
def LW(w:World)(g b:Nat)(iv:Int)(N:Fn)(f:Nat→Nat)(h:fR w g b iv N f)(z:Int)(hz:(Lit.int .i64 z).wf=true)(hN:Xb N z=none)(v:Value)(a:La)(hv:eU w v a) :
  Calls Tryz.prog 121 #[.pointer (some ⟨g,0,none⟩),z,v] w fun e w'=>e= .returned (.int .i64 8)∧cI w w':=by
 obtain⟨A,c,B,d,rfl,i⟩:=hv.opened;have S:=(St.start w).nw #[a.o,a.s,a.a,a.ov,.slice A a.adj.length c,.slice B a.pre.length d] 41 w;have hb9:=S.b;have c1:=cW S.b h.c1;have K1:=(h.nb.below S.b).lE G7 hz;rw[Cy hN]at K1;simp only[Option.getD_none,Option.isSome_none]at K1;clear h hN i hv S;go_in;go_wp2;go_ret;exact⟨rfl,hb9⟩
def Kc(w:World)(g b:Nat)(iv:Int)(N':Fn)(f:Nat→Nat)(k:Nat)(er:Int)(e:Ending)(w':World):Prop:=e= .returned (.int .i64 er)∧fR w' g b iv N' f∧w.grownBy w' (some k)
def Ix(w:World)(g b:Nat)(iv:Int)(N:Fn)(f:Nat→Nat)(h:fR w g b iv N f)(i:Nat)(hi:i<256)(D:Db)(hD:N i=some D)(v:Value)(a:La)(hv:eU w v a)(l:¬dS a) :
  Calls Tryz.prog 121 #[.pointer (some ⟨g,0,none⟩),i,v] w fun e w'=>e= .returned (.int .i64 1)∧cI w w':=by
 obtain⟨A,c,B,d,rfl,j⟩:=hv.opened;have S:=(St.start w).nw #[a.o,a.s,a.a,a.ov,.slice A a.adj.length c,.slice B a.pre.length d] 41 w;have c1:=cW S.b h.c1;have k:(Lit.int .i64 (i:Int)).wf=true:=lW (by omega) (by omega);have K1:=(h.nb.below S.b).lE G7 k;rw[rK hi,hD]at K1;simp only[Option.map_some,Option.getD_some,Option.isSome_some]at K1;have V:=me _ _ a (j.below S.b);rw[uZ l]at V;replace V:=φ V;clear h j hv;have q0:=(S.box 0 rfl).b6;go_in;go_wp2_with fail;refine V.out.mono ?_;rintro e w1 ⟨rfl,hb⟩;replace S:=S.call hb;have hb9:=S.b;clear hb V S q0;go_wp2;go_ret;exact⟨rfl,hb9⟩
def Iw(w:World)(g b:Nat)(iv:Int)(N:Fn)(f:Nat→Nat)(h:fR w g b iv N f)(i:Nat)(hi:i<256)(D:Db)(hD:N i=some D)(v:Value)(a:La)(hv:eU w v a)(k:dS a) :
  Calls Tryz.prog 121 #[.pointer (some ⟨g,0,none⟩),i,v] w (Kc w g b iv (eY N i (mu D a)) f (f i) 0):=by
 obtain⟨A,c,B,d,rfl,j⟩:=hv.opened;have S:=(St.start w).nw #[a.o,a.s,a.a,a.ov,.slice A a.adj.length c,.slice B a.pre.length d] 41 w;have c1:=cW S.b h.c1;have m:(Lit.int .i64 (i:Int)).wf=true:=lW (by omega) (by omega);have K1:=(h.nb.below S.b).lE G7 m;rw[rK hi,hD]at K1;simp only[Option.map_some,Option.getD_some,Option.isSome_some]at K1;have V:=me _ _ a (j.below S.b);rw[nA k]at V;have OF:=fun W (hb:cI w W)=>te W g b iv N f (h.below hb) i hi D hD _ a (j.below hb) k
 replace V:=φ V;replace OF:=φ OF;clear h j hv;obtain⟨q0,q1,q2,q3,q4,q5⟩:=(S.box 0 rfl).b6;go_in;go_wp2_with fail;refine V.out.mono ?_;rintro e w1 ⟨rfl,hb⟩;clear q0;replace S:=S.call hb;clear hb V;have q0:=(S.box 0 rfl).b6;have l:=S.b;go_wp2_with fail;refine (OF _ l).mono ?_;rintro e w2 ⟨rfl,hF,hg⟩;clear q0;have hf:Kc w g b iv (eY N i (mu D a)) f (f i) 0 (.returned i0) w2:=⟨rfl,hF,(ij l _).trans hg⟩
 replace hf:=φ hf;clear hF hg S OF;go_wp2;go_ret;exact hf
def TH(w:World)(g b:Nat)(iv:Int)(N:Fn)(f:Nat→Nat)(h:fR w g b iv N f)(z:Int)(hz:(Lit.int .i64 z).wf=true)(hN:Xb N z=none)(v:Value)(a:La)(hv:eU w v a) :
  Calls Tryz.prog 69 #[.pointer (some ⟨g,0,none⟩),z,v] w fun e w'=>e= .returned (.tuple #[false,.int .i64 8])∧cI w w':=by
 obtain⟨A,c,B,d,rfl,i⟩:=hv.opened;have S:=(St.start w).nw #[a.o,a.s,a.a,a.ov,.slice A a.adj.length c,.slice B a.pre.length d] 41 w;have hb9:=S.b;have c1:=cW S.b h.c1;have K1:=(h.nb.below S.b).lE G7 hz;rw[Cy hN]at K1;simp only[Option.getD_none,Option.isSome_none]at K1;clear h hN i hv S;go_in;go_wp2;go_ret2;exact⟨rfl,hb9⟩
end Go.Proofs.YtehimhbgakpenaaGreat.Fd
namespace Go.Proofs.YtehimhbgakpenaaGreat.Fd
open Go.RowKit Go.Maps Go.Sort
def pK(F:Nat→Db→Db)(N:Fn)(k:Nat):Fn:=fun i=>if (i:Int)∈(iA N).take k then(N i).map (F i)else N i
def CM(F:Nat→Db→Db)(N:Fn):pK F N 0=N:=by funext i;simp[pK]
def Gh(F:Nat→Db→Db)(N:Fn)(i:Nat)(hi:i<256):pK F N (iA N).length i=(N i).map (F i):=by
 unfold pK;rw[dE]
 by_cases h:(i:Int)∈iA N
 ·rw[cR h]
 ·rw[cN h];cases hN:N i with
  |none=>rfl
  |some D=>exact absurd ((jQ (i:Int)).2 ⟨⟨by omega,by omega⟩,by rw[cU,hN];rfl⟩) h
def JS(F:Nat→Db→Db)(N:Fn)(k:Nat)(hk:k< (iA N).length)(q:Nat)(hq:(iA N)[k]=(q:Int)):pK F N k q=N q:=by
 unfold pK;rw[cN (by rw[←hq];exact DX hk)]
def CN(F:Nat→Db→Db)(N:Fn)(k:Nat)(hk:k< (iA N).length)(q:Nat)(hq:(iA N)[k]=(q:Int)){D:Db}(hD:N q=some D):pK F N (k+1)=eY (pK F N k) q (F q D):=by
 funext i
 unfold pK eY;rw[List.take_succ_eq_append_getElem hk,hq]
 by_cases e:i=q
 ·subst e;simp[hD]
 ·have e2:(i:Int)≠(q:Int):=by omega
  simp[e,e2]
def fR.ext{w:World}{g b:Nat}{iv:Int}{N N':Fn}{f:Nat→Nat}(h:fR w g b iv N f)(e:∀i,i<256→N' i=N i):fR w g b iv N' f:=by
 refine⟨h.c0,h.c1,?_,fun i hi D hD=>h.el i hi D (by rw[←e i hi];exact hD),fun i hi hs=>h.ne i hi (by rw[←e i hi];exact hs),fun i j hi hj hs a=>h.inj i j hi hj (by rw[←e i hi];exact hs) (by rw[←e j hj];exact a)⟩
 have e2:sF N' f=sF N f:=by
  funext z
  unfold sF
  by_cases hz:0≤z∧z<256
  ·rw[if_pos hz,if_pos hz,e z.toNat (by omega)]
  ·rw[if_neg hz,if_neg hz]
 rw[e2];exact h.nb
noncomputable def N0(D:Db)(a:La):Bool:=match D a.o.toNat with|some h=>decide (kO h.x a≤0)|none=>false
noncomputable def QQ(D:Db)(a:La):Db:=if N0 D a=true then fun i=>if i=a.o.toNat then none else D i else D
noncomputable def mj(a:La)(ex:Int)(i:Nat)(D:Db):Db:=if ((i:Int) !=ex)=true then mu D a else QQ D a
noncomputable def zv(N:Fn)(a:La)(ex:Int):Fn:=fun i=>(N i).map (mj a ex i)
def J9(w:World)(g b:Nat)(iv:Int)(N:Fn)(f:Nat→Nat)(a:La)(ex:Int)(e:Ending)(w':World):Prop:=e= .returned (.int .i64 0)∧fR w' g b iv (zv N a ex) f∧Kf (FS N f) w w'
def Gi(w:World)(g:Nat)(v:Value)(a:La)(hv:eU w v a)(h:¬dS a)(ex:Int) :
  Calls Tryz.prog 93 #[.pointer (some ⟨g,0,none⟩),v,ex] w fun e w'=>e= .returned (.int .i64 1)∧cI w w':=by
 obtain⟨A,c,B,d,rfl,f⟩:=hv.opened;have S:=(St.start w).nw #[a.o,a.s,a.a,a.ov,.slice A a.adj.length c,.slice B a.pre.length d] 41 w;have V:=me _ _ a (f.below S.b);rw[uZ h]at V;replace V:=φ V;clear f hv;have q0:=(S.box 0 rfl).b6;go_in;go_wp2_with fail;refine V.out.mono ?_;rintro e w1 ⟨rfl,hb⟩;replace S:=S.call hb;have hb9:=S.b;clear hb V S q0;go_wp2;go_ret;exact⟨rfl,hb9⟩
def Gj(w:World)(g b:Nat)(iv:Int)(N:Fn)(f:Nat→Nat)(h:fR w g b iv N f)(v:Value)(a:La)(hv:eU w v a)(ah:dS a)(ex:Int) :
  Calls Tryz.prog 93 #[.pointer (some ⟨g,0,none⟩),v,.int .i64 ex] w (J9 w g b iv N f a ex):=by
 obtain⟨A,c,B,d,rfl,C⟩:=hv.opened;have S:=(St.start w).nw #[a.o,a.s,a.a,.bool a.ov,.slice A a.adj.length c,.slice B a.pre.length d] 41 w.heap.size;have V:=me _ _ a (C.below S.b);rw[nA ah]at V;have O:=fun W (hb:Below w.heap.size w W)=>vx W g b iv N f (h.below hb)
 unfold nQ at O;obtain⟨len,hlen⟩:∃z,(iA N).length=z:=⟨_,rfl⟩
 have aC:len≤256:=by rw[←hlen];exact wK N
 rw[hlen]at O;replace V:=φ V;replace O:=φ O;obtain⟨q0,q1,q2,q3,q4,q5⟩:=(S.box 0 rfl).b6;go_in;go_wp2_with fail;(with_reducible refine(V.out).mono ?_);rintro e w1 ⟨rfl,hb⟩;clear q0 q1 q2 q3 q4 q5;replace S:=S.call hb;clear hb V;go_wp2_with fail;(with_reducible refine(O.out _ S.b).mono ?_);rintro e w2 ⟨A1,c1,rfl,og,hb⟩;replace S:=S.call hb;have hF:=h.below S.b;have U:=C.below S.b;have ai:Rd w2 A1 ((iA N).map encZ):=dQ og;have ak:=S.box 0 rfl;have aw:Hid (∀wr,fR wr g b iv (pK (mj a ex) N len) f→Kf (FS N f) w2 wr→J9 w g b iv N f a ex (.returned (.int .i64 0)) wr):=fun wr h1 h2=>
  ⟨rfl,h1.ext fun i hi=>by rw[←hlen,Gh (mj a ex) N i hi];rfl,((Kf.refl _ w).below S.b).trans h2⟩
 have y:Hid (fR w2 g b iv (pK (mj a ex) N 0) f∧Kf (FS N f) w2 w2):=by
  show _∧_
  rw[CM];exact⟨hF,Kf.refl _ _⟩
 replace hF:=φ hF;replace U:=φ U;replace ai:=φ ai;replace ak:=φ ak;replace hlen:=φ hlen;clear h C hv og hb O S;go_wp2_with fail;go_loopw [19] (fun ae wr=>∃(k:Nat),ae= .int .i64 k∧k≤len∧Hid (fR wr g b iv (pK (mj a ex) N k) f∧Kf (FS N f) w2 wr)) (fun ae _=>len - (intOf ae).toNat)
 case atStart=>exact⟨0,rfl,by omega,y⟩
 case round=>
  clear y;obtain⟨k,rfl,hk,y⟩:=hrel;obtain⟨t,K⟩:=y.out
  by_cases hkn:k<len
  ·have ac:k< (iA N).length:=by rw[hlen.out];exact hkn
   have P:=(jQ (N:=N) (iA N)[k]).1 (List.getElem_mem ac);obtain⟨q,hq⟩:=Int.eq_ofNat_of_zero_le P.1.1;have r:q<256:=by have:=P.1.2;omega
   have am:(N q).isSome=true:=by have:=P.2;rwa[hq,Int.toNat_natCast]at this
   obtain⟨D,hD⟩:=Option.isSome_iff_exists.1 am;have ax:=JS (mj a ex) N k ac q hq;have m:=CN (mj a ex) N k ac q hq hD;have L:pK (mj a ex) N k q=some D:=by rw[ax,hD]
   have ad:=K.kq hF.out.maps;obtain⟨bz,aG,rfl,hz⟩:=gE (ad.rd ai.out) (by simp only[List.length_map];omega);have z0:=hz k _ (by rw[List.getElem?_map,List.getElem?_eq_getElem ac];rfl);rw[hq]at z0;unfold encZ at z0;have hB:=ad.box ak.out;have C:=ad.la U.out;have F:∀w',wr.grownBy w' (some (f q))→Kf (FS N f) w2 w':=fun w' hg=>K.row hg (.inl ⟨q,r,am,rfl⟩)
   replace F:=φ F;replace m:=φ m;replace L:=φ L;replace hq:=φ hq;clear hz ad P ax;obtain⟨q0,q1,q2,q3,q4,q5⟩:=hB.b6;cases hqe:((q:Int) !=ex)with
   |true=>
     have OF:=φ (te wr g b iv _ f t q r D L.out _ a C ah);have e9:Hid (pK (mj a ex) N (k+1)=eY (pK (mj a ex) N k) q (mu D a)):=show _=_ by rw[m.out];unfold mj;rw[if_pos hqe]
     clear t K m;go_wp2_with fail;(with_reducible refine(OF.out).mono ?_);rintro e w3 ⟨rfl,az,hg⟩;clear q0 q1 q2 q3 q4 q5 z0 OF;have G:Hid (fR w3 g b iv (pK (mj a ex) N (k+1)) f∧Kf (FS N f) w2 w3):=show _∧_ by rw[e9.out];exact⟨az,F.out w3 hg⟩
     clear az hg e9 F hB C;go_wp2;go_round
     case rel=>exact⟨k+1,by go_num,by omega,G⟩
     case measure=>simp[intOf];omega
   |false=>
     have ho:=ah.1;obtain⟨kk,E⟩:=Int.eq_ofNat_of_zero_le ho.1;obtain⟨M,hm,he⟩:=t.el q r D L.out;have n:=he kk (by omega);have ag:(Lit.int .i64 a.o).wf=true:=lW ho.1 (by omega);have af:(Lit.int .i64 (q:Int)).wf=true:=lW (by omega) (by omega);have aj:(sF (pK (mj a ex) N k) f (q:Int)).getD (.map none)= .map (some (f q)):=by rw[rK r,L.out];rfl
     have p:Hid (N0 D a=false→ ∀w',Below wr.heap.size wr w'→fR w' g b iv (pK (mj a ex) N (k+1)) f∧Kf (FS N f) w2 w'):=fun hr w' hb=>by
      refine⟨?_,K.below hb⟩
      rw[m.out];have eD:mj a ex q D=D:=by unfold mj QQ;rw[if_neg (by rw[hqe];simp),hr,if_neg (by simp)]
      rw[eD];refine(t.below hb).ext fun i hi=>?_
      unfold eY
      by_cases e:i=q
      ·subst e;rw[if_pos rfl,L.out]
      ·rw[if_neg e]
     have Q:Hid (N0 D a=true→ ∀wa w',Below wr.heap.size wr wa→dV 64 w' (f q) (fun j=>if j=a.o then none else M j)→wa.grownBy w' (some (f q))→fR w' g b iv (pK (mj a ex) N (k+1)) f∧Kf (FS N f) w2 w'):=fun hr wa w' hb aq hg=>by
      have au:=(ij hb (some (f q))).trans hg;have aA:=(Kq.qH hb).trans (Kq.of_map (hm.below hb) hg);rw[E]at aq;have aD:=xq.put hm he aA kk (by omega) none none trivial aq;refine⟨?_,F.out w' au⟩
      rw[m.out];have e9:mj a ex q D=fun i=>if i=kk then none else D i:=by
       unfold mj QQ;rw[if_neg (by rw[hqe];simp),hr,if_pos rfl,E,Int.toNat_natCast]
      rw[e9];exact t.uy r (by rw[L.out];rfl) aD au
     have c1:=t.c1;have R:=t.nb;generalize I:(M a.o).getD JP=u at *;generalize J:(M a.o).isSome=ok at *;have hu:∃u0 u1 u2 u3 A9 n9 c9 B9 m9 d9 u6,u= .agg #[.int .i64 u0,.int .i64 u1,.int .i64 u2,.bool u3,.slice A9 n9 c9,.slice B9 m9 d9,.int .i64 u6]:=by
      rw[←I];cases hM:M a.o with
      |none=>exact⟨_,_,_,_,_,_,_,_,_,_,_,rfl⟩
      |some vv=>
        rw[←E,hM]at n;cases hN:D kk with
        |none=>rw[hN]at n;exact n.elim
        |some hh=>
          rw[hN]at n;obtain⟨A9,c9,B9,d9,rfl,_⟩:=n;exact⟨_,_,_,_,_,_,_,_,_,_,_,rfl⟩
     obtain⟨u0,u1,u2,u3,A9,n9,c9,B9,m9,d9,u6,rfl⟩:=hu;replace I:=φ I;replace J:=φ J;replace E:=φ E;clear t K y m;go_upto_region 10 with fail;have b2:=cQ wr (.cells #[.int .i64 0,.int .i64 0,.int .i64 0,.bool false,.slice none 0 0,.slice none 0 0,.int .i64 0] 231);have L1:=(hm.drew).lE Oy ag;have L2:=(hm.below b2).drew.lE Oy ag;have K1:=(R.drew).mM G7 af;have K2:=(R.below b2).drew.mM G7 af;rw[aj]at K1 K2;rw[I.out,J.out]at L1 L2;have r1:wr.drew.cell? ⟨g,1,none⟩=some (.map (some b)):=c1;have r2:(wr.alloc (.cells #[.int .i64 0,.int .i64 0,.int .i64 0,.bool false,.slice none 0 0,.slice none 0 0,.int .i64 0] 231)).drew.cell? ⟨g,1,none⟩=some (.map (some b)):=(by have:=cell_later b2 c1;exact this)
     have t0:wr.drew.cell? ⟨w.heap.size,0,none⟩=some (.int .i64 a.o):=q0;have t1:(wr.alloc (.cells #[.int .i64 0,.int .i64 0,.int .i64 0,.bool false,.slice none 0 0,.slice none 0 0,.int .i64 0] 231)).drew.cell? ⟨w.heap.size,0,none⟩=some (.int .i64 a.o):=(by have:=cell_later b2 q0;exact this)
     have ap:=φ aj;clear aj q0 q1 q2 q3 q4 q5;go_cut [9,10] (fun v9 v10 wx=>v9= .pointer (some ⟨wr.heap.size,0,none⟩)∧v10= .bool ok∧wx=(wr.alloc (.cells #[.int .i64 u0,.int .i64 u1,.int .i64 u2,.bool u3,.slice A9 n9 c9,.slice B9 m9 d9,.int .i64 u6] 231)).drew)
     case first=>
      go_region_law (fail)
      all_goals
       go_wp2;go_meet;exact⟨rfl,rfl,rfl⟩
     case rest=>
      obtain⟨rfl,rfl,rfl⟩:=hcut;clear L1 L2 K1 K2 r1 r2 t0 t1 b2;have b3:=(cQ wr (.cells #[.int .i64 u0,.int .i64 u1,.int .i64 u2,.bool u3,.slice A9 n9 c9,.slice B9 m9 d9,.int .i64 u6] 231)).drew;have hx:=(fq.iE wr #[.int .i64 u0,.int .i64 u1,.int .i64 u2,.bool u3,.slice A9 n9 c9,.slice B9 m9 d9,.int .i64 u6] 231 wr.heap.size _ rfl rfl).drew;have X:=hB.later b3;have T:=C.below b3;have ab:=hm.below b3;have aa:=R.below b3;have c4:=cell_later b3 c1;generalize (wr.alloc _).drew=w4 at *;have al:=b3;generalize Y:wr.heap.size=xb at *;replace Y:=φ Y;rw[←Y.out]at al;have x0:=hx.b6;obtain⟨q0,q1,q2,q3,q4,q5⟩:=X.b6;cases ok with
      |false=>
        have ao:N0 D a=false:=by
         have aE:M a.o=none:=by have:=J.out;simpa using this
         rw[←E.out,aE]at n;unfold N0;rw[E.out,Int.toNat_natCast];cases hN:D kk with
         |none=>rfl
         |some hh=>rw[hN]at n;exact n.elim
        have G:=φ (p.out ao w4 b3);clear p Q n ao hx X T ab aa c4;go_wp2;go_round
        case rel=>exact⟨k+1,by go_num,by omega,G⟩
        case measure=>simp[intOf];omega
      |true=>
        obtain⟨hh,ay,hu,ar⟩:∃hh,D kk=some hh∧(.agg #[.int .i64 u0,.int .i64 u1,.int .i64 u2,.bool u3,.slice A9 n9 c9,.slice B9 m9 d9,.int .i64 u6]:Value)=vM hh.x A9 c9 B9 d9 hh.l∧eU wr (ig hh.x.o hh.x.s hh.x.a hh.x.ov A9 hh.x.adj.length c9 B9 hh.x.pre.length d9) hh.x:=by
         rw[E.out]at J I;cases hM:M (kk:Int)with
         |none=>have:=J.out;rw[hM]at this;cases this
         |some vv=>
           rw[hM]at n;cases hN:D kk with
           |none=>rw[hN]at n;exact n.elim
           |some hh=>
             rw[hN]at n;obtain⟨A8,c8,B8,d8,rfl,C⟩:=n;have hv:=I.out;rw[hM]at hv;simp only[Option.getD_some,Value.agg.injEq,Array.mk.injEq,List.cons.injEq,Value.slice.injEq,Value.int.injEq,Value.bool.injEq,true_and,and_true]at hv;obtain⟨rfl,rfl,rfl,rfl,⟨rfl,rfl,rfl⟩,⟨rfl,rfl,rfl⟩,rfl⟩:=hv;exact⟨hh,rfl,rfl,C.1⟩
        simp only[Value.agg.injEq,Array.mk.injEq,List.cons.injEq,Value.slice.injEq,Value.int.injEq,Value.bool.injEq,true_and,and_true]at hu;obtain⟨rfl,rfl,rfl,rfl,rfl,rfl,rfl⟩:=hu;have NW:=rN w4 _ _ hh.x a (ar.below al) T;have Z:Hid (N0 D a=decide (kO hh.x a≤0)):=by show _=_;unfold N0;rw[E.out,Int.toNat_natCast,ay]
        generalize kO hh.x a=z at *;replace NW:=φ NW;clear n ay ar hx T I J;go_wp2_with fail;(with_reducible refine(NW.out).mono ?_);rintro e w5 ⟨rfl,H⟩;clear NW x0 q0 q1 q2 q3 q4 q5;have b5:=b3.trans (H.mono (by rw[←Y.out];exact al.size));rcases hz:decide (z≤0)with _|_
        ·have G:=φ (p.out (by rw[Z.out,hz]) w5 b5);clear p Q Z X ab aa c4 H;go_wp2;go_round
         case rel=>exact⟨k+1,by go_num,by omega,G⟩
         case measure=>simp[intOf];omega
        ·have c5:=cell_later H c4;have q0:=(X.later H).c 0 rfl;have K5:=((aa.below H).drew).mM G7 af;rw[ap.out]at K5;obtain⟨w9,aF,G,av⟩:=((ab.below H).drew).tP Oy 0 (i:=a.o) ag;have aB:=φ (Q.out (by rw[Z.out,hz]) _ _ b5.drew G av);clear p Q Z X ab aa c4 H G av;go_upto_region 12 with fail;have s1:w5.drew.cell? ⟨g,1,none⟩=some (.map (some b)):=c5;have s2:w5.drew.cell? ⟨w.heap.size,0,none⟩=some (.int .i64 a.o):=q0;go_region_law (fail)
         all_goals
          go_wp2;go_round
          case rel=>exact⟨k+1,by go_num,by omega,aB⟩
          case measure=>simp[intOf];omega
  ·obtain rfl:len=k:=by omega
   have hf:=aw.out _ t K;clear t K y;go_wp2;go_ret;exact hf
end Go.Proofs.YtehimhbgakpenaaGreat.Fd
