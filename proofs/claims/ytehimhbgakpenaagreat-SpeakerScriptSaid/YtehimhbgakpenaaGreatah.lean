/- Lemmas. -/
import Derived.Test.YtehimhbgakpenaaGreataf
import Derived.Test.YtehimhbgakpenaaGreatag
set_option linter.all false
set_option maxRecDepth 100000
set_option maxHeartbeats 16000000
namespace Go.Proofs.YtehimhbgakpenaaGreat
open Go.RowKit Go.Maps Go.Sort
def fe.Vx{w:World}{m:Sm}{S:Sp}{b a:Nat→Nat}{c:Nat}(h:fe w m S b c)(h1:∀k,b k=c→a k=c)(h2:∀k,b k=0→a k=0):fe w m S a c :=
 ⟨h.bx,h.tg,h.po,h.rO,h.rL,h.rB,h.lB,h.lT,h.db,h.fl,h.og,h.tO,h.ty,h1 _ h.cg,fun k hk=>h1 _ (h.cP k hk),h1 _ h.co,h1 _ h.cd,h1 _ h.cf,fun i hi hs=>h1 _ (h.cF i hi hs),⟨h2 _ h.z.1,h2 _ h.z.2⟩,h.ne,h.c0⟩
structure Bd (w wr:World) (N:Nm) (t:Tp) (h1 h2 h3:Int) (n1 n2:Nat) (P1:cG) (d1 m1:Nat) (P2:cG) (d2 m2:Nat) (cnt:Nat):Prop where
 bx:fq wr N.g [.int .i64 t.n,.slice N.O t.ov.length N.cO,.slice N.L t.ln.length N.cL,.slice N.A1 n1 N.c1,.slice N.A2 n2 N.c2]
 tg:Ty wr N.g 85
 gB:w.heap.size≤N.g
 rp:wr.ownsRow w.heap.size 31 1 (.slice P1 m1 d1) m1 (uz N.M m1)
 rq:wr.ownsRow w.heap.size 3 1 (.slice P2 m2 d2) m2 (List.replicate m2 (.int .i64 1))
 sp:∀j,j<cnt→fe wr (N.M j) (qI t j h1 h2 h3) N.col (j+1)
 nk:∀j,j<cnt→ ∀k,(k=N.g∨(Value.slice P1 m1 d1).ownBlock=some k∨(Value.slice P2 m2 d2).ownBlock=some k)→k≠(N.M j).gd∧k≠(N.M j).gf
 rO:Rd wr N.O (iw t.ov)∧ ∀ad,0<t.ov.length→N.O=some ad→ad.block<w.heap.size
 rL:Rd wr N.L (fw t.ln)∧ ∀ad,0<t.ln.length→N.L=some ad→ad.block<w.heap.size
 lT:t.ov.length≤maxLen∧t.ln.length≤maxLen
 bel:cI w wr
 cl:∀k,N.col k≤cnt
 c0:∀k,k<w.heap.size→N.col k=0
section
variable {w wr w':World} {N:Nm} {t:Tp} {h1 h2 h3:Int} {n1 n2:Nat} {P1:cG} {d1 m1:Nat} {P2:cG} {d2 m2 cnt:Nat}
def Bd.below(h:Bd w wr N t h1 h2 h3 n1 n2 P1 d1 m1 P2 d2 m2 cnt)(hb:Below wr.heap.size wr w'):Bd w w' N t h1 h2 h3 n1 n2 P1 d1 m1 P2 d2 m2 cnt :=
 ⟨h.bx.later hb,ee.below hb _ _ h.tg,h.gB,dg h.rp hb,dg h.rq hb,fun j hj=>(h.sp j hj).below hb,h.nk,⟨h.rO.1.below hb,h.rO.2⟩,⟨h.rL.1.below hb,h.rL.2⟩,h.lT,h.bel.trans (hb.mono h.bel.size),h.cl,h.c0⟩
def Bd.WL(h:Bd w wr N t h1 h2 h3 n1 n2 P1 d1 m1 P2 d2 m2 cnt)(hg:wr.grownBy w' (Value.slice P1 m1 d1).ownBlock){A':cG}{c':Nat}(m:(Value.slice A' (m1+1) c').ownBlock=(Value.slice P1 m1 d1).ownBlock∨(Value.slice A' (m1+1) c').ownBlock=some wr.heap.size)
  (ho:w'.ownsRow w.heap.size 31 1 (.slice A' (m1+1) c') (m1+1) (uz N.M (m1+1))):Bd w w' N t h1 h2 h3 n1 n2 A' c' (m1+1) P2 d2 m2 cnt:=by
 have hr:=h.rp;have n:∀k,k<wr.heap.size→(∀T',T'≠31→Ty wr k T'→w'.heap[k]?=wr.heap[k]?):=fun k hk T' hT ht=>kX ht hr hT hg
 have c:∀k,k<w.heap.size→w'.heap[k]?=wr.heap[k]?:=fun k hk=>hg.block k (eh hk h.bel.size) (fun e=>by have:=(hr.lt k e.symm).1;omega)
 have l:∀j,j<cnt→fe w' (N.M j) (qI t j h1 h2 h3) N.col (j+1):=fun j hj=>by
  rcases e:(Value.slice P1 m1 d1).ownBlock with _|k
  ·rw[e]at hg;exact(h.sp j hj).below ⟨hg.os,hg.tape,hg.output,hg.size,fun q hq=>hg.block q hq (by simp)⟩
  ·rw[e]at hg;have f:=h.nk j hj k (.inr (.inl e));exact(h.sp j hj).app hg (fY hr e) (.inr (.inr (.inl rfl))) f.1 f.2
 have d:=n _ (jo h.tg) _ (by decide) h.tg;refine⟨fun i u hu=>?_,?_,h.gB,ho,lP h.rq hr (by decide) hg,l,fun j hj k hk=>?_,⟨qd h.rO.1 h.rO.2 (by rw[fN];exact id) c,h.rO.2⟩,⟨qd h.rL.1 h.rL.2 (by rw[fK];omega) c,h.rL.2⟩,h.lT,h.bel.trans ⟨hg.os,hg.tape,hg.output,hg.size,c⟩,h.cl,h.c0⟩
 ·obtain⟨a,b⟩:=h.bx i u hu;exact⟨(cY (a:=⟨N.g,i,none⟩) d).trans a,(eC (a:=⟨N.g,i,none⟩) d).trans b⟩
 ·obtain⟨cur,fr,e⟩:=h.tg;exact⟨cur,fr,d.trans e⟩
 ·have o:=(h.sp j hj).db.lt.1;have p:=(h.sp j hj).fl.lt.1;rcases hk with e|e|e
  ·exact h.nk j hj k (.inl e)
  ·rcases m with e2|e2<;>rw[e2]at e;exact h.nk j hj k (.inr (.inl e));injection e with e;omega
  ·exact h.nk j hj k (.inr (.inr e))
def Bd.WK(h:Bd w wr N t h1 h2 h3 n1 n2 P1 d1 m1 P2 d2 m2 cnt)(hg:wr.grownBy w' (Value.slice P2 m2 d2).ownBlock){A':cG}{c':Nat}(m:(Value.slice A' (m2+1) c').ownBlock=(Value.slice P2 m2 d2).ownBlock∨(Value.slice A' (m2+1) c').ownBlock=some wr.heap.size)
  (ho:w'.ownsRow w.heap.size 3 1 (.slice A' (m2+1) c') (m2+1) (List.replicate (m2+1) (.int .i64 1))):Bd w w' N t h1 h2 h3 n1 n2 P1 d1 m1 A' c' (m2+1) cnt:=by
 have hr:=h.rq;have n:∀k,k<wr.heap.size→(∀T',T'≠3→Ty wr k T'→w'.heap[k]?=wr.heap[k]?):=fun k hk T' hT ht=>kX ht hr hT hg
 have c:∀k,k<w.heap.size→w'.heap[k]?=wr.heap[k]?:=fun k hk=>hg.block k (eh hk h.bel.size) (fun e=>by have:=(hr.lt k e.symm).1;omega)
 have l:∀j,j<cnt→fe w' (N.M j) (qI t j h1 h2 h3) N.col (j+1):=fun j hj=>by
  rcases e:(Value.slice P2 m2 d2).ownBlock with _|k
  ·rw[e]at hg;exact(h.sp j hj).below ⟨hg.os,hg.tape,hg.output,hg.size,fun q hq=>hg.block q hq (by simp)⟩
  ·rw[e]at hg;have f:=h.nk j hj k (.inr (.inr e));exact(h.sp j hj).app hg (fY hr e) (.inr (.inr (.inr (.inl rfl)))) f.1 f.2
 have d:=n _ (jo h.tg) _ (by decide) h.tg;refine⟨fun i u hu=>?_,?_,h.gB,lP h.rp hr (by decide) hg,ho,l,fun j hj k hk=>?_,⟨qd h.rO.1 h.rO.2 (by rw[fN];exact id) c,h.rO.2⟩,⟨qd h.rL.1 h.rL.2 (by rw[fK];omega) c,h.rL.2⟩,h.lT,h.bel.trans ⟨hg.os,hg.tape,hg.output,hg.size,c⟩,h.cl,h.c0⟩
 ·obtain⟨a,b⟩:=h.bx i u hu;exact⟨(cY (a:=⟨N.g,i,none⟩) d).trans a,(eC (a:=⟨N.g,i,none⟩) d).trans b⟩
 ·obtain⟨cur,fr,e⟩:=h.tg;exact⟨cur,fr,d.trans e⟩
 ·have o:=(h.sp j hj).db.lt.1;have p:=(h.sp j hj).fl.lt.1;rcases hk with e|e|e
  ·exact h.nk j hj k (.inl e)
  ·exact h.nk j hj k (.inr (.inl e))
  ·rcases m with e2|e2<;>rw[e2]at e;exact h.nk j hj k (.inr (.inr e));injection e with e;omega
def Bd.st(h:Bd w wr N t h1 h2 h3 n1 n2 P1 d1 m1 P2 d2 m2 cnt)(j:Nat)(u:Value){N':Nm}{d c:Nat}(hj:j<5)
  (hs:([.int .i64 t.n,.slice N.O t.ov.length N.cO,.slice N.L t.ln.length N.cL,.slice N.A1 n1 N.c1,.slice N.A2 n2 N.c2]:cH).set j u= [.int .i64 t.n,.slice N'.O t.ov.length N'.cO,.slice N'.L t.ln.length N'.cL,.slice N'.A1 d N'.c1,.slice N'.A2 c N'.c2]) (e:N'.g=N.g∧N'.O=N.O∧N'.L=N.L∧N'.M=N.M∧N'.col=N.col) :
  Bd w (wr.setCell ⟨N.g,j,none⟩ u) N' t h1 h2 h3 d c P1 d1 m1 P2 d2 m2 cnt:=by
 have he:rY (fun k=>k=N.g) wr (wr.setCell ⟨N.g,j,none⟩ u):=rY.cells (dk wr N.g j u) h.tg (.inr (.inr (.inr (.inr rfl)))) rfl;obtain⟨e1,e2,e3,e4,e5⟩:=e;have l:=h.bx.set j u (by simpa using hj);rw[hs]at l;have b:∀k,k<w.heap.size→(wr.setCell ⟨N.g,j,none⟩ u).heap[k]?=wr.heap[k]?:=fun k hk=>lV wr _ _ u (fun e=>by have:=h.gB;simp only at e;omega)
 have a:∀ {T:TypeId} {v:Value} {n:Nat} {xs:cH},wr.ownsRow w.heap.size T 1 v n xs→T≠85→(wr.setCell ⟨N.g,j,none⟩ u).ownsRow w.heap.size T 1 v n xs:=fun {T v n xs} ho hT=>
  he.DQ ho fun k hk ek=>hT (kg (fY ho hk) (by rw[ek];exact h.tg))
 refine⟨by rw[e1];exact l,by rw[e1];exact(ee.set _ _ _) _ _ h.tg,by rw[e1];exact h.gB,by rw[e4];exact a h.rp (by decide),a h.rq (by decide),fun i hi=>?_,?_,⟨by rw[e2];exact qd h.rO.1 h.rO.2 (by rw[fN];exact id) b,by rw[e2];exact h.rO.2⟩,⟨by rw[e3];exact qd h.rL.1 h.rL.2 (by rw[fK];omega) b,by rw[e3];exact h.rL.2⟩,h.lT,?_,by rw[e5];exact h.cl,by rw[e5];exact h.c0⟩
 ·rw[e4,e5];have f:=h.nk i hi N.g (.inl rfl);exact(h.sp i hi).app (dk wr N.g j u) h.tg (.inr (.inr (.inr (.inr rfl)))) f.1 f.2
 ·rw[e1,e4];exact h.nk
 ·exact h.bel.setCell (p:=⟨N.g,j,none⟩) h.gB u
def Bd.new(h:Bd w wr N t h1 h2 h3 n1 n2 P1 d1 m1 P2 d2 m2 cnt){m:Sm}{a:Nat→Nat}(hc:∀k,k<wr.heap.size→a k=N.col k)(hs:fe w' m (qI t cnt h1 h2 h3) a (cnt+1))(hb:cI wr w')(hg:wr.heap.size≤m.gd∧wr.heap.size≤m.gf)(d:m1≤cnt) :
  Bd w w' { N with M:=fun j=>if j=cnt then m else N.M j,col:=fun k=>if a k=cnt+1 then cnt+1 else if k<wr.heap.size then N.col k else 0 } t h1 h2 h3 n1 n2 P1 d1 m1 P2 d2 m2 (cnt+1):=by
 have hB:=h.below hb;have c:∀k,k<wr.heap.size→(fun k=>if a k=cnt+1 then cnt+1 else if k<wr.heap.size then N.col k else 0) k=N.col k:=fun k hk=>by
  have h4:=h.cl k;simp only;rw[cN (by rw[hc k hk];omega),cR hk]
 have b:uz (fun j=>if j=cnt then m else N.M j) m1=uz N.M m1:=by
  unfold uz;refine sH fun j hj=>?_
  rw[ec]at hj;simp only[cN (show ¬j=cnt by omega)]
 refine⟨hB.bx,hB.tg,hB.gB,by simp only[b];exact hB.rp,hB.rq,fun j hj=>?_,fun j hj k hk=>?_,hB.rO,hB.rL,hB.lT,hB.bel,fun k=>?_,fun k hk=>?_⟩
 ·by_cases e:j=cnt
  ·subst e;simp only[gy];refine hs.Vx (fun k hk=>by(try simp only);rw[cR hk]) (fun k hk=>?_)
   (try simp only)
   rw[cN (by rw[hk];omega)];split
   ·next h5=>rw[←hc k h5];exact hk
   ·rfl
  ·simp only[cN e];exact((h.sp j (by omega)).Od c).below hb
 ·by_cases e:j=cnt
  ·subst e;simp only[gy];have f:k<wr.heap.size:=by
    rcases hk with e|e|e
    ·rw[e];exact jo h.tg
    ·exact(h.rp.lt k e).2
    ·exact(h.rq.lt k e).2
   exact⟨by omega,by omega⟩
  ·simp only[cN e];exact h.nk j (by omega) k hk
 ·have h4:=h.cl k;simp only;split
  ·omega
  ·split<;>omega
 ·have h4:=h.bel.size;exact(c k (by omega)).trans (h.c0 k hk)
end
def VD:iF Tryz.prog 83 31 (.pointer none) 1 8:=⟨Tryz.underlying83,by kernel_rfl,rfl,by omega⟩
def Wk(i:Int):∀u∈ [Value.int .i64 i],u.oneCell'=true:=by
 intro u hu;rw[ew.1 hu];rfl
def VC(p:cG):∀u∈ [Value.pointer p],u.oneCell'=true:=by
 intro u hu;rw[ew.1 hu];rfl
def Pu(w:World)(x:Value)(e:TypeId):(w.alloc (.cells #[x] e)).ownsRow w e 1 (.slice (some ⟨w,0,none⟩) 1 1) 1 [x] :=
 qm (base:=w.heap.size) (e:=e) (size:=1) w #[x] 1 cj (by unfold maxLen;omega) (by simp)
def xG(M:Nat→Sm)(i:Nat):uz M i++ [.pointer (some ⟨(M i).g,0,none⟩)]=uz M (i+1):=by
 unfold uz;rw[jj,ez];rfl
def zP(i:Nat):List.replicate i (Value.int .i64 1)++ [.int .i64 1]=List.replicate (i+1) (.int .i64 1):=by
 rw[Zx]
def ZL(w:World)(n:Nat)(t:Tp)(h1 h2 h3:Int)(e:Ending)(w':World):Prop :=
 ∃N w1,e= .returned (.tuple #[.pointer (some ⟨N.g,0,none⟩),.bool true])∧jh w1.heap.size w'.heap.size w1 w' N n t (fun i=>qI t i h1 h2 h3)∧cI w w1
def Bd.done{w1 w:World}{N:Nm}{n:Nat}{t:Tp}{h1 h2 h3:Int}(h:Bd w1 w N t h1 h2 h3 n n N.A1 N.c1 n N.A2 N.c2 n n):jh w1.heap.size w.heap.size w1 w N n t (fun i=>qI t i h1 h2 h3) :=
 ⟨h.bx,h.tg,jo h.tg,h.rp,h.rO,h.rL,h.lT,h.sp,h.c0,fun i hi=>⟨(h.sp i hi).db.lt.1,(h.sp i hi).fl.lt.1⟩,h.bel,h.bel.size,cj⟩
def Ie(w:World)(v:Value)(t:Tp)(n:Nat)(ht:js w v t)(hT:mE t)(hn:t.n=n)(ai:n≤1000)(h1 h2 h3:Int)(ac:MC h1 h2 h3=true) :
  Calls Tryz.prog 19 #[v,.agg #[h1,h2,h3]] w (ZL w n t h1 h2 h3):=by
 have U:=ht;obtain⟨A,c,B,d,rfl,rA,rB,l1,l2⟩:=ht;have S:=((St.start w).nw #[t.n,.slice A t.ov.length c,.slice B t.ln.length d] 25 w).nw #[h1,h2,h3] 27 (w.heap.size+1);have rl:(∀ad,0<t.ov.length→A=some ad→ad.block<w)∧ ∀ad,0<t.ln.length→B=some ad→ad.block<w:=by
  refine⟨fun ad hl e=>?_,fun ad hl e=>?_⟩
  ·obtain⟨ah,e',P⟩:=rA.block (by rw[fN];exact hl);rw[e]at e';injection e' with e';rw[e'];exact P
  ·obtain⟨ah,e',P⟩:=rB.block (by rw[fK];omega);rw[e]at e';injection e' with e';rw[e'];exact P
 have af:=S;obtain⟨w1,T⟩:∃W,(w.alloc (.cells #[t.n,.slice A t.ov.length c,.slice B t.ln.length d] 25)).alloc (.cells #[h1,h2,h3] 27)=W:=⟨_,rfl⟩
 rw[T]at S;have C:=S.b;have L:=cQ w1 (.cells #[t.n,.slice A t.ov.length c,.slice B t.ln.length d,sn,sn] 85);have Z:=fq.iE w1 #[t.n,.slice A t.ov.length c,.slice B t.ln.length d,sn,sn] 85 w1 _ rfl rfl;have BD:Bd w1 (w1.alloc (.cells #[t.n,.slice A t.ov.length c,.slice B t.ln.length d,sn,sn] 85)) ⟨w1,A,c,B,d,none,0,none,0,fun _=>⟨0,none,0,0,0,0,0,0,fun _=>0,none,0,none,0,none,0⟩,fun _=>0⟩ t h1 h2 h3 0 0 none 0 0 none 0 0 0 :=
  ⟨Z,⟨_,_,ib w1 _⟩,cj,cn,cn,fun j hj=>absurd hj (by omega),fun j hj=>absurd hj (by omega),⟨(rA.below C).below L,fun ad a b=>eh (rl.1 ad a b) C.size⟩,⟨(rB.below C).below L,fun ad a b=>eh (rl.2 ad a b) C.size⟩,⟨l1,l2⟩,L,fun _=>cj,fun _ _=>rfl⟩
 have TW:Hid (∀W,cI w1 W→js W (.agg #[t.n,.slice A t.ov.length c,.slice B t.ln.length d]) t∧St w W [(w.heap.size+1,[h1,h2,h3]),(w,[t.n,.slice A t.ov.length c,.slice B t.ln.length d])] []):=fun W hb=>⟨(U.below C).below hb,S.call hb⟩
 replace BD:=φ BD;clear U rA rB rl af Z L;replace hn:=φ hn;go_in;go_upto_region 1 with fail;clear T;have a0:=S.c 1 0 rfl rfl;have a1:=S.c 1 1 rfl rfl;have a2:=S.c 1 2 rfl rfl;go_upto_region 2 with fail;clear S a0 a1 a2;generalize World.alloc w1 _=w2 at *;replace C:=φ C;go_wp2_with fail;go_loopw [7] (fun v7 wr=>∃(i:Nat) (N:Nm),v7= .int .i64 i∧i≤n∧N.g=w1.heap.size∧Hid (Bd w1 wr N t h1 h2 h3 i i N.A1 N.c1 i N.A2 N.c2 i i)) (fun v7 _=>n - (intOf v7).toNat)
 case atStart=>exact⟨0,_,rfl,by omega,rfl,BD⟩
 case round=>
  clear BD;obtain⟨i,N,rfl,hi,hg,B1⟩:=hrel;obtain⟨T1,SS⟩:=TW.out _ B1.out.bel;have a0:=SS.c 1 0 rfl rfl;have a1:=SS.c 1 1 rfl rfl;have a2:=SS.c 1 2 rfl rfl
  by_cases hin:i<n
  ·have b0:=SS.c 0 0 rfl rfl;have b1:=SS.c 0 1 rfl rfl;have b2:=SS.c 0 2 rfl rfl;have ag:decide ((i:Int)<t.n)=true:=by have:=hn.out;simp;omega
   have SN:=Cj wr _ t (i:Int) h1 h2 h3 T1 hT ⟨by omega,by have:=hn.out;omega⟩ ac N.col (i+1) (by omega) (fun k hk=>by have:=B1.out.cl k;omega);replace SN:=φ SN;clear T1 SS;go_wp2_with fail;(with_reducible refine SN.out.mono ?_);rintro e w3 ⟨m,I,rfl,O,hs,hb,Y⟩;clear SN a0 a1 a2 b0 b1 b2;have B2:=B1.out.new O hs hb Y cj;clear B1 hs hb Y O;have ae:(({ N with M:=fun j=>if j=i then m else N.M j,col:=fun k=>if I k=i+1 then i+1 else if k<wr then N.col k else 0 }:Nm).M i).g=m.g:=by simp
   have X:∀N2:Nm,N2= { N with M:=fun j=>if j=i then m else N.M j,col:=fun k=>if I k=i+1 then i+1 else if k<wr then N.col k else 0 }→N2.g=w1.heap.size∧N2.A1=N.A1∧N2.c1=N.c1∧N2.A2=N.A2∧N2.c2=N.c2∧(N2.M i).g=m.g:=fun N2 e=>by subst e;exact⟨hg,rfl,rfl,rfl,rfl,by simp⟩
   obtain⟨N2,Q⟩:∃N2:Nm,N2= { N with M:=fun j=>if j=i then m else N.M j,col:=fun k=>if I k=i+1 then i+1 else if k<wr then N.col k else 0 }:=⟨_,rfl⟩
   obtain⟨o,e1,e2,e3,e4,e5⟩:=X N2 Q;rw[←Q,←e1,←e2,←e3,←e4]at B2;rw[←e5];clear X Q ae e1 e2 e3 e4 e5 hg;have x0:=B2.bx.c 3 rfl;have x1:=B2.bx.c 4 rfl;rw[o]at x0 x1;replace o:=φ o;go_upto_region 8 with fail;refine gZ (S:=fun W=>Cv W w1 3 (.slice N2.A1 i N2.c1)∧Cv W w1 4 (.slice N2.A2 i N2.c2)) [17,18,19,20] ⟨x0,x1⟩ (fun l=>?_);have V:=B2.below bd;clear B2 x0 x1;generalize World.drew w3=wq at *;refine tU 0 28 ?_;refine tU 1 29 ?_;refine tU 2 30 ?_;refine tU 3 31 ?_;refine tU 4 32 ?_;refine tZ 5 33 ?_;refine tU 6 34 ?_;refine tU 9 37 ?_;refine tU 10 38 ?_;refine tU 11 39 ?_;refine tZ 12 40 ?_;refine mV (rs:=[7,13]) (by kernel_rfl) (by simp) ?_;refine iK rfl (fun K hK=>?_) (iK rfl (fun K hK=>?_) mQ)
   ·have o7:=Pu wq (.pointer (some ⟨(N2.M i).g,0,none⟩)) 31;have J:=cQ wq (.cells #[.pointer (some ⟨(N2.M i).g,0,none⟩)] 31);have V7:=V.below J;go_simp;refine hK _ _ (fun _=>by have h3:=V7.bx.c 3 rfl;have h4:=V7.bx.c 4 rfl;rw[o.out]at h3 h4;exact⟨h3,h4⟩) (fun h=>?_);replace l:=h (by decide);clear hK K h;generalize World.alloc wq _=wf at *;refine mV (rs:=[8,13]) (by kernel_rfl) (by simp) ?_;refine iK rfl (fun K hK=>?_) (iK rfl (fun K hK=>?_) mQ)
    ·refine fJ rfl VD (.tmp 33) (.tmp 35) (by rfl) w1 (by rfl) V7.rp (by rfl) (m:=1) (by rfl) (dQ o7) (VC _) (by simp only[maxLen];omega) (by omega) V7.bel.size (i+1) _ rfl (xG N2.M i) ?_;intro v8 w8 z aa D x;obtain⟨A8,c8,rfl,-⟩:=dN z;have V8:=V7.WL D x z;refine hK _ _ (fun _=>by have h3:=V8.bx.c 3 rfl;have h4:=V8.bx.c 4 rfl;rw[o.out]at h3 h4;exact⟨h3,h4⟩) (fun h=>?_);replace l:=h (by decide);clear hK K h;refine rZ 13 (fun K hK=>?_);have G:=Pu w8 (.int .i64 1) 3;have s:=cQ w8 (.cells #[.int .i64 1] 3);have q:=V8.below s;go_simp;refine hK _ _ (fun _=>by have h3:=q.bx.c 3 rfl;have h4:=q.bx.c 4 rfl;rw[o.out]at h3 h4;exact⟨h3,h4⟩) (fun h=>?_);replace l:=h (by decide);clear hK K h;generalize World.alloc w8 _=we at *;refine rZ 14 (fun K hK=>?_);refine fJ rfl YH (.tmp 40) (.tmp 41) (by rfl) w1 (by rfl) q.rq (by rfl) (m:=1) (by rfl) (dQ G) (Wk _) (by simp only[maxLen];omega) (by omega) q.bel.size (i+1) _ rfl (zP i) ?_;intro v9 w9 y hb9 H u;obtain⟨A9,c9,rfl,-⟩:=dN y;have V9:=q.WK H u y;refine hK _ _ (fun _=>by have h3:=V9.bx.c 3 rfl;have h4:=V9.bx.c 4 rfl;rw[o.out]at h3 h4;exact⟨h3,h4⟩) (fun h=>?_);replace l:=h (by decide);clear hK K h;refine tU 15 43 ?_;refine tU 16 44 ?_;have q0:=V9.bx.f 3 rfl;have q1:=V9.bx.c 3 rfl;rw[o.out]at q0 q1;refine rZ 17 (fun K hK=>?_);go_simp;refine zZ hK ?_;clear hK K l q0 q1;have p:=V9.st 3 (.slice A8 (i+1) c8) (N':={ N2 with A1:=A8,c1:=c8 }) (d:=i+1) (c:=i) (by omega) rfl ⟨rfl,rfl,rfl,rfl,rfl⟩;rw[o.out]at p;have q0:=p.bx.f 4 rfl;have q1:=p.bx.c 4 rfl;dsimp only at q0 q1;refine tU 18 45 ?_;refine tU 19 46 ?_;refine rZ 20 (fun K hK=>?_);go_simp;refine zZ hK ?_;clear hK K q0 q1;have r:=p.st 4 (.slice A9 (i+1) c9) (N':={ N2 with g:=w1.heap.size,A1:=A8,c1:=c8,A2:=A9,c2:=c9 }) (d:=i+1) (c:=i+1) (by omega) rfl ⟨rfl,rfl,rfl,rfl,rfl⟩;dsimp only at r;refine dZ ?_;replace r:=φ r;clear V9 p;go_wp2;go_round
     case rel=>exact⟨i+1,{ N2 with g:=w1.heap.size,A1:=A8,c1:=c8,A2:=A9,c2:=c9 },by go_num,by omega,rfl,r⟩
     case measure=>simp[intOf];omega
    ·have G:=Pu wf (.int .i64 1) 3;have s:=cQ wf (.cells #[.int .i64 1] 3);have q:=V7.below s;go_simp;refine hK _ _ (fun _=>by have h3:=q.bx.c 3 rfl;have h4:=q.bx.c 4 rfl;rw[o.out]at h3 h4;exact⟨h3,h4⟩) (fun h=>?_);replace l:=h (by decide);clear hK K h;generalize World.alloc wf _=we at *;have ab:=dg o7 s;refine rZ 8 (fun K hK=>?_);refine fJ rfl VD (.tmp 33) (.tmp 35) (by rfl) w1 (by rfl) q.rp (by rfl) (m:=1) (by rfl) (dQ ab) (VC _) (by simp only[maxLen];omega) (by omega) q.bel.size (i+1) _ rfl (xG N2.M i) ?_;intro v8 w8 z aa D x;obtain⟨A8,c8,rfl,-⟩:=dN z;have V8:=q.WL D x z;refine hK _ _ (fun _=>by have h3:=V8.bx.c 3 rfl;have h4:=V8.bx.c 4 rfl;rw[o.out]at h3 h4;exact⟨h3,h4⟩) (fun h=>?_);replace l:=h (by decide);clear hK K h;have F:=lP G q.rp (by decide) D;refine rZ 14 (fun K hK=>?_);refine fJ rfl YH (.tmp 40) (.tmp 41) (by rfl) w1 (by rfl) V8.rq (by rfl) (m:=1) (by rfl) (dQ F) (Wk _) (by simp only[maxLen];omega) (by omega) V8.bel.size (i+1) _ rfl (zP i) ?_;intro v9 w9 y hb9 H u;obtain⟨A9,c9,rfl,-⟩:=dN y;have V9:=V8.WK H u y;refine hK _ _ (fun _=>by have h3:=V9.bx.c 3 rfl;have h4:=V9.bx.c 4 rfl;rw[o.out]at h3 h4;exact⟨h3,h4⟩) (fun h=>?_);replace l:=h (by decide);clear hK K h;refine tU 15 43 ?_;refine tU 16 44 ?_;have q0:=V9.bx.f 3 rfl;have q1:=V9.bx.c 3 rfl;rw[o.out]at q0 q1;refine rZ 17 (fun K hK=>?_);go_simp;refine zZ hK ?_;clear hK K l q0 q1;have p:=V9.st 3 (.slice A8 (i+1) c8) (N':={ N2 with A1:=A8,c1:=c8 }) (d:=i+1) (c:=i) (by omega) rfl ⟨rfl,rfl,rfl,rfl,rfl⟩;rw[o.out]at p;have q0:=p.bx.f 4 rfl;have q1:=p.bx.c 4 rfl;dsimp only at q0 q1;refine tU 18 45 ?_;refine tU 19 46 ?_;refine rZ 20 (fun K hK=>?_);go_simp;refine zZ hK ?_;clear hK K q0 q1;have r:=p.st 4 (.slice A9 (i+1) c9) (N':={ N2 with g:=w1.heap.size,A1:=A8,c1:=c8,A2:=A9,c2:=c9 }) (d:=i+1) (c:=i+1) (by omega) rfl ⟨rfl,rfl,rfl,rfl,rfl⟩;dsimp only at r;refine dZ ?_;replace r:=φ r;clear V9 p;go_wp2;go_round
     case rel=>exact⟨i+1,{ N2 with g:=w1.heap.size,A1:=A8,c1:=c8,A2:=A9,c2:=c9 },by go_num,by omega,rfl,r⟩
     case measure=>simp[intOf];omega
   ·have G:=Pu wq (.int .i64 1) 3;have s:=cQ wq (.cells #[.int .i64 1] 3);have q:=V.below s;go_simp;refine hK _ _ (fun _=>by have h3:=q.bx.c 3 rfl;have h4:=q.bx.c 4 rfl;rw[o.out]at h3 h4;exact⟨h3,h4⟩) (fun h=>?_);replace l:=h (by decide);clear hK K h;generalize World.alloc wq _=we at *;refine rZ 7 (fun K hK=>?_);have o7:=Pu we (.pointer (some ⟨(N2.M i).g,0,none⟩)) 31;have J:=cQ we (.cells #[.pointer (some ⟨(N2.M i).g,0,none⟩)] 31);have V7:=q.below J;go_simp;refine hK _ _ (fun _=>by have h3:=V7.bx.c 3 rfl;have h4:=V7.bx.c 4 rfl;rw[o.out]at h3 h4;exact⟨h3,h4⟩) (fun h=>?_);replace l:=h (by decide);clear hK K h;generalize World.alloc we _=wf at *;have R:=dg G J;refine rZ 8 (fun K hK=>?_);refine fJ rfl VD (.tmp 33) (.tmp 35) (by rfl) w1 (by rfl) V7.rp (by rfl) (m:=1) (by rfl) (dQ o7) (VC _) (by simp only[maxLen];omega) (by omega) V7.bel.size (i+1) _ rfl (xG N2.M i) ?_;intro v8 w8 z aa D x;obtain⟨A8,c8,rfl,-⟩:=dN z;have V8:=V7.WL D x z;refine hK _ _ (fun _=>by have h3:=V8.bx.c 3 rfl;have h4:=V8.bx.c 4 rfl;rw[o.out]at h3 h4;exact⟨h3,h4⟩) (fun h=>?_);replace l:=h (by decide);clear hK K h;have F:=lP R V7.rp (by decide) D;refine rZ 14 (fun K hK=>?_);refine fJ rfl YH (.tmp 40) (.tmp 41) (by rfl) w1 (by rfl) V8.rq (by rfl) (m:=1) (by rfl) (dQ F) (Wk _) (by simp only[maxLen];omega) (by omega) V8.bel.size (i+1) _ rfl (zP i) ?_;intro v9 w9 y hb9 H u;obtain⟨A9,c9,rfl,-⟩:=dN y;have V9:=V8.WK H u y;refine hK _ _ (fun _=>by have h3:=V9.bx.c 3 rfl;have h4:=V9.bx.c 4 rfl;rw[o.out]at h3 h4;exact⟨h3,h4⟩) (fun h=>?_);replace l:=h (by decide);clear hK K h;refine tU 15 43 ?_;refine tU 16 44 ?_;have q0:=V9.bx.f 3 rfl;have q1:=V9.bx.c 3 rfl;rw[o.out]at q0 q1;refine rZ 17 (fun K hK=>?_);go_simp;refine zZ hK ?_;clear hK K l q0 q1;have p:=V9.st 3 (.slice A8 (i+1) c8) (N':={ N2 with A1:=A8,c1:=c8 }) (d:=i+1) (c:=i) (by omega) rfl ⟨rfl,rfl,rfl,rfl,rfl⟩;rw[o.out]at p;have q0:=p.bx.f 4 rfl;have q1:=p.bx.c 4 rfl;dsimp only at q0 q1;refine tU 18 45 ?_;refine tU 19 46 ?_;refine rZ 20 (fun K hK=>?_);go_simp;refine zZ hK ?_;clear hK K q0 q1;have r:=p.st 4 (.slice A9 (i+1) c9) (N':={ N2 with g:=w1.heap.size,A1:=A8,c1:=c8,A2:=A9,c2:=c9 }) (d:=i+1) (c:=i+1) (by omega) rfl ⟨rfl,rfl,rfl,rfl,rfl⟩;dsimp only at r;refine dZ ?_;replace r:=φ r;clear V9 p;go_wp2;go_round
    case rel=>exact⟨i+1,{ N2 with g:=w1.heap.size,A1:=A8,c1:=c8,A2:=A9,c2:=c9 },by go_num,by omega,rfl,r⟩
    case measure=>simp[intOf];omega
  ·obtain rfl:n=i:=by omega
   have ag:decide ((n:Int)<t.n)=false:=by have:=hn.out;simp;omega
   have E:ZL w n t h1 h2 h3 (.returned (.tuple #[pt N.g,true])) wr:=⟨N,w1,rfl,B1.out.done,C⟩
   rw[hg]at E;replace E:=φ E;clear B1 SS T1;go_wp2;go_ret2;exact E
end Go.Proofs.YtehimhbgakpenaaGreat
