/- Lemmas. -/
import Derived.Test.YtehimhbgakpenaaGreatae
set_option linter.all false
set_option maxRecDepth 100000
set_option maxHeartbeats 16000000
namespace Go.Proofs.YtehimhbgakpenaaGreat
open Go.RowKit Go.Maps Go.Sort Go.Proofs.Tryz
def uV(w:World)(base:Nat)(e:TypeId)(size:Nat)(v:Value)(n:Nat)(xs:cH):Prop :=
 xs.length=n*size∧
 ((v = .slice none 0 0 ∧ n = 0) ∨
  ∃ g off cap cur,v = .slice (some ⟨g,off,none⟩) n cap ∧ base ≤ g ∧ w.heap[g]? = some (.cells cur e (0,0)) ∧ n ≤ cap ∧ cap ≤ maxLen ∧ off + cap * size ≤ cur.size ∧ (cur.toList.drop off).take (n * size) = xs)
section
variable {w w':World} {base:Nat} {e:TypeId} {size:Nat} {v:Value} {n:Nat} {xs:cH}
def tH(h:w.ownsRow base e size v n xs):uV w base e size v n xs:=by
 refine⟨h.1,?_⟩
 rcases h.2 with h2|⟨g,cap,cur,rfl,hb,hg,h1,h2,h3,h4⟩
 ·exact .inl h2
 ·exact .inr ⟨g,0,cap,cur,rfl,hb,hg,h1,h2,by omega,by simpa using h4⟩
def uV.lt(h:uV w base e size v n xs):∀k,v.ownBlock=some k→base≤k∧k<w:=by
 intro k hk;rcases h.2 with ⟨rfl,_⟩|⟨g,off,cap,cur,rfl,hb,hg,_⟩
 ·simp[Value.ownBlock]at hk
 ·simp[Value.ownBlock]at hk;subst hk;exact⟨hb,(df.1 hg).1⟩
def uV.ty(h:uV w base e size v n xs):∀k,v.ownBlock=some k→ ∃cur,w.heap[k]?=some (.cells cur e (0,0)):=by
 intro k hk;rcases h.2 with ⟨rfl,_⟩|⟨g,off,cap,cur,rfl,hb,hg,_⟩
 ·simp[Value.ownBlock]at hk
 ·simp[Value.ownBlock]at hk;subst hk;exact⟨cur,hg⟩
def uV.kept(h:uV w base e size v n xs)(hk:∀k,v.ownBlock=some k→w'.heap[k]?=w.heap[k]?):uV w' base e size v n xs:=by
 refine⟨h.1,?_⟩
 rcases h.2 with h2|⟨g,off,cap,cur,rfl,hb,hg,r⟩
 ·exact .inl h2
 ·exact .inr ⟨g,off,cap,cur,rfl,hb,(hk g rfl).trans hg,r⟩
def uV.below(h:uV w base e size v n xs)(hb:cI w w'):uV w' base e size v n xs:=h.kept fun k hk=>hb.block k (h.lt k hk).2
def uV.form(h:uV w base e size v n xs):∃A c,v= .slice A n c∧n≤c∧c≤maxLen:=by
 rcases h.2 with ⟨rfl,rfl⟩|⟨g,off,cap,cur,rfl,hb,hg,h1,h2,_⟩
 ·exact⟨none,0,rfl,cj,jw _⟩
 ·exact⟨_,cap,rfl,h1,h2⟩
def uV.cells{g off cap:Nat}(h:uV w base e size (.slice (some ⟨g,off,none⟩) n cap) n xs):∀j u,xs[j]?=some u→w.cell? ((⟨g,off,none⟩:Addr).add j)=some u:=by
 intro j u hu;rcases h.2 with ⟨h2,_⟩|⟨g',b,c,cur,h2,hb,hg,h3,h4,h5,h6⟩
 ·cases h2
 ·injection h2 with h2 _ _
  injection h2 with h2
  injection h2 with h7 h8 _
  subst h7 h8;have a:(⟨g,off,none⟩:Addr).add j=⟨g,off+j,none⟩:=by unfold Addr.add;split<;>simp_all
  rw[a,ZV w g (off+j) cur e (0,0) hg];rw[←h6,ZQ]at hu;split at hu
  ·rw[ZR]at hu;simpa using hu
  ·cases hu
def uV.rd{A:cG}{c:Nat}(h:uV w base e size (.slice A n c) n xs):Rd w A xs:=by
 intro hn;rcases h.2 with ⟨h2,h3⟩|⟨g,off,cap,cur,h2,_⟩
 ·have:=h.1;rw[h3,pP]at this;omega
 ·injection h2 with h2 h3 h4
  subst h2 h4;exact⟨_,rfl,fun j u hu=>h.cells j u hu⟩
end
def Hn(size:Nat)(A:cG)(lo c:Nat):cG:=if c=lo then A else A.map (·.add (lo*size))
section
variable {P:Program} {t e:TypeId} {z:Value} {size bytes:Nat}
def KK(hE:iF P t e z size bytes)(A:cG)(n c lo:Nat)(h1:lo≤n)(W:World) :
  (Instr.slice t (.slice A n c) (some (.int .i64 (lo:Int))) none none).run P W= .ok (.slice (Hn size A lo c) (n - lo) (c - lo)) W:=by
 obtain⟨i,b,f,a,d⟩:=nu hE.info;have vL:P.elem t=e:=by simp[Program.elem,hE.under]
 rw[run_slice_l W t A n c (by rw[vL];exact hE.under) .i64 lo (by omega) (by omega),vL];simp[sizeOf,typeInfo,b,a,sliced,Hn,Result.andThen]
def uV.from{w:World}{base:Nat}{A:cG}{n c:Nat}{xs:cH}(h:uV w base e size (.slice A n c) n xs)(lo:Nat)(b:lo≤n)(hs:0<size):uV w base e size (.slice (Hn size A lo c) (n - lo) (c - lo)) (n - lo) (xs.drop (lo*size)):=by
 refine⟨by rw[fz,h.1,Nat.sub_mul],?_⟩
 rcases h.2 with ⟨h2,h3⟩|⟨g,off,cap,cur,h2,hb,hg,h3,h4,h5,h6⟩
 ·injection h2 with h2 _ h4
  subst h2 h4;left;have:lo=0:=by omega
  subst this;refine⟨?_,by omega⟩
  subst h3;rfl
 ·injection h2 with h2 _ h7
  subst h2 h7;right;unfold Hn
  by_cases hc:c=lo
  ·have hn:n=lo:=by omega
   subst hc;subst hn;rw[cR rfl,Yx];refine⟨g,off,0,cur,rfl,hb,hg,cj,jw _,?_,?_⟩
   ·have:0≤n*size:=jw _;omega
   ·rw[pP,uG,gG (by rw[h.1];exact cj)]
  ·rw[cN hc];have a:(⟨g,off,none⟩:Addr).add (lo*size)=⟨g,off+lo*size,none⟩:=by unfold Addr.add;split<;>simp_all
   refine⟨g,off+lo*size,c - lo,cur,by simp only[Option.map_some];rw[a],hb,hg,by omega,by omega,?_,?_⟩
   ·have:lo*size+(c - lo)*size=c*size:=by rw[←oQ];congr 1;omega
    omega
   ·rw[←h6,List.drop_take,List.drop_drop,Nat.sub_mul]
def qz(w:World)(ty:TypeId)(i:TypeInfo)(ht:P.underlying t=some (.slice e))(hi:P.info? e=some i)
  (g off b d:Nat) (cur:Array Value) (hg:w.heap[g]?=some (.cells cur e (0,0)))
  (a:Addr) (m c:Nat) (news:cH) (hl:news.length=m*i.size) (h:∀j u,news[j]?=some u→w.cell? (a.add j)=some u) (h1:∀u∈news,u.oneCell'=true)
  (f:b+m≤d) (l:off+b*i.size+news.length≤cur.size) :
  (Builtin.append_ #[t,t] ty #[.slice (some ⟨g,off,none⟩) b d,.slice (some a) m c]).run P w=
   .ok (.slice (some ⟨g,off,none⟩) (b+m) d) (w.setRow g (cur.toList.take (off+b*i.size)++news++cur.toList.drop (off+b*i.size+news.length)).toArray):=by
 have hf:=run_firstCells_some (P:=P) w i.size m a m c news hl h;have k:=run_storeCells_at P g (off+b*i.size) e news 0 cur w hg (by simpa using l) h1;simp only[Nat.add_zero]at k;have n:(⟨g,off,none⟩:Addr).add (b*i.size)=⟨g,off+b*i.size,none⟩:=by unfold Addr.add;split<;>simp_all
 simp[Builtin.append_,ql ht,sizeOf,typeInfo,hi,Builtin.lenOf,f,hf,n,k]
def NM(w:World)(hE:iF P t e z size bytes)(ty:TypeId)(base:Nat){v:Value}{n:Nat}{xs:cH}(a:uV w base e size v n xs)
  {A:cG} {m c:Nat} {news:cH} (hl:news.length=m*size) (hr:Rd w A news) (h1:∀u∈news,u.oneCell'=true) (r:0<m)
  (o:n+m≤maxLen) (d:(n+m)*bytes≤140737488355328) (j:base≤w) :
  ∃v' w',(Builtin.append_ #[t,t] ty #[v,.slice A m c]).run P w= .ok v' w'∧uV w' base e size v' (n+m) (xs++news)∧w.grownBy w' v.ownBlock∧
    (v'.ownBlock=v.ownBlock∨v'.ownBlock=some w.heap.size):=by
 obtain⟨i,hi,q,f,p⟩:=nu hE.info;rcases a.2 with ⟨rfl,rfl⟩|⟨g,off,cap,cur,rfl,hb,hg,h2,h3,h4,h5⟩
 ·have hx:xs= []:=dy (by simpa using a.1);subst hx;obtain⟨v',w',a1,a2,a3,a4⟩:=Dz w hE ty base (World.ownsRow_nil w base e size) hl hr h1 o d j (c:=c);exact⟨v',w',a1,tH a2,a3,a4⟩
 ·obtain⟨ad,rfl,b⟩:=hr (by rw[hl];exact Nat.mul_pos r hE.pos);have hlen:(xs++news).length=(n+m)*size:=by rw[cX,a.1,hl,oQ]
  by_cases hroom:n+m≤cap
  ·have l:off+n*i.size+news.length≤cur.size:=by
    rw[hl,f];have:(n+m)*size≤cap*size:=Zw _ hroom;rw[oQ]at this;omega
   have h:=qz w ty i hE.under hi g off n cap cur hg ad m c news (by rw[f];exact hl) b h1 hroom l;refine⟨_,_,h,⟨hlen,.inr ⟨g,off,cap,_,rfl,hb,setRow_heap w g cur _ e _ hg,hroom,h3,?_,?_⟩⟩,⟨rfl,rfl,rfl,by simp,fun k _ hk=>setRow_other w g k _ (fun e=>hk (by simp[Value.ownBlock,e]))⟩,.inl rfl⟩
   ·simp only[fT,cX,eM,fz,Array.length_toList];omega
   ·rw[f]at l ⊢;simp only;have e1:(cur.toList.take (off+n*size)).length=off+n*size:=by rw[eM,sI];omega
    rw[dI,MN (by omega),List.drop_take,Xf,h5,←dI,←hlen];exact List.take_left
  ·have h:=run_append_grow (P:=P) w t ty e i z hE.under hi q ⟨g,off,none⟩ n cap xs (by rw[f];exact a.1) a.cells ad m c news (by rw[f];exact hl) b (by omega) (by simp only[maxLen]at o;omega) (by rw[p];exact growslice_fits (by omega) d);have s:=grownCap_ge w (n+m) cap e;have x:grownCap w (n+m) cap e≤maxLen:=grownCap_le_maxLen w (n+m) cap e o;refine⟨_,_,h,tH ⟨hlen,.inr ⟨w,_,_,rfl,j,ib w.drew _,s,x,?_,?_⟩⟩,⟨rfl,rfl,rfl,by simp,fun k hk _=>heap_alloc_old w.drew _ hk⟩,.inr rfl⟩
   ·simp only[Array.size_append,fT,size_zeroCells,hE.zsize,a.1,hl,←oQ]
    congr 1
    omega
   ·simp only[Array.toList_append,dI];rw[←dI,←hlen];exact List.take_left
def Dc{a w w':World}{v:Value}{B base:Nat}{n:Nat}{xs:cH}(h:Below B a w)(b:uV w base e size v n xs)(hg:w.grownBy w' v.ownBlock)(hB:B≤base)(hs:B≤w):Below B a w' :=
 h.grown hg hs fun k hk=>cZ hB (b.lt k hk).1
def EF{w:World}{ops:Array Oper}{rest:List Oper}{o:Oper}{a:Act}{Q:Exit→Act→World→Prop}(hw:Region.wanted o (yielded ops a.tmps)=true)(hE:iF P t e z size bytes)(s x:Operand)
  (ho:o.op= .call { callee:=.builtin .append,args:=#[s,x],argTypes:=#[t,t] }) (base:Nat) {v:Value} {n:Nat} {xs:cH} (hs:a.eval s=v) (f:uV w base e size v n xs)
  {A:cG} {m c:Nat} {news:cH} (hx:a.eval x= .slice A m c) (hl:news.length=m*size) (hr:Rd w A news) (h1:∀u∈news,u.oneCell'=true) (g:0<m)
  (i:n+m≤maxLen) (b:(n+m)*bytes≤140737488355328) (d:base≤w) (N:Nat) (L:cH) (hN:n+m=N) (hL:xs++news=L)
  (h:∀v' w',uV w' base e size v' N L→Below base w w'→w.grownBy w' v.ownBlock→(v'.ownBlock=v.ownBlock∨v'.ownBlock=some w.heap.size)→wpList P ops Q rest (a.put o.dst v') w') :
  wpList P ops Q (o :: rest) a w :=
 ZU fun _ hK=>by
  subst hN hL;rw[cR hw];obtain⟨v',w',q,h2,h3,h4⟩:=NM (P:=P) w hE o.type base f (c:=c) hl hr h1 g i b d;unfold Oper.wp execOp;simp only[ho,resolve,invoke,builtin,BF,Sem.run_pure,Result.andThen_ok,yn,gh,nf,hs,hx,q];exact hK _ _ (h v' w' h2 (Dc cy f h3 cj d) h3 h4)
end
structure Wz where
 t:Nat
 l:Nat
 A:cG
 bs:List UInt8
 c:Nat
def W5(x:Wz):cH:=[x.t,x.l,.slice x.A x.bs.length x.c]
def G2:List Wz→cH
 | []=>[]
 |x :: r=>W5 x++G2 r
def Dj(l:List Wz):(G2 l).length=l.length*3:=by
 induction l with
 |nil=>rfl
 |cons x r ih=>simp only[G2,W5,cX,List.length_cons,List.length_nil,ih];omega
def uX(a b:List Wz):G2 (a++b)=G2 a++G2 b:=by
 induction a with
 |nil=>rfl
 |cons x r ih=>simp only[List.cons_append,G2,ih,dI]
def I6(x:Wz):∀u∈W5 x,u.oneCell'=true:=by
 intro u hu;simp only[W5,dA,eF,ik]at hu;rcases hu with rfl|rfl|rfl<;>rfl
def I5(l:List Wz):∀u∈G2 l,u.oneCell'=true:=by
 induction l with
 |nil=>intro u hu;cases hu
 |cons x r ih=>
   intro u hu;rcases eZ.1 hu with h|h
   ·exact I6 x u h
   ·exact ih u h
def YB:iF prog 87 91 (.agg #[.int .i64 0,.int .i64 0,.slice none 0 0]) 3 40:=⟨underlying87,by kernel_rfl,rfl,by omega⟩
def yN(w:World)(x:Wz):Prop:=w.ownsRow 0 5 1 (.slice x.A x.bs.length x.c) x.bs.length (x.bs.map iZ)
noncomputable def sl(es:List Env):List (Nat× Nat× List UInt8):=es.map fun e=>(e.t,e.l,iy e.m)
def G3(ws:List Wz):List (Nat× Nat× List UInt8):=ws.map fun x=>(x.t,x.l,x.bs)
structure Nm where
 g:Nat
 O:cG
 cO:Nat
 L:cG
 cL:Nat
 A1:cG
 c1:Nat
 A2:cG
 c2:Nat
 M:Nat→Sm
 col:Nat→Nat
def uz(M:Nat→Sm)(n:Nat):cH:=(List.range n).map fun i=>.pointer (some ⟨(M i).g,0,none⟩)
def qE(M:Nat→Sm)(n:Nat):(uz M n).length=n:=by simp[uz]
def pj{M:Nat→Sm}{n i:Nat}(hi:i<n):(uz M n)[i]?=some (.pointer (some ⟨(M i).g,0,none⟩)):=by simp[uz,hi]
structure jh (B0 Bn:Nat) (w0 w:World) (N:Nm) (n:Nat) (t:Tp) (S:sv):Prop where
 bx:fq w N.g [t.n,.slice N.O t.ov.length N.cO,.slice N.L t.ln.length N.cL,.slice N.A1 n N.c1,.slice N.A2 n N.c2]
 tg:Ty w N.g 85
 gB:N.g<Bn
 rp:w.ownsRow B0 31 1 (.slice N.A1 n N.c1) n (uz N.M n)
 rO:Rd w N.O (iw t.ov)∧ ∀ad,0<t.ov.length→N.O=some ad→ad.block<B0
 rL:Rd w N.L (fw t.ln)∧ ∀ad,0<t.ln.length→N.L=some ad→ad.block<B0
 lT:t.ov.length≤maxLen∧t.ln.length≤maxLen
 sp:∀i,i<n→fe w (N.M i) (S i) N.col (i+1)
 c0:∀k,k<B0→N.col k=0
 bd:∀i,i<n→(N.M i).gd<Bn∧(N.M i).gf<Bn
 bel:Below B0 w0 w
 b0:B0≤Bn∧Bn≤w
def Nu:¬iU 31:=by unfold iU;decide
def Tc:¬iU 85:=by unfold iU;decide
def Eb:¬iU 91:=by unfold iU;decide
def qd{w w':World}{A:cG}{xs:cH}{n B:Nat}(hr:Rd w A xs)(hb:∀ad,0<n→A=some ad→ad.block<B)(hn:0<xs.length→0<n)(hk:∀k,k<B→w'.heap[k]?=w.heap[k]?):Rd w' A xs:=fun hx=>by
 obtain⟨ad,e,hc⟩:=hr hx;refine⟨ad,e,fun j u hu=>?_⟩
 have:=hb ad (hn hx) e;have e2:w'.heap[(ad.add j).block]?=w.heap[(ad.add j).block]?:=by rw[fu];exact hk _ this
 rw[cY e2];exact hc j u hu
section
variable {B0 Bn:Nat} {w0 w w':World} {N:Nm} {n:Nat} {t:Tp} {S S':sv}
def jh.congr(h:jh B0 Bn w0 w N n t S)(e:∀i,i<n→S' i=S i):jh B0 Bn w0 w N n t S' :=
 ⟨h.bx,h.tg,h.gB,h.rp,h.rO,h.rL,h.lT,fun i hi=>by rw[e i hi];exact h.sp i hi,h.c0,h.bd,h.bel,h.b0⟩
def jh.below(h:jh B0 Bn w0 w N n t S)(hb:cI w w'):jh B0 Bn w0 w' N n t S :=
 ⟨h.bx.later hb,ee.below hb _ _ h.tg,h.gB,dg h.rp hb,⟨h.rO.1.below hb,h.rO.2⟩,⟨h.rL.1.below hb,h.rL.2⟩,h.lT,fun i hi=>(h.sp i hi).below hb,h.c0,h.bd,h.bel.trans (hb.mono (by have:=h.b0;omega)),⟨h.b0.1,cZ h.b0.2 hb.size⟩⟩
def jh.app(h:jh B0 Bn w0 w N n t S){k:Nat}{T:TypeId}(hg:w.grownBy w' (some k))(ht:Ty w k T)(hT:oF T)(f:T≠31)(hk:Bn≤k):jh B0 Bn w0 w' N n t S:=by
 have a:∀j,j<w.heap.size→j≠k→w'.heap[j]?=w.heap[j]?:=fun j hj c=>hg.block j hj (fun e=>c (by injection e))
 have b:=h.b0;refine ⟨h.bx.kept hg (fun e=>by have:=h.gB; injection e; omega) (by simp),?_,h.gB,?_,⟨qd h.rO.1 h.rO.2 (by rw [fN]; exact id) (fun j hj=>a j (by omega) (by omega)),h.rO.2⟩,⟨qd h.rL.1 h.rL.2 (by rw [fK]; omega) (fun j hj=>a j (by omega) (by omega)),h.rL.2⟩,h.lT,
  fun i hi=>(h.sp i hi).app hg ht hT (by have:=(h.bd i hi).1; omega) (by have:=(h.bd i hi).2; omega),h.c0,h.bd,h.bel.trans ⟨hg.os,hg.tape,hg.output,hg.size,fun j hj=>a j (by omega) (by omega)⟩,⟨b.1,cZ b.2 hg.size⟩⟩
 ·obtain⟨cur,fr,e⟩:=h.tg;exact⟨cur,fr,(a _ (jo h.tg) (by have:=h.gB;omega)).trans e⟩
 ·refine⟨h.rp.1,?_⟩
  rcases h.rp.2 with e|⟨j,cap,cur,e1,d,hh,r⟩
  ·exact .inl e
  ·refine .inr ⟨j,cap,cur,e1,d,(a j (h.rp.lt j (by rw[e1];rfl)).2 (fun e2=>f ?_)).trans hh,r⟩;subst e2;exact kg ht (fY h.rp (by rw[e1];rfl))
def jh.Yi(h:jh B0 Bn w0 w N n t S){v:Value}{m:Nat}{xs:cH}(ho:uV w Bn 91 3 v m xs)(hg:w.grownBy w' v.ownBlock):jh B0 Bn w0 w' N n t S:=by
 rcases e:v.ownBlock with _|k
 ·rw[e]at hg;exact h.below ⟨hg.os,hg.tape,hg.output,hg.size,fun j hj=>hg.block j hj (by simp)⟩
 ·rw[e]at hg;obtain⟨cur,hh⟩:=ho.ty k e;exact h.app hg ⟨cur,_,hh⟩ (.inr (.inl rfl)) (by decide) (ho.lt k e).1
def jh.uy(h:jh B0 Bn w0 w N n t S){i:Nat}(hi:i<n){s':Sp}(f:gT w (N.M i) N.col (i+1) s' w') :
  ∃N':Nm,N'.g=N.g∧N'.A1=N.A1∧N'.c1=N.c1∧N'.L=N.L∧N'.cL=N.cL∧(∀j,(N'.M j).g=(N.M j).g)∧jh B0 Bn w0 w' N' n t (BH S i s')∧Ev N.col (i+1) w w':=by
 obtain⟨m',d,eq,a,H,V⟩:=f;have c:=h.b0;have hold:∀k,k<B0→w'.heap[k]?=w.heap[k]?:=fun k hk=>V.off (by omega) (fun e=>by have:=h.c0 k hk;omega)
 have hM:∀j,((fun j=>if j=i then m' else N.M j) j).g=(N.M j).g:=fun j=>by
  by_cases e:j=i
  ·subst e;simp only[gy];exact eq.1
  ·simp only[cN e]
 have b:uz (fun j=>if j=i then m' else N.M j) n=uz N.M n:=by
  unfold uz;refine sH fun j _=>?_
  rw[hM j]
 refine⟨{ N with M:=fun j=>if j=i then m' else N.M j,col:=d },rfl,rfl,rfl,rfl,rfl,hM,⟨V.yS h.bx h.tg Tc,V.ty _ _ h.tg,h.gB,?_,⟨qd h.rO.1 h.rO.2 (by rw[fN];exact id) hold,h.rO.2⟩,⟨qd h.rL.1 h.rL.2 (by rw[fK];omega) hold,h.rL.2⟩,h.lT,fun j hj=>?_,fun k hk=>?_,fun j hj=>?_,h.bel.trans ⟨V.os,V.tape,V.output,V.size,hold⟩,⟨c.1,cZ c.2 V.size⟩⟩,V⟩
 ·simp only[b];exact V.own h.rp Nu
 ·by_cases e:j=i
  ·subst e;simp only[gy,Rb];exact H
  ·simp only[cN e,Ra _ _ e];exact((h.sp j hj).Od a).iX V fun k hk e2=>⟨by rw[a k hk];omega,by rw[a k hk];omega⟩
 ·exact(a k (by omega)).trans (h.c0 k hk)
 ·by_cases e:j=i
  ·subst e;simp only[gy];rw[eq.2.2.1,eq.2.2.2.1];exact h.bd j hj
  ·simp only[cN e];exact h.bd j hj
end
def vP{w w':World}{Bn:Nat}{v:Value}{m:Nat}{xs:cH}(ho:uV w Bn 91 3 v m xs)(hg:w.grownBy w' v.ownBlock){x:Wz}(hx:yN w x):yN w' x:=by
 refine⟨hx.1,?_⟩
 rcases hx.2 with e|⟨k,cap,cur,e1,a,hh,r⟩
 ·exact .inl e
 ·refine .inr ⟨k,cap,cur,e1,a,(hg.block k (hx.lt k (by rw[e1];rfl)).2 (fun e2=>?_)).trans hh,r⟩;obtain⟨b,e3⟩:=ho.ty k e2.symm;rw[hh]at e3;injection e3 with e3
  injection e3 with _ e3 _
  cases e3
structure Mx (w wr:World) (ls:List Lk) (i:Nat) (l:List (Int× Ms)) (k:Nat) (A:cG) (c:Nat) (ws:List Wz):Prop where
 b:cI w wr
 ow:wr.ownsRow w 91 3 (.slice A ws.length c) ws.length (G2 ws)
 so:∀x∈ws,yN wr x
 eq:G3 ws=sl ((kT ls i l).take k)
def Mx.below{w wr w':World}{ls:List Lk}{i:Nat}{l:List (Int× Ms)}{k:Nat}{A:cG}{c:Nat}{ws:List Wz}(h:Mx w wr ls i l k A c ws)(hb:cI wr w'):Mx w w' ls i l k A c ws :=
 ⟨h.b.trans (hb.mono h.b.size),dg h.ow hb,fun x hx=>dg (h.so x hx) hb,h.eq⟩
def xp(w:World)(es:List Env)(e:Ending)(w':World):Prop :=
 ∃A c ws,e= .returned (.slice A ws.length c)∧w'.ownsRow w 91 3 (.slice A ws.length c) ws.length (G2 ws)∧(∀x∈ws,yN w' x)∧G3 ws=sl es∧cI w w'
def zt{w:World}{A:cG}{l:List Sx}(h:Rd w A (BI l))(k:Nat)(hk:k<l.length):∃b off,A=some ⟨b,off,none⟩∧w.cell? ⟨b,off+k*2,none⟩=some (.int .i64 l[k].l)∧w.cell? ⟨b,off+k*2+1,none⟩=some (.slice l[k].A l[k].bs.length l[k].c):=by
 obtain⟨b,off,e,hc⟩:=gE h (by rw[Rt];omega);have key:∀(l:List Sx) (k:Nat) (hk:k<l.length),(BI l)[k*2]?=some (.int .i64 l[k].l)∧(BI l)[k*2+1]?=some (.slice l[k].A l[k].bs.length l[k].c):=fun l=>by
  induction l with
  |nil=>intro k hk;simp at hk
  |cons s r ih=>
    intro k hk;cases k with
    |zero=>exact⟨rfl,rfl⟩
    |succ k=>
      have:=ih k (by simpa using hk);rw[show(k+1)*2=k*2+1+1 by omega];exact this
 obtain⟨k1,k2⟩:=key l k hk;refine⟨b,off,e,hc (k*2) _ k1,?_⟩
 have:=hc (k*2+1) _ k2
 rwa[show off+(k*2+1)=off+k*2+1 by omega]at this
def MS{z:Int}(h0:0≤z)(h1:z≤1000000):IntKind.i64.wrap z=z:=kV z (by omega)
def Wm{w:World}{base:Nat}{T:TypeId}{size:Nat}{A:cG}{n c:Nat}{xs:cH}(h:w.ownsRow base T size (.slice A n c) n xs){b o:Nat}(e:A=some ⟨b,o,none⟩):(Value.slice (some ⟨b,o,none⟩) n c).ownBlock=some b:=by
 subst e;rcases h.2 with ⟨e,_⟩|⟨g,cap,cur,e,_⟩
 ·cases e
 ·injection e with e _ _
  injection e with e
  injection e with e1 e2
  subst e1 e2;rfl
def Fu{B0 Bn:Nat}{w0 w:World}{N:Nm}{n:Nat}{t:Tp}{S:sv}(h:jh B0 Bn w0 w N n t S)(ht:mE t)(i:Nat)(v:Value)(base:Nat)(l:List (Int× Ms))(hv:pF w base v l)(hl:∀x∈l,∃k j:Nat,x.1=(k:Int)∧Uj t i k j)(hlen:l.length≤100000) :
  Calls prog 25 #[.pointer (some ⟨N.g,0,none⟩),(i:Int),v] w (xp w (kT t.ln i l)):=by
 obtain⟨A,c,sx,rfl,ho,ap,O⟩:=hv;have Y:sx.length=l.length:=by
  have:=dU List.length O;simpa[oX]using this
 have ae:(kT t.ln i l).length=l.length:=by simp[kT]
 have h0:Mx w w t.ln i l 0 none 0 []:=⟨cy,cn,fun x hx=>absurd hx (by simp),by simp[G3,sl]⟩
 have H:∀k (hk:k<sx.length),∃(q j:Nat) (m:Ms),l[k]?=some ((q:Int),m)∧sx[k].l=(q:Int)∧sx[k].bs=iy m∧Uj t i q j∧sl ((kT t.ln i l).take (k+1))=sl ((kT t.ln i l).take k)++ [(j,q,iy m)]:=fun k hk=>by
  have R:k<l.length:=by omega
  obtain⟨q,j,hq,Q⟩:=hl _ (di R);refine⟨q,j,l[k].2,?_,?_,?_,Q,?_⟩
  ·rw[cM R,←hq]
  ·have:=dU (fun z=>z[k]?) O;simp only[eJ,cM hk,oX,cM R,Option.map_some,dB,iP]at this;rw[this.1,hq]
  ·have:=dU (fun z=>z[k]?) O;simp only[eJ,cM hk,oX,cM R,Option.map_some,dB,iP]at this;exact this.2
  ·rw[cT (by omega)];unfold sl;rw[ez]
   congr 1
   simp only[kT,ng,gh,nf,hq,Int.toNat_natCast,SY Q.symm]
 have V:=dQ ho;have hL:=h.rL.1;have ag:=h.bx.c 2 rfl;have aM:=ht.ln;have F:∀s∈sx,yN w ⟨0,0,s.A,s.bs,s.c⟩:=fun s hs=>dx (ap s hs) (jw _)
 have aG:Hid (∀b o,A=some ⟨b,o,none⟩→Ty w b 148):=fun b o e=>fY ho (by rw[e];exact Wm ho e)
 replace H:=φ H;replace V:=φ V;replace hL:=φ hL;replace ag:=φ ag;replace F:=φ F;have aw:Hid (sx.length=l.length):=Y;rw[←Y]at hlen;replace ae:=φ ae;replace ht:=φ ht;replace h0:=φ h0;clear h ho ap O hl Y;obtain⟨ns,G⟩:∃ns,sx.length=ns:=⟨_,rfl⟩
 rw[G]at hlen ⊢;replace G:=φ G;go_in;go_wp2_with fail;go_loopw [7,8] (fun v7 v8 wr=>∃(k:Nat) (A9:cG) (c9:Nat) (ws:List Wz),v7= .slice A9 ws.length c9∧v8= .int .i64 k∧k≤ns∧Hid (ws.length=k)∧Hid (Mx w wr t.ln i l k A9 c9 ws)) (fun _ v8 _=>ns - (intOf v8).toNat)
 case atStart=>exact⟨0,none,0,[],rfl,rfl,by omega,φ rfl,h0⟩
 case round=>
  clear h0;obtain⟨k,A9,c9,ws,rfl,rfl,hk,U,hp⟩:=hrel
  by_cases hkn:k<ns
  ·have af:k<sx.length:=by rw[G.out];exact hkn
   obtain⟨q,j,mm,aB,ar,aq,Q,P⟩:=H.out k af;obtain⟨x,hx,aF⟩:=Q;obtain⟨aA,al⟩:=dj.1 hx;have ad:=F3 ht.out hx;have aL:=ad.a;have aK:=ad.b;have aJ:=ht.out.n;have aD:x.a+x.b - i=j:=by omega
   have X:=F.out _ (di af);obtain⟨bs,off,rfl,aa,Z⟩:=zt (V.out.below hp.out.b) k af;rw[ar]at aa;rw[aq]at Z X;obtain⟨bl,ol,aI,p⟩:=sR (hL.out.below hp.out.b) (by omega);have p:=p q aA;rw[al]at p;have k2:=cW hp.out.b ag.out;rw[aI]at k2;generalize sx[k].A=As at *;generalize sx[k].c=cs at *;generalize iy mm=bm at *;have g0:decide ((q:Int)<0)=false:=by simp
   have g1:decide ((t.ln.length:Int)≤(q:Int))=false:=by simp;omega
   have l0:=p.c0;have l1:=p.c1;have l2:=p.c2;have l3:=p.c3;have ak:=p.c3';have l4:=p.c4;have l5:=p.c5;have l6:=p.c6;replace P:=φ P;clear p hx al aF ad aB ar aq;go_upto_region 5 with fail;go_quiet (fail);have r:=below_drewN (sa wr wr) nq;have av:=hp.out.below r;have r0:=cW r aa;have r1:=cW r Z;have r2:=cW r k2;have m0:=cW r l0;have m1:=cW r l1;have m2:=cW r l2;have m3:=cW r l3;have aj:=cW r ak;have m4:=cW r l4;have m5:=cW r l5;have m6:=cW r l6;clear aa Z k2 l0 l1 l2 l3 ak l4 l5 l6 hp p r;generalize wr.drewN nq=w2 at *;go_upto_region 6 with fail;go_cut [9] (fun v9 wx=>v9= .pointer (some ⟨w2,0,none⟩)∧wx=(World.alloc w2 (.cells #[x.a,x.b,x.c,x.d,x.cap,x.del,x.grp] 79)).drew)
   case first=>
    have hz:=cQ w2 (.cells #[.int .i64 0,.int .i64 0,.int .i64 0,.int .i64 0,.int .i64 0,.int .i64 0,.int .i64 0] 79);have z0:=cW hz r0;have z1:=cW hz r2;have z2:=cW hz m0;have z3:=cW hz m1;have z4:=cW hz m2;have z5:=cW hz m3;have z6:=cW hz aj;have z7:=cW hz m4;have z8:=cW hz m5;have z9:=cW hz m6;go_region_law (fail)
    all_goals go_wp2_with fail
    all_goals go_meet
    all_goals exact⟨rfl,rfl⟩
   obtain⟨rfl,rfl⟩:=hcut;have S3:=((St.start w2).nw #[x.a,x.b,x.c,x.d,x.cap,x.del,x.grp] 79 w2).drew;have T3:Ty ((World.alloc w2 (.cells #[x.a,x.b,x.c,x.d,x.cap,x.del,x.grp] 79)).drew) w2 79:=jk w2 #[x.a,x.b,x.c,x.d,x.cap,x.del,x.grp] 79;have ai:=cW S3.b r0;have ah:=cW S3.b r1;have au:=av.below S3.b;obtain⟨q0,q1⟩:=(S3.box 0 rfl).b2;go_upto_region 7 with fail;clear r0 r1 r2 m0 m1 m2 m3 aj m4 m5 m6;generalize World.drew (World.alloc w2 _)=w3 at *;have ab:=au.below bd;have M:w3.drew.cell? ⟨w2,0,none⟩=some (.int .i64 x.a):=q0;have L:w3.drew.cell? ⟨w2,1,none⟩=some (.int .i64 x.b):=q1;have D:w3.drew.cell? ⟨bs,off+k*2,none⟩=some (.int .i64 (q:Int)):=ai;have C:w3.drew.cell? ⟨bs,off+k*2+1,none⟩=some (.slice As bm.length cs):=ah;have ay:Ty w3.drew w2 79:=T3;have ax:Ty w3.drew bs 148:=ee.below ab.b _ _ (aG.out _ _ rfl);clear S3 q0 q1 ai ah au T3;refine gF (S:=fun W=>Cv W w2 0 (.int .i64 x.a)∧Cv W w2 1 (.int .i64 x.b)∧Cv W bs (off+k*2) (.int .i64 (q:Int))∧Cv W bs (off+k*2+1) (.slice As bm.length cs)) ⟨M,L,D,C⟩ (fun B=>?_);generalize w3.drew=w4 at *;(iterate 19 refine tA ?_);have hw:IntKind.i64.wrap (IntKind.i64.wrap (x.a+x.b) - (i:Int))=(j:Int):=by
    rw[MS (z:=x.a+x.b) (by omega) (by omega),aD,MS (by omega) (by omega)]
   rw[hw];clear hw;have u:=cQ w4 (.cells #[(j:Int),(q:Int),.slice As bm.length cs] 91);have E:=ab.below u;have T:=Rd.lit w4 #[(j:Int),(q:Int),.slice As bm.length cs] 91;rw[show(#[(j:Int),(q:Int),.slice As bm.length cs]:Array Value).toList=W5 ⟨j,q,As,bm,cs⟩from rfl]at T;have f:=E.ow;have ao:=φ E.b.size;refine rF 19 (fun K hK=>?_);go_simp;refine hK.out _ _ ⟨cW u M,cW u L,cW u D,cW u C⟩ (fun B=>?_);clear hK K;refine rF 20 (fun K hK=>?_);refine fJ rfl YB (.tmp 48) (.tmp 67) (by rfl) w (by rfl) f (by rfl) (m:=1) (by rfl) T (I6 ⟨j,q,As,bm,cs⟩) (by have:=U.out;simp only[maxLen];omega) (by have:=U.out;omega) ao.out (ws.length+1) _ rfl rfl ?_;intro v6 w6 ac aE I _;obtain⟨A6,c6,rfl,-⟩:=dN ac;have e6:=kX (ee.below u _ _ ay) f (by decide) I;have e7:=kX (ee.below u _ _ ax) f (by decide) I;refine hK.out _ _ ⟨(cY (a:=⟨w2,0,none⟩) e6).trans (cW u M),(cY (a:=⟨w2,1,none⟩) e6).trans (cW u L),(cY (a:=⟨bs,off+k*2,none⟩) e7).trans (cW u D),(cY (a:=⟨bs,off+k*2+1,none⟩) e7).trans (cW u C)⟩ (fun B=>?_);clear hK K;refine tV 21 7 (.slice A6 (ws.length+1) c6) ?_
   refine dF ?_;clear B e6 e7 M L D C ay ax;have aH:Hid (Mx w w6 t.ln i l (k+1) A6 c6 (ws++ [⟨j,q,As,bm,cs⟩])):=by
    have J:=E.b;refine⟨kP J f I cj J.size,?_,fun y hy=>?_,?_⟩
    ·rw[cX,uX];exact ac
    ·have az:yN (World.alloc w4 (.cells #[(j:Int),(q:Int),.slice As bm.length cs] 91)) y:=by
      rcases eZ.1 hy with h1|h1
      ·exact E.so y h1
      ·rw[ew]at h1;subst h1;exact dg X J
     exact lP az f (by decide) I
    ·rw[P.out,←E.eq];simp[G3]
   have am:Hid ((ws++ [(⟨j,q,As,bm,cs⟩:Wz)]).length=k+1):=φ (by rw[cX,U.out];rfl);clear E ab av f ao T u ac aE I P X;go_wp2;go_round
   case rel=>exact⟨k+1,A6,c6,ws++ [⟨j,q,As,bm,cs⟩],by simp,by go_num,by omega,am,aH⟩
   case measure=>simp[intOf];omega
  ·have aC:k=ns:=by omega
   have hf:xp w (kT t.ln i l) (.returned (.slice A9 ws.length c9)) wr:=by
    refine⟨A9,c9,ws,rfl,hp.out.ow,hp.out.so,?_,hp.out.b⟩
    rw[hp.out.eq,dn (by rw[ae.out,←aw.out,G.out];omega)]
   have e1:decide ((k:Int)< (ns:Int))=false:=by simp;omega
   clear hp aC;go_wp2;go_ret;exact hf
section
variable {P:Program} {t e:TypeId} {z:Value} {size bytes:Nat}
def NN(w:World)(hE:iF P t e z size bytes)(ty:TypeId)(base:Nat){v:Value}{n:Nat}{xs:cH}(a:uV w base e size v n xs)(A:cG)(c:Nat) :
  ∃w',(Builtin.append_ #[t,t] ty #[v,.slice A 0 c]).run P w= .ok v w'∧uV w' base e size v n xs∧w.grownBy w' v.ownBlock:=by
 obtain⟨i,hi,j,f,h⟩:=nu hE.info;rcases a.2 with ⟨rfl,rfl⟩|⟨g,off,cap,cur,rfl,hb,hg,h2,h3,h4,h5⟩
 ·refine⟨w,?_,a,⟨rfl,rfl,rfl,cj,fun _ _ _=>rfl⟩⟩
  cases A<;>simp[Builtin.append_,ql hE.under,sizeOf,typeInfo,hi,Builtin.lenOf,Builtin.firstCells,loadCells,loadCellsFrom]
 ·cases A with
  |none=>
    refine⟨w,?_,a,⟨rfl,rfl,rfl,cj,fun _ _ _=>rfl⟩⟩
    simp[Builtin.append_,ql hE.under,sizeOf,typeInfo,hi,Builtin.lenOf,Builtin.firstCells,h2,storeCells]
  |some ad=>
    have b:off+n*i.size+([]:cH).length≤cur.size:=by
     rw[f];have:n*size≤cap*size:=Zw _ h2;simp only[List.length_nil];omega
    have d:=qz w ty i hE.under hi g off n cap cur hg ad 0 c [] (by simp) (by simp) (by simp) h2 b;refine⟨_,d,?_,⟨rfl,rfl,rfl,by simp,fun k _ hk=>setRow_other w g k _ (fun e=>hk (by simp[Value.ownBlock,e]))⟩⟩
    refine⟨a.1,.inr ⟨g,off,cap,_,rfl,hb,setRow_heap w g cur _ e _ hg,h2,h3,?_,?_⟩⟩
    ·simp only[fT,cX,eM,fz,Array.length_toList,List.length_nil]at b ⊢;omega
    ·simp only[gY,List.length_nil,Nat.add_zero,qo];exact h5
def Dl{w:World}{ops:Array Oper}{rest:List Oper}{o:Oper}{a:Act}{Q:Exit→Act→World→Prop}(hw:Region.wanted o (yielded ops a.tmps)=true)(hE:iF P t e z size bytes)(s x:Operand)
  (ho:o.op= .call { callee:=.builtin .append,args:=#[s,x],argTypes:=#[t,t] }) (base:Nat) {v:Value} {n:Nat} {xs:cH} (hs:a.eval s=v) (b:uV w base e size v n xs)
  {A:cG} {m c:Nat} {news:cH} (hx:a.eval x= .slice A m c) (hl:news.length=m*size) (hr:Rd w A news) (h1:∀u∈news,u.oneCell'=true)
  (j:n+m≤maxLen) (f:(n+m)*bytes≤140737488355328) (d:base≤w)
  (h:∀v' w',uV w' base e size v' (n+m) (xs++news)→Below base w w'→w.grownBy w' v.ownBlock→wpList P ops Q rest (a.put o.dst v') w') :
  wpList P ops Q (o :: rest) a w:=by
 rcases fF m with rfl|i
 ·have hn:news= []:=dy (by simpa using hl);subst hn;refine ZU fun _ hK=>?_
  rw[cR hw];obtain⟨w',g,h2,h3⟩:=NN (P:=P) w hE o.type base b A c;unfold Oper.wp execOp;simp only[ho,resolve,invoke,builtin,BF,Sem.run_pure,Result.andThen_ok,yn,gh,nf,hs,hx,g];exact hK _ _ (h v w' (by simpa using h2) (Dc cy b h3 cj d) h3)
 ·exact EF hw hE s x ho base hs b hx hl hr h1 i j f d _ _ rfl rfl fun v' w' a1 a2 a3 _=>h v' w' a1 a2 a3
end
structure Yn (t:Tp) (n:Nat) (S:sv):Prop where
 tp:mE t
 n64:n≤64
 ok:∀i,i<n→eO (S i)
 tm:∀i,i<n→(S i).tm≤999999999
 lk:∀i,i<n→ ∀x∈(oR (S i)).2,∃k j:Nat,x.1=(k:Int)∧Uj t i k j
 ct:(nW t.ln n S).length≤100000
noncomputable def vV(S:sv)(i:Nat):sv:=fun j=>if j<i then(oR (S j)).1 else S j
def Hj(S:sv)(i:Nat):∀j,BH (vV S i) i (oR (S i)).1 j=vV S (i+1) j:=fun j=>by
 unfold BH vV
 by_cases e:j=i
 ·subst e;rw[cR rfl,cR (by omega)]
 ·rw[cN e]
  by_cases e2:j<i
  ·rw[cR e2,cR (by omega)]
  ·rw[cN e2,cN (by omega)]
def EL(ls:List Lk)(S:sv){i n:Nat}(hi:i≤n):(nW ls i S).length≤(nW ls n S).length:=by
 unfold nW;obtain⟨d,rfl⟩:=Nat.le.dest hi;rw[List.range_add,Ey,cX];omega
def vf(ls:List Lk)(S:sv)(i:Nat):nW ls (i+1) S=nW ls i S++kT ls i (oR (S i)).2:=by
 unfold nW;rw[jj,Ey];simp
structure xj (w:World) (Bn:Nat) (A:cG) (c:Nat) (ws:List Wz) (es:List Env):Prop where
 ow:w.ownsRow Bn 91 3 (.slice A ws.length c) ws.length (G2 ws)
 so:∀x∈ws,yN w x
 eq:G3 ws=sl es
section
variable {w w':World} {Bn:Nat} {A:cG} {c:Nat} {ws:List Wz} {es:List Env}
def xj.below(h:xj w Bn A c ws es)(hb:cI w w'):xj w' Bn A c ws es:=⟨dg h.ow hb,fun x hx=>dg (h.so x hx) hb,h.eq⟩
def xj.ev(h:xj w Bn A c ws es){E:Nat→Prop}(he:gA E w w'):xj w' Bn A c ws es:=⟨he.own h.ow Eb,fun x hx=>he.own (h.so x hx) Hh,h.eq⟩
def xj.len(h:xj w Bn A c ws es):ws.length=es.length:=by
 have:=dU List.length h.eq;simpa[G3,sl]using this
end
def sg(N N':Nm):Prop:=N'.g=N.g
def QF(B0 Bn:Nat)(w0:World)(N:Nm)(n:Nat)(t:Tp)(S':sv)(es:List Env)(e:Ending)(w':World):Prop :=
 ∃N' A c ws,sg N N'∧e= .returned (.slice A ws.length c)∧jh B0 Bn w0 w' N' n t S'∧xj w' Bn A c ws es
def Lr{B0 Bn:Nat}{w0 w:World}{N:Nm}{n:Nat}{t:Tp}{S:sv}(h:jh B0 Bn w0 w N n t S)(ok:Yn t n S) :
  Calls prog 23 #[.pointer (some ⟨N.g,0,none⟩)] w (QF B0 Bn w0 N n t (zo S) (nW t.ln n S)):=by
 have h0:jh B0 Bn w0 w N n t (vV S 0):=h.congr fun i _=>by unfold vV;rw[cN (by omega)]
 have l:xj w Bn none 0 [] (nW t.ln 0 S):=⟨cn,fun x hx=>absurd hx (by simp),by simp[G3,sl,nW]⟩
 have hn:=ok.n64;have p:sg N N:=rfl;replace h0:=φ h0;replace l:=φ l;replace ok:=φ ok;replace p:=φ p;clear h;go_in;go_wp2_with fail;go_loopw [3,4] (fun v3 v4 wr=>∃(i:Nat) (N1:Nm) (A:cG) (c:Nat) (ws:List Wz),v3= .slice A ws.length c∧v4= .int .i64 i∧i≤n∧Hid (sg N N1)∧Hid (jh B0 Bn w0 wr N1 n t (vV S i))∧Hid (xj wr Bn A c ws (nW t.ln i S))) (fun _ v4 _=>n - (intOf v4).toNat)
 case atStart=>exact⟨0,N,none,0,[],rfl,rfl,by omega,p,h0,l⟩
 case round=>
  clear h0 l p;obtain⟨i,N1,A,c,ws,rfl,rfl,hi,C,h1,y⟩:=hrel;have x3:=h1.out.bx.c 3 rfl;rw[C.out]at x3
  by_cases hin:i<n
  ·obtain⟨b1,T,O,z1⟩:=gE (dQ h1.out.rp) (by rw[qE];omega);have z:=z1 i _ (pj hin);rw[O]at x3;have L:vV S i i=S i:=by unfold vV;rw[cN (by omega)]
   have B:=h1.out.sp i hin;rw[L]at B;have TK:=φ (zx wr (N1.M i) (S i) N1.col (i+1) B (ok.out.ok i hin) (ok.out.tm i hin));clear z1 O B L;go_wp2_with fail;(with_reducible refine(TK.out).mono ?_);rintro e w3 ⟨v3,rfl,I,H⟩;clear TK;obtain⟨N2,e1,-,-,-,-,-,h2,V2⟩:=h1.out.uy hin H;have h2:=h2.congr fun j _=>(Hj S i j).symm
   have v:=y.out.ev V2;have o:sg N N2:=e1.trans C.out;have f:(oR (S i)).2.length≤100000:=by
    have h5:=EL t.ln S (show i+1≤n by omega);have h6:=ok.out.ct;rw[vf,cX]at h5;have:(kT t.ln i (oR (S i)).2).length=(oR (S i)).2.length:=by simp[kT]
    omega
   have PO:=Fu h2 ok.out.tp i v3 wr _ I (ok.out.lk i hin) f;rw[o]at PO;unfold xp at PO;replace PO:=φ PO;replace o:=φ o;clear I H V2 f;go_wp2_with fail;(with_reducible refine(PO.out).mono ?_);rintro e w4 ⟨A4,c4,d,rfl,J,u,r,E⟩;clear PO;have h4:=h2.below E;have k:=v.below E;have Q:d.length=(kT t.ln i (oR (S i)).2).length:=by
    have:=dU List.length r;simpa[G3,sl]using this
   have G:ws.length+d.length≤100000:=by
    have h5:=EL t.ln S (show i+1≤n by omega);have h6:=ok.out.ct;rw[vf,cX]at h5;have:=v.len;omega
   clear Q;have s:=φ h4.b0.2;have b:=k.ow;have F:=dQ J;have hL:Hid (G2 ws++G2 d=G2 (ws++d)):=(uX _ _).symm;go_wp2_with (at_builtin;refine dK rfl YB (.tmp 14) (.tmp 25) rfl Bn rfl b (m:=d.length) rfl (Dj d) F (I5 d) (by simp only[maxLen];omega) (by omega) s.out (ws.length+d.length) _ rfl hL.out ?_;intro v6 w6 D R q _;obtain⟨A6,c6,rfl,-⟩:=dN D);have h6:=φ (h4.Yi (tH b) q);have P:Hid (xj w6 Bn A6 c6 (ws++d) (nW t.ln (i+1) S)):=by
    refine⟨by rw[cX];exact D,fun x hx=>?_,?_⟩
    ·rcases eZ.1 hx with h7|h7
     ·exact vP (tH b) q (k.so x h7)
     ·exact vP (tH b) q (u x h7)
    ·rw[vf];unfold G3 sl;rw[ez,ez];have a:=k.eq;unfold G3 sl at a r;rw[a,r]
   clear D R q hL F b s G k h4 E r u J v h2;go_round
   case rel=>exact⟨i+1,N2,A6,c6,ws++d,by rw[cX],by go_num,by omega,o,h6,P⟩
   case measure=>simp[intOf];omega
  ·have K:i=n:=by omega
   have hf:QF B0 Bn w0 N n t (zo S) (nW t.ln n S) (.returned (.slice A ws.length c)) wr:=by
    refine⟨N1,A,c,ws,C.out,rfl,?_,by rw[←K];exact y.out⟩
    refine h1.out.congr fun j hj=>?_
    unfold vV zo;rw[cR (by omega)]
   have e1:decide ((i:Int)< (n:Int))=false:=by simp;omega
   clear h1 y K;go_wp2;go_ret;exact hf
def Ch{m:Ms}(h:qg m=true)(hu:∀p∈m.y.pre,p.1<4294967296):sK (jY m)=0∧sJ (jY m)=m:=by
 obtain⟨hb,hc⟩:=sX h;have hl:=qJ h;have hk:1≤m.k∧m.k≤255:=by
  rcases hc with ⟨e,_⟩|⟨e,_⟩<;>omega
 have hd:lH (jY m)=some [(m.k,pv m)]:=by
  have:=C3 (m.k,pv m) hk.1 hk.2 (by simp only;omega) [];rw[gY,qQ]at this;exact this
 have hR:vS (m.k,pv m)=m∧qq (m.k,pv m)=0:=by
  obtain⟨k,n,b,hh,y⟩:=m;simp only at *;rcases hc with ⟨rfl,⟨h1,h2⟩,⟨h3,h4⟩,rfl⟩|⟨c,rfl,rfl,hy⟩
  ·have hlen:(pv ⟨1,n,b,hh,dT⟩).length=10:=by simp[pv,eQ]
   have hR:vS (1,pv ⟨1,n,b,hh,dT⟩)=⟨1,n,b,hh,dT⟩:=by
    unfold vS pv;simp only[gy];rw[qv,qP,qv];have e6:(fi n.toNat 2++(fi b.toNat 4++fi hh.toNat 4)).drop 6=fi hh.toNat 4:=by
     rw[←dI];exact List.drop_left' (by simp[eQ])
    rw[e6,dn (by rw[eQ];exact cj)];rw[sL _ _ (by omega),sL _ _ (by omega),sL _ _ (by omega),dR (by omega),dR (by omega),dR (by omega)]
   refine⟨hR,?_⟩
   unfold qq;rw[cR rfl,hR,cR ⟨hlen,h⟩]
  ·have a:k≠1:=by omega
   have hv:pv ⟨k,0,b,0,y⟩=fi b.toNat 4++gv y:=by unfold pv;rw[cN a]
   rw[hv];have hR:vS (k,fi b.toNat 4++gv y)=⟨k,0,b,0,y⟩:=by
    unfold vS;simp only;rw[cN a,qv,qP,sL _ _ (by omega),dR (by omega),(zY ⟨⟨hy,hu⟩,rfl⟩).2]
   refine⟨hR,?_⟩
   unfold qq;simp only;rw[cN a,cR c,cN (by rw[cX,eQ];omega),qP,xO,cN (by simp),hR,cR h]
 unfold sK sJ;rw[hd];simp only;rw[hR.2,cR rfl,hR.1];exact⟨rfl,rfl⟩
def HV(w:World):Calls prog 26 #[] w fun e w'=>e= .returned (.bool true)∧cI w w':=by
 have hb:qg ⟨1,3,1,2,dT⟩=true:=by simp[qg,jI,TN,dT]
 have P:∀W,Calls prog 70 #[.agg #[.int .i64 1,.int .i64 3,.int .i64 1,.int .i64 2,i0,i0,i0,false,sn,sn]] W fun e w'=>∃A c,e= .returned (.tuple #[.slice A 13 c,i0])∧w'.ownsRow W 5 1 (.slice A 13 c) 13 (([1,0,10,0,3,0,0,0,1,0,0,0,2]:List UInt8).map iZ)∧cI W w':=fun W=>by
  have:=Ci W _ ⟨1,3,1,2,dT⟩ ⟨none,0,none,0,rfl,(fQ W W).at⟩;have e1:iy ⟨1,3,1,2,dT⟩= [1,0,10,0,3,0,0,0,1,0,0,0,2]:=by
   unfold iy;rw[cR hb];rfl
  unfold pH at this;rw[e1]at this;unfold FB at this;rw[cR hb]at this;exact this
 replace P:=φ P;clear hb;go_in;go_wp2_with fail;refine (P _).mono ?_;rintro e w1 ⟨A,c,rfl,o,hb⟩;have cv:=lI w1 underlying89 underlying5 underlying9 (n:=13) (cap:=c) (ki o).1 rfl;go_wp2;go_ret;exact⟨rfl,hb⟩
def Sf{S:Sp}{l:Nat}{m:Ms}{x:Nat}(hm:qg m=true)(hu:m.y.pre= [])(hf:jZ S.ps (l:Int)=some x)(hx:x<S.ps.length)(hn:m.k=1→m.n=S.ps[x].o):pc S (l:Int) (iy m)=(gV S x m,0):=by
 have hp:iy m=jY m:=by unfold iy;rw[cR hm]
 obtain⟨h1,h2⟩:=Ch hm (by rw[hu];intro p hp;cases hp);unfold pc;rw[hf,hp,h1,h2];simp only[cM hx];rw[cN (by simp),cN (fun h=>h.2 (hn h.1))]
def OC{m:Ms}:(iy m).length≤100000:=by
 unfold iy;split
 ·next h=>
  have:=qJ h;have h2:=sX h;unfold jY;rw[qO];simp only;omega
 ·simp
structure uC (w:World) (Bn:Nat) (A:cG) (c:Nat) (ws:List Wz) (es:List Env):Prop where
 ow:uV w Bn 91 3 (.slice A ws.length c) ws.length (G2 ws)
 so:∀x∈ws,yN w x
 eq:G3 ws=sl es
section
variable {w w':World} {Bn:Nat} {A:cG} {c:Nat} {ws:List Wz} {es:List Env}
def xj.wv(h:xj w Bn A c ws es):uC w Bn A c ws es:=⟨tH h.ow,h.so,h.eq⟩
def uC.below(h:uC w Bn A c ws es)(hb:cI w w'):uC w' Bn A c ws es:=⟨h.ow.below hb,fun x hx=>dg (h.so x hx) hb,h.eq⟩
def uC.ev(h:uC w Bn A c ws es){E:Nat→Prop}(he:gA E w w'):uC w' Bn A c ws es :=
 ⟨h.ow.kept fun k hk=>by obtain⟨cur,e⟩:=h.ow.ty k hk;exact he.typed ⟨cur,_,e⟩ Eb,fun x hx=>he.own (h.so x hx) Hh,h.eq⟩
def uC.len(h:uC w Bn A c ws es):ws.length=es.length:=by
 have:=dU List.length h.eq;simpa[G3,sl]using this
def uC.nil(h:uC w Bn A c [] es):es= []:=by
 have:=h.len;exact dy (by simpa using this.symm)
def uC.cons{x:Wz}{r:List Wz}(h:uC w Bn A c (x :: r) es):∃e a,es=e :: a∧x.t=e.t∧x.l=e.l∧x.bs=iy e.m∧uC w Bn (Hn 3 A 1 c) (c - 1) r a∧
  ∃b off,A=some ⟨b,off,none⟩∧w.cell? ⟨b,off,none⟩=some (.int .i64 e.t)∧w.cell? ⟨b,off+1,none⟩=some (.int .i64 e.l)∧w.cell? ⟨b,off+2,none⟩=some (.slice x.A x.bs.length x.c):=by
 cases es with
 |nil=>have:=h.eq;simp[G3,sl]at this
 |cons e a=>
   have heq:=h.eq;simp only[G3,sl,gh,dJ,iP]at heq;obtain⟨⟨e1,e2,e3⟩,e4⟩:=heq;refine⟨e,a,rfl,e1,e2,e3,⟨?_,fun y hy=>h.so y (fy _ hy),e4⟩,?_⟩
   ·have:=h.ow.from 1 (by simp) (by omega)
    simpa[G2,W5]using this
   ·obtain⟨b,off,e5,hc⟩:=gE h.ow.rd (by rw[Dj];simp);have h0:=hc 0 (.int .i64 x.t) rfl;have h1:=hc 1 (.int .i64 x.l) rfl;have h2:=hc 2 (.slice x.A x.bs.length x.c) rfl;rw[e1]at h0;rw[e2]at h1;exact⟨b,off,e5,h0,h1,h2⟩
end
end Go.Proofs.YtehimhbgakpenaaGreat
